/- Two chains apart in memory: a step of the one keeps the other. -/
import Derived.Test.YtjknlhiimmbilaaGreatDoorMChA
import Derived.Test.YtjknlhiimmbilaaGreatDoorMChB
import Derived.Test.YtjknlhiimmbilaaGreatDoorMLw
set_option maxRecDepth 100000
namespace Go.Proofs.YtjknlhiimmbilaaGreatDoor
open Go.ChangeShapes Go.WideShapes Go.ChangeAt Go.RowKit Go.Sort
def Apart (c:Nat)(SB PI:Nat→Prop)(v:ChV)(c':Nat)(SB' PI':Nat→Prop)(v':ChV):Prop:=
 (∀k,ChMut c v k→ ¬SB' k∧ ¬PI' k∧ ¬ChMut c' v' k)∧(∀k,ChMut c' v' k→ ¬SB k∧ ¬PI k∧ ¬ChMut c v k)
theorem Apart.symm {c c':Nat}{SB PI SB' PI':Nat→Prop}{v v':ChV}(h:Apart c SB PI v c' SB' PI' v'):Apart c' SB' PI' v' c SB PI v:=⟨h.2,h.1⟩
theorem Apart.step {c c':Nat}{SB PI SB' PI' SB1 PI1:Nat→Prop}{v v' v1:ChV}{w w1:World}{r:RuM}{m':ChM}{bs':List BlkM}(h:Apart c SB PI v c' SB' PI' v')(hat:ChAt c' SB' PI' w r m' bs' v')(hs:ChStp c SB PI v w SB1 PI1 v1 w1):
   ChAt c' SB' PI' w1 r m' bs' v'∧Apart c SB1 PI1 v1 c' SB' PI' v':=by
 refine⟨hat.keep hs.kept (fun k hk hm=>(h.1 k hm).1 hk) (fun k hk hm=>(h.1 k hm).2.1 hk) (fun k hk hm=>(h.1 k hm).2.2 hk),fun k hk=> ?_,fun k hk=> ?_⟩
 · rcases hs.turn k hk with h1|h1
   · exact h.1 k h1
   · refine⟨fun h2=> ?_,fun h2=> ?_,fun h2=> ?_⟩
     · have:=hat.lt k h2;omega
     · have:=hat.state.lt k h2;omega
     · have:=hat.mut_lt k h2;omega
 · have hlt:=hat.mut_lt k hk
   obtain⟨h1,h2,h3⟩:=h.2 k hk
   refine⟨fun h4=> ?_,fun h4=> ?_,fun h4=> ?_⟩
   · rcases hs.sb' k h4 with h5|h5
     · exact h1 h5
     · omega
   · rcases hs.pi' k h4 with h5|h5|h5
     · exact h2 h5
     · exact h3 h5
     · omega
   · rcases hs.turn k h4 with h5|h5
     · exact h3 h5
     · omega
end Go.Proofs.YtjknlhiimmbilaaGreatDoor
/- The chain of the program: New, the memory of its oracle named. -/
set_option maxRecDepth 100000
set_option maxHeartbeats 2000000
namespace Go.Proofs.YtjknlhiimmbilaaGreatDoor
open Go.ChangeShapes Go.WideShapes Go.ChangeAt Go.RowKit Go.Sort
def ChNewS (S:Nat→Prop)(r:RuM)(w:World)(e:Ending)(w':World):Prop:=
 ∃(c:Nat) (PI:Nat→Prop) (v:ChV),e= .returned (.tuple #[.pointer (some ⟨c,0,none⟩),.int .i64 0])∧ChAt c S PI w' r ⟨[],[],0,0⟩ [] v∧(∀k,ChMut c v k→w.heap.size≤k)∧(∀k,PI k→w.heap.size≤k)∧Below w.heap.size w w'
theorem chNewS_mk {S:Nat→Prop}{w w4:World}(hS: ∀k,S k→k<w.heap.size)(hb:Below w.heap.size w w4){r:RuM}{op p:Nat}{PI:Nat→Prop}{pv:PoV}(ho:r.mode=2→OrIn S op w)(hat:PoAt p PI w4 r (newP r) pv)(hm: ∀k,PoMut p pv k→w.heap.size≤k):
   ChAt (w4.heap.size+1) S PI ((w4.alloc (.map #[] 0)).alloc (.cells #[.pointer (some ⟨op,0,none⟩),.int .i64 r.mode,.int .i64 r.depth,.int .i64 r.bl,.int .i64 r.bu,.int .i64 r.qu,.int .u64 r.rew,.int .i64 r.win,.int .i64 r.fin,.int .u64 r.work,.map (some w4.heap.size),.slice none 0 0,.pointer (some ⟨p,0,none⟩),.int .u64 0,.int .i64 0] 84)) r ⟨[],[],0,0⟩ [] ⟨op,w4.heap.size,none,0,p,pv⟩:=by
 have hb2:Below w4.heap.size w4 ((w4.alloc (.map #[] 0)).alloc (.cells #[.pointer (some ⟨op,0,none⟩),.int .i64 r.mode,.int .i64 r.depth,.int .i64 r.bl,.int .i64 r.bu,.int .i64 r.qu,.int .u64 r.rew,.int .i64 r.win,.int .i64 r.fin,.int .u64 r.work,.map (some w4.heap.size),.slice none 0 0,.pointer (some ⟨p,0,none⟩),.int .u64 0,.int .i64 0] 84)):=bnew (bnew (Below.refl _ _) _) _;have hz:=hb.size;have hmap:((w4.alloc (.map #[] 0)).alloc (.cells #[.pointer (some ⟨op,0,none⟩),.int .i64 r.mode,.int .i64 r.depth,.int .i64 r.bl,.int .i64 r.bu,.int .i64 r.qu,.int .u64 r.rew,.int .i64 r.win,.int .i64 r.fin,.int .u64 r.work,.map (some w4.heap.size),.slice none 0 0,.pointer (some ⟨p,0,none⟩),.int .u64 0,.int .i64 0] 84)).heap[w4.heap.size]? =some (.map #[] 0):=(two_new w4 (.map #[] 0) (.cells #[.pointer (some ⟨op,0,none⟩),.int .i64 r.mode,.int .i64 r.depth,.int .i64 r.bl,.int .i64 r.bu,.int .i64 r.qu,.int .u64 r.rew,.int .i64 r.win,.int .i64 r.fin,.int .u64 r.work,.map (some w4.heap.size),.slice none 0 0,.pointer (some ⟨p,0,none⟩),.int .u64 0,.int .i64 0] 84)).2
 refine⟨(two_new w4 (.map #[] 0) (.cells #[.pointer (some ⟨op,0,none⟩),.int .i64 r.mode,.int .i64 r.depth,.int .i64 r.bl,.int .i64 r.bu,.int .i64 r.qu,.int .u64 r.rew,.int .i64 r.win,.int .i64 r.fin,.int .u64 r.work,.map (some w4.heap.size),.slice none 0 0,.pointer (some ⟨p,0,none⟩),.int .u64 0,.int .i64 0] 84)).1,fun e=>(ho e).keep (Kept.of_below (S:=fun k=>k<w.heap.size) (bnext hb hb2)) hS,⟨[],(mapAt_made w4).at' (by rw [hmap];exact(box_new w4 (.map #[] 0)).symm),fun _=>rfl,Nat.le_refl _⟩,fun e he=>by simp at he,sliceR.nil,hat.keepB hb2,?_,fun h=>by have:=hat.mut_lt _ h;omega,fun h=>by have h':=hat.mut_lt _ h;exact Nat.lt_irrefl _ h',fun k hk=>by have:=hat.lt k hk;exact⟨by omega,by show k≠w4.heap.size;omega⟩,fun k hk=>Nat.lt_of_lt_of_le (hS k hk) (bnext hb hb2).size⟩
 rintro k (e|e|e) hk'
 all_goals have hk:=hS k hk'
 · omega
 · have e':k=w4.heap.size:=e;omega
 · have:=hm k e;omega
theorem chNewS_any (S:Nat→Prop)(w:World)(op:Nat)(ideal:Bool)(st:Int)(ho:OrAt ideal st op w)(r:RuM)(hr:okU r.rew)(hS: ∀k,S k→k<w.heap.size)(hoS:r.mode=2→OrIn S op w):
   Calls Tryz.prog 8 #[.pointer (some ⟨op,0,none⟩),.agg #[.int .i64 r.mode,.int .i64 r.depth,.int .i64 r.bl,.int .i64 r.bu,.int .i64 r.qu,.int .u64 r.rew,.int .i64 r.win,.int .i64 r.fin,.int .u64 r.work]] w fun e w'=>(newE r ideal=0→ChNewS S r w e w')∧(newE r ideal≠0→e= .returned (.tuple #[.pointer none,.int .i64 (newE r ideal)])∧Below w.heap.size w w'):=by
 have HO:=Hd ho;have HSS:=Hd hS;have HOS:=Hd hoS;have HRW:=Hd hr;have HB:=Hd (bnew (Below.refl w.heap.size w) (.cells #[.int .i64 r.mode,.int .i64 r.depth,.int .i64 r.bl,.int .i64 r.bu,.int .i64 r.qu,.int .u64 r.rew,.int .i64 r.win,.int .i64 r.fin,.int .u64 r.work] 26));have HX:=Hd (box_new w (.cells #[.int .i64 r.mode,.int .i64 r.depth,.int .i64 r.bl,.int .i64 r.bu,.int .i64 r.qu,.int .u64 r.rew,.int .i64 r.win,.int .i64 r.fin,.int .u64 r.work] 26));have HU:Hid (newE r ideal=if ruleE r=0 then (if (ideal != (r.mode==3))=true then 1 else 0)else ruleE r):=rfl;clear ho hr hS hoS
 go_enter Tryz.func8,Tryz.ntmps8
 go_upto_region 1 with(fail)
 generalize w.alloc (.cells #[.int .i64 r.mode,.int .i64 r.depth,.int .i64 r.bl,.int .i64 r.bu,.int .i64 r.qu,.int .u64 r.rew,.int .i64 r.win,.int .i64 r.fin,.int .u64 r.work] 26)=W at*;obtain⟨x0,x1⟩:=box_cells HX.out;go_wp2_with fail
 refine(rules_any r.mode r.depth r.bl r.bu r.qu r.rew r.win r.fin r.work W).mono ?_
 rintro e w1 ⟨rfl,hb1⟩;have HB1:=Hd (bnext HB.out hb1);have HX1:=Hd (box_after hb1 HX.out);clear x0 x1 hb1
 by_cases h0:ruleE r=0
 · have HU1:=Hd (HU.out.trans (if_pos h0))
   have HR0:=Hd h0;rw [show rulesE r.mode r.depth r.bl r.bu r.qu r.rew r.win r.fin r.work=0 from h0];clear h0 HU;obtain⟨m3,hm3⟩: ∃x,(r.mode==3)=x:=⟨_,rfl⟩;rw [hm3]at HU1;have HM3:=Hd hm3
   cases ideal with
   |true=>cases m3 with
    |true=>
     have hc: ∀(d:Nat) (os:Array Obj),Calls Tryz.prog 28 #[.pointer (some ⟨op,0,none⟩)] (grow (redrawn w1 d) os) fun e w'=>e= .returned (.bool true)∧Below (grow (redrawn w1 d) os).heap.size (grow (redrawn w1 d) os) w':=fun d os=>
       (isIdeal_any _ op _ st ((HO.out.keepB HB1.out).keepB (below_regrown w1 d os))).mono fun _ _ h=>⟨h.1,by rw [←h.2];exact Below.refl _ _⟩
     have x0:=box_regrown HX1.out;go_wp2_with fail
     refine wp_region_quiet_below (by kernel_rfl) (by kernel_rfl) ?_
     repeat (first|go_big_quiet_step (exact Calls.regrown_of (hc _ _))|quiet_step (exact Calls.regrown_of (hc _ _)))
     refine wpQuiet_nil ?_
     intro w2 hw'
     obtain⟨⟨dq,osq⟩,hw''⟩:=hw';have hbw2:=below_regrown w1 dq osq;rw [←hw'']at hbw2;clear hw'' x0 hc;have HB2:=Hd (bnext HB1.out hbw2);have HX2:=Hd (box_after hbw2 HX1.out);clear hbw2
     have HF:Hid (newE r true=0):=by show _=_;rw [HU1.out];rfl
     obtain⟨x0,x1⟩:=box_cells HX2.out;go_wp2_with fail
     refine(poNew_any w2 r HR0.out HRW.out).mono ?_
     rintro e w4 ⟨p,PI,pv,rfl,hat,hm,hpi,hb4⟩;have HAT:=Hd hat
     have HM:Hid (∀k,PoMut p pv k→w.heap.size≤k):=fun k hk=>Nat.le_trans HB2.out.size (hm k hk)
     have HPI:Hid (∀k,PI k→w.heap.size≤k):=fun k hk=>Nat.le_trans HB2.out.size (hpi k hk)
     have HB4:=Hd (bnext HB2.out hb4);have HX4:=Hd (box_after hb4 HX2.out);clear hat hm hpi hb4 x0 x1;obtain⟨x0,x1⟩:=box_cells HX4.out;have hmm:= @run_makeMap Tryz.prog;have HMK:=Hd (chNewS_mk HSS.out HB4.out (op:=op) HOS.out HAT.out HM.out);have HBF:=Hd (bnew (bnew HB4.out (.map #[] 0)) (.cells #[.pointer (some ⟨op,0,none⟩),.int .i64 r.mode,.int .i64 r.depth,.int .i64 r.bl,.int .i64 r.bu,.int .i64 r.qu,.int .u64 r.rew,.int .i64 r.win,.int .i64 r.fin,.int .u64 r.work,.map (some w4.heap.size),.slice none 0 0,.pointer (some ⟨p,0,none⟩),.int .u64 0,.int .i64 0] 84));have hz4:=HB4.out.size;go_wp2_with fail;go_ret2
     refine⟨fun _=>⟨w4.heap.size+1,PI,_,rfl,HMK.out,fun k hk=> ?_,HPI.out,HBF.out⟩,fun h=>absurd HF.out h⟩
     rcases hk with e|e|e
     · omega
     · have e':k=w4.heap.size:=e;omega
     · exact HM.out k e
    |false=>
     have hc: ∀(d:Nat) (os:Array Obj),Calls Tryz.prog 28 #[.pointer (some ⟨op,0,none⟩)] (grow (redrawn w1 d) os) fun e w'=>e= .returned (.bool true)∧Below (grow (redrawn w1 d) os).heap.size (grow (redrawn w1 d) os) w':=fun d os=>
       (isIdeal_any _ op _ st ((HO.out.keepB HB1.out).keepB (below_regrown w1 d os))).mono fun _ _ h=>⟨h.1,by rw [←h.2];exact Below.refl _ _⟩
     have x0:=box_regrown HX1.out;go_wp2_with fail
     refine wp_region_quiet_below (by kernel_rfl) (by kernel_rfl) ?_
     repeat (first|go_big_quiet_step (exact Calls.regrown_of (hc _ _))|quiet_step (exact Calls.regrown_of (hc _ _)))
     refine wpQuiet_nil ?_
     intro w2 hw'
     obtain⟨⟨dq,osq⟩,hw''⟩:=hw';have hbw2:=below_regrown w1 dq osq;rw [←hw'']at hbw2;clear hw'' x0 hc;have HB2:=Hd (bnext HB1.out hbw2);have HX2:=Hd (box_after hbw2 HX1.out);clear hbw2;have HF:Hid (newE r true=1):=HU1.out;go_wp2_with fail;go_ret2;rw [HF.out]
     exact⟨fun h=>by omega,fun _=>⟨rfl,HB2.out⟩⟩
   |false=>
    cases m3 with
    |true=>
     have hc: ∀(d:Nat) (os:Array Obj),Calls Tryz.prog 28 #[.pointer (some ⟨op,0,none⟩)] (grow (redrawn w1 d) os) fun e w'=>e= .returned (.bool false)∧Below (grow (redrawn w1 d) os).heap.size (grow (redrawn w1 d) os) w':=fun d os=>
       (isIdeal_any _ op _ st ((HO.out.keepB HB1.out).keepB (below_regrown w1 d os))).mono fun _ _ h=>⟨h.1,by rw [←h.2];exact Below.refl _ _⟩
     have x0:=box_regrown HX1.out;go_wp2_with fail
     refine wp_region_quiet_below (by kernel_rfl) (by kernel_rfl) ?_
     repeat (first|go_big_quiet_step (exact Calls.regrown_of (hc _ _))|quiet_step (exact Calls.regrown_of (hc _ _)))
     refine wpQuiet_nil ?_
     intro w2 hw'
     obtain⟨⟨dq,osq⟩,hw''⟩:=hw';have hbw2:=below_regrown w1 dq osq;rw [←hw'']at hbw2;clear hw'' x0 hc;have HB2:=Hd (bnext HB1.out hbw2);have HX2:=Hd (box_after hbw2 HX1.out);clear hbw2;have HF:Hid (newE r false=1):=HU1.out;go_wp2_with fail;go_ret2;rw [HF.out]
     exact⟨fun h=>by omega,fun _=>⟨rfl,HB2.out⟩⟩
    |false=>
     have hc: ∀(d:Nat) (os:Array Obj),Calls Tryz.prog 28 #[.pointer (some ⟨op,0,none⟩)] (grow (redrawn w1 d) os) fun e w'=>e= .returned (.bool false)∧Below (grow (redrawn w1 d) os).heap.size (grow (redrawn w1 d) os) w':=fun d os=>
       (isIdeal_any _ op _ st ((HO.out.keepB HB1.out).keepB (below_regrown w1 d os))).mono fun _ _ h=>⟨h.1,by rw [←h.2];exact Below.refl _ _⟩
     have x0:=box_regrown HX1.out;go_wp2_with fail
     refine wp_region_quiet_below (by kernel_rfl) (by kernel_rfl) ?_
     repeat (first|go_big_quiet_step (exact Calls.regrown_of (hc _ _))|quiet_step (exact Calls.regrown_of (hc _ _)))
     refine wpQuiet_nil ?_
     intro w2 hw'
     obtain⟨⟨dq,osq⟩,hw''⟩:=hw';have hbw2:=below_regrown w1 dq osq;rw [←hw'']at hbw2;clear hw'' x0 hc;have HB2:=Hd (bnext HB1.out hbw2);have HX2:=Hd (box_after hbw2 HX1.out);clear hbw2
     have HF:Hid (newE r false=0):=by show _=_;rw [HU1.out];rfl
     obtain⟨x0,x1⟩:=box_cells HX2.out;go_wp2_with fail
     refine(poNew_any w2 r HR0.out HRW.out).mono ?_
     rintro e w4 ⟨p,PI,pv,rfl,hat,hm,hpi,hb4⟩;have HAT:=Hd hat
     have HM:Hid (∀k,PoMut p pv k→w.heap.size≤k):=fun k hk=>Nat.le_trans HB2.out.size (hm k hk)
     have HPI:Hid (∀k,PI k→w.heap.size≤k):=fun k hk=>Nat.le_trans HB2.out.size (hpi k hk)
     have HB4:=Hd (bnext HB2.out hb4);have HX4:=Hd (box_after hb4 HX2.out);clear hat hm hpi hb4 x0 x1;obtain⟨x0,x1⟩:=box_cells HX4.out;have hmm:= @run_makeMap Tryz.prog;have HMK:=Hd (chNewS_mk HSS.out HB4.out (op:=op) HOS.out HAT.out HM.out);have HBF:=Hd (bnew (bnew HB4.out (.map #[] 0)) (.cells #[.pointer (some ⟨op,0,none⟩),.int .i64 r.mode,.int .i64 r.depth,.int .i64 r.bl,.int .i64 r.bu,.int .i64 r.qu,.int .u64 r.rew,.int .i64 r.win,.int .i64 r.fin,.int .u64 r.work,.map (some w4.heap.size),.slice none 0 0,.pointer (some ⟨p,0,none⟩),.int .u64 0,.int .i64 0] 84));have hz4:=HB4.out.size;go_wp2_with fail;go_ret2
     refine⟨fun _=>⟨w4.heap.size+1,PI,_,rfl,HMK.out,fun k hk=> ?_,HPI.out,HBF.out⟩,fun h=>absurd HF.out h⟩
     rcases hk with e|e|e
     · omega
     · have e':k=w4.heap.size:=e;omega
     · exact HM.out k e
 · have HF:=Hd (HU.out.trans (if_neg h0))
   obtain⟨y,hy⟩: ∃y,ruleE r=y:=⟨_,rfl⟩
   have hyn:y≠0:=fun e=>h0 (hy.trans e)
   have HYN:=Hd hyn;have HY:=Hd hy
   have z1:(y==0)=false:=by rw [beq_eq_false_iff_ne];exact hyn
   have z2:(y != 0)=true:=by rw [bne_iff_ne];exact hyn
   rw [show rulesE r.mode r.depth r.bl r.bu r.qu r.rew r.win r.fin r.work=y from hy];clear hy hyn h0 HU;go_wp2_with fail;go_ret2;rw [HF.out,HY.out]
   exact⟨fun h=>absurd h HYN.out,fun _=>⟨rfl,HB1.out⟩⟩
end Go.Proofs.YtjknlhiimmbilaaGreatDoor
/- The laws of chains: how they begin, all of the new chain's memory being new. -/
set_option maxRecDepth 100000
set_option maxHeartbeats 2000000
namespace Go.Proofs.YtjknlhiimmbilaaGreatDoor
open Go.ChangeShapes Go.WideShapes Go.ChangeAt Go.RowKit Go.Sort
theorem OrIn.bound {S:Nat→Prop}{p:Nat}{w:World}(h:OrIn S p w):OrIn (fun k=>S k∧k<w.heap.size) p w:=by
 obtain⟨mk,ms,mp,h1,h2,h3,h4,s1,s2,s3,s4⟩:=h
 exact⟨mk,ms,mp,h1,h2,h3,h4,⟨s1,box_lt h1⟩,⟨s2,box_lt h2⟩,⟨s3,box_lt h3⟩,⟨s4,box_lt h4⟩⟩
def NewOrS (w:World)(e:Ending)(w':World):Prop:= ∃p,e= .returned (.pointer (some ⟨p,0,none⟩))∧OrIn (fun k=>w.heap.size≤k) p w'∧Below w.heap.size w w'
theorem newOracleS_any (w:World):Calls Tryz.prog 23 #[] w (NewOrS w):=by
 have hmm:= @run_makeMap Tryz.prog;obtain⟨q1,q2,q3,q4⟩:=four_new w (.map #[] 0) (.map #[] 0) (.map #[] 0) (.cells #[.bool false,.int .u64 0,.int .i64 0,.slice none 0 0,.map (some w.heap.size),.map (some (w.heap.size+1)),.map (some (w.heap.size+2))] 78);have Q1:=Hd q1;have Q2:=Hd q2;have Q3:=Hd q3;have Q4:=Hd q4;clear q1 q2 q3 q4
 go_enter Tryz.func23,Tryz.ntmps23
 go_wp2
 go_ret
 exact⟨w.heap.size+3,by simp,⟨_,_,_,Q1.out,Q4.out,Q3.out,Q2.out,Nat.le_add_right _ 3,Nat.le_refl _,Nat.le_succ _,Nat.le_add_right _ 2⟩,bnew (bnew (bnew (bnew (Below.refl _ _) _) _) _) _⟩
theorem realS_any (w:World):Calls Tryz.prog 5 #[] w (NewOrS w):=by
 go_enter Tryz.func5,Tryz.ntmps5
 go_wp2_with fail
 refine(newOracleS_any w).mono ?_
 rintro e w1 ⟨p,rfl,h2,h3⟩
 go_wp2
 go_ret
 exact⟨p,rfl,h2,h3⟩
def BegS (r:RuM)(w:World)(e:Ending)(w':World):Prop:=
 ∃(c:Nat) (PI SB:Nat→Prop) (v:ChV),e= .returned (.tuple #[.pointer (some ⟨c,0,none⟩),.agg #[.bool false,.int .u64 0,.int .i64 0,.slice none 0 0,.slice none 0 0,.slice none 0 0,.int .i64 r.mode,.int .i64 r.depth,.int .i64 r.bl,.int .i64 r.bu,.int .i64 r.qu,.int .u64 r.rew,.int .i64 r.win,.int .i64 r.fin,.int .u64 r.work,.slice none 0 0,.int .i64 (-1),.int .i64 (-1)],.bool true])∧ChAt c SB PI w' r ⟨[],[],0,0⟩ [] v∧(∀k,ChMut c v k→w.heap.size≤k)∧(∀k,PI k→w.heap.size≤k)∧(∀k,SB k→w.heap.size≤k)∧Below w.heap.size w w'
theorem begin48S_any (w:World)(r:RuM)(hm:r.mode=2)(he:ruleE r=0)(hr:okU r.rew):
   Calls Tryz.prog 16 #[.agg #[.int .i64 r.mode,.int .i64 r.depth,.int .i64 r.bl,.int .i64 r.bu,.int .i64 r.qu,.int .u64 r.rew,.int .i64 r.win,.int .i64 r.fin,.int .u64 r.work]] w (BegS r w):=by
 have hbA:=bnew (bnew (Below.refl w.heap.size w) (.cells #[.int .i64 r.mode,.int .i64 r.depth,.int .i64 r.bl,.int .i64 r.bu,.int .i64 r.qu,.int .u64 r.rew,.int .i64 r.win,.int .i64 r.fin,.int .u64 r.work] 26)) (.cells #[.bool false,.int .u64 0,.int .i64 0,.slice none 0 0,.slice none 0 0,.slice none 0 0,.int .i64 0,.int .i64 0,.int .i64 0,.int .i64 0,.int .i64 0,.int .u64 0,.int .i64 0,.int .i64 0,.int .u64 0,.slice none 0 0,.int .i64 0,.int .i64 0] 43);have HX:=Hd (two_new w (.cells #[.int .i64 r.mode,.int .i64 r.depth,.int .i64 r.bl,.int .i64 r.bu,.int .i64 r.qu,.int .u64 r.rew,.int .i64 r.win,.int .i64 r.fin,.int .u64 r.work] 26) (.cells #[.bool false,.int .u64 0,.int .i64 0,.slice none 0 0,.slice none 0 0,.slice none 0 0,.int .i64 0,.int .i64 0,.int .i64 0,.int .i64 0,.int .i64 0,.int .u64 0,.int .i64 0,.int .i64 0,.int .u64 0,.slice none 0 0,.int .i64 0,.int .i64 0] 43));have HB:=Hd hbA;have HE:=Hd he;have HM:=Hd hm;have HRW:=Hd hr
 have HN:Hid (newE r false=0):=by show _=_;unfold newE;rw [if_pos he,hm];rfl
 clear hbA he hm hr
 go_enter Tryz.func16,Tryz.ntmps16
 go_upto_region 1 with(fail)
 generalize (w.alloc (.cells #[.int .i64 r.mode,.int .i64 r.depth,.int .i64 r.bl,.int .i64 r.bu,.int .i64 r.qu,.int .u64 r.rew,.int .i64 r.win,.int .i64 r.fin,.int .u64 r.work] 26)).alloc (.cells #[.bool false,.int .u64 0,.int .i64 0,.slice none 0 0,.slice none 0 0,.slice none 0 0,.int .i64 0,.int .i64 0,.int .i64 0,.int .i64 0,.int .i64 0,.int .u64 0,.int .i64 0,.int .i64 0,.int .u64 0,.slice none 0 0,.int .i64 0,.int .i64 0] 43)=W at*
 go_cut [5,6]from 9 to 14 (fun v5 v6 wc=>v6= .int .i64 0∧ ∃(c:Nat) (SB PI:Nat→Prop) (v:ChV),v5= .pointer (some ⟨c,0,none⟩)∧Hid (ChAt c SB PI wc r ⟨[],[],0,0⟩ [] v)∧Hid (∀k,ChMut c v k→W.heap.size≤k)∧Hid (∀k,PI k→W.heap.size≤k)∧Hid (∀k,SB k→W.heap.size≤k)∧Hid (Below W.heap.size W wc))
 case first=>
   obtain⟨x0,x1⟩:=box_cells HX.out.2
   go_region_law (first
     |(go_simp;go_at_call 5
       refine(realS_any W.drew).mono ?_
       rintro e w1 ⟨op,rfl,ho,hb1⟩;have HB1:Hid (Below W.heap.size W w1):=bnext (Below.refl _ _).drew hb1;have HO1:=Hd ho;obtain⟨x0,x1⟩:=box_cells (box_after HB1.out HX.out.2);clear hb1 ho)
     |(go_simp;go_at_call 8
       refine(chNewS_any (fun k=>W.heap.size≤k∧k<w1.heap.size) w1 op false 0 HO1.out.at' r HRW.out (fun k hk=>hk.2) (fun _=>HO1.out.bound)).mono ?_
       rintro e w2 ⟨hq, -⟩;obtain⟨c,PI,v,rfl,hat,hmu,hpi,hb2⟩:=hq HN.out;have HB2:Hid (Below W.heap.size W w2):=bnext HB1.out hb2;have HAT:=Hd hat
       have HMU:Hid (∀k,ChMut c v k→W.heap.size≤k):=fun k hk=>Nat.le_trans HB1.out.size (hmu k hk)
       have HPI:Hid (∀k,PI k→W.heap.size≤k):=fun k hk=>Nat.le_trans HB1.out.size (hpi k hk)
       clear hat hmu hpi hb2 hq))
   all_goals
     go_wp2_with fail
     go_meet
     case rel=>exact⟨rfl,c,_,PI,v,rfl,HAT,HMU,HPI,fun k hk=>hk.1,HB2⟩
 obtain⟨rfl,c,SB,PI,v,rfl,HAT,HMU,HPI,HSB,HB2⟩:=hcut;obtain⟨w2,hw2⟩: ∃x,x=wc:=⟨_,rfl⟩;subst hw2;have HBt:=Hd (bnext HB.out HB2.out);have HX2:=Hd (box_after HB2.out HX.out.2);have HY2:=Hd (box_after HB2.out HX.out.1);obtain⟨x0,x1⟩:=box_cells HX2.out
 go_upto_region 2 with(fail)
 go_cut [7,8]from 15 to 20 (fun v7 v8 wc=>v8= .int .i64 0∧ ∃X3:Nat,v7= .pointer (some ⟨X3,0,none⟩)∧Hid (wc.heap[X3]? =some (Obj.cells #[.bool false,.int .u64 0,.int .i64 0,.slice none 0 0,.slice none 0 0,.slice none 0 0,.int .i64 r.mode,.int .i64 r.depth,.int .i64 r.bl,.int .i64 r.bu,.int .i64 r.qu,.int .u64 r.rew,.int .i64 r.win,.int .i64 r.fin,.int .u64 r.work,.slice none 0 0,.int .i64 (-1),.int .i64 (-1)] 43 (0,0)))∧Hid (Below w2.heap.size w2 wc))
 case first=>
   go_wp2_with fail
   refine(refNew48_any w2 r HM.out HE.out).mono ?_
   rintro e w3 ⟨rfl,hb3⟩
   go_wp2_with (refine wpList_store_row rfl _ _ _ rfl w3.heap.size _ rfl rfl _ _ (box_new w3 _) (by kernel_rfl) rfl (by kernel_rfl) ?_)
   go_meet
   case rel=>
     exact⟨rfl,w3.heap.size,rfl,setRow_heap _ _ _ _ _ _ (box_new w3 (.cells #[.bool false,.int .u64 0,.int .i64 0,.slice none 0 0,.slice none 0 0,.slice none 0 0,.int .i64 0,.int .i64 0,.int .i64 0,.int .i64 0,.int .i64 0,.int .u64 0,.int .i64 0,.int .i64 0,.int .u64 0,.slice none 0 0,.int .i64 0,.int .i64 0] 43)),below_setRow (g:=w3.heap.size) (bnew hb3 (.cells #[.bool false,.int .u64 0,.int .i64 0,.slice none 0 0,.slice none 0 0,.slice none 0 0,.int .i64 0,.int .i64 0,.int .i64 0,.int .i64 0,.int .i64 0,.int .u64 0,.int .i64 0,.int .i64 0,.int .u64 0,.slice none 0 0,.int .i64 0,.int .i64 0] 43)) hb3.size #[.bool false,.int .u64 0,.int .i64 0,.slice none 0 0,.slice none 0 0,.slice none 0 0,.int .i64 r.mode,.int .i64 r.depth,.int .i64 r.bl,.int .i64 r.bu,.int .i64 r.qu,.int .u64 r.rew,.int .i64 r.win,.int .i64 r.fin,.int .u64 r.work,.slice none 0 0,.int .i64 (-1),.int .i64 (-1)]⟩
 obtain⟨rfl,X3,rfl,HN4,HB9⟩:=hcut;obtain⟨w4,hw4⟩: ∃x,x=wc:=⟨_,rfl⟩;subst hw4;have HY4:=Hd (box_after HB9.out HY2.out);have HAT4:=Hd (HAT.out.keepB HB9.out);have HB4:=Hd (bnext HBt.out HB9.out);clear x0 x1 HB9;obtain⟨n0,n1⟩:=box_cells HN4.out
 go_upto_region 3 with(fail)
 refine wp_region_any (by kernel_rfl) ?_
 change wpAny _ _ _ _ _ _ _ (World.drew _)
 refine wpAny_take (i:=0) (v:= ?_) rfl (by kernel_rfl) (by kernel_rfl) (by kernel_rfl) (fun _ _ _ h=>h) (Or.inl ⟨by rfl,?_⟩) ?_
 rotate_left
 · intro w
   go_simp
   all_goals with_reducible rfl
 refine wpAny_take (i:=2) (v:= ?_) rfl (by kernel_rfl) (by kernel_rfl) (by kernel_rfl) (fun _ _ _ h=>h) (Or.inl ⟨by rfl,?_⟩) ?_
 rotate_left
 · intro w
   go_simp
   all_goals with_reducible rfl
 refine wpAny_take (i:=3) (v:= ?_) rfl (by kernel_rfl) (by kernel_rfl) (by kernel_rfl) (fun _ _ _ h=>h) (Or.inl ⟨by rfl,?_⟩) ?_
 rotate_left
 · intro w
   go_simp
   all_goals with_reducible rfl
 refine wpAny_take (i:=4) (v:= ?_) rfl (by kernel_rfl) (by kernel_rfl) (by kernel_rfl) (fun _ _ _ h=>h) (Or.inl ⟨by rfl,?_⟩) ?_
 rotate_left
 · intro w
   go_simp
   all_goals with_reducible rfl
 refine wpAny_take (i:=5) (v:= ?_) rfl (by kernel_rfl) (by kernel_rfl) (by kernel_rfl) (fun _ _ _ h=>h) (Or.inl ⟨by rfl,?_⟩) ?_
 rotate_left
 · intro w
   go_simp
   all_goals with_reducible rfl
 refine wpAny_take (i:=6) (v:= ?_) rfl (by kernel_rfl) (by kernel_rfl) (by kernel_rfl) (fun _ _ _ h=>h) (Or.inl ⟨by rfl,?_⟩) ?_
 rotate_left
 · intro w
   go_simp
   all_goals with_reducible rfl
 refine wpAny_take (i:=7) (v:= ?_) rfl (by kernel_rfl) (by kernel_rfl) (by kernel_rfl) (fun _ _ _ h=>h) (Or.inl ⟨by rfl,?_⟩) ?_
 rotate_left
 · intro w
   go_simp
   all_goals with_reducible rfl
 refine wpAny_take (i:=8) (v:= ?_) rfl (by kernel_rfl) (by kernel_rfl) (by kernel_rfl) (fun _ _ _ h=>h) (Or.inl ⟨by rfl,?_⟩) ?_
 rotate_left
 · intro w
   go_simp
   all_goals with_reducible rfl
 go_simp
 refine wpAny_take (i:=9) (v:= ?_) rfl (by kernel_rfl) (by kernel_rfl) (by kernel_rfl) (fun _ _ _ h=>h) (Or.inl ⟨by rfl,?_⟩) ?_
 rotate_left
 · intro w
   go_simp
   all_goals with_reducible rfl
 refine wpAny_take (i:=10) (v:= ?_) rfl (by kernel_rfl) (by kernel_rfl) (by kernel_rfl) (fun _ _ _ h=>h) (Or.inl ⟨by rfl,?_⟩) ?_
 rotate_left
 · intro w
   go_simp
   all_goals with_reducible rfl
 refine wpAny_take (i:=11) (v:= ?_) rfl (by kernel_rfl) (by kernel_rfl) (by kernel_rfl) (fun _ _ _ h=>h) (Or.inl ⟨by rfl,?_⟩) ?_
 rotate_left
 · intro w
   go_simp
   all_goals with_reducible rfl
 refine wpAny_take (i:=12) (v:= ?_) rfl (by kernel_rfl) (by kernel_rfl) (by kernel_rfl) (fun _ _ _ h=>h) (Or.inl ⟨by rfl,?_⟩) ?_
 rotate_left
 · intro w
   go_simp
   all_goals with_reducible rfl
 go_simp
 refine wpAny_ready (rs:= [1]) (by kernel_rfl) (by simp) ?_
 refine AllReady.cons rfl (fun K hK=> ?_) ?_
 rotate_left
 · exact AllReady.nil
 refine step_load_row rfl _ _ rfl X3 rfl _ _ _ _ (box_after (Below.refl _ _).drew HN4.out) Tryz.underlying43 rfl (by kernel_rfl) ?_
 go_simp
 (refine hK _ _ ?_;clear hK K)
 refine wpAny_ready (rs:= [13]) (by kernel_rfl) (by simp) ?_
 refine AllReady.cons rfl (fun K hK=> ?_) ?_
 rotate_left
 · exact AllReady.nil
 refine step_store_row rfl _ _ _ rfl (w.heap.size+1) _ rfl rfl _ _ (box_after (Below.refl _ _).drew HY4.out) (by kernel_rfl) rfl (by kernel_rfl) ?_
 go_simp
 (refine hK _ _ ?_;clear hK K)
 refine wpAny_take (i:=14) (v:= ?_) rfl (by kernel_rfl) (by kernel_rfl) (by kernel_rfl) (fun _ _ _ h=>h) (Or.inl ⟨by rfl,?_⟩) ?_
 rotate_left
 · intro w
   go_simp
   all_goals with_reducible rfl
 go_simp
 refine wpAny_done (by kernel_rfl) ?_ _
 have hyw:w.heap.size+1<W.heap.size:=box_lt HX.out.1;have hlt:w.heap.size≤w.heap.size+1:=Nat.le_succ _;have hbz:=below_setRow (g:=w.heap.size+1) HB4.out.drew hlt #[.bool false,.int .u64 0,.int .i64 0,.slice none 0 0,.slice none 0 0,.slice none 0 0,.int .i64 r.mode,.int .i64 r.depth,.int .i64 r.bl,.int .i64 r.bu,.int .i64 r.qu,.int .u64 r.rew,.int .i64 r.win,.int .i64 r.fin,.int .u64 r.work,.slice none 0 0,.int .i64 (-1),.int .i64 (-1)];have hdr:=HAT4.out.keepB (Below.refl _ _).drew
 have haz:=hdr.keep (kept_setRow w4.drew (w.heap.size+1) #[.bool false,.int .u64 0,.int .i64 0,.slice none 0 0,.slice none 0 0,.slice none 0 0,.int .i64 r.mode,.int .i64 r.depth,.int .i64 r.bl,.int .i64 r.bu,.int .i64 r.qu,.int .u64 r.rew,.int .i64 r.win,.int .i64 r.fin,.int .u64 r.work,.slice none 0 0,.int .i64 (-1),.int .i64 (-1)]) (fun k hk=>by have:=HSB.out k hk;show k≠_;omega) (fun k hk=>by have:=HPI.out k hk;show k≠_;omega) (fun k hk=>by have:=HMU.out k hk;show k≠_;omega)
 have hgz:(w4.drew.setRow (w.heap.size+1) #[.bool false,.int .u64 0,.int .i64 0,.slice none 0 0,.slice none 0 0,.slice none 0 0,.int .i64 r.mode,.int .i64 r.depth,.int .i64 r.bl,.int .i64 r.bu,.int .i64 r.qu,.int .u64 r.rew,.int .i64 r.win,.int .i64 r.fin,.int .u64 r.work,.slice none 0 0,.int .i64 (-1),.int .i64 (-1)]).heap[w.heap.size+1]? =some (Obj.cells #[.bool false,.int .u64 0,.int .i64 0,.slice none 0 0,.slice none 0 0,.slice none 0 0,.int .i64 r.mode,.int .i64 r.depth,.int .i64 r.bl,.int .i64 r.bu,.int .i64 r.qu,.int .u64 r.rew,.int .i64 r.win,.int .i64 r.fin,.int .u64 r.work,.slice none 0 0,.int .i64 (-1),.int .i64 (-1)] 43 (0,0)):=setRow_heap _ _ _ _ _ _ (box_after (Below.refl _ _).drew HY4.out);have hsw:=HB.out.size;go_wp2_with fail
 (try simp only [Exit.inBlock,Exit.then])
 refine bodyPost_ret (v:= .tuple #[.pointer (some ⟨c,0,none⟩),.agg #[.bool false,.int .u64 0,.int .i64 0,.slice none 0 0,.slice none 0 0,.slice none 0 0,.int .i64 r.mode,.int .i64 r.depth,.int .i64 r.bl,.int .i64 r.bu,.int .i64 r.qu,.int .u64 r.rew,.int .i64 r.win,.int .i64 r.fin,.int .u64 r.work,.slice none 0 0,.int .i64 (-1),.int .i64 (-1)],.bool true]) ?_ rfl ⟨c,PI,_,v,rfl,haz,fun k hk=>Nat.le_trans hsw (HMU.out k hk),fun k hk=>Nat.le_trans hsw (HPI.out k hk),fun k hk=>Nat.le_trans hsw (HSB.out k hk),hbz⟩
 exact ret_tct Tryz.results16 rfl hgz Tryz.underlying43 rfl (by kernel_rfl)
end Go.Proofs.YtjknlhiimmbilaaGreatDoor

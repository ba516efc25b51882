/- Script: ScriptNew. -/
import Derived.Test.YtphacfkcifpobaaGreatDoorM28
import Derived.Test.YtphacfkcifpobaaGreatDoorScQ
import Derived.Test.YtphacfkcifpobaaGreatDoorM24
import Derived.Test.YtphacfkcifpobaaGreatDoorOrI
import Derived.Test.YtphacfkcifpobaaGreatDoorStrS
import Derived.Lib.Builder
set_option maxRecDepth 100000
set_option maxHeartbeats 8000000
namespace Go.Proofs.YtphacfkcifpobaaGreatDoor
open Go.ChangeShapes Go.WideShapes Go.ChangeAt Go.RowKit Go.Sort
theorem Hd{p:Prop}(h:p):Hid p:=h
theorem ruleE_one {r:RuM}(h: ¬ruleE r=0):ruleE r=1:=by
 unfold ruleE rulesE at*
 split at h
 ·exact absurd rfl h
 ·rename_i h1
  rw [if_neg h1]
theorem ptr_same (op:Nat)(W:World):(binOp BinOp.neq 30 (.pointer (some ⟨op,0,none⟩)) (.pointer (some ⟨op,0,none⟩))).run Tryz.prog W= .ok (.bool false) W:=by
 obtain⟨j,hj⟩:=Option.isSome_iff_exists.1 (show(Tryz.prog.info? 70).isSome=true by kernel_rfl);exact Lib.run_neq_ptr_same W ⟨op,0,none⟩ Tryz.underlying30 hj
section
variable {O:Nat→Prop} {F:Nat→Prop} {w:World}
theorem nd_look {p op num nodes:Nat}{r:RuM}{sd:Int}{m:ChM}(h:(ndA (O:=O) p op r num nodes sd m 0).rel F w): ∃(G:Nat→Prop) (x:NdV),w.heap[p]? =some (.cells (ndC op r num nodes sd x) 84 (0,0))∧(walA (O:=O) x.wp op r (sd % 18446744069414584321) 0).rel G w:=by
 obtain⟨x,G1, -,⟨-,hb⟩,G2, -, -,G3, -,hw, -⟩:=h;exact⟨G3,x,hb,hw⟩
theorem ns_look {op nodes:Nat}{r:RuM}{sd:Int}: ∀ {ps:List Nat} {i:Nat} {F:Nat→Prop},(listA (O:=O) (nsA op r nodes sd i ps)).rel F w→ ∀k (hk:k<ps.length),∃(G:Nat→Prop) (x:NdV),w.heap[ps[k]]? =some (.cells (ndC op r (i+k) nodes (hashS 8 [sd,((i+k:Nat):Int)]) x) 84 (0,0))∧(walA (O:=O) x.wp op r (hashS 8 [sd,((i+k:Nat):Int)] % 18446744069414584321) 0).rel G w
 |p::ps,i,F,⟨G,_,h1,h2⟩,0,_=>nd_look h1
 |p::ps,i,F,⟨G,_,h1,h2⟩,k+1,hk=>by
  have h3:=ns_look (ps:=ps) (i:=i+1) h2 k (by simpa using hk);rw [show i+(k+1)=i+1+k by omega];exact h3
end
theorem new54_law (hp:Parse54)(w:World)(ht:TxtAt w)(r:RuM)(hrw:okU r.rew)(seed:Int)(hs:okU seed)(ideal:Bool)(nodes:Int):
 Calls Tryz.prog 3 #[.agg #[.int .i64 r.mode,.int .i64 r.depth,.int .i64 r.bl,.int .i64 r.bu,.int .i64 r.qu,.int .u64 r.rew,.int .i64 r.win,.int .i64 r.fin,.int .u64 r.work],.agg #[.int .u64 seed,.bool ideal],.int .i64 nodes] w fun e w'=>e= .returned (.bool true)∧Below w.heap.size w w':=by
 have HT:=Hd ht;have HP:=Hd hp;have HRW:=Hd hrw;have HS:=Hd hs;have HF0:Hid (Fr (O:=fun _=>False) [] (fun _=>False) w w):=Fr.nil _ _ fun _ h=>h.elim;have HFW:=Hd ((HF0.out.alloc #[.int .i64 r.mode,.int .i64 r.depth,.int .i64 r.bl,.int .i64 r.bu,.int .i64 r.qu,.int .u64 r.rew,.int .i64 r.win,.int .i64 r.fin,.int .u64 r.work] 26).alloc #[.int .u64 seed,.bool ideal] 28);clear ht hp hrw hs HF0;go_enter Tryz.func3,Tryz.ntmps3;go_wp2_with fail
 -- MARK1
 obtain⟨W,hW⟩: ∃z,(w.alloc (.cells #[.int .i64 r.mode,.int .i64 r.depth,.int .i64 r.bl,.int .i64 r.bu,.int .i64 r.qu,.int .u64 r.rew,.int .i64 r.win,.int .i64 r.fin,.int .u64 r.work] 26)).alloc (.cells #[.int .u64 seed,.bool ideal] 28)=z:=⟨_,rfl⟩;obtain⟨B1,hB1⟩: ∃z,(w.alloc (.cells #[.int .i64 r.mode,.int .i64 r.depth,.int .i64 r.bl,.int .i64 r.bu,.int .i64 r.qu,.int .u64 r.rew,.int .i64 r.win,.int .i64 r.fin,.int .u64 r.work] 26)).heap.size=z:=⟨_,rfl⟩;obtain⟨B0,hB0⟩: ∃z,w.heap.size=z:=⟨_,rfl⟩;have hB2:w.heap.size+1=B1:=by rw [←hB1,World.size_alloc]
 rw [hW,hB1,hB0]at HFW
 try rw [hW]
 try rw [hB1]
 try rw [hB2]
 try rw [hB0]
 clear hW hB1 hB2 hB0;refine(awake54_any HP.out W (HT.out.on.2 _ HFW.out.below)).mono ?_;rintro e w1 ⟨rfl,hb1⟩;have HF1:=Hd (HFW.out.keepB hb1);clear hb1 HFW HT HP;go_wp2_with fail;refine(real_any w1).mono ?_;rintro e w2 ⟨op0,rfl, -,ho0,hb2⟩;have HF2:=Hd (HF1.out.keepB hb2);have HO0:=Hd ho0;clear hb2 HF1 ho0;obtain⟨x0,x1⟩:=box_cells (HF2.out.box i0);go_upto_if 18 with(fail)
 -- MARK2
 go_cut [7]from 17 (fun v7 wc=> ∃op:Nat,v7= .pointer (some ⟨op,0,none⟩)∧Hid (OrAt ideal (if ideal=true then seed else 0) op wc)∧Hid (Fr (O:=fun _=>False) [boxA B1 #[.int .u64 seed,.bool ideal] 28,boxA B0 #[.int .i64 r.mode,.int .i64 r.depth,.int .i64 r.bl,.int .i64 r.bu,.int .i64 r.qu,.int .u64 r.rew,.int .i64 r.win,.int .i64 r.fin,.int .u64 r.work] 26] (fun _=>False) w wc))
 case first=>
  cases ideal with
  |true=>
   go_wp2_with fail;refine(ideal_any w2 seed).mono ?_;rintro e w3 ⟨op,rfl, -,ho,hb3⟩;have HF3:=Hd (HF2.out.keepB hb3);have HO3:=Hd ho;clear hb3 HF2 HO0 ho x0 x1;go_wp2_with fail;go_meet
   case rel=>exact⟨op,rfl,HO3,HF3⟩
  |false=>
   go_wp2_with fail;go_meet
   case rel=>exact⟨op0,rfl,HO0,HF2⟩
 case rest=>
  obtain⟨op,rfl,HO,HFC⟩:=hcut;obtain⟨w3,hwa⟩: ∃x,x=wc:=⟨_,rfl⟩;subst hwa;clear HF2 HO0 x0 x1;obtain⟨x0,x1⟩:=box_cells (HFC.out.box i0)
  -- MARK3
  go_wp2_with (refine wpList_load_row rfl _ _ rfl B0 rfl _ _ _ _ (HFC.out.box i1) Tryz.underlying26 rfl (by kernel_rfl) ?_)
  -- MARK4
  by_cases hru:ruleE r=0
  ·by_cases hbad: ¬(r.mode==3)=ideal∨nodes<1∨8<nodes
   ·have HB:=Hd hbad
    have HRU:=Hd hru;have HFN:Hid (Fr (O:=fun _=>False) [] (fun _=>False) w3 w3):=Fr.nil _ _ fun _ h=>h.elim;refine(scNew_args HFN.out op ideal _ HO.out r hru nodes seed hbad).mono ?_;rintro e w4 ⟨rfl,hb4⟩;have HF4:=Hd (HFC.out.keepB hb4);clear hb4 HFC HO x0 x1 hbad HFN;obtain⟨x0,x1⟩:=box_cells (HF4.out.box i0);obtain⟨y0,y1⟩:=box_cells (HF4.out.box i1);clear hru;go_wp2_with (refine wpList_load_row rfl _ _ rfl B0 rfl _ _ _ _ (HF4.out.box i1) Tryz.underlying26 rfl (by kernel_rfl) ?_)
    refine(refRules_any _ _ _ _ _ _ _ _ _ w4).mono ?_;rintro e w5 ⟨rfl,hb5⟩;rw [show rulesE r.mode r.depth r.bl r.bu r.qu r.rew r.win r.fin r.work=0 from HRU.out];have HF5:=Hd (HF4.out.keepB hb5);clear hb5 HF4 x0 x1 y0 y1;obtain⟨x0,x1⟩:=box_cells (HF5.out.box i0);obtain⟨y0,y1⟩:=box_cells (HF5.out.box i1)
    -- MARK5
    obtain⟨b3,hb3⟩: ∃b,(r.mode==3)=b:=⟨_,rfl⟩;by_cases e1:b3=ideal
    ·subst e1
     have e3: ¬(¬(r.mode==3)=b3):=fun h=>h hb3;have hnn:nodes<1∨8<nodes:=HB.out.resolve_left e3;by_cases h1:nodes<1
     ·cases b3<;>(go_wp2_with fail;go_ret;exact⟨rfl,HF5.out.below⟩)
     ·have h8:8<nodes:=hnn.resolve_left h1
      have h1':1≤nodes:=by omega
      cases b3<;>(go_wp2_with fail;go_ret;exact⟨rfl,HF5.out.below⟩)
    ·cases b3<;>cases ideal<;>first
      |exact absurd rfl e1
      |(go_wp2_with fail;go_ret;exact⟨rfl,HF5.out.below⟩)
   ·obtain⟨N,rfl⟩: ∃N:Nat,nodes=N:=Int.eq_ofNat_of_zero_le (by omega)
    have h1:1≤N:=(by omega);have h8:N≤8:=(by omega);have him:(r.mode==3)=ideal:=Decidable.byContradiction fun h=>hbad (.inl h);have HIM:=Hd him;have HRU:=Hd hru;have HST:Hid (ideal=false→(if ideal=true then seed else 0)=0):=fun h=>(by rw [h];rfl);have HOO:Hid (r.mode=2→OrIn (fun j=>j<w3.heap.size) op w3):=fun h=>by
     have hi:ideal=false:=(by rw [←him,h];rfl);have h0:=HO.out;rw [hi]at h0;exact OrIn.of_at h0 _ (Nat.le_refl _)
    have HDE:Hid (1≤r.depth∧r.depth≤12):=rules_depth hru;have HFN:Hid (Fr (O:=fun j=>j<w3.heap.size) [] (fun _=>False) w3 w3):=Fr.nil _ _ fun _ h=>⟨h,fun h=>h⟩;have HX0:=Hd (HFC.out.box i1);have HX1:=Hd (HFC.out.box i0);refine(scNew_any HFN.out op ideal _ HO.out HST.out r HOO.out HRW.out hru him N h1 h8 seed HS.out).mono ?_;rintro e w4 ⟨p,np,ps,na,nc,rfl,hlen,hf4⟩;have HF4:=Hd hf4;have HLE:=Hd hlen;clear hf4 hbad him x0 x1 HFN hru hlen;have e2:(ideal != ideal)=false:=(by cases ideal<;>rfl);have d1:((N:Int)<1)=False:=(by simp;omega);have d2:(8<(N:Int))=False:=(by simp;omega);go_wp2_with (refine wpList_load_row rfl _ _ rfl B0 rfl _ _ _ _ (box_kept HF4.out.conK HX0.out (box_lt HX0.out)) Tryz.underlying26 rfl (by kernel_rfl) ?_)
    refine(refRules_any _ _ _ _ _ _ _ _ _ w4).mono ?_;rintro e w5 ⟨rfl,hb5⟩;rw [show rulesE r.mode r.depth r.bl r.bu r.qu r.rew r.win r.fin r.work=0 from HRU.out];have HF5:=Hd (HF4.out.keepB hb5);clear hb5 HF4;obtain⟨x0,x1⟩:=box_cells (box_kept HF5.out.conK HX1.out (box_lt HX1.out));obtain⟨y0,y1⟩:=box_cells (box_kept HF5.out.conK HX0.out (box_lt HX0.out));have him:=HIM.out
    -- MARK6
    go_upto_region 9 with(fail);clear x0 x1 y0 y1 e2 d1 d2 him;have x0:=box_regrown (HF5.out.box i0);have hnt:NetAt (fun k=>(False∨w3.heap.size≤k)∧k<w5.heap.size) w5 np (ps.length:Int) []:=HF5.out.get i4;have hc: ∀(d:Nat) (os:Array Obj),Calls Tryz.prog 9 #[.pointer (some ⟨np,0,none⟩)] (grow (redrawn w5 d) os) fun e w'=>e= .returned (.int .i64 0)∧Below (grow (redrawn w5 d) os).heap.size (grow (redrawn w5 d) os) w':=fun d os=>
     (netLen_any _ _ np _ [] (hnt.keep (Kept.of_below (below_regrown w5 d os)))).mono fun _ _ h=>⟨h.1,by rw [←h.2];exact Below.refl _ _⟩
    rw [HLE.out]at x0;have hpq: ∀W:World,(binOp BinOp.neq 30 (.pointer (some ⟨op,0,none⟩)) (.pointer (some ⟨op,0,none⟩))).run Tryz.prog W= .ok (.bool false) W:=ptr_same op
    -- MARK8
    refine wp_region_quiet_below (by kernel_rfl) (by kernel_rfl) ?_
    repeat (first|go_big_quiet_step (exact Calls.regrown_of (hc _ _))|quiet_step (exact Calls.regrown_of (hc _ _)))
    -- MARKQ
    refine wpQuiet_nil ?_;intro w6 hw';obtain⟨⟨dq,osq⟩,hw''⟩:=hw';have hbw6:=below_regrown w5 dq osq;rw [←hw'']at hbw6;clear hw'' x0 hc hnt hpq;have HF6:=Hd (HF5.out.keepB hbw6);clear hbw6 HF5;obtain⟨x0,x1⟩:=box_cells (HF6.out.box i0);rw [HLE.out]at x0
    -- MARK9
    go_wp2_with fail;go_loopw [113] (fun v113 wr=> ∃k:Nat,k≤N∧v113= .int .i64 k∧Hid (Fr (O:=fun j=>j<w3.heap.size) (scL p op (seed % 18446744069414584321) ps [] [] [] ⟨na,nc,np,none,0,none,0⟩ [listA (nsA op r N (seed % 18446744069414584321) 0 ps)]) (fun _=>False) w3 wr)) (fun v113 _=>N-(intOf v113).toNat)
    case atStart=>exact⟨0,Nat.zero_le _,rfl,HF6⟩
    case round=>
     clear HF6 x0 x1;obtain⟨k,hk,rfl,HFR⟩:=hrel;by_cases hlt:k<N
     ·have hkp:k<ps.length:=by rw [HLE.out];exact hlt
      obtain⟨bn,on,hna,hcn,hbn⟩:=HFR.out.ptrAt i1 rfl k hkp;subst hna
      -- MARKL
      go_upto_region 14 with(fail);clear hcn;have HFwg00:=Hd (HFR.out.drew);have hS0:Hid ((Held [(B0,#[.int .i64 r.mode,.int .i64 r.depth,.int .i64 r.bl,.int .i64 r.bu,.int .i64 r.qu,.int .u64 r.rew,.int .i64 r.win,.int .i64 r.fin,.int .u64 r.work],26),(B1,#[.int .u64 seed,.bool ideal],28)] []) wr.drew):=Held.keepB (⟨⟨box_kept HFR.out.conK HX0.out (box_lt HX0.out),box_kept HFR.out.conK HX1.out (box_lt HX1.out),trivial⟩,trivial⟩) (Below.refl _ _).drew;refine wp_region_held_drew (S:=(Held [(B0,#[.int .i64 r.mode,.int .i64 r.depth,.int .i64 r.bl,.int .i64 r.bu,.int .i64 r.qu,.int .u64 r.rew,.int .i64 r.win,.int .i64 r.fin,.int .u64 r.work],26),(B1,#[.int .u64 seed,.bool ideal],28)] [])) (by kernel_rfl) hS0.out (fun hHeld=> ?_);obtain⟨wg0,hwd⟩: ∃x,wr.drew=x:=⟨_,rfl⟩;rw [hwd]at hHeld HFwg00⊢;have HFwg0:=HFwg00;clear hwd HFwg00 hS0;go_simp;refine tkV 0 rfl (fun wz hSz=>by go_simp;all_goals with_reducible rfl) ?_;go_simp;refine tkY 1 rfl (yieldsIf_load_mid (by rfl) _ _ rfl (B0) 0 rfl [.int .i64 r.mode,.int .i64 r.depth,.int .i64 r.bl,.int .i64 r.bu,.int .i64 r.qu,.int .u64 r.rew,.int .i64 r.win,.int .i64 r.fin,.int .u64 r.work] _ (fun wz hSz=>range_box hSz.b.1) Tryz.underlying26 rfl (by kernel_rfl)) ?_;go_simp;refine tkV 2 rfl (fun wz hSz=>by go_simp;all_goals with_reducible rfl) ?_;go_simp;refine tkV 3 rfl (fun wz hSz=>by go_simp;all_goals with_reducible rfl) ?_;go_simp;refine tkV 4 rfl (fun wz hSz=>by have cx:=(box_cells hSz.b.2.1).1;go_simp;all_goals with_reducible rfl) ?_;go_simp;refine tkV 5 rfl (fun wz hSz=>by go_simp;all_goals with_reducible rfl) ?_;go_simp;refine tkV 7 rfl (fun wz hSz=>by go_simp;all_goals with_reducible rfl) ?_;go_simp;refine rd1 6 rfl (fun K hK=> ?_);go_simp;refine(nodeSeed_any wg0 seed k HS.out (by omega)).mono ?_;rintro E wg1 ⟨rfl,hb⟩;have HFwg1:=Hd (HFwg0.out.keepB hb);clear hHeld hb;refine hK.out _ _ (⟨⟨box_kept HFwg1.out.conK HX0.out (box_lt HX0.out),box_kept HFwg1.out.conK HX1.out (box_lt HX1.out),trivial⟩,trivial⟩) (fun hHeld=> ?_);clear hK K;go_simp;refine rd1 8 rfl (fun K hK=> ?_);go_simp;refine(nodeNew_any HFwg1.out.start op ideal _ (HO.out.keepB HFwg1.out.below) HST.out r (fun e=>(HOO.out e).keep HFwg1.out.conK fun _ h=>h) HRW.out HRU.out HIM.out k N hlt (by omega) (hashS 8 [(seed % 18446744069414584321),(k:Int)]) (hashS_ok _ _)).mono ?_;rintro E wg2 ⟨q,rfl,hf3⟩;have HFwg2:=Hd (HFwg1.out.join hf3);clear hHeld hf3;refine hK.out _ _ (⟨⟨box_kept HFwg2.out.conK HX0.out (box_lt HX0.out),box_kept HFwg2.out.conK HX1.out (box_lt HX1.out),trivial⟩,trivial⟩) (fun hHeld=> ?_);clear hK K;go_simp;refine tkV 9 rfl (fun wz hSz=>by go_simp;all_goals with_reducible rfl) ?_;go_simp;refine tkV 10 rfl (fun wz hSz=>by go_simp;all_goals with_reducible rfl) ?_;go_simp;refine tkV 11 rfl (fun wz hSz=>by go_simp;all_goals with_reducible rfl) ?_;go_simp;refine tkV 12 rfl (fun wz hSz=>by go_simp;all_goals with_reducible rfl) ?_;go_simp;refine tkV 13 rfl (fun wz hSz=>by go_simp;all_goals with_reducible rfl) ?_;go_simp;clear hHeld;refine wpAnyH_done (by kernel_rfl) ?_ _;have HFK:=HFwg2;obtain⟨wK,hwk⟩: ∃z,wg2=z:=⟨_,rfl⟩;rw [hwk]at HFK⊢;clear hwk HFwg2
      -- MARKT
      obtain⟨Fq,y,HBq,HWq⟩:=nd_look (HFK.out.get i0);obtain⟨Fk,z,HBk,HWk⟩:=ns_look (ps:=ps) (HFK.out.get i6) k (by omega);have HBQ:=Hd HBq;have HWQ:=Hd HWq;have HBN:=Hd HBk;have HWN:=Hd HWk;clear HBq HWq HBk HWk;have HFR2:=Hd (HFK.out.drop i0);clear HFK;go_upto_region 15 with(fail);have HFz:Hid (Fr (O:=fun j=>j<wK.heap.size) [] (fun _=>False) wK wK):=Fr.nil _ _ fun _ h=>⟨h,fun h=>h⟩;have HFwh00:=Hd (HFz.out.drew);have hS0:Hid ((Held [] []) wK.drew):=Held.keepB (⟨trivial,trivial⟩) (Below.refl _ _).drew;refine wp_region_held_drew (S:=(Held [] [])) (by kernel_rfl) hS0.out (fun hHeld=> ?_);obtain⟨wh0,hwd⟩: ∃x,wK.drew=x:=⟨_,rfl⟩;rw [hwd]at hHeld HFwh00⊢;have HFwh0:=HFwh00;clear hwd HFwh00 hS0;go_simp;refine tkV 0 rfl (fun wz hSz=>by go_simp;all_goals with_reducible rfl) ?_;go_simp;refine tkV 1 rfl (fun wz hSz=>by go_simp;all_goals with_reducible rfl) ?_;go_simp;refine tkV 2 rfl (fun wz hSz=>by go_simp;all_goals with_reducible rfl) ?_;go_simp;refine tkV 3 rfl (fun wz hSz=>by go_simp;all_goals with_reducible rfl) ?_;go_simp;refine tkV 4 rfl (fun wz hSz=>by go_simp;all_goals with_reducible rfl) ?_;go_simp;refine tkV 5 rfl (fun wz hSz=>by go_simp;all_goals with_reducible rfl) ?_;go_simp;refine tkV 6 rfl (fun wz hSz=>by go_simp;all_goals with_reducible rfl) ?_;go_simp;refine tkV 7 rfl (fun wz hSz=>by go_simp;all_goals with_reducible rfl) ?_;go_simp;refine tkV 8 rfl (fun wz hSz=>by go_simp;all_goals with_reducible rfl) ?_;go_simp;refine tkV 9 rfl (fun wz hSz=>by go_simp;all_goals with_reducible rfl) ?_;go_simp;refine tkV 10 rfl (fun wz hSz=>by go_simp;all_goals with_reducible rfl) ?_;go_simp;refine tkV 11 rfl (fun wz hSz=>by go_simp;all_goals with_reducible rfl) ?_;go_simp;refine tkV 15 rfl (fun wz hSz=>by go_simp;all_goals with_reducible rfl) ?_;go_simp;refine rd1 12 rfl (fun K hK=> ?_);go_simp;refine(ndWallet_any wh0 (box_after HFwh0.out.below HBN.out)).mono ?_;rintro E wg101 ⟨rfl,hb⟩;have HFwg101:=Hd (HFwh0.out.keepB hb);have HCwg101:=Hd hb;clear hHeld hb;refine hK.out _ _ (⟨trivial,trivial⟩) (fun hHeld=> ?_);clear hK K;go_simp;refine rd1 13 rfl (fun K hK=> ?_);go_simp;refine(walEncode_any wg101 (Asn.keep _ HWN.out (Kept.of_below HFwg101.out.below)) HDE.out).mono ?_;rintro E wg102 ⟨awg102,cwg102,rfl,hv,hb⟩;have HVwg102:=Hd hv;have HFwg102:=Hd (HFwg101.out.keepB hb);have HCwg102:=Hd hb;clear hHeld hb hv;refine hK.out _ _ (⟨trivial,trivial⟩) (fun hHeld=> ?_);clear hK K;go_simp;refine rd2 14 16 rfl rfl (fun K hK=> ?_) (fun K hK=> ?_)
      ·skip
       have hcv:=conv_str (bytesR.keepB HVwg102.out (Below.refl _ _));go_simp;have hS2:=Hd hHeld;clear hHeld hcv;refine hK.out _ _ hS2.out (fun hHeld=> ?_);clear hK K hS2;go_simp;refine rd1 16 rfl (fun K hK=> ?_);go_simp;refine(ndWallet_any wg102 (box_after HFwg102.out.below HBQ.out)).mono ?_;rintro E wg104 ⟨rfl,hb⟩;have HFwg104:=Hd (HFwg102.out.keepB hb);have HCwg104:=Hd hb;clear hHeld hb;refine hK.out _ _ (⟨trivial,trivial⟩) (fun hHeld=> ?_);clear hK K;go_simp;refine rd1 17 rfl (fun K hK=> ?_);go_simp;refine(walEncode_any wg104 (Asn.keep _ HWQ.out (Kept.of_below HFwg104.out.below)) HDE.out).mono ?_;rintro E wg105 ⟨awg105,cwg105,rfl,hv,hb⟩;have HVwg105:=Hd hv;have HFwg105:=Hd (HFwg104.out.keepB hb);have HCwg105:=Hd hb;clear hHeld hb hv;refine hK.out _ _ (⟨trivial,trivial⟩) (fun hHeld=> ?_);clear hK K;go_simp;refine rd1 18 rfl (fun K hK=> ?_);have hcv:=conv_str (bytesR.keepB HVwg105.out (Below.refl _ _));go_simp;have hS2:=Hd hHeld;clear hHeld hcv;refine hK.out _ _ hS2.out (fun hHeld=> ?_);clear hK K hS2;go_simp;refine tkV 19 rfl (fun wz hSz=>by go_simp;all_goals with_reducible rfl) ?_;go_simp;refine tkV 20 rfl (fun wz hSz=>by go_simp;all_goals with_reducible rfl) ?_;go_simp;clear hHeld;refine wpAnyH_done (by kernel_rfl) ?_ _;have hse:=str_self (strOfNums wal0B);have HFE:=Hd (HFR2.out.keepB HFwg105.out.below)
       -- MARKU
       go_wp2_with fail;go_roundw
       case rel=>exact⟨k+1,by omega,by go_num,HFE⟩
       case measure=>
        show N-((k:Int)+1).toNat<N-(k:Int).toNat
        omega
      ·skip
       go_simp;refine(ndWallet_any wg102 (box_after HFwg102.out.below HBQ.out)).mono ?_;rintro E wg107 ⟨rfl,hb⟩;have HFwg107:=Hd (HFwg102.out.keepB hb);have HCwg107:=Hd hb;clear hHeld hb;refine hK.out _ _ (⟨trivial,trivial⟩) (fun hHeld=> ?_);clear hK K;go_simp;refine rd2 14 17 rfl rfl (fun K hK=> ?_) (fun K hK=> ?_)
       ·skip
        have hcv:=conv_str (bytesR.keepB HVwg102.out (HCwg107.out));go_simp;have hS2:=Hd hHeld;clear hHeld hcv;refine hK.out _ _ hS2.out (fun hHeld=> ?_);clear hK K hS2;go_simp;refine rd1 17 rfl (fun K hK=> ?_);go_simp;refine(walEncode_any wg107 (Asn.keep _ HWQ.out (Kept.of_below HFwg107.out.below)) HDE.out).mono ?_;rintro E wg109 ⟨awg109,cwg109,rfl,hv,hb⟩;have HVwg109:=Hd hv;have HFwg109:=Hd (HFwg107.out.keepB hb);have HCwg109:=Hd hb;clear hHeld hb hv;refine hK.out _ _ (⟨trivial,trivial⟩) (fun hHeld=> ?_);clear hK K;go_simp;refine rd1 18 rfl (fun K hK=> ?_);have hcv:=conv_str (bytesR.keepB HVwg109.out (Below.refl _ _));go_simp;have hS2:=Hd hHeld;clear hHeld hcv;refine hK.out _ _ hS2.out (fun hHeld=> ?_);clear hK K hS2;go_simp;refine tkV 19 rfl (fun wz hSz=>by go_simp;all_goals with_reducible rfl) ?_;go_simp;refine tkV 20 rfl (fun wz hSz=>by go_simp;all_goals with_reducible rfl) ?_;go_simp;clear hHeld;refine wpAnyH_done (by kernel_rfl) ?_ _;have hse:=str_self (strOfNums wal0B);have HFE:=Hd (HFR2.out.keepB HFwg109.out.below)
        -- MARKU
        go_wp2_with fail;go_roundw
        case rel=>exact⟨k+1,by omega,by go_num,HFE⟩
        case measure=>
         show N-((k:Int)+1).toNat<N-(k:Int).toNat
         omega
       ·skip
        go_simp;refine(walEncode_any wg107 (Asn.keep _ HWQ.out (Kept.of_below HFwg107.out.below)) HDE.out).mono ?_;rintro E wg111 ⟨awg111,cwg111,rfl,hv,hb⟩;have HVwg111:=Hd hv;have HFwg111:=Hd (HFwg107.out.keepB hb);have HCwg111:=Hd hb;clear hHeld hb hv;refine hK.out _ _ (⟨trivial,trivial⟩) (fun hHeld=> ?_);clear hK K;go_simp;refine rd2 14 18 rfl rfl (fun K hK=> ?_) (fun K hK=> ?_)
        ·skip
         have hcv:=conv_str (bytesR.keepB HVwg102.out (bnext (HCwg107.out) HCwg111.out));go_simp;have hS2:=Hd hHeld;clear hHeld hcv;refine hK.out _ _ hS2.out (fun hHeld=> ?_);clear hK K hS2;go_simp;refine rd1 18 rfl (fun K hK=> ?_);have hcv:=conv_str (bytesR.keepB HVwg111.out (Below.refl _ _));go_simp;have hS2:=Hd hHeld;clear hHeld hcv;refine hK.out _ _ hS2.out (fun hHeld=> ?_);clear hK K hS2;go_simp;refine tkV 19 rfl (fun wz hSz=>by go_simp;all_goals with_reducible rfl) ?_;go_simp;refine tkV 20 rfl (fun wz hSz=>by go_simp;all_goals with_reducible rfl) ?_;go_simp;clear hHeld;refine wpAnyH_done (by kernel_rfl) ?_ _;have hse:=str_self (strOfNums wal0B);have HFE:=Hd (HFR2.out.keepB HFwg111.out.below)
         -- MARKU
         go_wp2_with fail;go_roundw
         case rel=>exact⟨k+1,by omega,by go_num,HFE⟩
         case measure=>
          show N-((k:Int)+1).toNat<N-(k:Int).toNat
          omega
        ·skip
         have hcv:=conv_str (bytesR.keepB HVwg111.out (Below.refl _ _));go_simp;have hS2:=Hd hHeld;clear hHeld hcv;refine hK.out _ _ hS2.out (fun hHeld=> ?_);clear hK K hS2;go_simp;refine rd1 14 rfl (fun K hK=> ?_);have hcv:=conv_str (bytesR.keepB HVwg102.out (bnext (HCwg107.out) HCwg111.out));go_simp;have hS2:=Hd hHeld;clear hHeld hcv;refine hK.out _ _ hS2.out (fun hHeld=> ?_);clear hK K hS2;go_simp;refine tkV 19 rfl (fun wz hSz=>by go_simp;all_goals with_reducible rfl) ?_;go_simp;refine tkV 20 rfl (fun wz hSz=>by go_simp;all_goals with_reducible rfl) ?_;go_simp;clear hHeld;refine wpAnyH_done (by kernel_rfl) ?_ _;have hse:=str_self (strOfNums wal0B);have HFE:=Hd (HFR2.out.keepB HFwg111.out.below)
         -- MARKU
         go_wp2_with fail;go_roundw
         case rel=>exact⟨k+1,by omega,by go_num,HFE⟩
         case measure=>
          show N-((k:Int)+1).toNat<N-(k:Int).toNat
          omega
     ·obtain rfl:k=N:=by omega
      go_wp2_with fail;go_ret;exact⟨rfl,HFC.out.below.trans (HFR.out.below.mono HFC.out.below.size)⟩
  ·have HRU:=Hd (ruleE_one hru)
   have HFN:Hid (Fr (O:=fun _=>False) [] (fun _=>False) w3 w3):=Fr.nil _ _ fun _ h=>h.elim;refine(scNew_rules HFN.out op r hru nodes seed).mono ?_;rintro e w4 ⟨rfl,hb4⟩;rw [HRU.out];have HF4:=Hd (HFC.out.keepB hb4);clear hb4 HFC HO x0 x1 HFN hru;go_wp2_with (refine wpList_load_row rfl _ _ rfl B0 rfl _ _ _ _ (HF4.out.box i1) Tryz.underlying26 rfl (by kernel_rfl) ?_)
   refine(refRules_any _ _ _ _ _ _ _ _ _ w4).mono ?_;rintro e w5 ⟨rfl,hb5⟩;rw [show rulesE r.mode r.depth r.bl r.bu r.qu r.rew r.win r.fin r.work=1 from HRU.out];have HF5:=Hd (HF4.out.keepB hb5);clear hb5 HF4
   -- MARK7
   go_wp2_with fail;go_ret;exact⟨rfl,HF5.out.below⟩
end Go.Proofs.YtphacfkcifpobaaGreatDoor

/- The sponge at the big prime: absorb, Hash. -/
import Derived.Test.YtjknlhiimmbilaaGreatDoorMFld
import Derived.Deep.Cut
import Derived.Deep.CutRange
import Derived.Test.YtjknlhiimmbilaaGreatDoorMKit
import Derived.Test.YtjknlhiimmbilaaGreatDoorMRd
import Derived.Laws.BytesArg
import Derived.MapKept
set_option maxRecDepth 100000
set_option maxHeartbeats 4000000
namespace Go.Proofs.YtjknlhiimmbilaaGreatDoor
open Go.ChangeShapes Go.WideShapes Go.ChangeAt Go.RowKit Go.Sort
def AbsAt (w:World)(q:Nat)(s:T3)(wr:World):Prop:=
 Below w.heap.size w wr∧wr.heap[w.heap.size]? =some (.cells #[.int .u64 0,.int .u64 0,.int .u64 0] 205 (0,0))∧wr.heap[w.heap.size+1]? =some (.cells #[.int .u64 18446744069414584321] 219 (0,0))∧
   wr.heap[q]? =some (.cells #[.int .u64 s.1,.int .u64 s.2.1,.int .u64 s.2.2] 205 (0,0))∧w.heap.size+1<q
theorem AbsAt.next {w w1 w2:World}{q:Nat}{s:T3}(h:AbsAt w q s w1)(hb:Below w1.heap.size w1 w2):AbsAt w q s w2:=
 ⟨bnext h.1 hb,box_after hb h.2.1,box_after hb h.2.2.1,box_after hb h.2.2.2.1,h.2.2.2.2⟩
theorem AbsAt.store {w wr:World}{q:Nat}{s:T3}(h:AbsAt w q s wr)(t:T3):AbsAt w q t (((wr.setCell ⟨q,0,none⟩ (.int .u64 t.1)).setCell ⟨q,1,none⟩ (.int .u64 t.2.1)).setCell ⟨q,2,none⟩ (.int .u64 t.2.2)):=by
 obtain⟨h1,h2,h3,h4,h5⟩:=h
 have e0:w.heap.size≠q:=by omega
 have e1:w.heap.size+1≠q:=by omega
 have hq:w.heap.size≤q:=by omega
 exact⟨((h1.setCell hq _).setCell hq _).setCell hq _,box_set_far (box_set_far (box_set_far h2 e0) e0) e0,box_set_far (box_set_far (box_set_far h3 e1) e1) e1,box_set (box_set (box_set h4)),h5⟩
theorem AbsAt.one {w wr:World}{q:Nat}{s t:T3}(h:AbsAt w q s wr)(i:Nat)(v:Value)(ht:(#[.int .u64 s.1,.int .u64 s.2.1,.int .u64 s.2.2]:Array Value).setIfInBounds i v= #[.int .u64 t.1,.int .u64 t.2.1,.int .u64 t.2.2]):AbsAt w q t (wr.setCell ⟨q,i,none⟩ v):=by
 obtain⟨h1,h2,h3,h4,h5⟩:=h
 have e0:w.heap.size≠q:=by omega
 have e1:w.heap.size+1≠q:=by omega
 exact⟨h1.setCell (by show w.heap.size≤q;omega) _,box_set_far h2 e0,box_set_far h3 e1,ht▸box_set h4,h5⟩
theorem AbsAt.start {w wq:World} {a b:Obj} {v0 v1 v2:Int} (ha:a= .cells #[.int .u64 0,.int .u64 0,.int .u64 0] 205) (hb:b= .cells #[.int .u64 18446744069414584321] 219)
   (h:Below ((w.alloc a).alloc b).heap.size ((w.alloc a).alloc b) wq):AbsAt w wq.heap.size (v0,v1,v2) (wq.alloc (.cells #[.int .u64 v0,.int .u64 v1,.int .u64 v2] 205)):=by
 subst ha hb;have e1:(w.alloc (.cells #[.int .u64 0,.int .u64 0,.int .u64 0] 205)).heap.size=w.heap.size+1:=World.size_alloc ..;have q1:=box_old (o':= .cells #[.int .u64 18446744069414584321] 219) (box_new w (.cells #[.int .u64 0,.int .u64 0,.int .u64 0] 205));have q2:=box_new (w.alloc (.cells #[.int .u64 0,.int .u64 0,.int .u64 0] 205)) (.cells #[.int .u64 18446744069414584321] 219);rw [e1]at q2;have hz:=h.size;rw [World.size_alloc,e1]at hz
 exact⟨bnew (bnext (bnew (bnew (Below.refl _ _) _) _) h) _,box_old (box_after h q1),box_old (box_after h q2),box_new _ _,by omega⟩
abbrev AbsS (w w':World):Prop:=
 Below w.heap.size w w'∧w.heap.size+1<w'.heap.size∧(∀o,w'.cell? ⟨w.heap.size+1,o,none⟩=(#[.int .u64 18446744069414584321]:Array Value)[o]?)∧
   w'.heap[w.heap.size]? =some (.cells #[.int .u64 0,.int .u64 0,.int .u64 0] 205 (0,0))∧w'.heap[w.heap.size+1]? =some (.cells #[.int .u64 18446744069414584321] 219 (0,0))
theorem AbsS.of {w w':World}(h1:Below w.heap.size w w')(h2:w'.heap[w.heap.size]? =some (.cells #[.int .u64 0,.int .u64 0,.int .u64 0] 205 (0,0)))(h3:w'.heap[w.heap.size+1]? =some (.cells #[.int .u64 18446744069414584321] 219 (0,0))):AbsS w w':=
 ⟨h1,box_lt h3,(box_cells h3).1,h2,h3⟩
theorem AbsS.start (w:World):AbsS w ((w.alloc (.cells #[.int .u64 0,.int .u64 0,.int .u64 0] 205)).alloc (.cells #[.int .u64 18446744069414584321] 219)):=by
 have e1:(w.alloc (.cells #[.int .u64 0,.int .u64 0,.int .u64 0] 205)).heap.size=w.heap.size+1:=World.size_alloc ..;have q1:=box_old (o':= .cells #[.int .u64 18446744069414584321] 219) (box_new w (.cells #[.int .u64 0,.int .u64 0,.int .u64 0] 205));have q2:=box_new (w.alloc (.cells #[.int .u64 0,.int .u64 0,.int .u64 0] 205)) (.cells #[.int .u64 18446744069414584321] 219);rw [e1]at q2
 exact AbsS.of (bnew (bnew (Below.refl _ _) _) _) q1 q2
theorem AbsS.drew {w w':World}(h:AbsS w w'):AbsS w w'.drew:=⟨h.1.drew,h.2.1,h.2.2.1,h.2.2.2.1,h.2.2.2.2⟩
theorem AbsS.next {w w1 w2:World}(h:AbsS w w1)(hb:Below w1.heap.size w1 w2):AbsS w w2:=AbsS.of (bnext h.1 hb) (box_after hb h.2.2.2.1) (box_after hb h.2.2.2.2)
theorem AbsS.alloc {w w1:World}(h:AbsS w w1)(o:Obj):AbsS w (w1.alloc o):=h.next (bnew (Below.refl _ _) o)
theorem AbsS.store {w w1:World}(h:AbsS w w1){q:Nat}(hq:w.heap.size+1<q)(x y z:Value):AbsS w (((w1.setCell ⟨q,0,none⟩ x).setCell ⟨q,1,none⟩ y).setCell ⟨q,2,none⟩ z):=by
 obtain⟨h1,h2,h3,h4,h5⟩:=h
 have e0:w.heap.size≠q:=by omega
 have e1:w.heap.size+1≠q:=by omega
 have hl:w.heap.size≤q:=by omega
 exact AbsS.of (((h1.setCell hl _).setCell hl _).setCell hl _) (box_set_far (box_set_far (box_set_far h4 e0) e0) e0) (box_set_far (box_set_far (box_set_far h5 e1) e1) e1)
theorem absorb_big (label:Int)(hl0:0≤label)(S:Nat→Prop)(w:World)(a:Option Addr)(cap:Nat)(l:List Int)(h:numsR.rel S w [.slice a l.length cap] l)(hlen:l.length≤1000000):
   Calls Tryz.prog 144 #[.int .u64 18446744069414584321,.int .u64 label,.slice a l.length cap] w
     fun e w'=>e= .returned (.agg #[.int .u64 (absorbS label l).1,.int .u64 (absorbS label l).2.1,.int .u64 (absorbS label l).2.2])∧Below w.heap.size w w':=by
 have H:=Hd h;clear h;have m0:=mulP_in label 65536
 have l0:(0:Int)≤l.length:=by omega
 have hwr:IntKind.u64.wrap (l.length:Int)=l.length:=by rw [IntKind.wrap_u64];omega
 have hst:=AbsS.start w
 go_enter Tryz.func144,Tryz.ntmps144
 go_wp2_with fail
 go_cut [8]from 10 (fun v8 wc=> ∃q,v8= .pointer (some ⟨q,0,none⟩)∧AbsAt w q (absStart label l.length) wc)
 case first=>
   generalize (w.alloc (.cells #[.int .u64 0,.int .u64 0,.int .u64 0] 205)).alloc (.cells #[.int .u64 18446744069414584321] 219)=W at hst⊢;have hzW:=hst.2.1;have HST:=Hd hst;clear hst
   go_region_held3 (fun w'=>Below w.heap.size w w'∧w.heap.size+1<w'.heap.size∧(∀o,w'.cell? ⟨w.heap.size+1,o,none⟩=(#[.int .u64 18446744069414584321]:Array Value)[o]?)∧
   w'.heap[w.heap.size]? =some (.cells #[.int .u64 0,.int .u64 0,.int .u64 0] 205 (0,0))∧w'.heap[w.heap.size+1]? =some (.cells #[.int .u64 18446744069414584321] 219 (0,0)))
     (first
       |with_reducible exact AbsS.drew HST.out
       |with_reducible exact HMM.out
       |with_reducible exact HMA.out
       |with_reducible exact AbsS.alloc HMA.out _
       |with_reducible exact AbsS.alloc HMM.out _
       |with_reducible exact AbsS.drew (AbsS.alloc HST.out _)
       |with_reducible exact AbsS.store HMA.out hzW _ _ _
       |with_reducible exact AbsS.store HMA.out hzM _ _ _)
     (first
       |(go_at_call 185;refine(Mul_big label 65536 hl0 (by omega) _).mono ?_;rintro e w2 ⟨rfl,hbM⟩
         have HMM:=Hd (AbsS.next (‹Below w.heap.size w _∧_<_∧_› :AbsS w _) hbM);have hzM:=HMM.out.2.1)
       |(go_at_call_of 184 (Value.int IntKind.u64 (l.length:Int));refine(Add_big (mulP label 65536) l.length m0.1 l0 _).mono ?_;rintro e w3 ⟨rfl,hbA⟩
         have HMA:=Hd (AbsS.next (‹Below w.heap.size w _∧_<_∧_› :AbsS w _) hbA)
         first
           |(have hqA:w3.heap[W.heap.size]? =_:=box_after hbA (box_after hbM (box_new W (.cells #[.int .u64 0,.int .u64 0,.int .u64 0] 205)));obtain⟨k0,k1⟩:=box_cells hqA;have HQ:=Hd hqA;clear hqA)
           |(have hqA:w3.heap[w2.heap.size]? =_:=box_after hbA (box_new w2 _);obtain⟨k0,k1⟩:=box_cells hqA;have HQ:=Hd hqA;clear hqA)
           |have hzA:=HMA.out.2.1))
   · go_wp2_with fail
     go_meet
     case rel=>exact⟨w3.heap.size,rfl,HMA.out.1.new _,box_old HMA.out.2.2.2.1,box_old HMA.out.2.2.2.2,box_new _ _,hzA⟩
   · have hh:=AbsS.store HMA.out hzM (.int .u64 0) (.int .u64 0) (.int .u64 (addP (mulP label 65536) l.length))
     have HN:=Hd hh;clear hh;go_wp2_with fail
     go_meet
     case rel=>exact⟨w2.heap.size,rfl,HN.out.1,HN.out.2.2.2.1,HN.out.2.2.2.2,box_set (box_set (box_set HQ.out)),hzM⟩
   · have hh:=AbsS.store HMA.out hzW (.int .u64 0) (.int .u64 0) (.int .u64 (addP (mulP label 65536) l.length))
     have HN:=Hd hh;clear hh;go_wp2_with fail
     go_meet
     case rel=>exact⟨W.heap.size,rfl,HN.out.1,HN.out.2.2.2.1,HN.out.2.2.2.2,box_set (box_set (box_set HQ.out)),hzW⟩
 case rest=>
   obtain⟨q,rfl,hq⟩:=hcut;clear hst m0 l0 hwr;have HSW:=Hd (absStart_words label l.length);have HQ:=Hd hq;obtain⟨x0,x1⟩:=box_cells hq.2.2.2.1;clear hq
   by_cases hl0':l.length=0
   · have HR:Hid (absorbS label l=permS (absStart label l.length)):=by show _=_;unfold absorbS;rw [if_pos hl0',hl0']
     generalize absStart label l.length=s at*;go_wp2_with fail
     refine(permute_big s HSW.out _).mono ?_
     rintro e w3 ⟨rfl,hb3⟩;have h3:=HQ.out.next hb3;have HB:=Hd h3.1;obtain⟨y0,y1⟩:=box_cells h3.2.1;clear h3;generalize permS s=t at*;obtain⟨r0,r1,r2⟩:=read3 (x:= .int .u64 t.1) (y:= .int .u64 t.2.1) (z:= .int .u64 t.2.2) (y0 0) (y0 1) (y0 2);go_wp2_with fail
     refine bodyPost_ret (v:= .agg #[.int .u64 t.1,.int .u64 t.2.1,.int .u64 t.2.2]) (by simp [results,Tryz.results144,go_sem,r0,r1,r2]) rfl ⟨by rw [HR.out],?_⟩
     exact((HB.out.setCell (Nat.le_refl _) _).setCell (Nat.le_refl _) _).setCell (Nat.le_refl _) _
   · have HT:Hid (absorbS label l=absLoop (absStart label l.length) l):=by show _=_;unfold absorbS;rw [if_neg hl0']
     generalize absStart label l.length=s0 at*;clear x0 x1
     have hne:((l.length:Int)==0)=false:=by rw [beq_eq_false_iff_ne];omega
     go_wp2_with fail
     go_loopw [9] (fun vi wr=> ∃(i:Nat) (s:T3),i≤l.length+1∧vi= .int .i64 i∧Words3 s∧AbsAt w q s wr∧Hid (absLoop s (l.drop i)=absLoop s0 l)) (fun vi _=>l.length+2-(intOf vi).toNat)
     case atStart=>exact⟨0,s0,by omega,rfl,HSW.out,HQ.out,rfl⟩
     case round=>
       obtain⟨i,s,hi,rfl,hws,hat,hinv⟩:=hrel
       by_cases hlt:i<l.length
       · obtain⟨b,off,rfl,hbl,e0,en,hc⟩:=nums_at H.out i hlt
         have sn:0≤s.1:=by unfold Words3 at hws;omega
         have sm:0≤s.2.1:=by unfold Words3 at hws;omega
         have i0:(0:Int)≤(i:Int):=by omega
         have i1:(i:Int)<(l.length:Int):=by omega
         have sa:=addP_word s.1 l[i]
         by_cases hlt2:i+1<l.length
         · have HS:=Hd (absLoop_two s l i hlt2)
           obtain⟨b2,off2,hbo,hbl2,f0,fn,hc2⟩:=nums_at H.out (i+1) hlt2
           simp at hbo
           obtain⟨rfl,rfl⟩:=hbo;have HC2:=Hd hc2;clear hc2
           have i2:(i:Int)+1<(l.length:Int):=by omega
           have i3:(0:Int)≤(i:Int)+1:=by omega
           have i4:((i:Int)+1).toNat=i+1:=by omega
           have hw1:IntKind.i64.wrap ((i:Int)+1)=(i:Int)+1:=by rw [IntKind.wrap_i64];omega
           have sb:=addP_word s.2.1 l[i+1];generalize l[i]=m at*;generalize l[i+1]=m2 at*
           have HI:Hid (absLoop (permS (addP s.1 m,addP s.2.1 m2,s.2.2)) (l.drop (i+2))=absLoop s0 l):=by show _=_;rw [←HS.out,hinv.out]
           have NW:Hid (Words3 (addP s.1 m,addP s.2.1 m2,s.2.2)):=by unfold Words3 at hws;exact⟨sa,sb,hws.2.2⟩
           have HAT:=Hd hat;have hci:=(hat.1.cell (p:=⟨b,off+i,none⟩) hbl).trans hc;have x0:=box_regrown hat.2.2.1;have y0:=box_regrown hat.2.2.2.1;have z0:=cell_in hci;clear hat hci;go_wp2_with fail
           refine wp_region_quiet_tail 9 (by kernel_rfl) (by kernel_rfl) ?_
           simp only [List.take_succ_cons,List.take_zero,List.drop_succ_cons,List.drop_zero]
           repeat (first|go_big_quiet_step (exact Calls.regrown_of (Add_big s.1 m sn e0 _))|quiet_step (exact Calls.regrown_of (Add_big s.1 m sn e0 _)))
           refine wpQuiet_nil ?_
           intro wq hw'
           obtain⟨⟨dq,osq⟩,hw''⟩:=hw';have hbq:=below_regrown wr dq osq;rw [←hw'']at hbq;clear hw'' x0 y0 z0;have p1:=HAT.out.next hbq;obtain⟨c0,c1⟩:=box_cells p1.2.2.2.1;have P2:=Hd (AbsAt.one (t:=(addP s.1 m,s.2.1,s.2.2)) p1 0 (.int .u64 (addP s.1 m)) rfl);clear p1;go_wp2_with fail;generalize wq.setCell ⟨q,0,none⟩ (.int .u64 (addP s.1 m))=wx at P2⊢;clear c0 c1;have hcx:=(P2.out.1.cell (p:=⟨b,off+(i+1),none⟩) hbl2).trans HC2.out;have x0:=box_regrown P2.out.2.2.1;have y0:=box_regrown P2.out.2.2.2.1;have z0:=cell_in hcx;clear hcx
           refine wp_region_quiet_tail 10 (by kernel_rfl) (by kernel_rfl) ?_
           simp only [List.take_succ_cons,List.take_zero,List.drop_succ_cons,List.drop_zero]
           repeat (first|go_big_quiet_step (exact Calls.regrown_of (Add_big s.2.1 m2 sm f0 _))|quiet_step (exact Calls.regrown_of (Add_big s.2.1 m2 sm f0 _)))
           refine wpQuiet_nil ?_
           intro wq2 hw'
           obtain⟨⟨dq2,osq2⟩,hw''⟩:=hw';have hbq2:=below_regrown wx dq2 osq2;rw [←hw'']at hbq2;clear hw'' x0 y0 z0;have p1:=P2.out.next hbq2;obtain⟨c0,c1⟩:=box_cells p1.2.2.2.1;have PX:=Hd (AbsAt.one (t:=(addP s.1 m,addP s.2.1 m2,s.2.2)) p1 1 (.int .u64 (addP s.2.1 m2)) rfl);clear p1;go_wp2_with fail
           refine(permute_big (addP s.1 m,addP s.2.1 m2,s.2.2) NW.out _).mono ?_
           rintro e w5 ⟨rfl,hb5⟩;have p5:=PX.out.next hb5;clear c0 c1;obtain⟨c0,c1⟩:=box_cells p5.2.2.2.1;have HN:=Hd (AbsAt.store p5 (permS (addP s.1 m,addP s.2.1 m2,s.2.2)));clear p5;go_wp2_with fail
           go_roundw
           case rel=>exact⟨i+2,permS (addP s.1 m,addP s.2.1 m2,s.2.2),by omega,by go_num,permS_words _,HN.out,HI⟩
           case measure=>simp [intOf];omega
         · have HS:=Hd (absLoop_one s l i hlt (by omega))
           generalize l[i]=m at*
           have i2: ¬((i:Int)+1<(l.length:Int)):=by omega
           have HI:Hid (absLoop (permS (addP s.1 m,s.2.1,s.2.2)) (l.drop (i+2))=absLoop s0 l):=by
             show _=_
             rw [←hinv.out,HS.out,List.drop_of_length_le (by omega)];rfl
           have NW:Hid (Words3 (addP s.1 m,s.2.1,s.2.2)):=by unfold Words3 at hws;exact⟨sa,hws.2.1,hws.2.2⟩
           have HAT:=Hd hat;have hci:=(hat.1.cell (p:=⟨b,off+i,none⟩) hbl).trans hc;have x0:=box_regrown hat.2.2.1;have y0:=box_regrown hat.2.2.2.1;have z0:=cell_in hci;clear hat hci;go_wp2_with fail
           refine wp_region_quiet_tail 9 (by kernel_rfl) (by kernel_rfl) ?_
           simp only [List.take_succ_cons,List.take_zero,List.drop_succ_cons,List.drop_zero]
           repeat (first|go_big_quiet_step (exact Calls.regrown_of (Add_big s.1 m sn e0 _))|quiet_step (exact Calls.regrown_of (Add_big s.1 m sn e0 _)))
           refine wpQuiet_nil ?_
           intro wq hw'
           obtain⟨⟨dq,osq⟩,hw''⟩:=hw';have hbq:=below_regrown wr dq osq;rw [←hw'']at hbq;clear hw'' x0 y0 z0;have p1:=HAT.out.next hbq;obtain⟨c0,c1⟩:=box_cells p1.2.2.2.1;have PX:=Hd (AbsAt.one (t:=(addP s.1 m,s.2.1,s.2.2)) p1 0 (.int .u64 (addP s.1 m)) rfl);clear p1;go_wp2_with fail
           refine(permute_big (addP s.1 m,s.2.1,s.2.2) NW.out _).mono ?_
           rintro e w5 ⟨rfl,hb5⟩;have p5:=PX.out.next hb5;clear c0 c1;obtain⟨c0,c1⟩:=box_cells p5.2.2.2.1;have HN:=Hd (AbsAt.store p5 (permS (addP s.1 m,s.2.1,s.2.2)));clear p5;go_wp2_with fail
           go_roundw
           case rel=>exact⟨i+2,permS (addP s.1 m,s.2.1,s.2.2),by omega,by go_num,permS_words _,HN.out,HI⟩
           case measure=>simp [intOf];omega
       · have HE:Hid (absorbS label l=s):=by
           show _=_
           rw [HT.out,←hinv.out,List.drop_of_length_le (by omega)];rfl
         have HB:=Hd hat.1;obtain⟨y0,y1⟩:=box_cells hat.2.1;obtain⟨z0,z1⟩:=box_cells hat.2.2.2.1;clear hat;obtain⟨r0,r1,r2⟩:=read3 (x:= .int .u64 s.1) (y:= .int .u64 s.2.1) (z:= .int .u64 s.2.2) (y0 0) (y0 1) (y0 2);go_wp2_with fail
         refine bodyPost_ret (v:= .agg #[.int .u64 s.1,.int .u64 s.2.1,.int .u64 s.2.2]) (by simp [results,Tryz.results144,go_sem,r0,r1,r2]) rfl ⟨by rw [HE.out],?_⟩
         exact((HB.out.setCell (Nat.le_refl _) _).setCell (Nat.le_refl _) _).setCell (Nat.le_refl _) _
theorem index3 (x y z:Int)(w:World):(Instr.index 205 (.agg #[.int .u64 x,.int .u64 y,.int .u64 z]) (.int .i64 0)).run Tryz.prog w= .ok (.int .u64 x) w:=by
 have hs:(Tryz.prog.info? 24).map (·.size)=some 1:=by kernel_rfl
 obtain⟨i,hi,hz⟩:=Option.map_eq_some_iff.1 hs
 simp [Instr.index,asIntOf,run_underlying Tryz.underlying205,sizeOf,typeInfo,hi,hz,part,go_sem]
theorem Hash_big (label:Int)(hl0:0≤label)(S:Nat→Prop)(w:World)(a:Option Addr)(cap:Nat)(l:List Int)(h:numsR.rel S w [.slice a l.length cap] l)(hlen:l.length≤1000000):
   Calls Tryz.prog 97 #[.int .u64 18446744069414584321,.int .u64 label,.slice a l.length cap] w fun e w'=>e= .returned (.int .u64 (hashS label l))∧Below w.heap.size w w':=by
 have HH:Hid (hashS label l=(absorbS label l).1):=rfl
 go_enter Tryz.func97,Tryz.ntmps97
 go_wp2_with fail
 refine(valid_big _).mono ?_
 rintro e w1 ⟨rfl,hb1⟩;go_wp2_with fail
 refine(absorb_big label hl0 S w1 a cap l (numsR.keepB h hb1) hlen).mono ?_
 rintro e w2 ⟨rfl,hb2⟩;generalize absorbS label l=t at*;have hix:=index3 t.1 t.2.1 t.2.2;go_wp2_with fail;go_ret
 exact⟨ret_int HH.out.symm,bnext hb1 hb2⟩
end Go.Proofs.YtjknlhiimmbilaaGreatDoor
/- The tests of numbers, notes and transactions. -/
set_option maxRecDepth 100000
set_option maxHeartbeats 2000000
namespace Go.Proofs.YtjknlhiimmbilaaGreatDoor
open Go.ChangeShapes Go.WideShapes Go.ChangeAt Go.RowKit
def allUp (p:Nat→Bool):Nat→Bool
 |0=>true
 |k+1=>allUp p k&&p k
theorem allUp_false {p:Nat→Bool}{k:Nat}(hp:p k=false): ∀ {n:Nat},k<n→allUp p n=false
 |0,h=>absurd h (Nat.not_lt_zero _)
 |n+1,h=>by
  unfold allUp
  rcases Nat.lt_or_ge k n with h1|h1
  · rw [allUp_false hp h1];rfl
  · obtain rfl:k=n:=by omega
    rw [hp,Bool.and_false]
theorem allUp_step {p:Nat→Bool}{k:Nat}(h:allUp p k=true)(hp:p k=true):allUp p (k+1)=true:=by
 unfold allUp;rw [h,hp];rfl
def elemB (n:Int):Bool:=decide (n<18446744069414584321)
def elemsB (l:List Int):Bool:=allUp (fun k=>elemB (l.getD k 0)) l.length
theorem getD_at {α:Type}(l:List α)(d:α)(k:Nat)(h:k<l.length):l.getD k d=l[k]:=by simp [h]
theorem nums_new (w:World)(t:TypeId)(l:List Int)(cap:Nat)(hl: ∀x∈l,okU x)(hc:l.length≤cap)(hm:cap≤maxLen):numsR.rel (fun _=>True) (w.alloc (.cells (l.map (Value.int .u64)).toArray t)) [.slice (some ⟨w.heap.size,0,none⟩) l.length cap] l:=by
 refine⟨_,_,_,rfl,rfl,hc,hm,(fun h=>by cases h),fun i x hx=>⟨w.heap.size,0,[.int .u64 x],rfl,trivial,⟨rfl,hl x (List.mem_of_getElem? hx)⟩,fun j c hj=> ?_,by simp⟩⟩
 have hb:=(box_cells (box_new w (.cells (l.map (Value.int .u64)).toArray t))).1;rw [hb]
 match j,hj with
 |0,hj=>
  simp at hj
  subst hj
  simp [intR,hx]
theorem elements_any (S:Nat→Prop)(w:World)(a:Option Addr)(cap:Nat)(l:List Int)(h:numsR.rel S w [.slice a l.length cap] l):
   Calls Tryz.prog 220 #[.slice a l.length cap] w fun e w'=>e= .returned (.bool (elemsB l))∧Below w.heap.size w w':=by
 have g1:=(sliceR.lens h).2;unfold maxLen at g1;have H:=Hd h;clear h
 go_enter Tryz.func220,Tryz.ntmps220
 go_wp2_with fail
 go_loop [7] (fun i=> ∃k:Nat,k≤l.length∧i= .int .i64 k∧Hid (allUp (fun k=>elemB (l.getD k 0)) k=true)) (fun i=>l.length-(intOf i).toNat)
 case atStart=>exact⟨0,Nat.zero_le _,rfl,rfl⟩
 case round=>
   obtain⟨k,hk,rfl,hall⟩:=hrel
   by_cases hlt:k<l.length
   · obtain⟨b,off,rfl,hbl,n0,n1,hc⟩:=nums_at H.out k hlt
     have hg:=Hd (getD_at l 0 k hlt);generalize l[k]=n at*
     by_cases hp:n<18446744069414584321
     · have HY:Hid (allUp (fun k=>elemB (l.getD k 0)) (k+1)=true):=allUp_step hall.out (by rw [hg.out];exact decide_eq_true hp)
       go_wp2_with fail
       go_round
       case rel=>exact⟨k+1,by omega,by go_num,HY⟩
       case measure=>simp [intOf];omega
     · have HF:Hid (elemsB l=false):=allUp_false (k:=k) (by rw [hg.out];exact decide_eq_false hp) hlt
       go_wp2_with fail;go_ret
       exact⟨ret_bool HF.out.symm,Below.refl _ _⟩
   · obtain rfl:k=l.length:=by omega
     have HF:Hid (elemsB l=true):=hall;go_wp2_with fail;go_ret
     exact⟨ret_bool HF.out.symm,Below.refl _ _⟩
theorem oelements_any (S:Nat→Prop)(w:World)(a:Option Addr)(cap:Nat)(l:List Int)(h:numsR.rel S w [.slice a l.length cap] l):
   Calls Tryz.prog 301 #[.slice a l.length cap] w fun e w'=>e= .returned (.bool (elemsB l))∧Below w.heap.size w w':=by
 have g1:=(sliceR.lens h).2;unfold maxLen at g1;have H:=Hd h;clear h
 go_enter Tryz.func301,Tryz.ntmps301
 go_wp2_with fail
 go_loop [7] (fun i=> ∃k:Nat,k≤l.length∧i= .int .i64 k∧Hid (allUp (fun k=>elemB (l.getD k 0)) k=true)) (fun i=>l.length-(intOf i).toNat)
 case atStart=>exact⟨0,Nat.zero_le _,rfl,rfl⟩
 case round=>
   obtain⟨k,hk,rfl,hall⟩:=hrel
   by_cases hlt:k<l.length
   · obtain⟨b,off,rfl,hbl,n0,n1,hc⟩:=nums_at H.out k hlt
     have hg:=Hd (getD_at l 0 k hlt);generalize l[k]=n at*
     by_cases hp:n<18446744069414584321
     · have HY:Hid (allUp (fun k=>elemB (l.getD k 0)) (k+1)=true):=allUp_step hall.out (by rw [hg.out];exact decide_eq_true hp)
       go_wp2_with fail
       go_round
       case rel=>exact⟨k+1,by omega,by go_num,HY⟩
       case measure=>simp [intOf];omega
     · have HF:Hid (elemsB l=false):=allUp_false (k:=k) (by rw [hg.out];exact decide_eq_false hp) hlt
       go_wp2_with fail;go_ret
       exact⟨ret_bool HF.out.symm,Below.refl _ _⟩
   · obtain rfl:k=l.length:=by omega
     have HF:Hid (elemsB l=true):=hall;go_wp2_with fail;go_ret
     exact⟨ret_bool HF.out.symm,Below.refl _ _⟩
def noteB (n:NoteM):Bool:=decide (n.value≤4294967295∧n.owner<18446744069414584321∧n.rho<18446744069414584321∧n.blind<18446744069414584321)
theorem noteValid_any (w:World)(n:NoteM):Calls Tryz.prog 226 #[.agg #[.int .u64 n.value,.int .u64 n.owner,.int .u64 n.rho,.int .u64 n.blind]] w fun e w'=>e= .returned (.bool (noteB n))∧Below w.heap.size w w':=by
 go_enter Tryz.func226,Tryz.ntmps226
 go_wp2_with fail
 all_goals go_ret
 all_goals refine⟨ret_bool ?_,(Below.refl _ _).alloc (Nat.le_refl _) _⟩
 all_goals unfold noteB
 all_goals first
   |exact(decide_eq_true (by omega)).symm
   |exact(decide_eq_false (by omega)).symm
   |exact decide_eq_decide.2 (by omega)
def groupB (x y:Int):Bool:=decide (x<18446744069414584321∧y<18446744069414584321∧(x≠0∨y≠0))
theorem groupValid_any (w:World)(x y:Int):Calls Tryz.prog 147 #[.agg #[.int .u64 x,.int .u64 y]] w fun e w'=>e= .returned (.bool (groupB x y))∧Below w.heap.size w w':=by
 go_enter Tryz.func147,Tryz.ntmps147
 go_wp2_with fail
 all_goals go_ret
 all_goals refine⟨ret_bool ?_,(Below.refl _ _).alloc (Nat.le_refl _) _⟩
 all_goals unfold groupB
 all_goals first
   |exact(decide_eq_true (by omega)).symm
   |exact(decide_eq_false (by omega)).symm
   |exact decide_eq_decide.2 (by omega)
   |(rw [Bool.eq_iff_iff];simp;omega)
def amountsB (t:TxM):Bool:=
 decide ((t.dep≤4294967295∧t.wd≤4294967295∧t.fee≤4294967295)∧(t.acc<18446744069414584321∧t.nonce<18446744069414584321)∧(0<t.dep→t.wd=0)∧(¬0<t.dep→(t.marks.length≠0∧t.nonce=0)∧(0<t.wd∨t.acc=0)))
theorem amounts_any (S:Nat→Prop)(w:World)(t:TxM)(ma oa pa:Option Addr)(mc oc pc:Nat)(h:TxIn S w t ma oa pa mc oc pc):
   Calls Tryz.prog 104 #[.agg #[.int .u64 t.anchor,.slice ma t.marks.length mc,.slice oa t.outs.length oc,.int .u64 t.dep,.int .u64 t.wd,.int .u64 t.fee,.int .u64 t.acc,.int .u64 t.nonce,.int .i64 t.exp,.slice pa t.proof.length pc]] w fun e w'=>e= .returned (.bool (amountsB t))∧Below w.heap.size w w':=by
 have d1:=okU_in h.dep;have d2:=okU_in h.wd;have d3:=okU_in h.acc;have d4:=okU_in h.nonce;clear h;unfold amountsB;generalize t.marks.length=ml
 go_enter Tryz.func104,Tryz.ntmps104
 go_wp2_with fail
 all_goals go_ret
 all_goals refine⟨ret_bool ?_,(Below.refl _ _).alloc (Nat.le_refl _) _⟩
 all_goals first
   |exact(decide_eq_true (by omega)).symm
   |exact(decide_eq_false (by omega)).symm
   |exact decide_eq_decide.2 (by omega)
   |(rw [Bool.eq_iff_iff];simp;omega)
   |(simp only [beq_iff_eq,bne_iff_ne,beq_eq_false_iff_ne,bne_eq_false_iff_eq,ne_eq]at* <;>first|exact(decide_eq_true (by omega)).symm|exact(decide_eq_false (by omega)).symm|(rw [Bool.eq_iff_iff];simp;done)|(rw [Bool.eq_iff_iff];simp;omega))
end Go.Proofs.YtjknlhiimmbilaaGreatDoor
/- Transactions: what is well-formed. -/
set_option maxRecDepth 100000
set_option maxHeartbeats 2000000
namespace Go.Proofs.YtjknlhiimmbilaaGreatDoor
open Go.ChangeShapes Go.WideShapes Go.ChangeAt Go.RowKit
theorem slice_take {α:Type}{r:Rep α}{S:Nat→Prop}{w:World}{a:Option Addr}{len cap:Nat}{l:List α}(h:(sliceR r).rel S w [.slice a len cap] l)(k:Nat)(hk:k≤l.length):(sliceR r).rel S w [.slice a k cap] (l.take k):=by
 obtain⟨a',len',cap',hv,h1,h2,h3,h4,h5⟩:=h
 simp at hv
 obtain⟨rfl,rfl,rfl⟩:=hv
 refine⟨a,k,cap,rfl,by simp [hk],by omega,h3,h4,fun i x hx=>h5 i x ?_⟩
 rw [List.getElem?_take]at hx
 split at hx
 · exact hx
 · simp at hx
def hasUp (l:List Int)(x:Int):Nat→Bool
 |0=>false
 |k+1=>hasUp l x k||(x==l.getD k 0)
theorem hasUp_true {l:List Int}{x:Int}{k:Nat}(hx:(x==l.getD k 0)=true): ∀ {n:Nat},k<n→hasUp l x n=true
 |0,h=>absurd h (Nat.not_lt_zero _)
 |n+1,h=>by
  unfold hasUp
  rcases Nat.lt_or_ge k n with h1|h1
  · rw [hasUp_true hx h1];rfl
  · obtain rfl:k=n:=by omega
    rw [hx,Bool.or_true]
theorem hasUp_take {l:List Int}{x:Int}{k:Nat}(hk:k≤l.length): ∀n,n≤k→hasUp (l.take k) x n=hasUp l x n
 |0,_=>rfl
 |n+1,h=>by
  unfold hasUp
  rw [hasUp_take hk n (by omega),getD_at (l.take k) 0 n (by simp;omega),getD_at l 0 n (by omega)]
  simp
def hasB (l:List Int)(x:Int):Bool:=hasUp l x l.length
theorem hasB_take (l:List Int)(x:Int)(k:Nat)(hk:k≤l.length):hasB (l.take k) x=hasUp l x k:=by
 unfold hasB;rw [List.length_take,Nat.min_eq_left hk]
 exact hasUp_take hk k (Nat.le_refl _)
theorem index_any (S:Nat→Prop)(w:World)(a:Option Addr)(cap:Nat)(l:List Int)(h:numsR.rel S w [.slice a l.length cap] l)(x:Int):
   Calls Tryz.prog 171 #[.slice a l.length cap,.int .u64 x] w fun e w'=>(∃i:Int,e= .returned (.int .i64 i)∧(0≤i↔hasB l x=true))∧Below w.heap.size w w':=by
 have g1:=(sliceR.lens h).2;unfold maxLen at g1;have H:=Hd h;clear h
 go_enter Tryz.func171,Tryz.ntmps171
 go_wp2_with fail
 go_loop [8] (fun i=> ∃k:Nat,k≤l.length∧i= .int .i64 k∧Hid (hasUp l x k=false)) (fun i=>l.length-(intOf i).toNat)
 case atStart=>exact⟨0,Nat.zero_le _,rfl,rfl⟩
 case round=>
   obtain⟨k,hk,rfl,hall⟩:=hrel
   by_cases hlt:k<l.length
   · obtain⟨b,off,rfl,hbl,n0,n1,hc⟩:=nums_at H.out k hlt
     have hg:=Hd (getD_at l 0 k hlt);generalize l[k]=n at*
     by_cases hp:x=n
     · have hpb:(x==n)=true:=by simp [hp]
       have HF:Hid (hasB l x=true):=hasUp_true (k:=k) (by rw [hg.out];exact hpb) hlt
       subst hp;go_wp2_with fail;go_ret
       exact⟨⟨_,rfl,fun _=>HF.out,fun _=>by omega⟩,Below.refl _ _⟩
     · have hpb:(x==n)=false:=by simp [hp]
       have HY:Hid (hasUp l x (k+1)=false):=by show _=_;unfold hasUp;rw [hg.out,hall.out,hpb];rfl
       go_wp2_with fail
       go_round
       case rel=>exact⟨k+1,by omega,by go_num,HY⟩
       case measure=>simp [intOf];omega
   · obtain rfl:k=l.length:=by omega
     have HF:Hid (hasB l x=false):=hall;go_wp2_with fail;go_ret
     exact⟨⟨-1,rfl,fun h=>by omega,fun h=>by rw [HF.out]at h;cases h⟩,Below.refl _ _⟩
theorem contains_any (S:Nat→Prop)(w:World)(a:Option Addr)(cap:Nat)(l:List Int)(len:Nat)(hlen:len=l.length)(h:numsR.rel S w [.slice a len cap] l)(x:Int):
   Calls Tryz.prog 115 #[.slice a len cap,.int .u64 x] w fun e w'=>e= .returned (.bool (hasB l x))∧Below w.heap.size w w':=by
 subst hlen
 go_enter Tryz.func115,Tryz.ntmps115
 go_wp2_with fail
 refine(index_any S w a cap l h x).mono ?_
 rintro e w1 ⟨⟨i,rfl,hi⟩,hb⟩;have HI:=Hd hi;clear hi;go_wp2_with fail;go_ret
 refine⟨ret_bool ?_,hb⟩
 rw [Bool.eq_iff_iff,decide_eq_true_eq]
 exact HI.out
def markB (l:List Int)(k:Nat):Bool:=elemB (l.getD k 0)&& !hasUp l (l.getD k 0) k
def marksB (l:List Int):Bool:=decide (l.length≤4)&&allUp (markB l) l.length
theorem validMarks_any (S:Nat→Prop)(w:World)(a:Option Addr)(cap:Nat)(l:List Int)(h:numsR.rel S w [.slice a l.length cap] l):
   Calls Tryz.prog 102 #[.slice a l.length cap] w fun e w'=>e= .returned (.bool (marksB l))∧Below w.heap.size w w':=by
 have g1:=(sliceR.lens h).2;unfold maxLen at g1;have H:=Hd h;clear h
 by_cases h4:4<l.length
 · have HF:Hid (marksB l=false):=by show _=_;unfold marksB;rw [decide_eq_false (by omega)];rfl
   go_enter Tryz.func102,Tryz.ntmps102
   go_wp2_with fail;go_ret
   exact⟨ret_bool HF.out.symm,Below.refl _ _⟩
 · have HM:Hid (marksB l=allUp (markB l) l.length):=by show _=_;unfold marksB;rw [decide_eq_true (by omega)];rfl
   go_enter Tryz.func102,Tryz.ntmps102
   go_wp2_with fail
   go_loopw [10] (fun i wr=> ∃k:Nat,k≤l.length∧i= .int .i64 k∧Hid (allUp (markB l) k=true)∧Below w.heap.size w wr) (fun i _=>l.length-(intOf i).toNat)
   case atStart=>exact⟨0,Nat.zero_le _,rfl,rfl,Below.refl _ _⟩
   case round=>
     obtain⟨k,hk,rfl,hall,hbr⟩:=hrel
     by_cases hlt:k<l.length
     · have hrl:=numsR.keepB H.out hbr
       have HT:=Hd (slice_take hrl k (by omega))
       obtain⟨b,off,rfl,hbl,n0,n1,hc⟩:=nums_at hrl k hlt;have hg:=Hd (getD_at l 0 k hlt)
       have hmk:Hid (markB l k=(elemB l[k]&& !hasUp l l[k] k)):=by show _=_;unfold markB;rw [hg.out]
       have htl:k=(l.take k).length:=by simp;omega
       have HTL:=Hd htl
       have HH:=Hd (fun x=>hasB_take l x k (by omega))
       clear htl hg hrl;generalize l[k]=n at*
       by_cases hp:n<18446744069414584321
       · go_wp2_with fail
         refine(contains_any S wr _ cap (l.take k) k HTL.out HT.out n).mono ?_
         rintro e w1 ⟨rfl,hb1⟩;rw [HH.out n]
         cases hcn:hasUp l n k with
         |true=>
          have HF:Hid (marksB l=false):=by
            show _=_;rw [HM.out];exact allUp_false (k:=k) (by rw [hmk.out,hcn];simp) hlt
          go_wp2_with fail;go_ret
          exact⟨ret_bool HF.out.symm,bnext hbr hb1⟩
         |false=>
          have HY:Hid (allUp (markB l) (k+1)=true):=allUp_step hall.out (by rw [hmk.out,hcn];unfold elemB;rw [decide_eq_true hp];rfl)
          go_wp2_with fail
          go_roundw
          case rel=>exact⟨k+1,by omega,by go_num,HY,bnext hbr hb1⟩
          case measure=>simp [intOf];omega
       · have HF:Hid (marksB l=false):=by
           show _=_;rw [HM.out];exact allUp_false (k:=k) (by rw [hmk.out];unfold elemB;rw [decide_eq_false hp];rfl) hlt
         go_wp2_with fail;go_ret
         exact⟨ret_bool HF.out.symm,hbr⟩
     · obtain rfl:k=l.length:=by omega
       have HF:Hid (marksB l=true):=by show _=_;rw [HM.out];exact hall.out
       go_wp2_with fail;go_ret
       exact⟨ret_bool HF.out.symm,hbr⟩
end Go.Proofs.YtjknlhiimmbilaaGreatDoor
/- Transactions: outputs, what is well-formed. -/
set_option maxRecDepth 100000
set_option maxHeartbeats 4000000
namespace Go.Proofs.YtjknlhiimmbilaaGreatDoor
open Go.ChangeShapes Go.WideShapes Go.ChangeAt Go.RowKit
def outB (o:OutM):Bool:=elemB o.commit&&(groupB o.p0 o.p1&&(decide (o.cipher.length=3)&&elemsB o.cipher))
def outsB (l:List OutM):Bool:=decide (l.length≤4)&&l.all outB
theorem validOuts_any (S:Nat→Prop)(w:World)(a:Option Addr)(cap:Nat)(l:List OutM)(h:outsR.rel S w [.slice a l.length cap] l):
   Calls Tryz.prog 103 #[.slice a l.length cap] w fun e w'=>e= .returned (.bool (outsB l))∧Below w.heap.size w w':=by
 have g1:=(sliceR.lens h).2;unfold maxLen at g1;have H:=Hd h;clear h
 by_cases h4:4<l.length
 · have HF:Hid (outsB l=false):=by show _=_;unfold outsB;rw [decide_eq_false (by omega)];rfl
   go_enter Tryz.func103,Tryz.ntmps103
   go_wp2_with fail;go_ret
   exact⟨ret_bool HF.out.symm,Below.refl _ _⟩
 · have HM:Hid (outsB l=l.all outB):=by show _=_;unfold outsB;rw [decide_eq_true (by omega)];rfl
   go_enter Tryz.func103,Tryz.ntmps103
   go_wp2_with fail
   go_loopw [12] (fun vi wr=> ∃k:Nat,k≤l.length∧vi= .int .i64 k∧Hid ((l.take k).all outB=true)∧Below w.heap.size w wr) (fun vi _=>l.length-(intOf vi).toNat)
   case atStart=>exact⟨0,Nat.zero_le _,rfl,rfl,Below.refl _ _⟩
   case round=>
     obtain⟨k,hk,rfl,hall,hbr⟩:=hrel
     by_cases hlt:k<l.length
     · obtain⟨b,off,ca,cc,rfl, -,hbl,k1,k2,k3,hci,c0,c1,c2,c3⟩:=outs_at (outsR.keepB H.out hbr) k hlt
       have hno:=Hd (all_false outB l k hlt);have hyes:=Hd (all_take_succ outB l k hlt);generalize l[k]=o at*;have hvl:=(sliceR.lens hci).2;unfold maxLen at hvl;have hbn:=bnew (Below.refl wr.heap.size wr) (.cells #[.int .u64 o.commit,.int .u64 o.p0,.int .u64 o.p1,.slice ca o.cipher.length cc] 134);have hin:=box_new wr (.cells #[.int .u64 o.commit,.int .u64 o.p0,.int .u64 o.p1,.slice ca o.cipher.length cc] 134);have HCI:=Hd (numsR.keepB hci hbn);have hbrn:=bnext hbr hbn;have HIN:=Hd hin;have HBN:=Hd hbn;have HU:Hid (outB o=(elemB o.commit&&(groupB o.p0 o.p1&&(decide (o.cipher.length=3)&&elemsB o.cipher)))):=rfl;clear hci hin hbn
       by_cases hp:o.commit<18446744069414584321
       · have HE:Hid (elemB o.commit=true):=decide_eq_true hp
         go_wp2_with fail
         refine(groupValid_any _ o.p0 o.p1).mono ?_
         rintro e w1 ⟨rfl,hb1⟩;have hbw:=bnext hbrn hb1;obtain⟨x0,x1⟩:=box_cells (box_after hb1 HIN.out)
         cases hg:groupB o.p0 o.p1 with
         |false=>
          have HF:Hid (outsB l=false):=by show _=_;rw [HM.out];exact hno.out (by rw [HU.out,hg];simp)
          go_wp2_with fail;go_ret
          exact⟨ret_bool HF.out.symm,hbw⟩
         |true=>
          by_cases hl3:o.cipher.length=3
          · have b3:((o.cipher.length:Int)==3)=true:=by rw [beq_iff_eq];omega
            have b3':((o.cipher.length:Int) != 3)=false:=by rw [bne_eq_false_iff_eq];omega
            go_wp2_with fail
            go_loop [34] (fun vi=> ∃j:Nat,j≤o.cipher.length∧vi= .int .i64 j∧Hid (allUp (fun k=>elemB (o.cipher.getD k 0)) j=true)) (fun vi=>o.cipher.length-(intOf vi).toNat)
            case atStart=>exact⟨0,Nat.zero_le _,rfl,rfl⟩
            case round=>
              obtain⟨j,hj,rfl,hal2⟩:=hrel
              by_cases hjl:j<o.cipher.length
              · obtain⟨b',off',rfl,hbl',n0,n1,hc'⟩:=nums_at (numsR.keepB HCI.out hb1) j hjl
                have hgd:=Hd (getD_at o.cipher 0 j hjl);generalize o.cipher[j]=n at*
                by_cases hpn:n<18446744069414584321
                · have HY:Hid (allUp (fun k=>elemB (o.cipher.getD k 0)) (j+1)=true):=allUp_step hal2.out (by rw [hgd.out];exact decide_eq_true hpn)
                  go_wp2_with fail
                  go_round
                  case rel=>exact⟨j+1,by omega,by go_num,HY⟩
                  case measure=>simp [intOf];omega
                · have HF:Hid (outsB l=false):=by
                    show _=_
                    have:elemsB o.cipher=false:=allUp_false (k:=j) (by rw [hgd.out];exact decide_eq_false hpn) hjl
                    rw [HM.out];exact hno.out (by rw [HU.out,this];simp)
                  go_wp2_with fail;go_ret
                  exact⟨ret_bool HF.out.symm,hbw⟩
              · obtain rfl:j=o.cipher.length:=by omega
                have HY:Hid ((l.take (k+1)).all outB=true):=by
                  show _=_
                  have:elemsB o.cipher=true:=hal2.out
                  rw [hyes.out,hall.out,HU.out,HE.out,hg,this,decide_eq_true hl3];rfl
                go_wp2_with fail
                go_roundw
                case rel=>exact⟨k+1,by omega,by go_num,HY,hbw⟩
                case measure=>simp [intOf];omega
          · have b3:((o.cipher.length:Int)==3)=false:=by rw [beq_eq_false_iff_ne];omega
            have b3':((o.cipher.length:Int) != 3)=true:=by rw [bne_iff_ne];omega
            have HF:Hid (outsB l=false):=by show _=_;rw [HM.out];exact hno.out (by rw [HU.out,decide_eq_false hl3];simp)
            go_wp2_with fail;go_ret
            exact⟨ret_bool HF.out.symm,hbw⟩
       · have HF:Hid (outsB l=false):=by
           show _=_
           have:elemB o.commit=false:=decide_eq_false hp
           rw [HM.out];exact hno.out (by rw [HU.out,this];rfl)
         go_wp2_with fail;go_ret
         exact⟨ret_bool HF.out.symm,hbrn⟩
     · obtain rfl:k=l.length:=by omega
       have HF:Hid (outsB l=true):=by show _=_;rw [HM.out];have:=hall.out;rw [List.take_length]at this;exact this
       go_wp2_with fail;go_ret
       exact⟨ret_bool HF.out.symm,hbr⟩
def restB (t:TxM):Bool:=decide (t.anchor<18446744069414584321∧0≤t.exp∧t.exp≤1048576)
def validE (t:TxM):Int:=if (marksB t.marks&&(outsB t.outs&&(amountsB t&&restB t)))=true then (if t.proof.length≤1048576 then 0 else 3)else 1
theorem txValid_any (S:Nat→Prop)(w:World)(t:TxM)(ma oa pa:Option Addr)(mc oc pc:Nat)(h:TxIn S w t ma oa pa mc oc pc):
   Calls Tryz.prog 75 #[.agg #[.int .u64 t.anchor,.slice ma t.marks.length mc,.slice oa t.outs.length oc,.int .u64 t.dep,.int .u64 t.wd,.int .u64 t.fee,.int .u64 t.acc,.int .u64 t.nonce,.int .i64 t.exp,.slice pa t.proof.length pc]] w fun e w'=>e= .returned (.int .i64 (validE t))∧Below w.heap.size w w':=by
 have hb0:=bnew (Below.refl w.heap.size w) (.cells #[.int .u64 t.anchor,.slice ma t.marks.length mc,.slice oa t.outs.length oc,.int .u64 t.dep,.int .u64 t.wd,.int .u64 t.fee,.int .u64 t.acc,.int .u64 t.nonce,.int .i64 t.exp,.slice pa t.proof.length pc] 111);have HX:=Hd (box_new w (.cells #[.int .u64 t.anchor,.slice ma t.marks.length mc,.slice oa t.outs.length oc,.int .u64 t.dep,.int .u64 t.wd,.int .u64 t.fee,.int .u64 t.acc,.int .u64 t.nonce,.int .i64 t.exp,.slice pa t.proof.length pc] 111));have H:=Hd (h.keepB hb0);have HB:=Hd hb0;have g1:=(sliceR.lens h.proof).2;unfold maxLen at g1;have HU:Hid (validE t=if (marksB t.marks&&(outsB t.outs&&(amountsB t&&restB t)))=true then (if t.proof.length≤1048576 then 0 else 3)else 1):=rfl;clear hb0 h
 go_enter Tryz.func75,Tryz.ntmps75
 go_wp2_with fail
 refine(validMarks_any S _ ma mc t.marks H.out.marks).mono ?_
 rintro e w1 ⟨rfl,hb1⟩;obtain⟨x0,x1⟩:=box_cells (box_after hb1 HX.out);have hw1:=bnext HB.out hb1
 cases hv1:marksB t.marks with
 |false=>
  have HF:Hid (validE t=1):=by show _=_;rw [HU.out,hv1];rfl
  go_wp2_with fail;go_ret
  exact⟨ret_int HF.out.symm,hw1⟩
 |true=>
  go_wp2_with fail
  refine(validOuts_any S w1 oa oc t.outs (outsR.keepB H.out.outs hb1)).mono ?_
  rintro e w2 ⟨rfl,hb2⟩;clear x0 x1;obtain⟨x0,x1⟩:=box_cells (box_after hb2 (box_after hb1 HX.out));have hw2:=bnext hw1 hb2
  cases hv2:outsB t.outs with
  |false=>
   have HF:Hid (validE t=1):=by show _=_;rw [HU.out,hv1,hv2];rfl
   go_wp2_with fail;go_ret
   exact⟨ret_int HF.out.symm,hw2⟩
  |true=>
   go_wp2_with fail
   refine(amounts_any S w2 t ma oa pa mc oc pc ((H.out.keepB hb1).keepB hb2)).mono ?_
   rintro e w3 ⟨rfl,hb3⟩;clear x0 x1;obtain⟨x0,x1⟩:=box_cells (box_after hb3 (box_after hb2 (box_after hb1 HX.out)));have hw3:=bnext hw2 hb3
   cases hv3:amountsB t with
   |false=>
    have HF:Hid (validE t=1):=by show _=_;rw [HU.out,hv1,hv2,hv3];rfl
    go_wp2_with fail;go_ret
    exact⟨ret_int HF.out.symm,hw3⟩
   |true=>
    have HU2:Hid (validE t=if restB t=true then (if t.proof.length≤1048576 then 0 else 3)else 1):=by show _=_;rw [HU.out,hv1,hv2,hv3];rfl
    by_cases hr:t.anchor<18446744069414584321∧0≤t.exp∧t.exp≤1048576
    · have HR:Hid (restB t=true):=decide_eq_true hr
      obtain⟨r1,r2,r3⟩:=hr
      by_cases hl:t.proof.length≤1048576
      · have HF:Hid (validE t=0):=by show _=_;rw [HU2.out,HR.out,if_pos rfl,if_pos hl]
        have hl': ¬(1048576:Int)<(t.proof.length:Int):=by omega
        go_wp2_with fail;go_ret
        exact⟨ret_int HF.out.symm,hw3⟩
      · have HF:Hid (validE t=3):=by show _=_;rw [HU2.out,HR.out,if_pos rfl,if_neg hl]
        have hl':(1048576:Int)<(t.proof.length:Int):=by omega
        go_wp2_with fail;go_ret
        exact⟨ret_int HF.out.symm,hw3⟩
    · have HF:Hid (validE t=1):=by
        show _=_
        have:restB t=false:=decide_eq_false hr
        rw [HU2.out,this];rfl
      by_cases r1:t.anchor<18446744069414584321
      · by_cases r2:0≤t.exp
        · have r3: ¬t.exp≤1048576:=fun h=>hr ⟨r1,r2,h⟩
          go_wp2_with fail;go_ret
          exact⟨ret_int HF.out.symm,hw3⟩
        · go_wp2_with fail
          go_ret
          exact⟨ret_int HF.out.symm,hw3⟩
      · go_wp2_with fail
        go_ret
        exact⟨ret_int HF.out.symm,hw3⟩
end Go.Proofs.YtjknlhiimmbilaaGreatDoor
/- The oracle's answers without asking, where nothing is recorded. -/
set_option maxRecDepth 100000
set_option maxHeartbeats 2000000
namespace Go.Proofs.YtjknlhiimmbilaaGreatDoor
open Go.ChangeShapes Go.WideShapes Go.ChangeAt Go.RowKit
theorem appendNumber_any (w0 w:World) (B:Nat) (hb:Below B w0 w) (hB0:B≤w0.heap.size) (v:Value) (xs:List Int) (ho:Own u8R B 5 (fun x=>False∨B≤x) w v xs) (n:Int) (n0:0≤n) (n1:n<18446744073709551616)
   (hl:xs.length≤1000000000):Calls Tryz.prog 302 #[v,.int .u64 n] w (GrewTo B w0 (xs++digs 8 n)):=by
 go_enter Tryz.func302,Tryz.ntmps302
 go_wp2_with fail
 go_loopw [0,1,5] (fun vb vn vi wr=> ∃(k:Nat) (m:Int) (ys:List Int),k≤8∧vi= .int .i64 k∧vn= .int .u64 m∧0≤m∧m<18446744073709551616∧ys.length=xs.length+k∧Hid (ys++digs (8-k) m=xs++digs 8 n)∧
     Own u8R B 5 (fun x=>False∨B≤x) wr vb ys∧Below B w0 wr∧B≤wr.heap.size) (fun _ _ vi _=>8-(intOf vi).toNat)
 case atStart=>exact⟨0,n,xs,Nat.zero_le _,rfl,rfl,n0,n1,rfl,rfl,ho,hb,Nat.le_trans hB0 hb.size⟩
 case round=>
   obtain⟨k,m,ys,hk,rfl,rfl,m0,m1,hyl,hinv,hor,hbr,hBr⟩:=hrel;have HYL:=Hd hyl;clear hyl
   by_cases hlt:k<8
   · have HI:Hid ((ys++ [m % 256])++digs (8-(k+1)) (m / 256)=xs++digs 8 n):=by
       show _=_
       rw [←hinv.out,List.append_assoc,show 8-k=(8-(k+1))+1 by omega]
       rfl
     have hwf:(Lit.int .u8 (m % 256)).wf=true:=by
       simp [Lit.wf,IntKind.min,IntKind.max,IntKind.signed,IntKind.bits];omega
     have hyR:u8R.rel (fun _=>False) wr [.int .u8 (m % 256)] (m % 256):=⟨rfl,hwf⟩
     have HO:=Hd hor;have HY:=Hd hyR
     have e2:0≤m / 256:=by omega
     have e3:m / 256<18446744073709551616:=by omega
     clear hor hyR hwf
     go_wp2_with (at_builtin;refine wpList_push (r:=u8R) (wr:=wr) (es:= [.int .u8 (m % 256)]) (v:=u0) (w0:=w0) (B:=B) rfl _ _ rfl Tryz.etyBytes rfl rfl hbr hBr HO.out HY.out (fun x hx=>hx.elim) (by unfold maxLen;have:=HYL.out;omega) (by have:=HYL.out;omega) ?_)
     intro v2 w2 ho2 hb2
     have HZ:=Hd (Own.mono ho2 (F':=fun x=>False∨B≤x) fun x _ h=>by first|exact h|exact .inr h)
     have hB2:B≤w2.heap.size:=Nat.le_trans hB0 hb2.size;clear ho2;go_wp2_with fail
     go_roundw
     case rel=>exact⟨k+1,m / 256,ys++ [m % 256],by omega,by go_num,rfl,e2,e3,by rw [List.length_append,HYL.out];simp;omega,HI,HZ.out,hb2,hB2⟩
     case measure=>simp [intOf];omega
   · obtain rfl:k=8:=by omega
     have HF:Hid (ys=xs++digs 8 n):=by
       show _=_
       rw [←hinv.out,Nat.sub_self];simp [digs]
     go_wp2_with fail;go_ret
     exact⟨_,rfl,by rw [←HF.out];exact hor,hbr⟩
theorem bytes_string {S:Nat→Prop}{w:World}{v:Value}{ys:List Int}(h:bytesR.rel S w [v] ys): ∃s,(convert 71 9 v).run Tryz.prog w= .ok (.string s) w:=by
 obtain⟨a,cap,rfl, -⟩:=sliceR.form h
 cases ys with
 |nil=>
  cases a with
  |none=>exact⟨_,run_convert_bytes_nil (P:=Tryz.prog) w 71 5 Tryz.underlying71 Tryz.underlying5 _ _ 9 Tryz.underlying9⟩
  |some ad=>
   refine⟨(Conv.bytesToString (.slice (some ad) 0 cap)).run Tryz.prog w |> fun _=>ByteArray.empty,?_⟩
   rw [run_convert_bytes_string (P:=Tryz.prog) w 71 9 5 _ _ _ Tryz.underlying71 Tryz.underlying5 Tryz.underlying9]
   have hl:(loadCells ad 0).run Tryz.prog w= .ok #[] w:=by simpa using run_loadCells_list (P:=Tryz.prog) w ad [] (by simp)
   rw [List.length_nil,run_bytesToString (P:=Tryz.prog) w ad 0 cap [] (by simpa using hl)]
   rfl
 |cons y ys=>
  obtain⟨b,off,es,rfl, -, -, -, -⟩:=sliceR.at h 0 (by simp)
  refine⟨_,run_convert_bytes_arg (P:=Tryz.prog) w 71 5 Tryz.underlying71 Tryz.underlying5 b off (y::ys).length cap (y::ys) rfl (fun i hi=> ?_) 9 Tryz.underlying9⟩
  obtain⟨b',off',he, -, -, -, -,hc⟩:=bytes_at h i hi
  simp at he
  obtain⟨rfl,rfl⟩:=he;rw [hc,getD_at _ _ i hi]
theorem key_any (S S':Nat→Prop)(w:World)(a b:Option Addr)(ca cb:Nat)(l m:List Int)(h:numsR.rel S w [.slice a l.length ca] l)(h':numsR.rel S' w [.slice b m.length cb] m)(hl:l.length≤1000)(hm:m.length≤1000):
   Calls Tryz.prog 230 #[.slice a l.length ca,.slice b m.length cb] w fun e w'=>(∃s,e= .returned (.string s))∧Below w.heap.size w w':=by
 have H:=Hd h;have H':=Hd h';clear h h'
 go_enter Tryz.func230,Tryz.ntmps230
 go_wp2_with (at_make;refine wpList_make_rel rfl _ _ rfl u8R w.heap.size Tryz.etyBytes rfl rfl (n:=8*(m.length+l.length)) ?_ ?_ ?_ ?_ ?_)
 · go_num
 · omega
 · unfold maxLen;omega
 · exact Nat.le_refl _
 intro w1 ho1 hb1
 have HO1:=Hd (Own.mono ho1 (F':=fun x=>False∨w.heap.size≤x) fun x _ h=> .inr (by omega))
 clear ho1;go_wp2_with fail
 go_loopw [5,19] (fun vb vi wr=> ∃(k:Nat) (ys:List Int),k≤m.length∧vi= .int .i64 k∧ys.length=8*k∧Own u8R w.heap.size 5 (fun x=>False∨w.heap.size≤x) wr vb ys∧Below w.heap.size w wr) (fun _ vi _=>m.length-(intOf vi).toNat)
 case atStart=>exact⟨0,[],Nat.zero_le _,rfl,rfl,HO1.out,hb1⟩
 case round=>
   obtain⟨k,ys,hk,rfl,hyl,hor,hbr⟩:=hrel
   by_cases hlt:k<m.length
   · obtain⟨bb,off,rfl,hbl,n0,n1,hc⟩:=nums_at (numsR.keepB H'.out hbr) k hlt
     generalize m[k]=n at*;go_wp2_with fail
     refine(appendNumber_any w wr w.heap.size hbr (Nat.le_refl _) _ ys hor n n0 n1 (by omega)).mono ?_
     rintro e w3 ⟨v3,rfl,ho3,hb3⟩;go_wp2_with fail
     go_roundw
     case rel=>exact⟨k+1,ys++digs 8 n,by omega,by go_num,by rw [List.length_append,digs_len];omega,ho3,hb3⟩
     case measure=>simp [intOf];omega
   · obtain rfl:k=m.length:=by omega
     go_wp2_with fail
     go_loopw [5,29] (fun vb vi wr=> ∃(k:Nat) (ys:List Int),k≤l.length∧vi= .int .i64 k∧ys.length=8*m.length+8*k∧Own u8R w.heap.size 5 (fun x=>False∨w.heap.size≤x) wr vb ys∧Below w.heap.size w wr) (fun _ vi _=>l.length-(intOf vi).toNat)
     case atStart=>exact⟨0,ys,Nat.zero_le _,rfl,by omega,hor,hbr⟩
     case round=>
       clear hor hbr hyl;obtain⟨k,ys,hk,rfl,hyl,hor,hbr⟩:=hrel
       by_cases hlt:k<l.length
       · obtain⟨bb,off,rfl,hbl,n0,n1,hc⟩:=nums_at (numsR.keepB H.out hbr) k hlt
         generalize l[k]=n at*;go_wp2_with fail
         refine(appendNumber_any w _ w.heap.size hbr (Nat.le_refl _) _ ys hor n n0 n1 (by omega)).mono ?_
         rintro e w3 ⟨v3,rfl,ho3,hb3⟩;go_wp2_with fail
         go_roundw
         case rel=>exact⟨k+1,ys++digs 8 n,by omega,by go_num,by rw [List.length_append,digs_len];omega,ho3,hb3⟩
         case measure=>simp [intOf];omega
       · obtain rfl:k=l.length:=by omega
         obtain⟨s,hs⟩:=bytes_string hor.slice;go_wp2_with fail;go_ret
         exact⟨⟨s,rfl⟩,hbr⟩
end Go.Proofs.YtjknlhiimmbilaaGreatDoor
/- Peek. -/
set_option maxRecDepth 100000
set_option maxHeartbeats 2000000
namespace Go.Proofs.YtjknlhiimmbilaaGreatDoor
open Go.ChangeShapes Go.WideShapes Go.ChangeAt Go.RowKit
theorem lookup_empty (w:World)(mk:Nat)(h:w.heap[mk]? =some (.map #[] 0))(s:ByteArray):(Instr.lookup 74 (.map (some mk)) (.string s) true).run Tryz.prog w= .ok (.tuple #[.int .i64 0,.bool false]) w:=by
 have hz:(zeroValue 3).run Tryz.prog w= .ok (.int .i64 0) w:=by
   have h0:(Tryz.prog.info? 3).map (·.zero)=some (some (.int .i64 0)):=by kernel_rfl
   obtain⟨i,hi,hz⟩:=Option.map_eq_some_iff.1 h0
   simp [zeroValue,typeInfo,hi,hz]
 have hck:=MapKept.run_checkKey (P:=Tryz.prog) (w:=w) (k:= .string s) Tryz.underlying9 (by simp [MapKept.IsKey]) true 9999
 have hfk:=MapKept.run_findKey (P:=Tryz.prog) (w:=w) (k:= .string s) (l:= []) (a:=none) Tryz.underlying9 rfl
 simp [Instr.lookup,run_underlying Tryz.underlying74,MapKept.run_getObj_map h,hck,hfk,hz]
theorem key_one (S S':Nat→Prop)(w:World)(a b:Option Addr)(ca cb:Nat)(l:List Int)(x:Int)(h:numsR.rel S w [.slice a l.length ca] l)(h':numsR.rel S' w [.slice b 1 cb] [x])(hl:l.length≤1000):
   Calls Tryz.prog 230 #[.slice a l.length ca,.slice b 1 cb] w fun e w'=>(∃s,e= .returned (.string s))∧Below w.heap.size w w':=key_any S S' w a b ca cb l [x] h h' hl (by simp)
abbrev PeekS (p mk:Nat)(w w':World):Prop:=Below w.heap.size w w'∧w'.cell? ⟨p,4,none⟩=some (.map (some mk))∧w'.heap[mk]? =some (.map #[] 0)
theorem PeekS.drew {p mk:Nat}{w w':World}(h:PeekS p mk w w'):PeekS p mk w w'.drew:=⟨h.1.drew,h.2.1,h.2.2⟩
theorem PeekS.next {p mk:Nat}{w w1 w2:World}(h:PeekS p mk w w1)(hb:Below w1.heap.size w1 w2):PeekS p mk w w2:=⟨bnext h.1 hb,(hb.cell (cell_lt h.2.1)).trans h.2.1,box_after hb h.2.2⟩
theorem PeekS.alloc {p mk:Nat}{w w1:World}(h:PeekS p mk w w1)(o:Obj):PeekS p mk w (w1.alloc o):=h.next (bnew (Below.refl _ _) o)
def peekS (label:Int)(l:List Int):Int:=if elemsB l=true then hashS label l else 0
theorem peek_any (S:Nat→Prop)(w:World)(p:Nat)(st:Int)(ho:OrAt false st p w)(label:Int)(l0:0≤label)(l1:label<18446744073709551616)(a:Option Addr)(cap:Nat)(l:List Int)(h:numsR.rel S w [.slice a l.length cap] l)(hl:l.length≤1000):
   Calls Tryz.prog 227 #[.pointer (some ⟨p,0,none⟩),.int .u64 label,.slice a l.length cap] w fun e w'=>e= .returned (.tuple #[.int .u64 (peekS label l),.bool (elemsB l)])∧Below w.heap.size w w':=by
 have H:=Hd h;have HO:=Hd ho;clear h ho
 go_enter Tryz.func227,Tryz.ntmps227
 go_wp2_with fail
 refine(oelements_any S w a cap l H.out).mono ?_
 rintro e w1 ⟨rfl,hb1⟩
 cases he:elemsB l with
 |false=>
  have HP:Hid (peekS label l=0):=by show _=_;unfold peekS;rw [he];rfl
  go_wp2_with fail;go_ret2;rw [HP.out,he]
  exact⟨rfl,hb1⟩
 |true=>
  have HP:Hid (peekS label l=hashS label l):=by show _=_;unfold peekS;rw [he];rfl
  have HO1:=Hd (HO.out.keepB hb1);obtain⟨mk,ms,mp,q1,q2,q3,q4⟩:=HO1.out;have hst:PeekS p mk w1 w1:=⟨Below.refl _ _,(box_cells q1).1 4,q2⟩;have HST:=Hd hst;have hlk:= @lookup_empty;clear hst q1 q2 q3 q4;have HL:Hid (okU label):=okU_of l0 l1;go_wp2_with fail
  go_cut [8,9]from 10 (fun v8 v9 wc=>v9= .bool false∧Below w1.heap.size w1 wc)
  case first=>
    go_region_held3 (fun w'=>Below w1.heap.size w1 w'∧w'.cell? ⟨p,4,none⟩=some (.map (some mk))∧w'.heap[mk]? =some (.map #[] 0))
      (first
        |with_reducible exact PeekS.drew HST.out
        |with_reducible exact HK.out
        |with_reducible exact PeekS.drew (PeekS.alloc HST.out _))
      (first
        |(go_at_call 230
          refine(key_one S (fun _=>True) _ _ _ _ _ l label (numsR.keepB (numsR.keepB H.out hb1) (‹Below w1.heap.size w1 _∧_›).1) (numsR.keepB (nums_new w1 _ [label] 1 (by intro x hx;simp at hx;subst hx;exact HL.out) (by simp) (by unfold maxLen;omega)) (Below.refl _ _).drew) hl).mono ?_
          rintro e w3 ⟨⟨s,rfl⟩,hbK⟩;have HK:=Hd (PeekS.next (‹Below w1.heap.size w1 _∧_› :PeekS p mk w1 _) hbK)))
    go_wp2_with fail
    go_meet
    case rel=>exact⟨rfl,HK.out.1⟩
  case rest=>
    obtain⟨rfl,hbc⟩:=hcut;have hbw:=bnext hb1 hbc;obtain⟨mk,ms,mp,q1, -⟩:=HO.out.keepB hbw;obtain⟨c0,c1⟩:=box_cells q1;clear q1;go_wp2_with fail
    refine(Hash_big label l0 S wc a cap l (numsR.keepB H.out hbw) (by omega)).mono ?_
    rintro e w4 ⟨rfl,hb4⟩;go_wp2_with fail;go_ret2;rw [HP.out,he]
    exact⟨rfl,bnext hbw hb4⟩
end Go.Proofs.YtjknlhiimmbilaaGreatDoor
/- Hashes of fixed shape: keys, nodes, origins. -/
set_option maxRecDepth 100000
set_option maxHeartbeats 1000000
namespace Go.Proofs.YtjknlhiimmbilaaGreatDoor
open Go.ChangeShapes Go.WideShapes Go.ChangeAt Go.RowKit
theorem maxLen_9:9≤maxLen:=by unfold maxLen;omega
theorem nums1 (w:World)(t:TypeId){x:Int}(hx:okU x):numsR.rel (fun _=>True) (w.alloc (.cells #[.int .u64 x] t)) [.slice (some ⟨w.heap.size,0,none⟩) 1 1] [x]:=
 nums_new w t [x] 1 (by intro y hy;simp at hy;subst hy;exact hx) (by simp) (by have:=maxLen_9;omega)
theorem nums2 (w:World)(t:TypeId){x y:Int}(hx:okU x)(hy:okU y):numsR.rel (fun _=>True) (w.alloc (.cells #[.int .u64 x,.int .u64 y] t)) [.slice (some ⟨w.heap.size,0,none⟩) 2 2] [x,y]:=
 nums_new w t [x,y] 2 (by intro z hz;simp at hz;rcases hz with rfl|rfl<;>assumption) (by simp) (by have:=maxLen_9;omega)
theorem nums4 (w:World)(t:TypeId){x y z v:Int}(hx:okU x)(hy:okU y)(hz:okU z)(hv:okU v):numsR.rel (fun _=>True) (w.alloc (.cells #[.int .u64 x,.int .u64 y,.int .u64 z,.int .u64 v] t)) [.slice (some ⟨w.heap.size,0,none⟩) 4 4] [x,y,z,v]:=
 nums_new w t [x,y,z,v] 4 (by intro u hu;simp at hu;rcases hu with rfl|rfl|rfl|rfl<;>assumption) (by simp) (by have:=maxLen_9;omega)
theorem keysHash_any (S:Nat→Prop)(w:World)(label:Int)(l0:0≤label)(a:Option Addr)(len cap:Nat)(l:List Int)(hlen:len=l.length)(h:numsR.rel S w [.slice a len cap] l)(hl:l.length≤1000):
   Calls Tryz.prog 229 #[.int .u64 label,.slice a len cap] w fun e w'=>e= .returned (.int .u64 (hashS label l))∧Below w.heap.size w w':=by
 subst hlen
 go_enter Tryz.func229,Tryz.ntmps229
 go_wp2_with fail
 refine(Hash_big label l0 S w a cap l h (by omega)).mono ?_
 rintro e w1 ⟨rfl,hb⟩;go_wp2_with fail;go_ret
 exact⟨rfl,hb⟩
theorem account_any (w:World)(x:Int)(hx:okU x):Calls Tryz.prog 163 #[.int .u64 x] w fun e w'=>e= .returned (.int .u64 (hashS 7 [x]))∧Below w.heap.size w w':=by
 have HX:=Hd (nums1 w 24 hx);clear hx
 go_enter Tryz.func163,Tryz.ntmps163
 go_wp2_with fail
 refine(keysHash_any (fun _=>True) _ 7 (by omega) _ 1 1 [x] rfl HX.out (by simp)).mono ?_
 rintro e w1 ⟨rfl,hb⟩;go_wp2_with fail;go_ret
 exact⟨rfl,bnext (bnew (Below.refl _ _) _) hb⟩
theorem isNumber_any (w:World)(n:Int):Calls Tryz.prog 300 #[.int .i64 n] w fun e w'=>e= .returned (.bool (decide (0≤n∧n<4)))∧Below w.heap.size w w':=by
 go_enter Tryz.func300,Tryz.ntmps300
 go_wp2_with fail
 all_goals go_ret
 all_goals refine⟨ret_bool ?_,Below.refl _ _⟩
 all_goals first
   |exact(decide_eq_true (by omega)).symm
   |exact(decide_eq_false (by omega)).symm
   |exact decide_eq_decide.2 (by omega)
   |(rw [Bool.eq_iff_iff];simp;omega)
def ownerS (key n:Int):Int:=if 0≤n∧n<4 then hashS 1 [key,n]else 0
theorem owner_any (w:World)(key n:Int)(hk:okU key):Calls Tryz.prog 223 #[.int .u64 key,.int .i64 n] w fun e w'=>e= .returned (.int .u64 (ownerS key n))∧Below w.heap.size w w':=by
 by_cases hn:0≤n∧n<4
 · have HR:Hid (ownerS key n=hashS 1 [key,n]):=by show _=_;unfold ownerS;rw [if_pos hn]
   have hd:decide (0≤n∧n<4)=true:=decide_eq_true hn;have HD:=Hd hd;have hn0:=hn.1;have hn1:=hn.2
   have hw:IntKind.u64.wrap n=n:=by rw [IntKind.wrap_u64];omega
   have ok2:okU n:=okU_of hn0 (by omega)
   clear hd hn
   go_enter Tryz.func223,Tryz.ntmps223
   go_wp2_with fail
   refine(isNumber_any w n).mono ?_
   rintro e w1 ⟨rfl,hb1⟩;rw [HD.out];have HX:=Hd (nums2 w1 24 hk ok2);go_wp2_with fail
   refine(keysHash_any (fun _=>True) _ 1 (by omega) _ 2 2 [key,n] rfl HX.out (by simp)).mono ?_
   rintro e w2 ⟨rfl,hb⟩;go_wp2_with fail;go_ret
   exact⟨ret_int HR.out.symm,bnext (bnew hb1 _) hb⟩
 · have HR:Hid (ownerS key n=0):=by show _=_;unfold ownerS;rw [if_neg hn]
   have HD:=Hd (decide_eq_false hn);clear hn
   go_enter Tryz.func223,Tryz.ntmps223
   go_wp2_with fail
   refine(isNumber_any w n).mono ?_
   rintro e w1 ⟨rfl,hb1⟩;rw [HD.out];go_wp2_with fail;go_ret
   exact⟨ret_int HR.out.symm,hb1⟩
theorem node_any (w:World)(x y:Int)(hx:okU x)(hy:okU y):Calls Tryz.prog 71 #[.int .u64 x,.int .u64 y] w fun e w'=>e= .returned (.int .u64 (hashS 6 [x,y]))∧Below w.heap.size w w':=by
 have HX:=Hd (nums2 w 24 hx hy);clear hx hy
 go_enter Tryz.func71,Tryz.ntmps71
 go_wp2_with fail
 refine(Hash_big 6 (by omega) (fun _=>True) _ _ _ [x,y] HX.out (by simp)).mono ?_
 rintro e w1 ⟨rfl,hb⟩;go_wp2_with fail;go_ret
 exact⟨rfl,bnext (bnew (Below.refl _ _) _) hb⟩
def rhoS (o:Int)(i:Nat):Int:=if o<18446744069414584321 then hashS 4 [o,i]else 0
theorem rho_any (w:World)(o:Int)(i:Nat)(ho:okU o)(hi:i≤1000):Calls Tryz.prog 114 #[.int .u64 o,.int .i64 i] w fun e w'=>e= .returned (.int .u64 (rhoS o i))∧Below w.heap.size w w':=by
 have hw:IntKind.u64.wrap (i:Int)=i:=by rw [IntKind.wrap_u64];omega
 have HX:=Hd (nums2 w 24 ho (okU_of (x:=(i:Int)) (by omega) (by omega)))
 clear ho
 by_cases hn:o<18446744069414584321
 · have HR:Hid (rhoS o i=hashS 4 [o,i]):=by show _=_;unfold rhoS;rw [if_pos hn]
   go_enter Tryz.func114,Tryz.ntmps114
   go_wp2_with fail
   refine(Hash_big 4 (by omega) (fun _=>True) _ _ _ [o,(i:Int)] HX.out (by simp)).mono ?_
   rintro e w1 ⟨rfl,hb⟩;go_wp2_with fail;go_ret
   exact⟨ret_int HR.out.symm,bnext (bnew (Below.refl _ _) _) hb⟩
 · have HR:Hid (rhoS o i=0):=by show _=_;unfold rhoS;rw [if_neg hn]
   go_enter Tryz.func114,Tryz.ntmps114
   go_wp2_with fail;go_ret
   exact⟨ret_int HR.out.symm,Below.refl _ _⟩
def originS (marks:List Int)(acc nonce:Int):Int:=
 if marks.length=0 then (if acc<18446744069414584321∧nonce<18446744069414584321 then hashS 5 [acc,nonce]else 0)else (if marks.getD 0 0<18446744069414584321 then marks.getD 0 0 else 0)
theorem origin_any (S:Nat→Prop)(w:World)(a:Option Addr)(cap:Nat)(l:List Int)(h:numsR.rel S w [.slice a l.length cap] l)(x y:Int)(hx:okU x)(hy:okU y):
   Calls Tryz.prog 170 #[.slice a l.length cap,.int .u64 x,.int .u64 y] w fun e w'=>e= .returned (.int .u64 (originS l x y))∧Below w.heap.size w w':=by
 have HX:=Hd (nums2 w 24 hx hy);have g1:=(sliceR.lens h).2;unfold maxLen at g1
 by_cases hl:l.length=0
 · by_cases hc:x<18446744069414584321∧y<18446744069414584321
   · have HR:Hid (originS l x y=hashS 5 [x,y]):=by show _=_;unfold originS;rw [if_pos hl,if_pos hc]
     have hc0:=hc.1;have hc1:=hc.2;clear hc h;rw [hl]
     go_enter Tryz.func170,Tryz.ntmps170
     go_wp2_with fail
     refine(Hash_big 5 (by omega) (fun _=>True) _ _ _ [x,y] HX.out (by simp)).mono ?_
     rintro e w1 ⟨rfl,hb⟩;go_wp2_with fail;go_ret
     exact⟨ret_int HR.out.symm,bnext (bnew (Below.refl _ _) _) hb⟩
   · have HR:Hid (originS l x y=0):=by show _=_;unfold originS;rw [if_pos hl,if_neg hc]
     clear h;rw [hl]
     by_cases hc0:x<18446744069414584321
     · have hc1: ¬y<18446744069414584321:=fun h=>hc ⟨hc0,h⟩
       go_enter Tryz.func170,Tryz.ntmps170
       go_wp2_with fail;go_ret
       exact⟨ret_int HR.out.symm,Below.refl _ _⟩
     · go_enter Tryz.func170,Tryz.ntmps170
       go_wp2_with fail;go_ret
       exact⟨ret_int HR.out.symm,Below.refl _ _⟩
 · have hpos:0<l.length:=by omega
   obtain⟨b,off,rfl,hbl,n0,n1,hc⟩:=nums_at h 0 hpos
   have hpi:(0:Int)<(l.length:Int):=by omega
   rw [Nat.add_zero]at hc;have hg:=getD_at l 0 0 hpos
   have HS:Hid (originS l x y=if l[0]<18446744069414584321 then l[0]else 0):=by show _=_;unfold originS;rw [if_neg hl,hg]
   clear hg h;generalize l[0]=n at*
   by_cases hp:n<18446744069414584321
   · have HR:Hid (originS l x y=n):=by show _=_;rw [HS.out,if_pos hp]
     go_enter Tryz.func170,Tryz.ntmps170
     go_wp2_with fail;go_ret
     exact⟨ret_int HR.out.symm,Below.refl _ _⟩
   · have HR:Hid (originS l x y=0):=by show _=_;rw [HS.out,if_neg hp]
     go_enter Tryz.func170,Tryz.ntmps170
     go_wp2_with fail;go_ret
     exact⟨ret_int HR.out.symm,Below.refl _ _⟩
theorem hashS_ok (label:Int)(l:List Int):okU (hashS label l):=by
 have:=hashS_in label l
 exact okU_of this.1 (by omega)
end Go.Proofs.YtjknlhiimmbilaaGreatDoor
/- Notes: commitments, marks, paths. -/
set_option maxRecDepth 100000
set_option maxHeartbeats 1000000
namespace Go.Proofs.YtjknlhiimmbilaaGreatDoor
open Go.ChangeShapes Go.WideShapes Go.ChangeAt Go.RowKit
theorem noteElems_any (w:World)(n:NoteM)(hn:NoteOk n):Calls Tryz.prog 228 #[.agg #[.int .u64 n.value,.int .u64 n.owner,.int .u64 n.rho,.int .u64 n.blind]] w
   fun e w'=>(∃a cap,e= .returned (.slice a 4 cap)∧numsR.rel (fun _=>True) w' [.slice a 4 cap] [n.value,n.owner,n.rho,n.blind])∧Below w.heap.size w w':=by
 have HX:=Hd (nums4 (w.alloc (.cells #[.int .u64 n.value,.int .u64 n.owner,.int .u64 n.rho,.int .u64 n.blind] 247)) 24 hn.value hn.owner hn.rho hn.blind);clear hn
 go_enter Tryz.func228,Tryz.ntmps228
 go_wp2_with fail;go_ret
 exact⟨⟨_,_,rfl,by simpa using HX.out⟩,bnew (bnew (Below.refl _ _) _) _⟩
def commitV (n:NoteM):Int:=if noteB n=true then hashS 2 [n.value,n.owner,n.rho,n.blind]else 0
theorem noteB_elems {n:NoteM}(h:noteB n=true):elemsB [n.value,n.owner,n.rho,n.blind]=true:=by
 unfold noteB at h;rw [decide_eq_true_eq]at h
 simp [elemsB,allUp,elemB]
 omega
theorem commitment_any (w:World)(p:Nat)(st:Int)(ho:OrAt false st p w)(n:NoteM)(hn:NoteOk n):Calls Tryz.prog 162 #[.pointer (some ⟨p,0,none⟩),.agg #[.int .u64 n.value,.int .u64 n.owner,.int .u64 n.rho,.int .u64 n.blind]] w
   fun e w'=>e= .returned (.tuple #[.int .u64 (commitV n),.bool (noteB n)])∧Below w.heap.size w w':=by
 have hb0:=bnew (Below.refl w.heap.size w) (.cells #[.int .u64 n.value,.int .u64 n.owner,.int .u64 n.rho,.int .u64 n.blind] 247);have HX:=Hd (box_new w (.cells #[.int .u64 n.value,.int .u64 n.owner,.int .u64 n.rho,.int .u64 n.blind] 247));have HO:=Hd (ho.keepB hb0);have HB:=Hd hb0;clear hb0 ho
 go_enter Tryz.func162,Tryz.ntmps162
 go_wp2_with fail
 refine(noteValid_any _ n).mono ?_
 rintro e w1 ⟨rfl,hb1⟩;obtain⟨x0,x1⟩:=box_cells (box_after hb1 HX.out);have hw1:=bnext HB.out hb1
 cases hv:noteB n with
 |false=>
  have HV:Hid (commitV n=0):=by show _=_;unfold commitV;rw [hv];rfl
  go_wp2_with fail;go_ret2;rw [HV.out,hv]
  exact⟨rfl,hw1⟩
 |true=>
  have HV:Hid (commitV n=hashS 2 [n.value,n.owner,n.rho,n.blind]):=by show _=_;unfold commitV;rw [hv];rfl
  have HE:=Hd (noteB_elems hv);go_wp2_with fail
  refine(noteElems_any w1 n hn).mono ?_
  rintro e w2 ⟨⟨a,cap,rfl,hr⟩,hb2⟩;have hw2:=bnext hw1 hb2;go_wp2_with fail
  refine(peek_any (fun _=>True) w2 p st (HO.out.keepB (bnext hb1 hb2)) 2 (by omega) (by omega) a cap [n.value,n.owner,n.rho,n.blind] hr (by simp)).mono ?_
  rintro e w3 ⟨rfl,hb3⟩
  have hp:peekS 2 [n.value,n.owner,n.rho,n.blind]=hashS 2 [n.value,n.owner,n.rho,n.blind]:=by unfold peekS;rw [HE.out];rfl
  rw [HE.out,hp];clear hp;go_wp2_with fail;go_ret2;rw [HV.out,hv]
  exact⟨rfl,bnext hw2 hb3⟩
def markK (key rho:Int):Bool:=decide (key<18446744069414584321∧rho<18446744069414584321)
def markV (key rho:Int):Int:=if markK key rho=true then hashS 3 [key,rho]else 0
theorem marked_any (w:World)(p:Nat)(st:Int)(ho:OrAt false st p w)(key rho:Int)(hk:okU key)(hr:okU rho):Calls Tryz.prog 224 #[.pointer (some ⟨p,0,none⟩),.int .u64 key,.int .u64 rho] w
   fun e w'=>e= .returned (.tuple #[.int .u64 (markV key rho),.bool (markK key rho)])∧Below w.heap.size w w':=by
 have HX:=Hd (nums2 w 24 hk hr);have hb0:=bnew (Below.refl w.heap.size w) (.cells #[.int .u64 key,.int .u64 rho] 24);have HO:=Hd (ho.keepB hb0);have HB:=Hd hb0;clear hb0 ho
 by_cases h1:key<18446744069414584321
 · by_cases h2:rho<18446744069414584321
   · have hv:markK key rho=true:=decide_eq_true ⟨h1,h2⟩
     have HV:Hid (markV key rho=hashS 3 [key,rho]):=by show _=_;unfold markV;rw [hv];rfl
     have HK:=Hd hv
     have HE:Hid (elemsB [key,rho]=true):=by show _=_;simp [elemsB,allUp,elemB];omega
     clear hv
     go_enter Tryz.func224,Tryz.ntmps224
     go_wp2_with fail
     refine(peek_any (fun _=>True) _ p st HO.out 3 (by omega) (by omega) _ _ [key,rho] HX.out (by simp)).mono ?_
     rintro e w3 ⟨rfl,hb3⟩
     have hp:peekS 3 [key,rho]=hashS 3 [key,rho]:=by unfold peekS;rw [HE.out];rfl
     rw [HE.out,hp];clear hp;go_wp2_with fail;go_ret2;rw [HV.out,HK.out]
     exact⟨rfl,bnext HB.out hb3⟩
   · have hv:markK key rho=false:=decide_eq_false (fun h=>h2 h.2)
     have HV:Hid (markV key rho=0):=by show _=_;unfold markV;rw [hv];rfl
     have HK:=Hd hv;clear hv
     go_enter Tryz.func224,Tryz.ntmps224
     go_wp2_with fail;go_ret2;rw [HV.out,HK.out]
     exact⟨rfl,Below.refl _ _⟩
 · have hv:markK key rho=false:=decide_eq_false (fun h=>h1 h.1)
   have HV:Hid (markV key rho=0):=by show _=_;unfold markV;rw [hv];rfl
   have HK:=Hd hv;clear hv
   go_enter Tryz.func224,Tryz.ntmps224
   go_wp2_with fail;go_ret2;rw [HV.out,HK.out]
   exact⟨rfl,Below.refl _ _⟩
def climbTo (leaf pos:Int)(path:List Int):Nat→Int
 |0=>leaf
 |k+1=>if (bits BinOp.and IntKind.i64 (pos / 2^k) 1==0)=true then hashS 6 [climbTo leaf pos path k,path.getD k 0]else hashS 6 [path.getD k 0,climbTo leaf pos path k]
theorem climbTo_ok {leaf pos:Int}{path:List Int}(h:okU leaf): ∀k,okU (climbTo leaf pos path k)
 |0=>h
 |k+1=>by unfold climbTo;split<;>exact hashS_ok _ _
def climbS (leaf pos:Int)(path:List Int):Int:=
 if path.length≤12∧0≤pos∧pos<2^path.length∧leaf<18446744069414584321∧elemsB path=true then climbTo leaf pos path path.length else 0
theorem pow12: ∀k:Fin 13,IntKind.i64.wrap (2^k.val)=2^k.val∧(0:Int)<2^k.val∧(2:Int)^k.val≤4096:=by decide+kernel
end Go.Proofs.YtjknlhiimmbilaaGreatDoor
/- Paths; notes that may be spent; sums. -/
set_option maxRecDepth 100000
set_option maxHeartbeats 3000000
namespace Go.Proofs.YtjknlhiimmbilaaGreatDoor
open Go.ChangeShapes Go.WideShapes Go.ChangeAt Go.RowKit
theorem climb_any (S:Nat→Prop)(w:World)(leaf pos:Int)(hl:okU leaf)(a:Option Addr)(cap:Nat)(path:List Int)(h:numsR.rel S w [.slice a path.length cap] path)(hlen:path.length≤12)(p0:0≤pos)(p1:pos≤4095):
   Calls Tryz.prog 225 #[.int .u64 leaf,.int .i64 pos,.slice a path.length cap] w fun e w'=>e= .returned (.int .u64 (climbS leaf pos path))∧Below w.heap.size w w':=by
 have H:=Hd h;have HW:=Hd hl;obtain⟨l0,l1⟩:=okU_in hl;clear h hl
 obtain⟨e1,e2,e3⟩:=pow12 ⟨path.length,by omega⟩
 simp only at e1 e2 e3
 have g12: ¬(12:Int)<(path.length:Int):=by omega
 by_cases hp:pos<2^path.length
 · by_cases hlf:leaf<18446744069414584321
   · have HC:Hid (climbS leaf pos path=if elemsB path=true then climbTo leaf pos path path.length else 0):=by
       show _=_
       unfold climbS
       by_cases he:elemsB path=true
       · rw [if_pos ⟨hlen,p0,hp,hlf,he⟩,if_pos he]
       · rw [if_neg (fun h=>he h.2.2.2.2),if_neg he]
     generalize hP2:(2:Int)^path.length=P2 at*
     go_enter Tryz.func225,Tryz.ntmps225
     go_wp2_with fail
     go_loop [32] (fun i=> ∃k:Nat,k≤path.length∧i= .int .i64 k∧Hid (allUp (fun k=>elemB (path.getD k 0)) k=true)) (fun i=>path.length-(intOf i).toNat)
     case atStart=>exact⟨0,Nat.zero_le _,rfl,rfl⟩
     case round=>
       obtain⟨k,hk,rfl,hall⟩:=hrel
       by_cases hlt:k<path.length
       · obtain⟨b,off,rfl,hbl,n0,n1,hc⟩:=nums_at H.out k hlt
         have hg:=Hd (getD_at path 0 k hlt);generalize path[k]=n at*
         by_cases hpn:n<18446744069414584321
         · have HY:Hid (allUp (fun k=>elemB (path.getD k 0)) (k+1)=true):=allUp_step hall.out (by rw [hg.out];exact decide_eq_true hpn)
           go_wp2_with fail
           go_round
           case rel=>exact⟨k+1,by omega,by go_num,HY⟩
           case measure=>simp [intOf];omega
         · have HF:Hid (climbS leaf pos path=0):=by
             show _=_
             have:elemsB path=false:=allUp_false (k:=k) (by rw [hg.out];exact decide_eq_false hpn) hlt
             rw [HC.out,this];rfl
           go_wp2_with fail;go_ret
           exact⟨ret_int HF.out.symm,Below.refl _ _⟩
       · obtain rfl:k=path.length:=by omega
         have HF:Hid (climbS leaf pos path=climbTo leaf pos path path.length):=by
           show _=_
           have:elemsB path=true:=hall.out
           rw [HC.out,this];rfl
         clear hall HC;go_wp2_with fail
         go_loopw [9,42] (fun vd vi wr=> ∃k:Nat,k≤path.length∧vi= .int .i64 k∧vd= .int .u64 (climbTo leaf pos path k)∧Below w.heap.size w wr) (fun _ vi _=>path.length-(intOf vi).toNat)
         case atStart=>exact⟨0,Nat.zero_le _,rfl,rfl,Below.refl _ _⟩
         case round=>
           obtain⟨k,hk,rfl,rfl,hbr⟩:=hrel
           by_cases hlt:k<path.length
           · obtain⟨b,off,rfl,hbl,n0,n1,hc⟩:=nums_at (numsR.keepB H.out hbr) k hlt
             have hg:=Hd (getD_at path 0 k hlt);have HD:=Hd (climbTo_ok (pos:=pos) (path:=path) HW.out k);have HS:Hid (climbTo leaf pos path (k+1)=if (bits BinOp.and IntKind.i64 (pos / 2^k) 1==0)=true then hashS 6 [climbTo leaf pos path k,path.getD k 0]else hashS 6 [path.getD k 0,climbTo leaf pos path k]):=rfl;generalize path[k]=n at*;generalize climbTo leaf pos path k=d at*
             cases hbit:(bits BinOp.and IntKind.i64 (pos / 2^k) 1==0)with
             |true=>
              have HN:Hid (climbTo leaf pos path (k+1)=hashS 6 [d,n]):=by show _=_;rw [HS.out,hbit,hg.out];rfl
              go_wp2_with fail
              refine(node_any wr d n HD.out (okU_of n0 n1)).mono ?_
              rintro e w1 ⟨rfl,hb1⟩;go_wp2_with fail
              go_roundw
              case rel=>exact⟨k+1,by omega,by go_num,by rw [HN.out],bnext hbr hb1⟩
              case measure=>simp [intOf];omega
             |false=>
              have HN:Hid (climbTo leaf pos path (k+1)=hashS 6 [n,d]):=by show _=_;rw [HS.out,hbit,hg.out];rfl
              go_wp2_with fail
              refine(node_any wr n d (okU_of n0 n1) HD.out).mono ?_
              rintro e w1 ⟨rfl,hb1⟩;go_wp2_with fail
              go_roundw
              case rel=>exact⟨k+1,by omega,by go_num,by rw [HN.out],bnext hbr hb1⟩
              case measure=>simp [intOf];omega
           · obtain rfl:k=path.length:=by omega
             go_wp2_with fail;go_ret
             exact⟨ret_int HF.out.symm,hbr⟩
   · have HF:Hid (climbS leaf pos path=0):=by show _=_;unfold climbS;rw [if_neg (fun h=>hlf h.2.2.2.1)]
     generalize hP2:(2:Int)^path.length=P2 at*
     go_enter Tryz.func225,Tryz.ntmps225
     go_wp2_with fail;go_ret
     exact⟨ret_int HF.out.symm,Below.refl _ _⟩
 · have HF:Hid (climbS leaf pos path=0):=by show _=_;unfold climbS;rw [if_neg (fun h=>hp h.2.2.1)]
   generalize hP2:(2:Int)^path.length=P2 at*
   go_enter Tryz.func225,Tryz.ntmps225
   go_wp2_with fail;go_ret
   exact⟨ret_int HF.out.symm,Below.refl _ _⟩
theorem notes_any (S:Nat→Prop)(w:World)(a:Option Addr)(cap:Nat)(l:List NoteM)(h:notesR.rel S w [.slice a l.length cap] l):
   Calls Tryz.prog 222 #[.slice a l.length cap] w fun e w'=>e= .returned (.bool (l.all noteB))∧Below w.heap.size w w':=by
 have g1:=(sliceR.lens h).2;unfold maxLen at g1;have H:=Hd h;clear h
 go_enter Tryz.func222,Tryz.ntmps222
 go_wp2_with fail
 go_loopw [7] (fun i wr=> ∃k:Nat,k≤l.length∧i= .int .i64 k∧Hid ((l.take k).all noteB=true)∧Below w.heap.size w wr) (fun i _=>l.length-(intOf i).toNat)
 case atStart=>exact⟨0,Nat.zero_le _,rfl,rfl,Below.refl _ _⟩
 case round=>
   obtain⟨k,hk,rfl,hall,hbr⟩:=hrel
   by_cases hlt:k<l.length
   · obtain⟨b,off,rfl,hbl,hok,c0,c1,c2,c3⟩:=notes_at (notesR.keepB H.out hbr) k hlt
     have hno:=Hd (all_false noteB l k hlt);have hyes:=Hd (all_take_succ noteB l k hlt);generalize l[k]=n at*;have hbn:=bnew (Below.refl wr.heap.size wr) (.cells #[.int .u64 n.value,.int .u64 n.owner,.int .u64 n.rho,.int .u64 n.blind] 247);go_wp2_with fail
     refine(noteValid_any _ n).mono ?_
     rintro e w1 ⟨rfl,hb1⟩;have hbw:=bnext (bnext hbr hbn) hb1
     cases hv:noteB n with
     |true=>
      have HY:Hid ((l.take (k+1)).all noteB=true):=by show _=_;rw [hyes.out,hall.out,hv];rfl
      go_wp2_with fail
      go_roundw
      case rel=>exact⟨k+1,by omega,by go_num,HY,hbw⟩
      case measure=>simp [intOf];omega
     |false=>
      have HF:=Hd (hno.out hv);go_wp2_with fail;go_ret
      exact⟨ret_bool HF.out.symm,hbw⟩
   · obtain rfl:k=l.length:=by omega
     have HF:Hid (l.all noteB=true):=by have:=hall.out;rw [List.take_length]at this;exact this
     go_wp2_with fail;go_ret
     exact⟨ret_bool HF.out.symm,hbr⟩
def spendableB (s:SpentM):Bool:=
 noteB s.note&&(elemsB [s.key]&&(decide (0≤s.number∧s.number<4∧0≤s.position∧s.position≤4095∧s.path.length≤12)&&elemsB s.path))
theorem spendable_any (S:Nat→Prop)(w:World)(s:SpentM)(hok:SpentOk s)(a:Option Addr)(cap:Nat)(h:numsR.rel S w [.slice a s.path.length cap] s.path):
   Calls Tryz.prog 221 #[.agg #[.int .u64 s.note.value,.int .u64 s.note.owner,.int .u64 s.note.rho,.int .u64 s.note.blind,.int .u64 s.key,.int .i64 s.number,.int .i64 s.position,.slice a s.path.length cap,.bool s.dummy]] w
     fun e w'=>e= .returned (.bool (spendableB s))∧Below w.heap.size w w':=by
 have hb0:=bnew (Below.refl w.heap.size w) (.cells #[.int .u64 s.note.value,.int .u64 s.note.owner,.int .u64 s.note.rho,.int .u64 s.note.blind,.int .u64 s.key,.int .i64 s.number,.int .i64 s.position,.slice a s.path.length cap,.bool s.dummy] 252);have HX:=Hd (box_new w (.cells #[.int .u64 s.note.value,.int .u64 s.note.owner,.int .u64 s.note.rho,.int .u64 s.note.blind,.int .u64 s.key,.int .i64 s.number,.int .i64 s.position,.slice a s.path.length cap,.bool s.dummy] 252));have HB:=Hd hb0;have H:=Hd (numsR.keepB h hb0);have HU:Hid (spendableB s=(noteB s.note&&(elemsB [s.key]&&(decide (0≤s.number∧s.number<4∧0≤s.position∧s.position≤4095∧s.path.length≤12)&&elemsB s.path)))):=rfl;have hkey:=hok.key;clear hb0 h hok
 go_enter Tryz.func221,Tryz.ntmps221
 go_wp2_with fail
 refine(noteValid_any _ s.note).mono ?_
 rintro e w1 ⟨rfl,hb1⟩;have hw1:=bnext HB.out hb1;obtain⟨x0,x1⟩:=box_cells (box_after hb1 HX.out)
 cases hv:noteB s.note with
 |false=>
  have HF:Hid (spendableB s=false):=by show _=_;rw [HU.out,hv];rfl
  go_wp2_with fail;go_ret
  exact⟨ret_bool HF.out.symm,hw1⟩
 |true=>
  have HK:=Hd (nums1 w1 24 hkey);go_wp2_with fail
  refine(elements_any (fun _=>True) _ _ 1 [s.key] HK.out).mono ?_
  rintro e w2 ⟨rfl,hb2⟩;have hbn:=bnew (Below.refl w1.heap.size w1) (.cells #[.int .u64 s.key] 24);have hw2:=bnext (bnext hw1 hbn) hb2;clear x0 x1;obtain⟨x0,x1⟩:=box_cells (box_after hb2 (box_after hbn (box_after hb1 HX.out)))
  cases he:elemsB [s.key]with
  |false=>
   have HF:Hid (spendableB s=false):=by show _=_;rw [HU.out,hv,he];rfl
   go_wp2_with fail;go_ret
   exact⟨ret_bool HF.out.symm,hw2⟩
  |true=>
   by_cases hd:0≤s.number∧s.number<4∧0≤s.position∧s.position≤4095∧s.path.length≤12
   · obtain⟨d1,d2,d3,d4,d5⟩:=hd
     have HD:=Hd (decide_eq_true (⟨d1,d2,d3,d4,d5⟩:0≤s.number∧s.number<4∧0≤s.position∧s.position≤4095∧s.path.length≤12))
     have d6:(s.path.length:Int)≤12:=by omega
     go_wp2_with fail
     refine(elements_any S w2 a cap s.path (numsR.keepB (numsR.keepB (numsR.keepB H.out hb1) hbn) hb2)).mono ?_
     rintro e w3 ⟨rfl,hb3⟩
     have HF:Hid (spendableB s=elemsB s.path):=by show _=_;rw [HU.out,hv,he,HD.out];rfl
     go_wp2_with fail;go_ret
     exact⟨ret_bool HF.out.symm,bnext hw2 hb3⟩
   · have HF:Hid (spendableB s=false):=by show _=_;rw [HU.out,hv,he,decide_eq_false hd];rfl
     by_cases d1:0≤s.number
     · by_cases d2:s.number<4
       · by_cases d3:0≤s.position
         · by_cases d4:s.position≤4095
           · have d6: ¬(s.path.length:Int)≤12:=fun h=>hd ⟨d1,d2,d3,d4,by omega⟩
             go_wp2_with fail;go_ret
             exact⟨ret_bool HF.out.symm,hw2⟩
           · go_wp2_with fail
             go_ret
             exact⟨ret_bool HF.out.symm,hw2⟩
         · go_wp2_with fail
           go_ret
           exact⟨ret_bool HF.out.symm,hw2⟩
       · go_wp2_with fail
         go_ret
         exact⟨ret_bool HF.out.symm,hw2⟩
     · go_wp2_with fail
       go_ret
       exact⟨ret_bool HF.out.symm,hw2⟩
end Go.Proofs.YtjknlhiimmbilaaGreatDoor

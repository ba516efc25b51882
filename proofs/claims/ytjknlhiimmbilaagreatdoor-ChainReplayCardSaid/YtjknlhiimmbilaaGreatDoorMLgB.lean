/- The ledger of the program: exceeds, Credit. -/
import Derived.Test.YtjknlhiimmbilaaGreatDoorLgS
set_option maxRecDepth 100000
set_option maxHeartbeats 400000
namespace Go.Proofs.YtjknlhiimmbilaaGreatDoor
open Go.ChangeShapes Go.WideShapes Go.ChangeAt Go.RowKit Go.Sort
def exceedsB (b a:Int):Bool:=decide (9223372036854775807<b)||decide (9223372036854775807-b<a)
theorem exceeds_any (w:World)(b a:Int)(hb:0≤b):
   Calls Tryz.prog 121 #[.int .u64 b,.int .u64 a] w fun e w'=>e= .returned (.bool (exceedsB b a))∧Below w.heap.size w w':=by
 have HE:Hid (exceedsB b a=(decide (9223372036854775807<b)||decide (9223372036854775807-b<a))):=rfl
 by_cases h1:9223372036854775807<b
 · have HF:Hid (exceedsB b a=true):=by show _=_;rw [HE.out,decide_eq_true h1,Bool.true_or]
   go_enter Tryz.func121,Tryz.ntmps121
   go_wp2_with fail;go_ret
   exact⟨congrArg (fun b=>Ending.returned (.bool b)) HF.out.symm,Below.refl _ _⟩
 · have hw:IntKind.u64.wrap (9223372036854775807-b)=9223372036854775807-b:=by rw [IntKind.wrap_u64];omega
   by_cases h2:9223372036854775807-b<a
   · have HF:Hid (exceedsB b a=true):=by show _=_;rw [HE.out,decide_eq_true h2,Bool.or_true]
     go_enter Tryz.func121,Tryz.ntmps121
     go_wp2_with fail;go_ret
     exact⟨congrArg (fun b=>Ending.returned (.bool b)) HF.out.symm,Below.refl _ _⟩
   · have HF:Hid (exceedsB b a=false):=by show _=_;rw [HE.out,decide_eq_false h1,decide_eq_false h2];rfl
     go_enter Tryz.func121,Tryz.ntmps121
     go_wp2_with fail;go_ret
     exact⟨congrArg (fun b=>Ending.returned (.bool b)) HF.out.symm,Below.refl _ _⟩
theorem acL_ok {S:Nat→Prop}{w:World}{a:Option Addr}{cap:Nat}{l:List AcM}(h:accsR.rel S w [.slice a l.length cap] l)(id:Int)(hid:okU id):AcOk (acL l id)∧(acL l id).id=id:=by
 unfold acL
 split
 · rename_i hf
   have hp:=found_lt hf;obtain⟨b,off, -, -, -,hok, -⟩:=acs_at h (posL l id) hp;rw [List.getD_eq_getElem?_getD,List.getElem?_eq_getElem hp]
   refine⟨hok,?_⟩
   unfold foundL at hf;rw [List.getElem?_eq_getElem hp]at hf
   simpa using hf
 · exact⟨⟨hid,okU_of (by show(0:Int)≤0;omega) (by show(0:Int)<_;omega),okU_of (by show(0:Int)≤0;omega) (by show(0:Int)<_;omega)⟩,rfl⟩
theorem lset_f (S:Nat→Prop)(w:World)(a:Option Addr)(cap:Nat)(l:List AcM)(h:accsR.rel S w [.slice a l.length cap] l)(hl:l.length≤100000)(hup:upL l)(id bal nonce:Int)(hx:AcOk ⟨id,bal,nonce⟩):
   Calls Tryz.prog 122 #[.agg #[.slice a l.length cap],.agg #[.int .u64 id,.int .u64 bal,.int .u64 nonce]] w fun e w'=> ∃(a':Option Addr) (c':Nat),e= .returned (.agg #[.slice a' (setL l ⟨id,bal,nonce⟩).length c'])∧accsR.rel (fun k=>w.heap.size≤k) w' [.slice a' (setL l ⟨id,bal,nonce⟩).length c'] (setL l ⟨id,bal,nonce⟩)∧Below w.heap.size w w':=
 lset_any S w a cap l h hl hup ⟨id,bal,nonce⟩ hx
def creditB (l:List AcM)(id amt:Int):Bool:=exceedsB (acL l id).bal amt
def creditE (l:List AcM)(id amt:Int):Int:=if creditB l id amt=true then 1 else 0
def creditL (l:List AcM)(id amt:Int):List AcM:=if creditB l id amt=true then []else setL l ⟨id,(acL l id).bal+amt,(acL l id).nonce⟩
def LgOut (l:List AcM)(err:Int)(w:World)(e:Ending)(w':World):Prop:= ∃(a:Option Addr) (c:Nat),e= .returned (.tuple #[.agg #[.slice a l.length c],.int .i64 err])∧accsR.rel (fun k=>w.heap.size≤k) w' [.slice a l.length c] l∧Below w.heap.size w w'
theorem credit_any (S:Nat→Prop)(w:World)(a:Option Addr)(cap:Nat)(l:List AcM)(h:accsR.rel S w [.slice a l.length cap] l)(hl:l.length≤100000)(hup:upL l)(id amt:Int)(hid:okU id)(hamt:okU amt):
   Calls Tryz.prog 81 #[.agg #[.slice a l.length cap],.int .u64 id,.int .u64 amt] w (LgOut (creditL l id amt) (creditE l id amt) w):=by
 obtain⟨HOA, -⟩:=acL_ok h id hid;have hbA:=bnew (bnew (Below.refl w.heap.size w) (.cells #[.slice a l.length cap] 100)) (.cells #[.slice none 0 0] 100);have HX:=Hd (two_new w (.cells #[.slice a l.length cap] 100) (.cells #[.slice none 0 0] 100)).2;have HR:=Hd (two_new w (.cells #[.slice a l.length cap] 100) (.cells #[.slice none 0 0] 100)).1;have H:=Hd ((accsR).keepB h hbA);have HB:=Hd hbA
 have HSZ:Hid (((w.alloc (.cells #[.slice a l.length cap] 100)).alloc (.cells #[.slice none 0 0] 100)).heap.size=w.heap.size+2):=by show _=_;rw [World.size_alloc,World.size_alloc]
 have HOAH:=Hd HOA;have HCL:Hid (creditL l id amt=if creditB l id amt=true then []else setL l ⟨id,(acL l id).bal+amt,(acL l id).nonce⟩):=rfl;have HCB:Hid (creditB l id amt=exceedsB (acL l id).bal amt):=rfl;have HCE:Hid (creditE l id amt=if creditB l id amt=true then 1 else 0):=rfl
 have HEX:Hid (exceedsB (acL l id).bal amt=false→(acL l id).bal+amt≤9223372036854775807):=fun hh=>by
   unfold exceedsB at hh;simp at hh;omega
 clear hbA h HOA
 go_enter Tryz.func81,Tryz.ntmps81
 go_upto_region 1 with(fail)
 generalize (w.alloc (.cells #[.slice a l.length cap] 100)).alloc (.cells #[.slice none 0 0] 100)=W at*;obtain⟨x0,x1⟩:=box_cells HX.out;go_wp2_with fail
 refine(lGet_any S W a cap l H.out (by omega) hup id).mono ?_
 rintro e w1 ⟨rfl,hb1⟩;clear x0 x1;obtain⟨m,hm⟩: ∃m,acL l id=m:=⟨_,rfl⟩;rw [hm]at HOAH HCL HCB HEX⊢;clear hm;have hb0:=(okU_in HOAH.out.bal).1;go_wp2_with fail
 refine(exceeds_any w1 m.bal amt hb0).mono ?_
 rintro e w2 ⟨rfl,hb2⟩;have HB2:=Hd (bnext hb1 hb2);clear hb1 hb2;have HR2:=Hd (box_after HB2.out HR.out)
 cases hx:exceedsB m.bal amt with
 |true=>
  have HF:Hid (creditL l id amt= []):=by show _=_;rw [HCL.out,HCB.out,if_pos hx]
  have HE:Hid (creditE l id amt=1):=by show _=_;rw [HCE.out,HCB.out,if_pos hx]
  clear hx;have HRK:=HR2;have HBK:=HB2
  have HW1:Hid (w.heap.size+2≤w2.heap.size):=by show _≤_;have:=HBK.out.size;have:=HSZ.out;omega
  have hR:=cells_box (old:= [.slice none 0 0]) HRK.out [.slice none 0 0] rfl
  have hK:=kept_cells w2 (q:=w.heap.size+1) (S:=fun k=>k≠w.heap.size+1) (fun h=>h rfl) [.slice none 0 0] 0
  obtain⟨wf,hwf⟩: ∃wf,wf=w2.setCells (w.heap.size+1) 0 [.slice none 0 0]:=⟨_,rfl⟩;rw [←hwf]at hR hK
  simp only [World.setCells]at hwf
  have HW:=Hd hwf;have HRF:=Hd hR;have HK:=Hd hK;clear hwf hR hK;obtain⟨r0,r1⟩:=box_cells HRK.out;go_wp2_with fail;rw [←HW.out];obtain⟨g0, -⟩:=box_cells HRF.out
  refine bodyPost_ret (v:= .tuple #[.agg #[.slice none 0 0],.int .i64 1]) (by simp [results,Tryz.results81,go_sem,g0]) rfl ?_
  rw [HF.out,HE.out]
  have hbel:Below w.heap.size w wf:=by
    have h0:Kept (fun i=>i<w.heap.size) w w2:=(Kept.of_below (S:=fun i=>i<w.heap.size) HB.out).trans (Kept.of_below (S:=fun i=>i<w.heap.size) HBK.out) fun _ _ h=>h
    have h1:Kept (fun i=>i<w.heap.size) w wf:=h0.trans HK.out fun i _ h=>by have h':i<w.heap.size:=h;show i≠_;omega
    exact h1.below (Nat.le_refl _)
  exact⟨none,0,rfl,sliceR.nil,hbel⟩
 |false=>
  have HF:Hid (creditL l id amt=setL l ⟨id,m.bal+amt,m.nonce⟩):=by show _=_;rw [HCL.out,HCB.out,if_neg (by rw [hx];simp)]
  have HE:Hid (creditE l id amt=0):=by show _=_;rw [HCE.out,HCB.out,if_neg (by rw [hx];simp)]
  have hle:=HEX.out hx;have ha0:=(okU_in hamt).1
  have hwr:IntKind.u64.wrap (m.bal+amt)=m.bal+amt:=by rw [IntKind.wrap_u64];omega
  have HAC:Hid (AcOk ⟨id,m.bal+amt,m.nonce⟩):=⟨hid,okU_of (by show(0:Int)≤m.bal+amt;omega) (by show m.bal+amt<_;omega),HOAH.out.nonce⟩
  obtain⟨B,hB⟩: ∃B,m.bal+amt=B:=⟨_,rfl⟩;rw [hB]at HF HAC hwr;clear hx hle;obtain⟨x0,x1⟩:=box_cells (box_after HB2.out HX.out);go_wp2_with fail
  refine(lset_f S w2 a cap l ((accsR).keepB H.out HB2.out) hl hup id B m.nonce HAC.out).mono ?_
  rintro e w3 ⟨a3,c3,rfl,hr3,hb3⟩;clear x0 x1;have HR3:=Hd hr3;have HBK:=Hd (bnext HB2.out hb3);have HRK:=Hd (box_after hb3 HR2.out)
  have HW2:Hid (w.heap.size+2≤w2.heap.size):=by show _≤_;have:=HB2.out.size;have:=HSZ.out;omega
  obtain⟨L3,hL3⟩: ∃L,setL l ⟨id,B,m.nonce⟩=L:=⟨_,rfl⟩;rw [hL3]at HR3 HF⊢;clear hL3 hr3 hb3
  have HW1:Hid (w.heap.size+2≤w3.heap.size):=by show _≤_;have:=HBK.out.size;have:=HSZ.out;omega
  have hR:=cells_box (old:= [.slice none 0 0]) HRK.out [.slice a3 L3.length c3] rfl
  have hK:=kept_cells w3 (q:=w.heap.size+1) (S:=fun k=>k≠w.heap.size+1) (fun h=>h rfl) [.slice a3 L3.length c3] 0
  obtain⟨wf,hwf⟩: ∃wf,wf=w3.setCells (w.heap.size+1) 0 [.slice a3 L3.length c3]:=⟨_,rfl⟩;rw [←hwf]at hR hK
  simp only [World.setCells]at hwf
  have HW:=Hd hwf;have HRF:=Hd hR;have HK:=Hd hK;clear hwf hR hK;obtain⟨r0,r1⟩:=box_cells HRK.out;go_wp2_with fail;rw [←HW.out];obtain⟨g0, -⟩:=box_cells HRF.out
  refine bodyPost_ret (v:= .tuple #[.agg #[.slice a3 L3.length c3],.int .i64 0]) (by simp [results,Tryz.results81,go_sem,g0]) rfl ?_
  rw [HF.out,HE.out]
  have hbel:Below w.heap.size w wf:=by
    have h0:Kept (fun i=>i<w.heap.size) w w3:=(Kept.of_below (S:=fun i=>i<w.heap.size) HB.out).trans (Kept.of_below (S:=fun i=>i<w.heap.size) HBK.out) fun _ _ h=>h
    have h1:Kept (fun i=>i<w.heap.size) w wf:=h0.trans HK.out fun i _ h=>by have h':i<w.heap.size:=h;show i≠_;omega
    exact h1.below (Nat.le_refl _)
  refine⟨a3,c3,rfl,?_,hbel⟩
  have h1:=(accsR).keep HR3.out (HK.out.mono fun k _ h=>by have h':w2.heap.size≤k:=h;have:=HW2.out;show k≠_;omega)
  exact(accsR).mono h1 fun k _ h=>by have h':w2.heap.size≤k:=h;have:=HW2.out;show _≤_;omega
end Go.Proofs.YtjknlhiimmbilaaGreatDoor
/- The ledger of the program: Debit. -/
set_option maxRecDepth 100000
set_option maxHeartbeats 400000
namespace Go.Proofs.YtjknlhiimmbilaaGreatDoor
open Go.ChangeShapes Go.WideShapes Go.ChangeAt Go.RowKit Go.Sort
def debitE (l:List AcM)(id amt nonce:Int):Int:=if amt=0 then 1 else if nonce≠(acL l id).nonce∨nonce=18446744073709551615 then 20 else if (acL l id).bal<amt then 15 else 0
def debitL (l:List AcM)(id amt nonce:Int):List AcM:=if debitE l id amt nonce=0 then setL l ⟨id,(acL l id).bal-amt,nonce+1⟩else []
theorem debit_any (S:Nat→Prop)(w:World)(a:Option Addr)(cap:Nat)(l:List AcM)(h:accsR.rel S w [.slice a l.length cap] l)(hl:l.length≤100000)(hup:upL l)(id amt nonce:Int)(hid:okU id)(hamt:okU amt)(hno:okU nonce):
   Calls Tryz.prog 117 #[.agg #[.slice a l.length cap],.int .u64 id,.int .u64 amt,.int .u64 nonce] w (LgOut (debitL l id amt nonce) (debitE l id amt nonce) w):=by
 obtain⟨HOA, -⟩:=acL_ok h id hid;have hbA:=bnew (bnew (Below.refl w.heap.size w) (.cells #[.slice a l.length cap] 100)) (.cells #[.slice none 0 0] 100);have HX:=Hd (two_new w (.cells #[.slice a l.length cap] 100) (.cells #[.slice none 0 0] 100)).2;have HR:=Hd (two_new w (.cells #[.slice a l.length cap] 100) (.cells #[.slice none 0 0] 100)).1;have H:=Hd ((accsR).keepB h hbA);have HB:=Hd hbA
 have HSZ:Hid (((w.alloc (.cells #[.slice a l.length cap] 100)).alloc (.cells #[.slice none 0 0] 100)).heap.size=w.heap.size+2):=by show _=_;rw [World.size_alloc,World.size_alloc]
 have HOAH:=Hd HOA;have HCL:Hid (debitL l id amt nonce=if debitE l id amt nonce=0 then setL l ⟨id,(acL l id).bal-amt,nonce+1⟩else []):=rfl;have HCE:Hid (debitE l id amt nonce=if amt=0 then 1 else if nonce≠(acL l id).nonce∨nonce=18446744073709551615 then 20 else if (acL l id).bal<amt then 15 else 0):=rfl;clear hbA h HOA
 go_enter Tryz.func117,Tryz.ntmps117
 go_upto_region 1 with(fail)
 generalize (w.alloc (.cells #[.slice a l.length cap] 100)).alloc (.cells #[.slice none 0 0] 100)=W at*;obtain⟨x0,x1⟩:=box_cells HX.out;go_wp2_with fail
 refine(lGet_any S W a cap l H.out (by omega) hup id).mono ?_
 rintro e w2 ⟨rfl,hb1⟩;clear x0 x1;obtain⟨m,hm⟩: ∃m,acL l id=m:=⟨_,rfl⟩;rw [hm]at HOAH HCL HCE⊢;clear hm;have HB2:=Hd hb1;clear hb1;have HR2:=Hd (box_after HB2.out HR.out);have HRK:=HR2;have HBK:=HB2;have ha0:=okU_in hamt;have hn0:=okU_in hno;have hm0:=okU_in HOAH.out.bal
 by_cases h1:amt=0
 · have HE:Hid (debitE l id amt nonce=1):=by show _=_;rw [HCE.out,if_pos h1]
   have HF:Hid (debitL l id amt nonce= []):=by show _=_;rw [HCL.out,if_neg (by rw [HE.out];omega)]
   have z1:(amt==0)=true:=by rw [beq_iff_eq];exact h1
   clear h1
   have HW1:Hid (w.heap.size+2≤w2.heap.size):=by show _≤_;have:=HBK.out.size;have:=HSZ.out;omega
   have hR:=cells_box (old:= [.slice none 0 0]) HRK.out [.slice none 0 0] rfl
   have hK:=kept_cells w2 (q:=w.heap.size+1) (S:=fun k=>k≠w.heap.size+1) (fun h=>h rfl) [.slice none 0 0] 0
   obtain⟨wf,hwf⟩: ∃wf,wf=w2.setCells (w.heap.size+1) 0 [.slice none 0 0]:=⟨_,rfl⟩;rw [←hwf]at hR hK
   simp only [World.setCells]at hwf
   have HW:=Hd hwf;have HRF:=Hd hR;have HK:=Hd hK;clear hwf hR hK;obtain⟨r0,r1⟩:=box_cells HRK.out;go_wp2_with fail;rw [←HW.out];obtain⟨g0, -⟩:=box_cells HRF.out
   refine bodyPost_ret (v:= .tuple #[.agg #[.slice none 0 0],.int .i64 1]) (by simp [results,Tryz.results117,go_sem,g0]) rfl ?_
   rw [HF.out,HE.out]
   have hbel:Below w.heap.size w wf:=by
     have h0:Kept (fun i=>i<w.heap.size) w w2:=(Kept.of_below (S:=fun i=>i<w.heap.size) HB.out).trans (Kept.of_below (S:=fun i=>i<w.heap.size) HBK.out) fun _ _ h=>h
     have h1:Kept (fun i=>i<w.heap.size) w wf:=h0.trans HK.out fun i _ h=>by have h':i<w.heap.size:=h;show i≠_;omega
     exact h1.below (Nat.le_refl _)
   exact⟨none,0,rfl,sliceR.nil,hbel⟩
 · have z1:(amt==0)=false:=by rw [beq_eq_false_iff_ne];exact h1
   by_cases h2:nonce=m.nonce
   · by_cases h3:nonce=18446744073709551615
     · have HE:Hid (debitE l id amt nonce=20):=by show _=_;rw [HCE.out,if_neg h1,if_pos (.inr h3)]
       have HF:Hid (debitL l id amt nonce= []):=by show _=_;rw [HCL.out,if_neg (by rw [HE.out];omega)]
       have z2:(nonce != m.nonce)=false:=by rw [bne_eq_false_iff_eq];exact h2
       have z3:(nonce==18446744073709551615)=true:=by rw [beq_iff_eq];exact h3
       clear h1 h2 h3
       have HW1:Hid (w.heap.size+2≤w2.heap.size):=by show _≤_;have:=HBK.out.size;have:=HSZ.out;omega
       have hR:=cells_box (old:= [.slice none 0 0]) HRK.out [.slice none 0 0] rfl
       have hK:=kept_cells w2 (q:=w.heap.size+1) (S:=fun k=>k≠w.heap.size+1) (fun h=>h rfl) [.slice none 0 0] 0
       obtain⟨wf,hwf⟩: ∃wf,wf=w2.setCells (w.heap.size+1) 0 [.slice none 0 0]:=⟨_,rfl⟩;rw [←hwf]at hR hK
       simp only [World.setCells]at hwf
       have HW:=Hd hwf;have HRF:=Hd hR;have HK:=Hd hK;clear hwf hR hK;obtain⟨r0,r1⟩:=box_cells HRK.out;go_wp2_with fail;rw [←HW.out];obtain⟨g0, -⟩:=box_cells HRF.out
       refine bodyPost_ret (v:= .tuple #[.agg #[.slice none 0 0],.int .i64 20]) (by simp [results,Tryz.results117,go_sem,g0]) rfl ?_
       rw [HF.out,HE.out]
       have hbel:Below w.heap.size w wf:=by
         have h0:Kept (fun i=>i<w.heap.size) w w2:=(Kept.of_below (S:=fun i=>i<w.heap.size) HB.out).trans (Kept.of_below (S:=fun i=>i<w.heap.size) HBK.out) fun _ _ h=>h
         have h1:Kept (fun i=>i<w.heap.size) w wf:=h0.trans HK.out fun i _ h=>by have h':i<w.heap.size:=h;show i≠_;omega
         exact h1.below (Nat.le_refl _)
       exact⟨none,0,rfl,sliceR.nil,hbel⟩
     · have z2:(nonce != m.nonce)=false:=by rw [bne_eq_false_iff_eq];exact h2
       have z3:(nonce==18446744073709551615)=false:=by rw [beq_eq_false_iff_ne];exact h3
       by_cases h4:m.bal<amt
       · have HE:Hid (debitE l id amt nonce=15):=by show _=_;rw [HCE.out,if_neg h1,if_neg (by rintro(h|h);exact h h2;exact h3 h),if_pos h4]
         have HF:Hid (debitL l id amt nonce= []):=by show _=_;rw [HCL.out,if_neg (by rw [HE.out];omega)]
         clear h1 h2 h3
         have HW1:Hid (w.heap.size+2≤w2.heap.size):=by show _≤_;have:=HBK.out.size;have:=HSZ.out;omega
         have hR:=cells_box (old:= [.slice none 0 0]) HRK.out [.slice none 0 0] rfl
         have hK:=kept_cells w2 (q:=w.heap.size+1) (S:=fun k=>k≠w.heap.size+1) (fun h=>h rfl) [.slice none 0 0] 0
         obtain⟨wf,hwf⟩: ∃wf,wf=w2.setCells (w.heap.size+1) 0 [.slice none 0 0]:=⟨_,rfl⟩;rw [←hwf]at hR hK
         simp only [World.setCells]at hwf
         have HW:=Hd hwf;have HRF:=Hd hR;have HK:=Hd hK;clear hwf hR hK;obtain⟨r0,r1⟩:=box_cells HRK.out;go_wp2_with fail;rw [←HW.out];obtain⟨g0, -⟩:=box_cells HRF.out
         refine bodyPost_ret (v:= .tuple #[.agg #[.slice none 0 0],.int .i64 15]) (by simp [results,Tryz.results117,go_sem,g0]) rfl ?_
         rw [HF.out,HE.out]
         have hbel:Below w.heap.size w wf:=by
           have h0:Kept (fun i=>i<w.heap.size) w w2:=(Kept.of_below (S:=fun i=>i<w.heap.size) HB.out).trans (Kept.of_below (S:=fun i=>i<w.heap.size) HBK.out) fun _ _ h=>h
           have h1:Kept (fun i=>i<w.heap.size) w wf:=h0.trans HK.out fun i _ h=>by have h':i<w.heap.size:=h;show i≠_;omega
           exact h1.below (Nat.le_refl _)
         exact⟨none,0,rfl,sliceR.nil,hbel⟩
       · have HE:Hid (debitE l id amt nonce=0):=by show _=_;rw [HCE.out,if_neg h1,if_neg (by rintro(h|h);exact h h2;exact h3 h),if_neg h4]
         have HF:Hid (debitL l id amt nonce=setL l ⟨id,m.bal-amt,nonce+1⟩):=by show _=_;rw [HCL.out,if_pos HE.out]
         have hwr:IntKind.u64.wrap (m.bal-amt)=m.bal-amt:=by rw [IntKind.wrap_u64];omega
         have hwn:IntKind.u64.wrap (nonce+1)=nonce+1:=by rw [IntKind.wrap_u64];omega
         have HAC:Hid (AcOk ⟨id,m.bal-amt,nonce+1⟩):=⟨hid,okU_of (by show(0:Int)≤m.bal-amt;omega) (by show m.bal-amt<_;omega),okU_of (by show(0:Int)≤nonce+1;omega) (by show nonce+1<_;omega)⟩
         obtain⟨B,hB⟩: ∃B,m.bal-amt=B:=⟨_,rfl⟩;obtain⟨N,hN⟩: ∃N,nonce+1=N:=⟨_,rfl⟩;rw [hB]at HF HAC hwr;rw [hN]at HF HAC hwn;clear h1 h2 h3 HRK HBK;obtain⟨x0,x1⟩:=box_cells (box_after HB2.out HX.out);go_wp2_with fail
         refine(lset_f S w2 a cap l ((accsR).keepB H.out HB2.out) hl hup id B N HAC.out).mono ?_
         rintro e w3 ⟨a3,c3,rfl,hr3,hb3⟩;clear x0 x1;have HR3:=Hd hr3;have HBK:=Hd (bnext HB2.out hb3);have HRK:=Hd (box_after hb3 HR2.out)
         have HW2:Hid (w.heap.size+2≤w2.heap.size):=by show _≤_;have:=HB2.out.size;have:=HSZ.out;omega
         obtain⟨L3,hL3⟩: ∃L,setL l ⟨id,B,N⟩=L:=⟨_,rfl⟩;rw [hL3]at HR3 HF⊢;clear hL3 hr3 hb3
         have HW1:Hid (w.heap.size+2≤w3.heap.size):=by show _≤_;have:=HBK.out.size;have:=HSZ.out;omega
         have hR:=cells_box (old:= [.slice none 0 0]) HRK.out [.slice a3 L3.length c3] rfl
         have hK:=kept_cells w3 (q:=w.heap.size+1) (S:=fun k=>k≠w.heap.size+1) (fun h=>h rfl) [.slice a3 L3.length c3] 0
         obtain⟨wf,hwf⟩: ∃wf,wf=w3.setCells (w.heap.size+1) 0 [.slice a3 L3.length c3]:=⟨_,rfl⟩;rw [←hwf]at hR hK
         simp only [World.setCells]at hwf
         have HW:=Hd hwf;have HRF:=Hd hR;have HK:=Hd hK;clear hwf hR hK;obtain⟨r0,r1⟩:=box_cells HRK.out;go_wp2_with fail;rw [←HW.out];obtain⟨g0, -⟩:=box_cells HRF.out
         refine bodyPost_ret (v:= .tuple #[.agg #[.slice a3 L3.length c3],.int .i64 0]) (by simp [results,Tryz.results117,go_sem,g0]) rfl ?_
         rw [HF.out,HE.out]
         have hbel:Below w.heap.size w wf:=by
           have h0:Kept (fun i=>i<w.heap.size) w w3:=(Kept.of_below (S:=fun i=>i<w.heap.size) HB.out).trans (Kept.of_below (S:=fun i=>i<w.heap.size) HBK.out) fun _ _ h=>h
           have h1:Kept (fun i=>i<w.heap.size) w wf:=h0.trans HK.out fun i _ h=>by have h':i<w.heap.size:=h;show i≠_;omega
           exact h1.below (Nat.le_refl _)
         refine⟨a3,c3,rfl,?_,hbel⟩
         have h1:=(accsR).keep HR3.out (HK.out.mono fun k _ h=>by have h':w2.heap.size≤k:=h;have:=HW2.out;show k≠_;omega)
         exact(accsR).mono h1 fun k _ h=>by have h':w2.heap.size≤k:=h;have:=HW2.out;show _≤_;omega
   · have HE:Hid (debitE l id amt nonce=20):=by show _=_;rw [HCE.out,if_neg h1,if_pos (.inl h2)]
     have HF:Hid (debitL l id amt nonce= []):=by show _=_;rw [HCL.out,if_neg (by rw [HE.out];omega)]
     have z2:(nonce != m.nonce)=true:=by rw [bne_iff_ne];exact h2
     clear h1 h2
     have HW1:Hid (w.heap.size+2≤w2.heap.size):=by show _≤_;have:=HBK.out.size;have:=HSZ.out;omega
     have hR:=cells_box (old:= [.slice none 0 0]) HRK.out [.slice none 0 0] rfl
     have hK:=kept_cells w2 (q:=w.heap.size+1) (S:=fun k=>k≠w.heap.size+1) (fun h=>h rfl) [.slice none 0 0] 0
     obtain⟨wf,hwf⟩: ∃wf,wf=w2.setCells (w.heap.size+1) 0 [.slice none 0 0]:=⟨_,rfl⟩;rw [←hwf]at hR hK
     simp only [World.setCells]at hwf
     have HW:=Hd hwf;have HRF:=Hd hR;have HK:=Hd hK;clear hwf hR hK;obtain⟨r0,r1⟩:=box_cells HRK.out;go_wp2_with fail;rw [←HW.out];obtain⟨g0, -⟩:=box_cells HRF.out
     refine bodyPost_ret (v:= .tuple #[.agg #[.slice none 0 0],.int .i64 20]) (by simp [results,Tryz.results117,go_sem,g0]) rfl ?_
     rw [HF.out,HE.out]
     have hbel:Below w.heap.size w wf:=by
       have h0:Kept (fun i=>i<w.heap.size) w w2:=(Kept.of_below (S:=fun i=>i<w.heap.size) HB.out).trans (Kept.of_below (S:=fun i=>i<w.heap.size) HBK.out) fun _ _ h=>h
       have h1:Kept (fun i=>i<w.heap.size) w wf:=h0.trans HK.out fun i _ h=>by have h':i<w.heap.size:=h;show i≠_;omega
       exact h1.below (Nat.le_refl _)
     exact⟨none,0,rfl,sliceR.nil,hbel⟩
end Go.Proofs.YtjknlhiimmbilaaGreatDoor

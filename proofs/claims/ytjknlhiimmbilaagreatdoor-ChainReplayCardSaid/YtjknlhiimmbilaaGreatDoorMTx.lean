/- Bytes as elements, and their hash: some numbers, some hash. -/
import Derived.Test.YtjknlhiimmbilaaGreatDoorMSp
import Derived.Test.YtjknlhiimmbilaaGreatDoorMRd
import Derived.Laws.Bits64b
import Derived.Laws.Cover3
import Derived.Test.YtjknlhiimmbilaaGreatDoorMRel
import Derived.Deep.Cut
import Derived.Deep.CutRange
set_option maxRecDepth 100000
set_option maxHeartbeats 3000000
namespace Go.Proofs.YtjknlhiimmbilaaGreatDoor
open Go.ChangeShapes Go.WideShapes Go.ChangeAt Go.RowKit
theorem or_in {a b:Int}(a0:0≤a)(a1:a<18446744073709551616)(b0:0≤b)(b1:b<18446744073709551616):0≤bits BinOp.or IntKind.u64 a b∧bits BinOp.or IntKind.u64 a b<18446744073709551616:=by
 obtain⟨A,rfl⟩:=Int.eq_ofNat_of_zero_le a0;obtain⟨B,rfl⟩:=Int.eq_ofNat_of_zero_le b0
 have hA:A<2^64:=by omega
 have hB:B<2^64:=by omega
 rw [bits_or_u64_nat A B (by omega) (by omega)]
 have:=Nat.or_lt_two_pow hA hB
 omega
theorem wrap_in (x:Int):0≤IntKind.u64.wrap x∧IntKind.u64.wrap x<18446744073709551616:=by rw [IntKind.wrap_u64];omega
def SomeN (N:Nat)(w:World)(e:Ending)(w':World):Prop:= ∃(ys:List Int) (a:Option Addr) (cap:Nat),ys.length≤N∧e= .returned (.slice a ys.length cap)∧numsR.rel (fun _=>True) w' [.slice a ys.length cap] ys∧Below w.heap.size w w'
theorem pack_any (S:Nat→Prop)(w:World)(a:Option Addr)(cap:Nat)(xs:List Int)(h:bytesR.rel S w [.slice a xs.length cap] xs)(hx:xs.length≤100000):
   Calls Tryz.prog 146 #[.slice a xs.length cap] w (SomeN (xs.length+2) w):=by
 have H:=Hd h;have g1:=(sliceR.lens h).2;unfold maxLen at g1;clear h
 go_enter Tryz.func146,Tryz.ntmps146
 go_wp2_with (at_make;refine wpList_make_lc rfl _ _ rfl Tryz.etyNums (n:=1) (m:=1+(xs.length+6) / 7) rfl rfl ?_ ?_ ?_ ?_ ?_ ?_)
 · rfl
 · omega
 · omega
 · omega
 · unfold maxLen;omega
 intro cur hcur w1 hg1 hb1 hz1
 obtain⟨c0,rest,rfl⟩: ∃c0 rest,cur=c0::rest:=by
   cases cur with
   |nil=>exfalso;simp at hcur;omega
   |cons c r=>exact⟨c,r,rfl⟩
 obtain⟨x0,x1⟩:=box_cells hg1
 have hw:IntKind.u64.wrap (xs.length:Int)=xs.length:=by rw [IntKind.wrap_u64];omega
 have hg2:=box_set (i:=0) (v:= .int .u64 (xs.length:Int)) hg1
 have hg3:(w1.setCell ⟨w.heap.size,0,none⟩ (.int .u64 (xs.length:Int))).heap[w.heap.size]? =some (.cells ((.int .u64 (xs.length:Int))::rest).toArray 24 (0,0)):=by simpa using hg2
 have hown:=own_ints (k:= .u64) (base:=w.heap.size) (xs:= [(xs.length:Int)]) hg3 hcur (by simp) (by intro x hx';simp at hx';subst hx';exact okU_of (by omega) (by omega)) (by simp) (by unfold maxLen;omega) (Nat.le_refl _)
 have hb2:Below w.heap.size w (w1.setCell ⟨w.heap.size,0,none⟩ (.int .u64 (xs.length:Int))):=hb1.setCell (Nat.le_refl _) _;have HOWN:=Hd hown;have HB2:=Hd hb2;clear hown hb2 hg2 hg3 hg1;go_wp2_with fail;generalize w1.setCell ⟨w.heap.size,0,none⟩ (.int .u64 (xs.length:Int))=w2 at*
 go_loopw [3,4] (fun vr vs wr=> ∃(k:Nat) (ns:List Int),k≤xs.length+7∧vs= .int .i64 k∧ns.length≤k+1∧(k≤xs.length→ns.length≤k+1)∧7*ns.length≤k+7∧Own u64R w.heap.size 24 (fun x=>False∨w.heap.size≤x) wr vr ns∧Below w.heap.size w wr∧w.heap.size≤wr.heap.size) (fun _ vs _=>xs.length+8-(intOf vs).toNat)
 case atStart=>exact⟨0,[(xs.length:Int)],by omega,rfl,by simp,fun _=>by simp,by simp,by simpa using HOWN.out,HB2.out,HB2.out.size⟩
 case round=>
   obtain⟨k,ns,hk,rfl,hn1,hn2,hn3,hor,hbr,hsz⟩:=hrel
   by_cases hlt:k<xs.length
   · have hpos:0<xs.length:=by omega
     obtain⟨b,off,rfl, -, -, -, -, -⟩:=bytes_at H.out 0 hpos
     by_cases h7:k+7≤xs.length
     · have h7i: ¬((xs.length:Int)<(k:Int)+7):=by omega
       have HOR:=Hd hor;clear hor;go_wp2_with fail;have hMx:k+7≤xs.length:=h7
       go_loop [6,37] (fun vn vi=> ∃(j:Nat) (n:Int),j≤7∧vi= .int .i64 j∧vn= .int .u64 n∧0≤n∧n<18446744073709551616) (fun _ vi=>7-(intOf vi).toNat)
       case atStart=>exact⟨0,0,Nat.zero_le _,rfl,rfl,by omega,by omega⟩
       case round=>
         obtain⟨j,n,hj,rfl,rfl,n0,n1⟩:=hrel
         by_cases hjl:j<7
         · obtain⟨b',off',hbo, -, -,d0,d1,hc⟩:=bytes_at (bytesR.keepB H.out hbr) (k+j) (by omega)
           simp at hbo
           obtain⟨rfl,rfl⟩:=hbo;rw [←Nat.add_assoc]at hc;generalize xs[k+j]=x at*;have hin:=or_in n0 n1 (wrap_in (x*2^(8*j))).1 (wrap_in (x*2^(8*j))).2;have HIN:=Hd hin;clear hin;go_wp2_with fail
           go_round
           case rel=>exact⟨j+1,_,by omega,by go_num,rfl,HIN.out.1,HIN.out.2⟩
           case measure=>simp [intOf];omega
         · obtain rfl:j=7:=by omega
           have HY:Hid (u64R.rel (fun _=>False) wr [.int .u64 n] n):=⟨rfl,okU_of n0 n1⟩
           go_wp2_with (at_builtin;refine wpList_push (r:=u64R) (wr:=wr) (es:= [.int .u64 n]) (v:=u3) (w0:=w) (B:=w.heap.size) rfl _ _ rfl Tryz.etyNums rfl rfl hbr hsz HOR.out HY.out (fun x hx=>hx.elim) (by unfold maxLen;omega) (by omega) ?_)
           intro v2 w3 ho3 hb3
           have HZ:=Hd (Own.mono ho3 (F':=fun x=>False∨w.heap.size≤x) fun x _ h=>by first|exact h|exact .inr h)
           clear ho3;go_wp2_with fail
           go_roundw
           case rel=>exact⟨k+7,ns++ [n],by omega,by go_num,by simp;omega,fun _=>by simp;omega,by simp;omega,HZ.out,hb3,hb3.size⟩
           case measure=>simp [intOf];omega
     · have h7i:(xs.length:Int)<(k:Int)+7:=by omega
       have HOR:=Hd hor;clear hor;go_wp2_with fail;obtain⟨M,hM⟩: ∃M,xs.length-k=M:=⟨_,rfl⟩;rw [hM]
       have hM7:M≤7:=by omega
       have hMx:k+M≤xs.length:=by omega
       clear hM
       go_loop [6,37] (fun vn vi=> ∃(j:Nat) (n:Int),j≤M∧vi= .int .i64 j∧vn= .int .u64 n∧0≤n∧n<18446744073709551616) (fun _ vi=>M-(intOf vi).toNat)
       case atStart=>exact⟨0,0,Nat.zero_le _,rfl,rfl,by omega,by omega⟩
       case round=>
         obtain⟨j,n,hj,rfl,rfl,n0,n1⟩:=hrel
         by_cases hjl:j<M
         · obtain⟨b',off',hbo, -, -,d0,d1,hc⟩:=bytes_at (bytesR.keepB H.out hbr) (k+j) (by omega)
           simp at hbo
           obtain⟨rfl,rfl⟩:=hbo;rw [←Nat.add_assoc]at hc;generalize xs[k+j]=x at*;have hin:=or_in n0 n1 (wrap_in (x*2^(8*j))).1 (wrap_in (x*2^(8*j))).2;have HIN:=Hd hin;clear hin;go_wp2_with fail
           go_round
           case rel=>exact⟨j+1,_,by omega,by go_num,rfl,HIN.out.1,HIN.out.2⟩
           case measure=>simp [intOf];omega
         · obtain rfl:j=M:=by omega
           have HY:Hid (u64R.rel (fun _=>False) wr [.int .u64 n] n):=⟨rfl,okU_of n0 n1⟩
           go_wp2_with (at_builtin;refine wpList_push (r:=u64R) (wr:=wr) (es:= [.int .u64 n]) (v:=u3) (w0:=w) (B:=w.heap.size) rfl _ _ rfl Tryz.etyNums rfl rfl hbr hsz HOR.out HY.out (fun x hx=>hx.elim) (by unfold maxLen;omega) (by omega) ?_)
           intro v2 w3 ho3 hb3
           have HZ:=Hd (Own.mono ho3 (F':=fun x=>False∨w.heap.size≤x) fun x _ h=>by first|exact h|exact .inr h)
           clear ho3;go_wp2_with fail
           go_roundw
           case rel=>exact⟨k+7,ns++ [n],by omega,by go_num,by simp;omega,fun _=>by simp;omega,by simp;omega,HZ.out,hb3,hb3.size⟩
           case measure=>simp [intOf];omega
   · obtain⟨a2,c2,rfl, -, -⟩:=sliceR.form hor.slice
     have HS:=Hd (numsR.mono hor.slice (S':=fun _=>True) fun _ _ _=>trivial)
     clear hor;go_wp2_with fail;go_ret
     exact⟨ns,a2,c2,by omega,rfl,HS.out,hbr⟩
def SomeH (w:World)(e:Ending)(w':World):Prop:= ∃x:Int,e= .returned (.int .u64 x)∧0≤x∧x<18446744069414584321∧Below w.heap.size w w'
theorem hashBytes_any (S:Nat→Prop)(w:World)(label:Int)(l0:0≤label)(a:Option Addr)(cap:Nat)(xs:List Int)(h:bytesR.rel S w [.slice a xs.length cap] xs)(hx:xs.length≤100000):
   Calls Tryz.prog 100 #[.int .u64 label,.slice a xs.length cap] w (SomeH w):=by
 go_enter Tryz.func100,Tryz.ntmps100
 go_wp2_with fail
 refine(pack_any S w a cap xs h hx).mono ?_
 rintro e w1 ⟨ys,a1,c1,hyl,rfl,hr,hb1⟩;go_wp2_with fail
 refine(Hash_big label l0 (fun _=>True) w1 a1 c1 ys hr (by omega)).mono ?_
 rintro e w2 ⟨rfl,hb2⟩;have hin:=hashS_in label ys;generalize hashS label ys=x at*;go_wp2_with fail;go_ret
 exact⟨x,rfl,hin.1,hin.2,bnext hb1 hb2⟩
end Go.Proofs.YtjknlhiimmbilaaGreatDoor
/- Transactions: clones, bytes, the digest of all but the proof, origins. -/
set_option maxRecDepth 100000
set_option maxHeartbeats 4000000
namespace Go.Proofs.YtjknlhiimmbilaaGreatDoor
open Go.ChangeShapes Go.WideShapes Go.ChangeAt Go.RowKit
theorem eql_nil (a:Option Addr)(l c:Nat)(w:World):(binOp .eql 66 (.slice a l c) (.slice none 0 0)).run Tryz.prog w= .ok (.bool a.isNone) w:=by
 simp only [binOp]
 simp [run_equal_slice_nil w 66 24 a l c Tryz.underlying66]
theorem clone_any (S:Nat→Prop)(w:World)(a:Option Addr)(cap:Nat)(l:List Int)(h:numsR.rel S w [.slice a l.length cap] l)(hl:l.length≤1000000):
   Calls Tryz.prog 49 #[.slice a l.length cap] w (GivesS u64R (fun k=>w.heap.size≤k) l w):=by
 have hen:=eql_nil
 cases a with
 |none=>
  have hl0:l= []:=by
    cases l with
    |nil=>rfl
    |cons x xs=>obtain⟨b,off,h1, -⟩:=nums_at h 0 (by simp);cases h1
  subst hl0
  go_enter Tryz.func49,Tryz.ntmps49
  go_wp2_with fail;go_ret
  exact⟨none,0,rfl,sliceR.nil,Below.refl _ _⟩
 |some ad=>
  have hb0:=bnew (Below.refl w.heap.size w) (.cells #[] 24);have HO:=Hd (Own.empty u64R w.heap.size 24 (box_new w (.cells #[] 24)) (Nat.le_refl _))
  have HS:=Hd (Src.plain (S':=fun _=>False) (Plain.int .u64) (Src.of_slice (numsR.keepB h hb0)))
  have HB:=Hd hb0;clear h hb0
  go_enter Tryz.func49,Tryz.ntmps49
  go_wp2_with (at_builtin;refine wpList_append_rel (r:=u64R) (base:=w.heap.size) rfl _ _ rfl Tryz.etyNums rfl rfl HO.out HS.out (fun _ _ h=>h.elim) (fun _ _ h=>h) (by unfold maxLen;simp;omega) (by simp;omega) (by rw [World.size_alloc];omega) ?_)
  intro v3 w3 ho3 hk3 _
  have hb3:Below w.heap.size w w3:=Kept.behind HB.out hk3 (by rw [World.size_alloc];omega) fun k hk h=>by have:=(HO.out.lt h).2.2;omega
  have HG:=Hd (GivesS.mk (numsR.mono ho3.slice (S':=fun k=>w.heap.size≤k) fun k _ h=>by rcases h with h|h<;>omega) hb3)
  clear ho3;go_wp2_with fail;go_ret
  exact HG.out
def SomeB (N:Nat)(w:World)(e:Ending)(w':World):Prop:= ∃(ys:List Int) (a:Option Addr) (cap:Nat),ys.length≤N∧e= .returned (.slice a ys.length cap)∧bytesR.rel (fun _=>True) w' [.slice a ys.length cap] ys∧Below w.heap.size w w'
theorem GivesS.someB {ys:List Int}{N:Nat}{w w':World}{e:Ending}(h:GivesB ys w e w')(hl:ys.length≤N):SomeB N w e w':=by
 obtain⟨a,cap,h1,h2,h3⟩:=h
 exact⟨ys,a,cap,hl,h1,h2,h3⟩
theorem UintW (N:Nat)(w:World)(a:Option Addr)(cap:Nat)(xs:List Int)(h:bytesR.rel (fun _=>True) w [.slice a xs.length cap] xs)(hx:xs.length≤N)(hN:N≤100000)(n:Int)(hn:okU n):
   Calls Tryz.prog 55 #[.slice a xs.length cap,.int .u64 n] w (SomeB (N+8) w):=
 (Uint_any _ w a cap xs h n (okU_in hn).1 (okU_in hn).2 (by omega)).mono fun _ _ h=>GivesS.someB h (by rw [List.length_append,digs_len];omega)
theorem IntW (N:Nat)(w:World)(a:Option Addr)(cap:Nat)(xs:List Int)(h:bytesR.rel (fun _=>True) w [.slice a xs.length cap] xs)(hx:xs.length≤N)(hN:N≤100000)(n:Nat)(hn:n≤4294967295):
   Calls Tryz.prog 52 #[.slice a xs.length cap,.int .i64 n] w (SomeB (N+4) w):=
 (Int_any _ w a cap xs h n hn (by omega)).mono fun _ _ h=>GivesS.someB h (by rw [List.length_append,digs_len];omega)
theorem ListW (N M:Nat)(S':Nat→Prop)(w:World)(a:Option Addr)(cap:Nat)(xs:List Int)(h:bytesR.rel (fun _=>True) w [.slice a xs.length cap] xs)(hx:xs.length≤N)(hN:N≤100000)(la:Option Addr)(lc:Nat)(l:List Int)(hl:numsR.rel S' w [.slice la l.length lc] l)(hM:l.length≤M)(hM2:M≤100):
   Calls Tryz.prog 53 #[.slice a xs.length cap,.slice la l.length lc] w (SomeB (N+4+8*M) w):=
 (List_any _ S' w a cap xs h la lc l hl (by omega) (by omega)).mono fun _ _ h=>GivesS.someB h (by simp only [List.length_append,digs_len,digsAll_len];omega)
theorem BytesW (N:Nat)(w:World)(a:Option Addr)(cap:Nat)(xs:List Int)(h:bytesR.rel (fun _=>True) w [.slice a xs.length cap] xs)(hx:xs.length≤N)(hN:N≤100000):
   Calls Tryz.prog 231 #[.slice a xs.length cap,.slice none 0 0] w (SomeB (N+4) w):=
 (Bytes_any _ (fun _=>True) w a cap xs h none 0 [] sliceR.nil (by omega) (by simp)).mono fun _ _ h=>GivesS.someB h (by simp [digs_len];omega)
theorem validE_facts {t:TxM}(h:validE t=0):t.marks.length≤4∧t.outs.length≤4∧(∀o∈t.outs,o.cipher.length=3)∧0≤t.exp∧t.exp≤1048576∧t.proof.length≤1048576:=by
 unfold validE at h
 split at h
 · rename_i hc
   split at h
   · rename_i hp
     unfold marksB outsB restB at hc
     simp only [Bool.and_eq_true,decide_eq_true_eq]at hc
     obtain⟨h1,h2, -,h3⟩:=hc
     refine⟨h1.1,h2.1,fun o ho=> ?_,h3.2.1,h3.2.2,hp⟩
     have:=List.all_eq_true.1 h2.2 o ho;unfold outB at this
     simp only [Bool.and_eq_true,decide_eq_true_eq]at this
     exact this.2.2.1
   · simp at h
 · simp at h
theorem encode_any (S:Nat→Prop)(w:World)(t:TxM)(ma oa pa:Option Addr)(mc oc pc:Nat)(h:TxIn S w t ma oa pa mc oc pc)(hv:validE t=0):
   Calls Tryz.prog 169 #[.agg #[.int .u64 t.anchor,.slice ma t.marks.length mc,.slice oa t.outs.length oc,.int .u64 t.dep,.int .u64 t.wd,.int .u64 t.fee,.int .u64 t.acc,.int .u64 t.nonce,.int .i64 t.exp,.slice pa t.proof.length pc],.slice none 0 0] w (SomeB 2000 w):=by
 obtain⟨f1,f2,f3,f4,f5,f6⟩:=validE_facts hv;have hb0:=bnew (Below.refl w.heap.size w) (.cells #[.int .u64 t.anchor,.slice ma t.marks.length mc,.slice oa t.outs.length oc,.int .u64 t.dep,.int .u64 t.wd,.int .u64 t.fee,.int .u64 t.acc,.int .u64 t.nonce,.int .i64 t.exp,.slice pa t.proof.length pc] 111);have HX:=Hd (box_new w (.cells #[.int .u64 t.anchor,.slice ma t.marks.length mc,.slice oa t.outs.length oc,.int .u64 t.dep,.int .u64 t.wd,.int .u64 t.fee,.int .u64 t.acc,.int .u64 t.nonce,.int .i64 t.exp,.slice pa t.proof.length pc] 111));have H:=Hd (h.keepB hb0);have HB:=Hd hb0;have HF3:=Hd f3;clear hb0 h hv f3
 go_enter Tryz.func169,Tryz.ntmps169
 go_wp2_with fail;generalize w.alloc (.cells #[.int .u64 t.anchor,.slice ma t.marks.length mc,.slice oa t.outs.length oc,.int .u64 t.dep,.int .u64 t.wd,.int .u64 t.fee,.int .u64 t.acc,.int .u64 t.nonce,.int .i64 t.exp,.slice pa t.proof.length pc] 111)=W at*
 refine(UintW 0 W none 0 [] sliceR.nil (Nat.le_refl _) (by omega) t.anchor H.out.anchor).mono ?_
 rintro e w1 ⟨y1,a1,c1,l1,rfl,h1,hb1⟩;obtain⟨x0,x1⟩:=box_cells (box_after hb1 HX.out);go_wp2_with fail
 refine(ListW 8 4 S w1 a1 c1 y1 h1 (by omega) (by omega) ma mc t.marks (numsR.keepB H.out.marks hb1) (by omega) (by omega)).mono ?_
 rintro e w2 ⟨y2,a2,c2,l2,rfl,h2,hb2⟩;have hk2:=bnext hb1 hb2;clear x0 x1;obtain⟨x0,x1⟩:=box_cells (box_after hk2 HX.out);go_wp2_with fail
 refine(IntW 44 w2 a2 c2 y2 h2 (by omega) (by omega) t.outs.length (by omega)).mono ?_
 rintro e w3 ⟨y3,a3,c3,l3,rfl,h3,hb3⟩;have hk3:=bnext hk2 hb3;clear x0 x1;obtain⟨x0,x1⟩:=box_cells (box_after hk3 HX.out);go_wp2_with fail
 go_loopw [5,23] (fun vb vi wr=> ∃(k:Nat) (ys:List Int) (a:Option Addr) (c:Nat),k≤t.outs.length∧vi= .int .i64 k∧vb= .slice a ys.length c∧ys.length≤48+52*k∧bytesR.rel (fun _=>True) wr [.slice a ys.length c] ys∧Below W.heap.size W wr) (fun _ vi _=>t.outs.length-(intOf vi).toNat)
 case atStart=>exact⟨0,y3,a3,c3,Nat.zero_le _,rfl,rfl,by omega,h3,hk3⟩
 case round=>
   obtain⟨k,ys,a,c,hk,rfl,rfl,hyl,hys,hbr⟩:=hrel;clear x0 x1
   by_cases hlt:k<t.outs.length
   · obtain⟨b,off,ca,cc,rfl, -,hbl,o1,o2,o3,hci,c0,c1',c2',c3'⟩:=outs_at (outsR.keepB H.out.outs hbr) k hlt
     have hc3:=Hd (HF3.out t.outs[k] (List.getElem_mem hlt));generalize t.outs[k]=o at*;have hbn:=bnew (Below.refl wr.heap.size wr) (.cells #[.int .u64 o.commit,.int .u64 o.p0,.int .u64 o.p1,.slice ca o.cipher.length cc] 134);have hin:=box_new wr (.cells #[.int .u64 o.commit,.int .u64 o.p0,.int .u64 o.p1,.slice ca o.cipher.length cc] 134);have HCI:=Hd (numsR.keepB hci hbn);have hbrn:=bnext hbr hbn;have HIN:=Hd hin;have HYS:=Hd (bytesR.keepB hys hbn);clear hci hin hys;go_wp2_with fail;generalize wr.alloc (.cells #[.int .u64 o.commit,.int .u64 o.p0,.int .u64 o.p1,.slice ca o.cipher.length cc] 134)=wn at*;clear c0 c1' c2' c3'
     refine(UintW (48+52*k) wn a c ys HYS.out hyl (by omega) o.commit o1).mono ?_
     rintro e w4 ⟨y4,a4,c4,l4,rfl,h4,hb4⟩;obtain⟨x0,x1⟩:=box_cells (box_after hb4 HIN.out);go_wp2_with fail
     refine(UintW (48+52*k+8) w4 a4 c4 y4 h4 l4 (by omega) o.p0 o2).mono ?_
     rintro e w5 ⟨y5,a5,c5,l5,rfl,h5,hb5⟩;have hk5:=bnext hb4 hb5;clear x0 x1;obtain⟨x0,x1⟩:=box_cells (box_after hk5 HIN.out);go_wp2_with fail
     refine(UintW (48+52*k+16) w5 a5 c5 y5 h5 (by omega) (by omega) o.p1 o3).mono ?_
     rintro e w6 ⟨y6,a6,c6,l6,rfl,h6,hb6⟩;have hk6:=bnext hk5 hb6;clear x0 x1;obtain⟨x0,x1⟩:=box_cells (box_after hk6 HIN.out);go_wp2_with fail
     refine(ListW (48+52*k+24) 3 S w6 a6 c6 y6 h6 (by omega) (by omega) ca cc o.cipher (numsR.keepB HCI.out hk6) (by have:=hc3.out;omega) (by omega)).mono ?_
     rintro e w7 ⟨y7,a7,c7,l7,rfl,h7,hb7⟩;go_wp2_with fail
     go_roundw
     case rel=>exact⟨k+1,y7,a7,c7,by omega,by go_num,rfl,by omega,h7,bnext hbrn (bnext hk6 hb7)⟩
     case measure=>simp [intOf];omega
   · obtain rfl:k=t.outs.length:=by omega
     obtain⟨x0,x1⟩:=box_cells (box_after hbr HX.out);go_wp2_with fail
     refine(UintW 300 wr a c ys hys (by omega) (by omega) t.dep H.out.dep).mono ?_
     rintro e v1 ⟨z1,b1,d1,m1,rfl,g1,hc1⟩;have hj1:=bnext hbr hc1;clear x0 x1;obtain⟨x0,x1⟩:=box_cells (box_after hj1 HX.out);go_wp2_with fail
     refine(UintW 308 v1 b1 d1 z1 g1 (by omega) (by omega) t.wd H.out.wd).mono ?_
     rintro e v2 ⟨z2,b2,d2,m2,rfl,g2,hc2⟩;have hj2:=bnext hj1 hc2;clear x0 x1;obtain⟨x0,x1⟩:=box_cells (box_after hj2 HX.out);go_wp2_with fail
     refine(UintW 316 v2 b2 d2 z2 g2 (by omega) (by omega) t.fee H.out.fee).mono ?_
     rintro e v3 ⟨z3,b3,d3,m3,rfl,g3,hc3⟩;have hj3:=bnext hj2 hc3;clear x0 x1;obtain⟨x0,x1⟩:=box_cells (box_after hj3 HX.out);go_wp2_with fail
     refine(UintW 324 v3 b3 d3 z3 g3 (by omega) (by omega) t.acc H.out.acc).mono ?_
     rintro e v4 ⟨z4,b4,d4,m4,rfl,g4,hc4⟩;have hj4:=bnext hj3 hc4;clear x0 x1;obtain⟨x0,x1⟩:=box_cells (box_after hj4 HX.out);go_wp2_with fail
     refine(UintW 332 v4 b4 d4 z4 g4 (by omega) (by omega) t.nonce H.out.nonce).mono ?_
     rintro e v5 ⟨z5,b5,d5,m5,rfl,g5,hc5⟩;have hj5:=bnext hj4 hc5;clear x0 x1;obtain⟨x0,x1⟩:=box_cells (box_after hj5 HX.out);obtain⟨ex,hex⟩:=Int.eq_ofNat_of_zero_le f4;rw [hex]at x0;go_wp2_with fail
     refine(IntW 340 v5 b5 d5 z5 g5 (by omega) (by omega) ex (by omega)).mono ?_
     rintro e v6 ⟨z6,b6,d6,m6,rfl,g6,hc6⟩;have hj6:=bnext hj5 hc6;go_wp2_with fail
     refine(BytesW 344 v6 b6 d6 z6 g6 (by omega) (by omega)).mono ?_
     rintro e v7 ⟨z7,b7,d7,m7,rfl,g7,hc7⟩;go_wp2_with fail;go_ret
     exact⟨z7,b7,d7,by omega,rfl,g7,bnext HB.out (bnext hj6 hc7)⟩
theorem bind_any (S:Nat→Prop)(w:World)(t:TxM)(ma oa pa:Option Addr)(mc oc pc:Nat)(h:TxIn S w t ma oa pa mc oc pc)(hv:validE t=0):
   Calls Tryz.prog 112 #[.agg #[.int .u64 t.anchor,.slice ma t.marks.length mc,.slice oa t.outs.length oc,.int .u64 t.dep,.int .u64 t.wd,.int .u64 t.fee,.int .u64 t.acc,.int .u64 t.nonce,.int .i64 t.exp,.slice pa t.proof.length pc]] w (SomeH w):=by
 have hb0:=bnew (Below.refl w.heap.size w) (.cells #[.int .u64 t.anchor,.slice ma t.marks.length mc,.slice oa t.outs.length oc,.int .u64 t.dep,.int .u64 t.wd,.int .u64 t.fee,.int .u64 t.acc,.int .u64 t.nonce,.int .i64 t.exp,.slice pa t.proof.length pc] 111);have HX:=Hd (box_new w (.cells #[.int .u64 t.anchor,.slice ma t.marks.length mc,.slice oa t.outs.length oc,.int .u64 t.dep,.int .u64 t.wd,.int .u64 t.fee,.int .u64 t.acc,.int .u64 t.nonce,.int .i64 t.exp,.slice pa t.proof.length pc] 111));have H:=Hd (h.keepB hb0);have HB:=Hd hb0;have HV:=Hd hv;clear hb0 h hv
 go_enter Tryz.func112,Tryz.ntmps112
 go_wp2_with fail
 refine(txValid_any S _ t ma oa pa mc oc pc H.out).mono ?_
 rintro e w1 ⟨rfl,hb1⟩;rw [HV.out];obtain⟨x0,x1⟩:=box_cells (box_after hb1 HX.out);go_wp2_with fail
 refine(encode_any S w1 t ma oa pa mc oc pc (H.out.keepB hb1) HV.out).mono ?_
 rintro e w2 ⟨ys,a2,c2,hyl,rfl,hr,hb2⟩;go_wp2_with fail
 refine(hashBytes_any _ w2 13 (by omega) a2 c2 ys hr (by omega)).mono ?_
 rintro e w3 ⟨x,rfl,q0,q1,hb3⟩;go_wp2_with fail;go_ret
 exact⟨x,rfl,q0,q1,bnext (bnext (bnext HB.out hb1) hb2) hb3⟩
theorem txOrigin_any (S:Nat→Prop)(w:World)(t:TxM)(ma oa pa:Option Addr)(mc oc pc:Nat)(h:TxIn S w t ma oa pa mc oc pc)(hv:validE t=0):
   Calls Tryz.prog 113 #[.agg #[.int .u64 t.anchor,.slice ma t.marks.length mc,.slice oa t.outs.length oc,.int .u64 t.dep,.int .u64 t.wd,.int .u64 t.fee,.int .u64 t.acc,.int .u64 t.nonce,.int .i64 t.exp,.slice pa t.proof.length pc]] w fun e w'=>e= .returned (.int .u64 (originS t.marks t.acc t.nonce))∧Below w.heap.size w w':=by
 have hb0:=bnew (Below.refl w.heap.size w) (.cells #[.int .u64 t.anchor,.slice ma t.marks.length mc,.slice oa t.outs.length oc,.int .u64 t.dep,.int .u64 t.wd,.int .u64 t.fee,.int .u64 t.acc,.int .u64 t.nonce,.int .i64 t.exp,.slice pa t.proof.length pc] 111);have HX:=Hd (box_new w (.cells #[.int .u64 t.anchor,.slice ma t.marks.length mc,.slice oa t.outs.length oc,.int .u64 t.dep,.int .u64 t.wd,.int .u64 t.fee,.int .u64 t.acc,.int .u64 t.nonce,.int .i64 t.exp,.slice pa t.proof.length pc] 111));have H:=Hd (h.keepB hb0);have HB:=Hd hb0;have HV:=Hd hv;clear hb0 h hv
 go_enter Tryz.func113,Tryz.ntmps113
 go_wp2_with fail
 refine(txValid_any S _ t ma oa pa mc oc pc H.out).mono ?_
 rintro e w1 ⟨rfl,hb1⟩;rw [HV.out];obtain⟨x0,x1⟩:=box_cells (box_after hb1 HX.out);go_wp2_with fail
 refine(origin_any S w1 ma mc t.marks (numsR.keepB H.out.marks hb1) t.acc t.nonce H.out.acc H.out.nonce).mono ?_
 rintro e w2 ⟨rfl,hb2⟩;go_wp2_with fail;go_ret
 exact⟨rfl,bnext (bnext HB.out hb1) hb2⟩
end Go.Proofs.YtjknlhiimmbilaaGreatDoor
/- Transactions: the statement that the proof proves. -/
set_option maxRecDepth 100000
namespace Go.Proofs.YtjknlhiimmbilaaGreatDoor
open Go.ChangeShapes Go.WideShapes Go.ChangeAt Go.RowKit
abbrev StS (A:Array Value)(w w':World):Prop:=
 Below w.heap.size w w'∧w.heap.size+1<w'.heap.size∧(∀o,w'.cell? ⟨w.heap.size,o,none⟩=A[o]?)∧
   w'.heap[w.heap.size]? =some (.cells A 111 (0,0))∧w'.heap[w.heap.size+1]? =some (.cells #[.int .i64 0,.int .u64 0,.slice none 0 0,.slice none 0 0,.slice none 0 0,.int .u64 0,.int .u64 0,.int .u64 0,.int .u64 0,.int .u64 0] 151 (0,0))
theorem StS.of {A:Array Value}{w w':World}(h1:Below w.heap.size w w')(h2:w'.heap[w.heap.size]? =some (.cells A 111 (0,0)))(h3:w'.heap[w.heap.size+1]? =some (.cells #[.int .i64 0,.int .u64 0,.slice none 0 0,.slice none 0 0,.slice none 0 0,.int .u64 0,.int .u64 0,.int .u64 0,.int .u64 0,.int .u64 0] 151 (0,0))):StS A w w':=
 ⟨h1,box_lt h3,(box_cells h2).1,h2,h3⟩
theorem StS.next {A:Array Value}{w w1 w2:World}(h:StS A w w1)(hb:Below w1.heap.size w1 w2):StS A w w2:=StS.of (bnext h.1 hb) (box_after hb h.2.2.2.1) (box_after hb h.2.2.2.2)
theorem StS.kept {A:Array Value}{w w1 w2:World}(h:StS A w w1)(hk:Kept (fun k=>k≤w.heap.size+1) w1 w2):StS A w w2:=
 StS.of (Kept.behind h.1 hk h.1.size (fun k hk=>by omega)) (box_kept hk h.2.2.2.1 (by omega)) (box_kept hk h.2.2.2.2 (by omega))
theorem kept_cells (w:World){q:Nat}{S:Nat→Prop}(hq: ¬S q): ∀(vs:List Value) (o:Nat),Kept S w (w.setCells q o vs)
 | [],_=>Kept.refl _ _
 |v::vs,o=>by
  rw [World.setCells]
  have h1:Kept S w (w.setCell ⟨q,o,none⟩ v):=(Kept.refl _ _).setCell (fun _=>hq) _
  have h2:=kept_cells (w.setCell ⟨q,o,none⟩ v) hq vs (o+1)
  exact h1.trans h2 fun _ _ h=>h
theorem Own.tight {k:IntKind}{base:Nat}{e:TypeId}{F:Nat→Prop}{w:World}{v:Value}{xs:List Int}(h:Own (intR k) base e F w v xs):Own (intR k) base e (fun x=>v.ownBlock=some x) w v xs:=by
 obtain⟨S,css,hS,hv,hl,hr,ho⟩:=h
 exact⟨fun _=>False,css,fun _ h=>h.elim,fun k hk=>⟨fun h=>h,hk⟩,hl,fun i cs x hc hx=>Plain.int k (hr i cs x hc hx),ho⟩
def rhosTo (o:Int):Nat→List Int
 |0=> []
 |k+1=>rhosTo o k++ [rhoS o k]
theorem rhosTo_len (o:Int): ∀k,(rhosTo o k).length=k
 |0=>rfl
 |k+1=>by simp [rhosTo,rhosTo_len o k]
def stOf (D:Nat)(t:TxM)(bd:Int):StM:=⟨D,t.anchor,t.marks,t.outs.map (·.commit),rhosTo (originS t.marks t.acc t.nonce) t.outs.length,t.dep,t.wd,t.fee,t.acc,bd⟩
def StOut (D:Nat)(t:TxM)(w:World)(e:Ending)(w':World):Prop:=
 ∃bd ma ca ra mc cc rc,0≤bd∧bd<18446744069414584321∧e= .returned (.agg #[.int .i64 D,.int .u64 t.anchor,.slice ma t.marks.length mc,.slice ca t.outs.length cc,.slice ra t.outs.length rc,.int .u64 t.dep,.int .u64 t.wd,.int .u64 t.fee,.int .u64 t.acc,.int .u64 bd])∧
  StIn (fun _=>True) w' (stOf D t bd) ma ca ra mc cc rc∧Below w.heap.size w w'
structure StAt (D:Nat)(t:TxM)(A:Array Value)(w:World)(q C:Nat)(am:Option Addr)(cm:Nat)(bd:Int)(v1 v2:Value)(wr:World):Prop where
 sts:StS A w wr
 box:wr.heap[q]? =some (.cells #[.int .i64 D,.int .u64 t.anchor,.slice am t.marks.length cm,v1,v2,.int .u64 t.dep,.int .u64 t.wd,.int .u64 t.fee,.int .u64 t.acc,.int .u64 bd] 151 (0,0))
 marks:numsR.rel (fun k=>(w.heap.size+1<k∧k≠q)∧k<C) wr [.slice am t.marks.length cm] t.marks
 lay:w.heap.size+1<q
 qC:q<C
 base:C≤wr.heap.size
theorem StAt.kept {D:Nat}{t:TxM}{A:Array Value}{w:World}{q C:Nat}{am:Option Addr}{cm:Nat}{bd:Int}{v1 v2:Value}{wr w2:World}(h:StAt D t A w q C am cm bd v1 v2 wr)(hk:Kept (fun k=>k<C) wr w2):StAt D t A w q C am cm bd v1 v2 w2:=
 have:=h.lay;have:=h.qC
 ⟨h.sts.kept (hk.mono fun k _ h=>by omega),box_kept hk h.box h.qC,numsR.keep h.marks (hk.mono fun k _ h=>h.2),h.lay,h.qC,Nat.le_trans h.base hk.size⟩
theorem StAt.keepB {D:Nat}{t:TxM}{A:Array Value}{w:World}{q C:Nat}{am:Option Addr}{cm:Nat}{bd:Int}{v1 v2:Value}{wr w2:World}(h:StAt D t A w q C am cm bd v1 v2 wr)(hb:Below wr.heap.size wr w2):StAt D t A w q C am cm bd v1 v2 w2:=h.kept (Kept.of_below hb)
theorem StAt.store {D:Nat} {t:TxM} {A:Array Value} {w:World} {q C:Nat} {am:Option Addr} {cm:Nat} {bd:Int} {v1 v2 u1 u2:Value} {wr:World} (h:StAt D t A w q C am cm bd v1 v2 wr) (i:Nat) (v:Value)
   (hv:(#[.int .i64 D,.int .u64 t.anchor,.slice am t.marks.length cm,v1,v2,.int .u64 t.dep,.int .u64 t.wd,.int .u64 t.fee,.int .u64 t.acc,.int .u64 bd]:Array Value).setIfInBounds i v= #[.int .i64 D,.int .u64 t.anchor,.slice am t.marks.length cm,u1,u2,.int .u64 t.dep,.int .u64 t.wd,.int .u64 t.fee,.int .u64 t.acc,.int .u64 bd]):StAt D t A w q C am cm bd u1 u2 (wr.setCell ⟨q,i,none⟩ v):=
 have:=h.lay;have:=h.qC
 have hk:Kept (fun k=>k≠q) wr (wr.setCell ⟨q,i,none⟩ v):=(Kept.refl _ _).setCell (fun _ h=>h rfl) _
 ⟨h.sts.kept (hk.mono fun k _ h=>by omega),hv▸box_set h.box,numsR.keep h.marks (hk.mono fun k _ h=>h.1.2),h.lay,h.qC,by rw [World.size_setCell];exact h.base⟩
end Go.Proofs.YtjknlhiimmbilaaGreatDoor
/- Transactions: Statement. -/
set_option maxRecDepth 100000
set_option maxHeartbeats 8000000
namespace Go.Proofs.YtjknlhiimmbilaaGreatDoor
open Go.ChangeShapes Go.WideShapes Go.ChangeAt Go.RowKit
theorem originS_ok {S:Nat→Prop}{w:World}{t:TxM}{ma oa pa:Option Addr}{mc oc pc:Nat}(h:TxIn S w t ma oa pa mc oc pc):okU (originS t.marks t.acc t.nonce):=by
 unfold originS
 have h0:okU 0:=okU_of (by omega) (by omega)
 split
 · split
   · exact hashS_ok _ _
   · exact h0
 · rename_i hl
   split
   · have hp:0<t.marks.length:=by omega
     obtain⟨b,off, -, -,n0,n1, -⟩:=nums_at h.marks 0 hp;rw [getD_at t.marks 0 0 hp]
     exact okU_of n0 n1
   · exact h0
theorem rhoS_ok (o:Int)(i:Nat):okU (rhoS o i):=by
 unfold rhoS
 split
 · exact hashS_ok _ _
 · exact okU_of (by omega) (by omega)
theorem cells_box {w:World}{q:Nat}{old:List Value}{e:TypeId}(h:w.heap[q]? =some (.cells old.toArray e (0,0)))(vs:List Value)(hl:vs.length=old.length):(w.setCells q 0 vs).heap[q]? =some (.cells vs.toArray e (0,0)):=by
 rw [setCells_setRow q e vs 0 w old.toArray h (by simp;omega)]
 have:=setRow_heap w q old.toArray (old.toArray.toList.take 0++vs++old.toArray.toList.drop (0+vs.length)).toArray e (0,0) h
 simpa [hl]using this
abbrev StK (A:Array Value)(b:Nat)(w1 w':World):Prop:=Below w1.heap.size w1 w'∧(∀o,w'.cell? ⟨b,o,none⟩=A[o]?)
theorem StK.of {A:Array Value}{b:Nat}{w1 w':World}(h:w1.heap[b]? =some (.cells A 111 (0,0)))(hb:Below w1.heap.size w1 w'):StK A b w1 w':=⟨hb,(box_cells (box_after hb h)).1⟩
theorem StK.drew {A:Array Value}{b:Nat}{w1 w':World}(h:StK A b w1 w'):StK A b w1 w'.drew:=⟨h.1.drew,h.2⟩
theorem below_cells {B:Nat}{w w1:World}(h:Below B w w1){q:Nat}(hq:B≤q)(vs:List Value)(o:Nat)(hB:B≤w1.heap.size):Below B w (w1.setCells q o vs):=
 Kept.behind h (kept_cells w1 (q:=q) (S:=fun k=>k<B) (by omega) vs o) hB fun _ h=>h
theorem statement_in (w:World)(t:TxM)(ma oa pa:Option Addr)(mc oc pc:Nat)(h:TxIn (fun k=>k<w.heap.size) w t ma oa pa mc oc pc)(hv:validE t=0)(D:Nat)(_hD:D≤12):
   Calls Tryz.prog 77 #[.agg #[.int .u64 t.anchor,.slice ma t.marks.length mc,.slice oa t.outs.length oc,.int .u64 t.dep,.int .u64 t.wd,.int .u64 t.fee,.int .u64 t.acc,.int .u64 t.nonce,.int .i64 t.exp,.slice pa t.proof.length pc],.int .i64 D] w (StOut D t w):=by
 obtain⟨f1,f2,f3,f4,f5,f6⟩:=validE_facts hv;have hb0:=bnew (Below.refl w.heap.size w) (.cells #[.int .u64 t.anchor,.slice ma t.marks.length mc,.slice oa t.outs.length oc,.int .u64 t.dep,.int .u64 t.wd,.int .u64 t.fee,.int .u64 t.acc,.int .u64 t.nonce,.int .i64 t.exp,.slice pa t.proof.length pc] 111);have hb1:=bnew hb0 (.cells #[.int .i64 0,.int .u64 0,.slice none 0 0,.slice none 0 0,.slice none 0 0,.int .u64 0,.int .u64 0,.int .u64 0,.int .u64 0,.int .u64 0] 151);have e1:(w.alloc (.cells #[.int .u64 t.anchor,.slice ma t.marks.length mc,.slice oa t.outs.length oc,.int .u64 t.dep,.int .u64 t.wd,.int .u64 t.fee,.int .u64 t.acc,.int .u64 t.nonce,.int .i64 t.exp,.slice pa t.proof.length pc] 111)).heap.size=w.heap.size+1:=World.size_alloc ..;have q2:=box_new (w.alloc (.cells #[.int .u64 t.anchor,.slice ma t.marks.length mc,.slice oa t.outs.length oc,.int .u64 t.dep,.int .u64 t.wd,.int .u64 t.fee,.int .u64 t.acc,.int .u64 t.nonce,.int .i64 t.exp,.slice pa t.proof.length pc] 111)) (.cells #[.int .i64 0,.int .u64 0,.slice none 0 0,.slice none 0 0,.slice none 0 0,.int .u64 0,.int .u64 0,.int .u64 0,.int .u64 0,.int .u64 0] 151);rw [e1]at q2
 have hst:StS #[.int .u64 t.anchor,.slice ma t.marks.length mc,.slice oa t.outs.length oc,.int .u64 t.dep,.int .u64 t.wd,.int .u64 t.fee,.int .u64 t.acc,.int .u64 t.nonce,.int .i64 t.exp,.slice pa t.proof.length pc] w ((w.alloc (.cells #[.int .u64 t.anchor,.slice ma t.marks.length mc,.slice oa t.outs.length oc,.int .u64 t.dep,.int .u64 t.wd,.int .u64 t.fee,.int .u64 t.acc,.int .u64 t.nonce,.int .i64 t.exp,.slice pa t.proof.length pc] 111)).alloc (.cells #[.int .i64 0,.int .u64 0,.slice none 0 0,.slice none 0 0,.slice none 0 0,.int .u64 0,.int .u64 0,.int .u64 0,.int .u64 0,.int .u64 0] 151)):=StS.of hb1 (box_old (box_new w (.cells #[.int .u64 t.anchor,.slice ma t.marks.length mc,.slice oa t.outs.length oc,.int .u64 t.dep,.int .u64 t.wd,.int .u64 t.fee,.int .u64 t.acc,.int .u64 t.nonce,.int .i64 t.exp,.slice pa t.proof.length pc] 111))) q2;have H:=Hd (h.keepB hb1);have HV:=Hd hv;have HST:=Hd hst;have hokA:=okU_in h.anchor;clear hb0 hb1 e1 q2 h hv hst f3
 go_enter Tryz.func77,Tryz.ntmps77
 go_wp2_with fail;generalize (w.alloc (.cells #[.int .u64 t.anchor,.slice ma t.marks.length mc,.slice oa t.outs.length oc,.int .u64 t.dep,.int .u64 t.wd,.int .u64 t.fee,.int .u64 t.acc,.int .u64 t.nonce,.int .i64 t.exp,.slice pa t.proof.length pc] 111)).alloc (.cells #[.int .i64 0,.int .u64 0,.slice none 0 0,.slice none 0 0,.slice none 0 0,.int .u64 0,.int .u64 0,.int .u64 0,.int .u64 0,.int .u64 0] 151)=W at*
 refine(txValid_any _ W t ma oa pa mc oc pc H.out).mono ?_
 rintro e w1 ⟨rfl,hb1⟩;rw [HV.out];have HS1:=Hd (HST.out.next hb1);have H1:=Hd (H.out.keepB hb1);clear HST H hb1;go_wp2_with fail
 go_cut [5]from 9 (fun v5 wc=> ∃q C am cm bd,v5= .pointer (some ⟨q,0,none⟩)∧0≤bd∧bd<18446744069414584321∧StAt D t #[.int .u64 t.anchor,.slice ma t.marks.length mc,.slice oa t.outs.length oc,.int .u64 t.dep,.int .u64 t.wd,.int .u64 t.fee,.int .u64 t.acc,.int .u64 t.nonce,.int .i64 t.exp,.slice pa t.proof.length pc] w q C am cm bd (.slice none 0 0) (.slice none 0 0) wc∧TxIn (fun k=>k<w.heap.size) wc t ma oa pa mc oc pc)
 case first=>
   have hz1:=HS1.out.2.1
   go_region_held3 (fun w'=>Below w1.heap.size w1 w'∧(∀o,w'.cell? ⟨w.heap.size,o,none⟩=(#[.int .u64 t.anchor,.slice ma t.marks.length mc,.slice oa t.outs.length oc,.int .u64 t.dep,.int .u64 t.wd,.int .u64 t.fee,.int .u64 t.acc,.int .u64 t.nonce,.int .i64 t.exp,.slice pa t.proof.length pc]:Array Value)[o]?))
     (first
       |with_reducible exact StK.drew (StK.of HS1.out.2.2.2.1 (Below.refl _ _))
       |with_reducible exact HMM.out
       |with_reducible exact HMA.out
       |with_reducible exact StK.of HS1.out.2.2.2.1 (bnew HMA.out.1 _)
       |with_reducible exact StK.of HS1.out.2.2.2.1 (bnew HMM.out.1 _)
       |with_reducible exact StK.drew (StK.of HS1.out.2.2.2.1 (bnew (Below.refl _ _) _))
       |exact StK.of HS1.out.2.2.2.1 (below_cells HMA.out.1 hqq [.int .i64 D,.int .u64 t.anchor,.slice a2 t.marks.length c2,.slice none 0 0,.slice none 0 0,.int .u64 t.dep,.int .u64 t.wd,.int .u64 t.fee,.int .u64 t.acc,.int .u64 bd] 0 HMA.out.1.size))
     (first
       |(go_at_call 49;have HBp:=Hd (‹Below w1.heap.size w1 _∧_› :StK #[.int .u64 t.anchor,.slice ma t.marks.length mc,.slice oa t.outs.length oc,.int .u64 t.dep,.int .u64 t.wd,.int .u64 t.fee,.int .u64 t.acc,.int .u64 t.nonce,.int .i64 t.exp,.slice pa t.proof.length pc] w.heap.size w1 _);refine(clone_any _ _ ma mc t.marks (numsR.keepB H1.out.marks HBp.out.1) (by omega)).mono ?_;rintro e w2 ⟨a2,c2,rfl,hr2,hbM⟩
         have HMM:=Hd (StK.of HS1.out.2.2.2.1 (bnext HBp.out.1 hbM));have HR2:=Hd (numsR.bound hr2);clear hr2)
       |(go_at_call 112;have HBp:=Hd (‹Below w1.heap.size w1 _∧_› :StK #[.int .u64 t.anchor,.slice ma t.marks.length mc,.slice oa t.outs.length oc,.int .u64 t.dep,.int .u64 t.wd,.int .u64 t.fee,.int .u64 t.acc,.int .u64 t.nonce,.int .i64 t.exp,.slice pa t.proof.length pc] w.heap.size w1 _);refine(bind_any _ _ t ma oa pa mc oc pc (H1.out.keepB HBp.out.1) HV.out).mono ?_;rintro e w3 ⟨bd,rfl,bd0,bd1,hbA⟩
         have HMA:=Hd (StK.of HS1.out.2.2.2.1 (bnext HBp.out.1 hbA))
         first
           |(have hqA:w3.heap[w1.heap.size]? =_:=box_after hbA (box_after hbM (box_new w1 (.cells #[.int .i64 0,.int .u64 0,.slice none 0 0,.slice none 0 0,.slice none 0 0,.int .u64 0,.int .u64 0,.int .u64 0,.int .u64 0,.int .u64 0] 151)));obtain⟨k0,k1⟩:=box_cells hqA;have HQ:=Hd hqA;clear hqA;obtain⟨qq,hqe⟩: ∃qq,qq=w1.heap.size:=⟨_,rfl⟩;have hqq:w1.heap.size≤qq:=Nat.le_of_eq hqe.symm;subst hqe)
           |(have hqA:w3.heap[w2.heap.size]? =_:=box_after hbA (box_new w2 (.cells #[.int .i64 0,.int .u64 0,.slice none 0 0,.slice none 0 0,.slice none 0 0,.int .u64 0,.int .u64 0,.int .u64 0,.int .u64 0,.int .u64 0] 151));obtain⟨k0,k1⟩:=box_cells hqA;have HQ:=Hd hqA;clear hqA;have hqq:w1.heap.size≤w2.heap.size:=HMM.out.1.size)
           |have hzA:=HMA.out.1.size))
   · have hbF:=bnew HMA.out.1 (.cells #[.int .i64 D,.int .u64 t.anchor,.slice a2 t.marks.length c2,.slice none 0 0,.slice none 0 0,.int .u64 t.dep,.int .u64 t.wd,.int .u64 t.fee,.int .u64 t.acc,.int .u64 bd] 151)
     have hmk:numsR.rel (fun k=>(w.heap.size+1<k∧k≠w3.heap.size)∧k<w3.heap.size+1) (w3.alloc (.cells #[.int .i64 D,.int .u64 t.anchor,.slice a2 t.marks.length c2,.slice none 0 0,.slice none 0 0,.int .u64 t.dep,.int .u64 t.wd,.int .u64 t.fee,.int .u64 t.acc,.int .u64 bd] 151)) [.slice a2 t.marks.length c2] t.marks:=
       numsR.mono (numsR.keepB (numsR.keepB HR2.out hbA) (bnew (Below.refl _ _) _)) fun k _ h=>by have:=hbA.size;have h2:w1.heap.size≤k:=h.1;have:=h.2;omega
     have HF:Hid (StAt D t #[.int .u64 t.anchor,.slice ma t.marks.length mc,.slice oa t.outs.length oc,.int .u64 t.dep,.int .u64 t.wd,.int .u64 t.fee,.int .u64 t.acc,.int .u64 t.nonce,.int .i64 t.exp,.slice pa t.proof.length pc] w w3.heap.size (w3.heap.size+1) a2 c2 bd (.slice none 0 0) (.slice none 0 0) (w3.alloc (.cells #[.int .i64 D,.int .u64 t.anchor,.slice a2 t.marks.length c2,.slice none 0 0,.slice none 0 0,.int .u64 t.dep,.int .u64 t.wd,.int .u64 t.fee,.int .u64 t.acc,.int .u64 bd] 151))):=
       ⟨HS1.out.next hbF,box_new _ _,hmk,Nat.lt_of_lt_of_le hz1 hzA,Nat.lt_succ_self _,by rw [World.size_alloc];exact Nat.le_refl _⟩
     have HTX:=Hd (H1.out.keepB hbF);clear hbF hmk;go_wp2_with fail
     go_meet
     case rel=>exact⟨w3.heap.size,w3.heap.size+1,a2,c2,bd,rfl,bd0,bd1,HF.out,HTX.out⟩
   · have hqlt:=box_lt HQ.out
     have hbF:=below_cells HMA.out.1 (q:=w2.heap.size) hqq [.int .i64 D,.int .u64 t.anchor,.slice a2 t.marks.length c2,.slice none 0 0,.slice none 0 0,.int .u64 t.dep,.int .u64 t.wd,.int .u64 t.fee,.int .u64 t.acc,.int .u64 bd] 0 HMA.out.1.size
     have hkF:=kept_cells w3 (q:=w2.heap.size) (S:=fun k=>k≠w2.heap.size) (fun h=>h rfl) [.int .i64 D,.int .u64 t.anchor,.slice a2 t.marks.length c2,.slice none 0 0,.slice none 0 0,.int .u64 t.dep,.int .u64 t.wd,.int .u64 t.fee,.int .u64 t.acc,.int .u64 bd] 0
     have hmk:numsR.rel (fun k=>(w.heap.size+1<k∧k≠w2.heap.size)∧k<w3.heap.size) w3 [.slice a2 t.marks.length c2] t.marks:=numsR.mono (numsR.keepB (numsR.keepB HR2.out (bnew (Below.refl _ _) _)) hbA) fun k _ h=>by have:=hbA.size;rw [World.size_alloc]at this;have h2:w1.heap.size≤k:=h.1;have:=h.2;omega
     have hF:StAt D t #[.int .u64 t.anchor,.slice ma t.marks.length mc,.slice oa t.outs.length oc,.int .u64 t.dep,.int .u64 t.wd,.int .u64 t.fee,.int .u64 t.acc,.int .u64 t.nonce,.int .i64 t.exp,.slice pa t.proof.length pc] w w2.heap.size w3.heap.size a2 c2 bd (.slice none 0 0) (.slice none 0 0) (w3.setCells w2.heap.size 0 [.int .i64 D,.int .u64 t.anchor,.slice a2 t.marks.length c2,.slice none 0 0,.slice none 0 0,.int .u64 t.dep,.int .u64 t.wd,.int .u64 t.fee,.int .u64 t.acc,.int .u64 bd]):=
       ⟨HS1.out.next hbF,cells_box HQ.out _ rfl,numsR.keep hmk (hkF.mono fun k _ h=>h.1.2),Nat.lt_of_lt_of_le hz1 hqq,hqlt,hkF.size⟩
     have hTX:=H1.out.keepB hbF
     simp only [World.setCells,Nat.reduceAdd,Nat.zero_add]at hF hTX
     have HF:=Hd hF;have HTX:=Hd hTX;clear hbF hkF hmk hF hTX;go_wp2_with fail
     go_meet
     case rel=>exact⟨w2.heap.size,w3.heap.size,a2,c2,bd,rfl,bd0,bd1,HF.out,HTX.out⟩
   · have hqlt:=box_lt HQ.out
     have hbF:=below_cells HMA.out.1 (q:=w1.heap.size) (Nat.le_refl _) [.int .i64 D,.int .u64 t.anchor,.slice a2 t.marks.length c2,.slice none 0 0,.slice none 0 0,.int .u64 t.dep,.int .u64 t.wd,.int .u64 t.fee,.int .u64 t.acc,.int .u64 bd] 0 HMA.out.1.size
     have hkF:=kept_cells w3 (q:=w1.heap.size) (S:=fun k=>k≠w1.heap.size) (fun h=>h rfl) [.int .i64 D,.int .u64 t.anchor,.slice a2 t.marks.length c2,.slice none 0 0,.slice none 0 0,.int .u64 t.dep,.int .u64 t.wd,.int .u64 t.fee,.int .u64 t.acc,.int .u64 bd] 0
     have hmk:numsR.rel (fun k=>(w.heap.size+1<k∧k≠w1.heap.size)∧k<w3.heap.size) w3 [.slice a2 t.marks.length c2] t.marks:=numsR.mono (numsR.keepB HR2.out hbA) fun k _ h=>by have h1:=hbA.size;have h2:(w1.alloc (.cells #[.int .i64 0,.int .u64 0,.slice none 0 0,.slice none 0 0,.slice none 0 0,.int .u64 0,.int .u64 0,.int .u64 0,.int .u64 0,.int .u64 0] 151)).heap.size≤k:=h.1;rw [World.size_alloc]at h2;have:=h.2;omega
     have hF:StAt D t #[.int .u64 t.anchor,.slice ma t.marks.length mc,.slice oa t.outs.length oc,.int .u64 t.dep,.int .u64 t.wd,.int .u64 t.fee,.int .u64 t.acc,.int .u64 t.nonce,.int .i64 t.exp,.slice pa t.proof.length pc] w w1.heap.size w3.heap.size a2 c2 bd (.slice none 0 0) (.slice none 0 0) (w3.setCells w1.heap.size 0 [.int .i64 D,.int .u64 t.anchor,.slice a2 t.marks.length c2,.slice none 0 0,.slice none 0 0,.int .u64 t.dep,.int .u64 t.wd,.int .u64 t.fee,.int .u64 t.acc,.int .u64 bd]):=
       ⟨HS1.out.next hbF,cells_box HQ.out _ rfl,numsR.keep hmk (hkF.mono fun k _ h=>h.1.2),Nat.lt_of_lt_of_le hz1 (Nat.le_refl _),hqlt,hkF.size⟩
     have hTX:=H1.out.keepB hbF
     simp only [World.setCells,Nat.reduceAdd,Nat.zero_add]at hF hTX
     have HF:=Hd hF;have HTX:=Hd hTX;clear hbF hkF hmk hF hTX;go_wp2_with fail
     go_meet
     case rel=>exact⟨w1.heap.size,w3.heap.size,a2,c2,bd,rfl,bd0,bd1,HF.out,HTX.out⟩
 case rest=>
   obtain⟨q,C,am,cm,bd,rfl,bd0,bd1,hat,htx⟩:=hcut;have x0:=hat.sts.2.2.1;have HAT:=Hd hat;have HTX:=Hd htx;clear hat htx HS1 H1;go_wp2_with fail
   refine(txOrigin_any _ wc t ma oa pa mc oc pc HTX.out HV.out).mono ?_
   rintro e w4 ⟨rfl,hb4⟩;have HAT4:=Hd (HAT.out.keepB hb4);have HTX4:=Hd (HTX.out.keepB hb4);clear x0;have x0:=HAT4.out.sts.2.2.1;have HOK:Hid (okU (originS t.marks t.acc t.nonce)):=originS_ok HTX.out;obtain⟨og,hog⟩: ∃og,originS t.marks t.acc t.nonce=og:=⟨_,rfl⟩;have HOG:=Hd hog;rw [hog]at HOK⊢;clear hog HAT HTX hb4;go_wp2_with fail;clear x0
   go_loopw [35] (fun vi wr=> ∃(k:Nat) (v1 v2:Value),k≤t.outs.length∧vi= .int .i64 k∧StAt D t #[.int .u64 t.anchor,.slice ma t.marks.length mc,.slice oa t.outs.length oc,.int .u64 t.dep,.int .u64 t.wd,.int .u64 t.fee,.int .u64 t.acc,.int .u64 t.nonce,.int .i64 t.exp,.slice pa t.proof.length pc] w q C am cm bd v1 v2 wr∧TxIn (fun k=>k<w.heap.size) wr t ma oa pa mc oc pc∧Own u64R C 24 (fun x=>v1.ownBlock=some x) wr v1 ((t.outs.map (·.commit)).take k)∧Own u64R C 24 (fun x=>v2.ownBlock=some x) wr v2 (rhosTo og k)∧(∀x,v1.ownBlock=some x→v2.ownBlock≠some x)) (fun vi _=>t.outs.length-(intOf vi).toNat)
   case atStart=>exact⟨0,.slice none 0 0,.slice none 0 0,Nat.zero_le _,rfl,HAT4.out,HTX4.out,by simpa using Own.nil _ _ _ _ _,Own.nil _ _ _ _ _,fun x h=>by simp [Value.ownBlock]at h⟩
   case round=>
     obtain⟨k,v1,v2,hk,rfl,hat,htx,ho1,ho2,hdis⟩:=hrel;clear HAT4 HTX4
     by_cases hlt:k<t.outs.length
     · obtain⟨b,off,ca,cc,rfl, -,hbl,o1,o2,o3,hci,c0,c1,c2,c3⟩:=outs_at htx.outs k hlt
       have HT1:Hid ((t.outs.map (·.commit)).take (k+1)=(t.outs.map (·.commit)).take k++ [t.outs[k].commit]):=by show _=_;rw [List.take_succ_eq_append_getElem (by simpa using hlt)];simp
       have hl1:((t.outs.map (·.commit)).take k).length≤4:=by simp;omega
       have HL1:=Hd hl1
       have HL2:Hid ((rhosTo og k).length≤4):=by show _≤_;rw [rhosTo_len];omega
       generalize (t.outs.map (·.commit)).take k=l1 at*;generalize t.outs[k]=o at*;clear hci hl1;have hbn:=bnew (Below.refl wr.heap.size wr) (.cells #[.int .u64 o.commit,.int .u64 o.p0,.int .u64 o.p1,.slice ca o.cipher.length cc] 134);have HATn:=Hd (hat.keepB hbn);have HTXn:=Hd (htx.keepB hbn);have HO1:=Hd (ho1.keepB hbn);have HO2:=Hd (ho2.keepB hbn);have HIN:=Hd (box_new wr (.cells #[.int .u64 o.commit,.int .u64 o.p0,.int .u64 o.p1,.slice ca o.cipher.length cc] 134));have HD:=Hd hdis;clear hat htx ho1 ho2 hdis hbn;obtain⟨x0,x1⟩:=box_cells HATn.out.box;obtain⟨y0,y1⟩:=box_cells HIN.out
       have hsrc:Src u64R (fun _=>False) ((wr.alloc (.cells #[.int .u64 o.commit,.int .u64 o.p0,.int .u64 o.p1,.slice ca o.cipher.length cc] 134)).alloc (.cells #[.int .u64 o.commit] 24)) (.slice (some ⟨(wr.alloc (.cells #[.int .u64 o.commit,.int .u64 o.p0,.int .u64 o.p1,.slice ca o.cipher.length cc] 134)).heap.size,0,none⟩) 1 1) [o.commit]:=Src.one (r:=u64R) (y:=o.commit) ⟨rfl,o1⟩ (CellsAt.new (wr.alloc (.cells #[.int .u64 o.commit,.int .u64 o.p0,.int .u64 o.p1,.slice ca o.cipher.length cc] 134)) [.int .u64 o.commit] 24)
       have e1:(wr.alloc (.cells #[.int .u64 o.commit,.int .u64 o.p0,.int .u64 o.p1,.slice ca o.cipher.length cc] 134)).heap.size=wr.heap.size+1:=World.size_alloc ..;rw [e1]at hsrc;have HSRC:=Hd hsrc;clear hsrc e1;have hCn:C≤((wr.alloc (.cells #[.int .u64 o.commit,.int .u64 o.p0,.int .u64 o.p1,.slice ca o.cipher.length cc] 134)).alloc (.cells #[.int .u64 o.commit] 24)).heap.size:=Nat.le_trans HATn.out.base (bnew (Below.refl _ _) (.cells #[.int .u64 o.commit] 24)).size
       go_wp2_with (at_builtin;go_loud (refine wpList_append_rel (r:=u64R) (base:=C) (v:=v1) (u:= .slice (some ⟨wr.heap.size+1,0,none⟩) 1 1) (ys:= [o.commit]) (S:=fun _=>False) rfl _ _ rfl Tryz.etyNums rfl rfl (Own.keepB HO1.out (bnew (Below.refl _ _) (.cells #[.int .u64 o.commit] 24))) HSRC.out (fun _ _ h=>h.elim) (fun _ _ h=>h) (by have:=HL1.out;unfold maxLen;simp;omega) (by have:=HL1.out;simp;omega) hCn ?_))
       intro v5 w5 ho5 hk5 hl5
       obtain⟨a5,c5,rfl, -, -⟩:=sliceR.form ho5.slice
       have hkC:Kept (fun k=>k<C) ((wr.alloc (.cells #[.int .u64 o.commit,.int .u64 o.p0,.int .u64 o.p1,.slice ca o.cipher.length cc] 134)).alloc (.cells #[.int .u64 o.commit] 24)) w5:=hk5.mono fun k _ hkC he=>by have:=(HO1.out.lt he).2.2;omega
       have AT5:=Hd ((HATn.out.keepB (bnew (Below.refl _ _) (.cells #[.int .u64 o.commit] 24))).kept hkC)
       have TX5:=Hd ((HTXn.out.keepB (bnew (Below.refl _ _) (.cells #[.int .u64 o.commit] 24))).keep (hkC.mono fun k _ h=>by have h':k<w.heap.size:=h;have:=HATn.out.lay;have:=HATn.out.qC;omega))
       have O25:=Hd ((HO2.out.keepB (bnew (Below.refl _ _) (.cells #[.int .u64 o.commit] 24))).keep (hk5.mono fun k _ h he=>HD.out k he h))
       have HD5:Hid (∀x,(Value.slice a5 (l1++ [o.commit]).length c5).ownBlock=some x→v2.ownBlock≠some x):=fun x hx he=>by
         rcases hl5 with h|h
         · rw [h]at hx;exact HD.out x hx he
         · rw [h]at hx
           have hx':=Option.some.inj hx;have h2:=(HO2.out.lt he).1;rw [World.size_alloc]at h2
           omega
       have O15:=Hd (Own.tight ho5);have hqC:=HATn.out.qC
       have hkq:Kept (fun k=>k≠q) w5 (w5.setCell ⟨q,3,none⟩ (.slice a5 (l1++ [o.commit]).length c5)):=(Kept.refl _ _).setCell (fun _ h=>h rfl) _
       have AT6:=Hd (AT5.out.store (u1:= .slice a5 (l1++ [o.commit]).length c5) (u2:=v2) 3 (.slice a5 (l1++ [o.commit]).length c5) rfl)
       have TX6:=Hd (TX5.out.keep (hkq.mono fun k _ h=>by have h':k<w.heap.size:=h;have:=HATn.out.lay;omega))
       have O16:=Hd (O15.out.keep (hkq.mono fun k _ h=>by have:=(O15.out.lt h).2.2;omega))
       have O26:=Hd (O25.out.keep (hkq.mono fun k _ h=>by have:=(O25.out.lt h).2.2;omega))
       clear x0 x1 y0 y1 hk5 hkC hl5 ho5 hkq;obtain⟨x0,x1⟩:=box_cells AT5.out.box;go_wp2_with fail;clear x0 x1;generalize hW6:w5.setCell ⟨q,3,none⟩ (.slice a5 (l1++ [o.commit]).length c5)=w6 at*
       have hll:(l1++ [o.commit]).length=l1.length+1:=by simp
       rw [hll]at hW6;rw [hW6];clear hW6;obtain⟨x0,x1⟩:=box_cells AT6.out.box
       have O26d:=Hd (show Own u64R C 24 (fun x=>v2.ownBlock=some x) w6.drew v2 (rhosTo og k)from O26.out.keepB (Below.refl _ _).drew)
       go_region_law (first
         |(refine step_append_rel (r:=u64R) (base:=C) (v:=v2) (u:= .slice (some ⟨w7.heap.size,0,none⟩) 1 1) (S:=fun _=>False) rfl _ _ rfl Tryz.etyNums rfl rfl (Own.keepB O27.out (bnew (Below.refl _ _) _)) (Src.one (r:=u64R) (y:=rhoS og k) ⟨rfl,hrk.out⟩ (CellsAt.new w7 [.int .u64 (rhoS og k)] 24)) (fun _ _ h=>h.elim) (fun _ _ h=>h) (by have:=HL2.out;unfold maxLen;simp;omega) (by have:=HL2.out;simp;omega) (Nat.le_trans AT7.out.base (by rw [World.size_alloc];omega)) ?_
           intro v8 w8 ho8 hk8 hl8
           obtain⟨a8,c8,rfl, -, -⟩:=sliceR.form ho8.slice
           have hkC:Kept (fun k=>k<C) (w7.alloc (.cells #[.int .u64 (rhoS og k)] 24)) w8:=hk8.mono fun k _ hkC he=>by have:=(O27.out.lt he).2.2;omega
           have AT8:=Hd ((AT7.out.keepB (bnew (Below.refl _ _) (.cells #[.int .u64 (rhoS og k)] 24))).kept hkC)
           have TX8:=Hd ((TX7.out.keepB (bnew (Below.refl _ _) (.cells #[.int .u64 (rhoS og k)] 24))).keep (hkC.mono fun k _ h=>by have h':k<w.heap.size:=h;have:=AT7.out.lay;have:=AT7.out.qC;omega))
           have O18:=Hd ((O17.out.keepB (bnew (Below.refl _ _) (.cells #[.int .u64 (rhoS og k)] 24))).keep (hk8.mono fun k _ h he=>HD5.out k h he))
           have O28:=Hd (Own.tight ho8)
           have HD8:Hid (∀x,(Value.slice a5 (l1++ [o.commit]).length c5).ownBlock=some x→(Value.slice a8 (rhosTo og k++ [rhoS og k]).length c8).ownBlock≠some x):=fun x hx he=>by
             rcases hl8 with h|h
             · rw [h]at he;exact HD5.out x hx he
             · rw [h]at he
               have he':=Option.some.inj he;have h2:=(O17.out.lt hx).1;rw [World.size_alloc]at he'
               omega
           obtain⟨t0,t1⟩:=box_cells AT8.out.box)
         |(go_simp;go_at_call 114;refine(rho_any _ og k HOK.out (by omega)).mono ?_;rintro e w7 ⟨rfl,hb7⟩
           have hb7':Below w6.heap.size w6 w7:=bnext (Below.refl _ _).drew hb7
           have AT7:=Hd (AT6.out.keepB hb7');have TX7:=Hd (TX6.out.keepB hb7');have O17:=Hd (O16.out.keepB hb7');have O27:=Hd (O26.out.keepB hb7')
           have hrk:=Hd (rhoS_ok og k)
           obtain⟨y0,y1⟩:=box_cells AT7.out.box;have yy:=fun o'=>(box_cells (box_old (o':=o') AT7.out.box)).1))
       all_goals
         have hkq:Kept (fun k=>k≠q) w8 (w8.setCell ⟨q,4,none⟩ (.slice a8 (rhosTo og k++ [rhoS og k]).length c8)):=(Kept.refl _ _).setCell (fun _ h=>h rfl) _
         have AT9:=Hd (AT8.out.store (u1:= .slice a5 (l1++ [o.commit]).length c5) (u2:= .slice a8 (rhosTo og k++ [rhoS og k]).length c8) 4 (.slice a8 (rhosTo og k++ [rhoS og k]).length c8) rfl)
         have TX9:=Hd (TX8.out.keep (hkq.mono fun k _ h=>by have h':k<w.heap.size:=h;have:=AT7.out.lay;omega))
         have O19:=Hd (O18.out.keep (hkq.mono fun k _ h=>by have:=(O18.out.lt h).2.2;omega))
         have O29:=Hd (O28.out.keep (hkq.mono fun k _ h=>by have:=(O28.out.lt h).2.2;omega))
         clear hkq;go_wp2_with fail
         go_roundw
         case rel=>exact⟨k+1,.slice a5 (l1++ [o.commit]).length c5,.slice a8 (rhosTo og k++ [rhoS og k]).length c8,by omega,by go_num,by simpa using AT9.out,by simpa using TX9.out,by rw [HT1.out];simpa using O19.out,by simpa [rhosTo]using O29.out,by simpa using HD8.out⟩
         case measure=>simp [intOf];omega
     · obtain rfl:k=t.outs.length:=by omega
       have hlm:(t.outs.map (·.commit)).take t.outs.length=t.outs.map (·.commit):=List.take_of_length_le (by simp)
       rw [hlm]at ho1;obtain⟨a1,c1,rfl, -, -⟩:=sliceR.form ho1.slice;obtain⟨a2,c2,rfl, -, -⟩:=sliceR.form ho2.slice;have hl1:(t.outs.map (·.commit)).length=t.outs.length:=List.length_map ..;have hl2:(rhosTo og t.outs.length).length=t.outs.length:=rhosTo_len _ _;rw [hl1]at hat;rw [hl2]at hat
       have hs1:=numsR.mono ho1.slice (S':=fun k=>C≤k) fun k _ h=>(ho1.lt h).2.2
       have hs2:=numsR.mono ho2.slice (S':=fun k=>C≤k) fun k _ h=>(ho2.lt h).2.2
       have HAT:=Hd hat;have HS1:=Hd hs1;have HS2:=Hd hs2;obtain⟨x0,x1⟩:=box_cells hat.box;obtain⟨f0,f1'⟩:=box_cells hat.sts.2.2.2.2;have hR:=(cells_box (old:= [.int .i64 0,.int .u64 0,.slice none 0 0,.slice none 0 0,.slice none 0 0,.int .u64 0,.int .u64 0,.int .u64 0,.int .u64 0,.int .u64 0]) hat.sts.2.2.2.2 [.int .i64 D,.int .u64 t.anchor,.slice am t.marks.length cm,.slice a1 t.outs.length c1,.slice a2 t.outs.length c2,.int .u64 t.dep,.int .u64 t.wd,.int .u64 t.fee,.int .u64 t.acc,.int .u64 bd] rfl)
       have hK:=(kept_cells wr (q:=w.heap.size+1) (S:=fun k=>k≠w.heap.size+1) (fun h=>h rfl) [.int .i64 D,.int .u64 t.anchor,.slice am t.marks.length cm,.slice a1 t.outs.length c1,.slice a2 t.outs.length c2,.int .u64 t.dep,.int .u64 t.wd,.int .u64 t.fee,.int .u64 t.acc,.int .u64 bd] 0)
       obtain⟨wf,hwf⟩: ∃wf,wf=wr.setCells (w.heap.size+1) 0 [.int .i64 D,.int .u64 t.anchor,.slice am t.marks.length cm,.slice a1 t.outs.length c1,.slice a2 t.outs.length c2,.int .u64 t.dep,.int .u64 t.wd,.int .u64 t.fee,.int .u64 t.acc,.int .u64 bd]:=⟨_,rfl⟩;rw [←hwf]at hR hK
       simp only [World.setCells,Nat.reduceAdd,Nat.zero_add]at hwf
       have HW:=Hd hwf;have HR:=Hd hR;have HK:=Hd hK;have HTX:=Hd htx;clear hat ho1 ho2 hs1 hs2 hdis hwf hR hK htx;go_wp2_with fail;rw [←HW.out];obtain⟨g0, -⟩:=box_cells HR.out
       refine bodyPost_ret (v:= .agg #[.int .i64 D,.int .u64 t.anchor,.slice am t.marks.length cm,.slice a1 t.outs.length c1,.slice a2 t.outs.length c2,.int .u64 t.dep,.int .u64 t.wd,.int .u64 t.fee,.int .u64 t.acc,.int .u64 bd]) (by simp [results,Tryz.results77,go_sem,g0]) rfl ?_
       have hBC:w.heap.size+1<C:=Nat.lt_trans HAT.out.lay HAT.out.qC
       refine⟨bd,am,a1,a2,cm,c1,c2,bd0,bd1,rfl,⟨HTX.out.anchor,HTX.out.dep,HTX.out.wd,HTX.out.fee,HTX.out.acc,okU_of bd0 (Int.lt_trans bd1 (by omega)),?_,?_,?_⟩,?_⟩
       · exact numsR.mono (numsR.keep HAT.out.marks (HK.out.mono fun k _ h=>Nat.ne_of_gt h.1.1)) fun _ _ _=>trivial
       · exact numsR.mono (numsR.keep HS1.out (HK.out.mono fun k _ h=>by have h':C≤k:=h;omega)) fun _ _ _=>trivial
       · have h2:=numsR.mono (numsR.keep HS2.out (HK.out.mono fun k _ h=>by have h':C≤k:=h;omega)) (S':=fun _=>True) fun _ _ _=>trivial
         rw [←HOG.out]at h2
         exact h2
       · exact Kept.behind HAT.out.sts.1 HK.out HAT.out.sts.1.size fun k hk=>by omega
theorem TxIn.bound {S:Nat→Prop}{w:World}{t:TxM}{ma oa pa:Option Addr}{mc oc pc:Nat}(h:TxIn S w t ma oa pa mc oc pc):TxIn (fun k=>k<w.heap.size) w t ma oa pa mc oc pc:=
 ⟨h.anchor,h.dep,h.wd,h.fee,h.acc,h.nonce,h.exp,numsR.mono (numsR.bound h.marks) fun _ _ h=>h.2,outsR.mono (outsR.bound h.outs) fun _ _ h=>h.2,bytesR.mono (bytesR.bound h.proof) fun _ _ h=>h.2⟩
theorem statement_any (S:Nat→Prop)(w:World)(t:TxM)(ma oa pa:Option Addr)(mc oc pc:Nat)(h:TxIn S w t ma oa pa mc oc pc)(hv:validE t=0)(D:Nat)(hD:D≤12):
   Calls Tryz.prog 77 #[.agg #[.int .u64 t.anchor,.slice ma t.marks.length mc,.slice oa t.outs.length oc,.int .u64 t.dep,.int .u64 t.wd,.int .u64 t.fee,.int .u64 t.acc,.int .u64 t.nonce,.int .i64 t.exp,.slice pa t.proof.length pc],.int .i64 D] w (StOut D t w):=statement_in w t ma oa pa mc oc pc h.bound hv D hD
end Go.Proofs.YtjknlhiimmbilaaGreatDoor
/- txcheck: what is accepted in the open mode. -/
set_option maxRecDepth 100000
set_option maxHeartbeats 4000000
namespace Go.Proofs.YtjknlhiimmbilaaGreatDoor
open Go.ChangeShapes Go.WideShapes Go.ChangeAt Go.RowKit
def accB (D:Nat)(s:StM)(proof:List Int):Bool:=
 match decodeS proof with
 |none=>false
 |some t=>relE D s t==0
theorem relE_bind (D:Nat)(t:TxM)(bd:Int)(h0:bd<18446744069414584321)(x:WitM):relE D (stOf D t bd) x=relE D (stOf D t 0) x:=by
 have hv:validB D (stOf D t bd) x=validB D (stOf D t 0) x:=by
   have he:elemsB [(stOf D t bd).anchor,(stOf D t bd).acc,(stOf D t bd).bind,x.secret]=elemsB [(stOf D t 0).anchor,(stOf D t 0).acc,(stOf D t 0).bind,x.secret]:=by
     simp [elemsB,allUp,elemB,stOf,h0]
   unfold validB
   rw [he];rfl
 unfold relE
 rw [hv];rfl
theorem accB_bind (D:Nat)(t:TxM)(bd:Int)(h0:bd<18446744069414584321)(proof:List Int):accB D (stOf D t bd) proof=accB D (stOf D t 0) proof:=by
 unfold accB
 split
 · rfl
 · rw [relE_bind D t bd h0]
theorem accepted_open (S S':Nat→Prop)(w:World)(p:Nat)(st:Int)(ho:OrAt false st p w)(m:Int)(hm:m=2)(D:Nat)(bl bu qu rew win fin work:Int)(s:StM)(ma ca ra:Option Addr)(mc cc rc:Nat)(hs:StIn S w s ma ca ra mc cc rc)(pa:Option Addr)(pc:Nat)(proof:List Int)(hp:bytesR.rel S' w [.slice pa proof.length pc] proof)(hpl:proof.length≤1000000)(hD0:1≤D)(hD1:D≤12):
   Calls Tryz.prog 76 #[.pointer (some ⟨p,0,none⟩),.agg #[.int .i64 m,.int .i64 D,.int .i64 bl,.int .i64 bu,.int .i64 qu,.int .u64 rew,.int .i64 win,.int .i64 fin,.int .u64 work],.agg #[.int .i64 D,.int .u64 s.anchor,.slice ma s.marks.length mc,.slice ca s.commits.length cc,.slice ra s.rhos.length rc,.int .u64 s.dep,.int .u64 s.wd,.int .u64 s.fee,.int .u64 s.acc,.int .u64 s.bind],.slice pa proof.length pc] w fun e w'=>e= .returned (.bool (accB D s proof))∧Below w.heap.size w w':=by
 subst hm;have hbA:=bnew (Below.refl w.heap.size w) (.cells #[.int .i64 2,.int .i64 D,.int .i64 bl,.int .i64 bu,.int .i64 qu,.int .u64 rew,.int .i64 win,.int .i64 fin,.int .u64 work] 26);have hbB:=bnew hbA (.cells #[.int .i64 D,.int .u64 s.anchor,.slice ma s.marks.length mc,.slice ca s.commits.length cc,.slice ra s.rhos.length rc,.int .u64 s.dep,.int .u64 s.wd,.int .u64 s.fee,.int .u64 s.acc,.int .u64 s.bind] 151);have qB:=box_new (w.alloc (.cells #[.int .i64 2,.int .i64 D,.int .i64 bl,.int .i64 bu,.int .i64 qu,.int .u64 rew,.int .i64 win,.int .i64 fin,.int .u64 work] 26)) (.cells #[.int .i64 D,.int .u64 s.anchor,.slice ma s.marks.length mc,.slice ca s.commits.length cc,.slice ra s.rhos.length rc,.int .u64 s.dep,.int .u64 s.wd,.int .u64 s.fee,.int .u64 s.acc,.int .u64 s.bind] 151);have eA:(w.alloc (.cells #[.int .i64 2,.int .i64 D,.int .i64 bl,.int .i64 bu,.int .i64 qu,.int .u64 rew,.int .i64 win,.int .i64 fin,.int .u64 work] 26)).heap.size=w.heap.size+1:=World.size_alloc ..;rw [eA]at qB;have HS:=Hd (hs.keepB hbB);have HP:=Hd (bytesR.keepB hp hbB);have HO:=Hd (ho.keepB hbB);have HBx:=Hd qB;have HBel:=Hd hbB;clear hbA hbB qB eA hs hp ho
 go_enter Tryz.func76,Tryz.ntmps76
 go_wp2_with fail;generalize (w.alloc (.cells #[.int .i64 2,.int .i64 D,.int .i64 bl,.int .i64 bu,.int .i64 qu,.int .u64 rew,.int .i64 win,.int .i64 fin,.int .u64 work] 26)).alloc (.cells #[.int .i64 D,.int .u64 s.anchor,.slice ma s.marks.length mc,.slice ca s.commits.length cc,.slice ra s.rhos.length rc,.int .u64 s.dep,.int .u64 s.wd,.int .u64 s.fee,.int .u64 s.acc,.int .u64 s.bind] 151)=W at*
 refine(decode_any W pa pc proof S' HP.out hpl).mono ?_
 intro e w1 hd
 unfold DecOut at hd
 have HU:Hid (accB D s proof=match decodeS proof with|none=>false|some t=>relE D s t==0):=rfl
 revert hd
 cases hdc:decodeS proof with
 |none=>
  rintro⟨rfl,hb1⟩
  have HF:Hid (accB D s proof=false):=by show _=_;rw [HU.out,hdc]
  go_wp2_with fail;go_ret
  exact⟨ret_bool HF.out.symm,bnext HBel.out (hb1.new _)⟩
 |some t=>
  rintro⟨a1,c1,a2,c2,rfl,h1,h2,h3,hb1⟩
  have HF:Hid (accB D s proof=(relE D s t==0)):=by show _=_;rw [HU.out,hdc]
  have hbn:=bnew (Below.refl w1.heap.size w1) (.cells #[.slice a1 t.ins.length c1,.slice a2 t.outs.length c2,.int .u64 t.secret] 187);have hbk:=bnext hb1 hbn
  have HWT:Hid (WtIn (fun _=>True) w1 t a1 a2 c1 c2):=⟨h1,h2,h3⟩
  obtain⟨x0,x1⟩:=box_cells (box_after hbk HBx.out);clear h1 h2 HU;go_wp2_with fail
  refine(relCheck_any S (fun _=>True) _ p st (HO.out.keepB hbk) D s ma ca ra mc cc rc (HS.out.keepB hbk) t a1 a2 c1 c2 (HWT.out.keepB hbn) hD0 hD1).mono ?_
  rintro e w2 ⟨rfl,hb2⟩;generalize relE D s t=r at*;go_wp2_with fail;go_ret
  exact⟨ret_bool HF.out.symm,bnext HBel.out (bnext hbk hb2)⟩
end Go.Proofs.YtjknlhiimmbilaaGreatDoor
/- txcheck: Check in the open mode. -/
set_option maxRecDepth 100000
set_option maxHeartbeats 4000000
namespace Go.Proofs.YtjknlhiimmbilaaGreatDoor
open Go.ChangeShapes Go.WideShapes Go.ChangeAt Go.RowKit
def checkE (d bl bu qu rew win fin work:Int)(t:TxM):Int:=
 if rulesE 2 d bl bu qu rew win fin work=0 then (if validE t=0 then (if accB d.toNat (stOf d.toNat t 0) t.proof=true then 0 else 10)else validE t)else rulesE 2 d bl bu qu rew win fin work
theorem rulesE_depth {m d bl bu qu rew win fin work:Int}(h:rulesE m d bl bu qu rew win fin work=0):1≤d∧d≤12:=by
 unfold rulesE at h
 split at h
 · rename_i hb
   unfold rulesB at hb;rw [decide_eq_true_eq]at hb
   omega
 · simp at h
abbrev ChK (A X:Array Value)(b:Nat)(w1 w':World):Prop:=Below w1.heap.size w1 w'∧(∀o,w'.cell? ⟨b,o,none⟩=A[o]?)∧(∀o,w'.cell? ⟨b+1,o,none⟩=X[o]?)
theorem ChK.of {A X:Array Value}{b:Nat}{w1 w':World}(h:w1.heap[b]? =some (.cells A 26 (0,0)))(h2:w1.heap[b+1]? =some (.cells X 111 (0,0)))(hb:Below w1.heap.size w1 w'):ChK A X b w1 w':=
 ⟨hb,(box_cells (box_after hb h)).1,(box_cells (box_after hb h2)).1⟩
theorem ChK.drew {A X:Array Value}{b:Nat}{w1 w':World}(h:ChK A X b w1 w'):ChK A X b w1 w'.drew:=⟨h.1.drew,h.2.1,h.2.2⟩
theorem accepted_st (S':Nat→Prop)(w:World)(p:Nat)(st:Int)(ho:OrAt false st p w)(D:Nat)(bl bu qu rew win fin work:Int)(t:TxM)(bd:Int)(sa sb sc:Option Addr)(sd se sf:Nat)(hs:StIn (fun _=>True) w (stOf D t bd) sa sb sc sd se sf)(pa:Option Addr)(pc:Nat)(proof:List Int)(hp:bytesR.rel S' w [.slice pa proof.length pc] proof)(hpl:proof.length≤1000000)(hD0:1≤D)(hD1:D≤12):
   Calls Tryz.prog 76 #[.pointer (some ⟨p,0,none⟩),.agg #[.int .i64 2,.int .i64 D,.int .i64 bl,.int .i64 bu,.int .i64 qu,.int .u64 rew,.int .i64 win,.int .i64 fin,.int .u64 work],.agg #[.int .i64 D,.int .u64 t.anchor,.slice sa t.marks.length sd,.slice sb t.outs.length se,.slice sc t.outs.length sf,.int .u64 t.dep,.int .u64 t.wd,.int .u64 t.fee,.int .u64 t.acc,.int .u64 bd],.slice pa proof.length pc] w fun e w'=>e= .returned (.bool (accB D (stOf D t bd) proof))∧Below w.heap.size w w':=by
 have h:=accepted_open (fun _=>True) S' w p st ho 2 rfl D bl bu qu rew win fin work (stOf D t bd) sa sb sc sd se sf hs pa pc proof hp hpl hD0 hD1
 have e1:(stOf D t bd).commits.length=t.outs.length:=by simp [stOf]
 have e2:(stOf D t bd).rhos.length=t.outs.length:=rhosTo_len _ _;rw [e1,e2]at h
 exact h
theorem quiet_same {P:Program} {f:FuncId} {args:Array Value} {w:World} {n:Nat} {v:Value}
   (h:Calls P f args (w.drewN n) fun e w'=>e= .returned v∧w.drewN n=w'):Calls P f args (w.drewN n) fun e w''=>e= .returned v∧ ∃m,w''=w.drewN m:=
 h.mono fun _ _ ⟨he,hm⟩=>⟨he,n,hm.symm⟩
theorem check_open (S:Nat→Prop)(w:World)(p:Nat)(st:Int)(ho:OrAt false st p w)(d bl bu qu rew win fin work:Int)(t:TxM)(ma oa pa:Option Addr)(mc oc pc:Nat)(h:TxIn S w t ma oa pa mc oc pc)(hpl:t.proof.length≤1000000):
   Calls Tryz.prog 45 #[.pointer (some ⟨p,0,none⟩),.agg #[.int .i64 2,.int .i64 d,.int .i64 bl,.int .i64 bu,.int .i64 qu,.int .u64 rew,.int .i64 win,.int .i64 fin,.int .u64 work],.agg #[.int .u64 t.anchor,.slice ma t.marks.length mc,.slice oa t.outs.length oc,.int .u64 t.dep,.int .u64 t.wd,.int .u64 t.fee,.int .u64 t.acc,.int .u64 t.nonce,.int .i64 t.exp,.slice pa t.proof.length pc]] w fun e w'=>e= .returned (.int .i64 (checkE d bl bu qu rew win fin work t))∧Below w.heap.size w w':=by
 have hbA:=bnew (Below.refl w.heap.size w) (.cells #[.int .i64 2,.int .i64 d,.int .i64 bl,.int .i64 bu,.int .i64 qu,.int .u64 rew,.int .i64 win,.int .i64 fin,.int .u64 work] 26);have hbB:=bnew hbA (.cells #[.int .u64 t.anchor,.slice ma t.marks.length mc,.slice oa t.outs.length oc,.int .u64 t.dep,.int .u64 t.wd,.int .u64 t.fee,.int .u64 t.acc,.int .u64 t.nonce,.int .i64 t.exp,.slice pa t.proof.length pc] 111);have qA:=box_old (o':= .cells #[.int .u64 t.anchor,.slice ma t.marks.length mc,.slice oa t.outs.length oc,.int .u64 t.dep,.int .u64 t.wd,.int .u64 t.fee,.int .u64 t.acc,.int .u64 t.nonce,.int .i64 t.exp,.slice pa t.proof.length pc] 111) (box_new w (.cells #[.int .i64 2,.int .i64 d,.int .i64 bl,.int .i64 bu,.int .i64 qu,.int .u64 rew,.int .i64 win,.int .i64 fin,.int .u64 work] 26));have qB:=box_new (w.alloc (.cells #[.int .i64 2,.int .i64 d,.int .i64 bl,.int .i64 bu,.int .i64 qu,.int .u64 rew,.int .i64 win,.int .i64 fin,.int .u64 work] 26)) (.cells #[.int .u64 t.anchor,.slice ma t.marks.length mc,.slice oa t.outs.length oc,.int .u64 t.dep,.int .u64 t.wd,.int .u64 t.fee,.int .u64 t.acc,.int .u64 t.nonce,.int .i64 t.exp,.slice pa t.proof.length pc] 111)
 have eA:(w.alloc (.cells #[.int .i64 2,.int .i64 d,.int .i64 bl,.int .i64 bu,.int .i64 qu,.int .u64 rew,.int .i64 win,.int .i64 fin,.int .u64 work] 26)).heap.size=w.heap.size+1:=World.size_alloc ..;rw [eA]at qB;have H:=Hd (h.keepB hbB);have HO:=Hd (ho.keepB hbB);have HA:=Hd qA;have HBx:=Hd qB;have HBel:=Hd hbB;have HU:Hid (checkE d bl bu qu rew win fin work t=if rulesE 2 d bl bu qu rew win fin work=0 then (if validE t=0 then (if accB d.toNat (stOf d.toNat t 0) t.proof=true then 0 else 10)else validE t)else rulesE 2 d bl bu qu rew win fin work):=rfl;clear hbA hbB qA qB eA h ho
 go_enter Tryz.func45,Tryz.ntmps45
 go_wp2_with fail;generalize (w.alloc (.cells #[.int .i64 2,.int .i64 d,.int .i64 bl,.int .i64 bu,.int .i64 qu,.int .u64 rew,.int .i64 win,.int .i64 fin,.int .u64 work] 26)).alloc (.cells #[.int .u64 t.anchor,.slice ma t.marks.length mc,.slice oa t.outs.length oc,.int .u64 t.dep,.int .u64 t.wd,.int .u64 t.fee,.int .u64 t.acc,.int .u64 t.nonce,.int .i64 t.exp,.slice pa t.proof.length pc] 111)=W at*
 refine(rules_any 2 d bl bu qu rew win fin work W).mono ?_
 rintro e w1 ⟨rfl,hb1⟩
 by_cases hr:rulesE 2 d bl bu qu rew win fin work=0
 · obtain⟨d0,d1⟩:=rulesE_depth hr
   have HU2:Hid (checkE d bl bu qu rew win fin work t=if validE t=0 then (if accB d.toNat (stOf d.toNat t 0) t.proof=true then 0 else 10)else validE t):=by show _=_;rw [HU.out,if_pos hr]
   rw [hr];clear hr HU
   obtain⟨D,hD⟩:=Int.eq_ofNat_of_zero_le (show 0≤d by omega)
   subst hD;rw [Int.toNat_natCast]at HU2;obtain⟨x0,x1⟩:=box_cells (box_after hb1 HA.out);obtain⟨y0,y1⟩:=box_cells (box_after hb1 HBx.out);have HO1:=Hd (HO.out.keepB hb1);go_wp2_with fail
   go_quiet ((go_at_call 28;exact quiet_same (isIdeal_any _ p false st (HO1.out.keepB (bdrewN (Below.refl _ _) _)))))
   have hb1d:=bdrewN hb1 nq;clear x0 x1 y0 y1 hb1;generalize w1.drewN nq=w2 at*;obtain⟨y0,y1⟩:=box_cells (box_after hb1d HBx.out);obtain⟨x0,x1⟩:=box_cells (box_after hb1d HA.out);go_wp2_with fail
   refine(txValid_any S w2 t ma oa pa mc oc pc (H.out.keepB hb1d)).mono ?_
   rintro e w3 ⟨rfl,hb3⟩;have hb3d:=bnext hb1d hb3
   by_cases hv:validE t=0
   · have HV:=Hd hv
     have HU3:Hid (checkE D bl bu qu rew win fin work t=if accB D (stOf D t 0) t.proof=true then 0 else 10):=by show _=_;rw [HU2.out,if_pos hv]
     rw [hv];clear hv HU2 x0 x1 y0 y1;have HA3:=Hd (box_after hb3d HA.out);have HB3:=Hd (box_after hb3d HBx.out);have H3:=Hd (H.out.keepB hb3d);have HO3:=Hd (HO.out.keepB hb3d);go_wp2_with fail
     go_region_held3 (fun w'=>Below w3.heap.size w3 w'∧(∀o,w'.cell? ⟨w.heap.size,o,none⟩=(#[.int .i64 2,.int .i64 D,.int .i64 bl,.int .i64 bu,.int .i64 qu,.int .u64 rew,.int .i64 win,.int .i64 fin,.int .u64 work]:Array Value)[o]?)∧(∀o,w'.cell? ⟨w.heap.size+1,o,none⟩=(#[.int .u64 t.anchor,.slice ma t.marks.length mc,.slice oa t.outs.length oc,.int .u64 t.dep,.int .u64 t.wd,.int .u64 t.fee,.int .u64 t.acc,.int .u64 t.nonce,.int .i64 t.exp,.slice pa t.proof.length pc]:Array Value)[o]?))
       (first
         |with_reducible exact ChK.drew (ChK.of HA3.out HB3.out (Below.refl _ _))
         |with_reducible exact HK1.out
         |with_reducible exact HK2.out)
       (first
         |(go_at_call 77;refine(statement_any S _ t ma oa pa mc oc pc (H3.out.keepB (‹Below w3.heap.size w3 _∧_›).1) HV.out D (by omega)).mono ?_;rintro e w4 ⟨bd,sa,sb,sc,sd,se,sf,q0,q1,rfl,hst,hb4⟩
           have HST:=Hd hst;have HK1:=Hd (ChK.of HA3.out HB3.out (bnext (‹Below w3.heap.size w3 _∧_›).1 hb4));clear hst)
         |(go_at_call 76;refine(accepted_st S _ p st (HO3.out.keepB HK1.out.1) D bl bu qu rew win fin work t bd sa sb sc sd se sf HST.out pa pc t.proof (bytesR.keepB H3.out.proof HK1.out.1) hpl (by omega) (by omega)).mono ?_;rintro e w5 ⟨rfl,hb5⟩
           have HK2:=Hd (ChK.of HA3.out HB3.out (bnext HK1.out.1 hb5));rw [accB_bind D t bd q1]))
     have hfin:=bnext HBel.out (bnext hb3d HK2.out.1)
     cases hac:accB D (stOf D t 0) t.proof with
     |true=>
      have HF:Hid (checkE D bl bu qu rew win fin work t=0):=by show _=_;rw [HU3.out,hac];rfl
      go_wp2_with fail;go_ret
      exact⟨ret_int HF.out.symm,hfin⟩
     |false=>
      have HF:Hid (checkE D bl bu qu rew win fin work t=10):=by show _=_;rw [HU3.out,hac];rfl
      go_wp2_with fail;go_ret
      exact⟨ret_int HF.out.symm,hfin⟩
   · have HF:Hid (checkE D bl bu qu rew win fin work t=validE t):=by show _=_;rw [HU2.out,if_neg hv]
     have z1:(validE t==0)=false:=by rw [beq_eq_false_iff_ne];exact hv
     have z2:(validE t != 0)=true:=by rw [bne_iff_ne];exact hv
     clear hv HU2;generalize validE t=r at*;go_wp2_with fail;go_ret
     exact⟨ret_int HF.out.symm,bnext HBel.out hb3d⟩
 · have HF:Hid (checkE d bl bu qu rew win fin work t=rulesE 2 d bl bu qu rew win fin work):=by show _=_;rw [HU.out,if_neg hr]
   have z1:(rulesE 2 d bl bu qu rew win fin work==0)=false:=by rw [beq_eq_false_iff_ne];exact hr
   have z2:(rulesE 2 d bl bu qu rew win fin work != 0)=true:=by rw [bne_iff_ne];exact hr
   clear hr HU;generalize rulesE 2 d bl bu qu rew win fin work=r at*;go_wp2_with fail;go_ret
   exact⟨ret_int HF.out.symm,bnext HBel.out hb1⟩
end Go.Proofs.YtjknlhiimmbilaaGreatDoor

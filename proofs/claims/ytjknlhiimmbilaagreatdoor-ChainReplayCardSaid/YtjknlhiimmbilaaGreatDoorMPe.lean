/- The set of marks of the program: List. -/
import Derived.Test.YtjknlhiimmbilaaGreatDoorMMk
import Derived.Test.YtjknlhiimmbilaaGreatDoorMSo
import Derived.Test.YtjknlhiimmbilaaGreatDoorMPoA
import Derived.Test.YtjknlhiimmbilaaGreatDoorMPoC
import Derived.Test.YtjknlhiimmbilaaGreatDoorMEx
set_option maxRecDepth 100000
set_option maxHeartbeats 4000000
namespace Go.Proofs.YtjknlhiimmbilaaGreatDoor
open Go.ChangeShapes Go.WideShapes Go.ChangeAt Go.RowKit Go.Sort Go.Maps
theorem setM_some (l:List Int)(x:Int):(getM (setM l) x).isSome=decide (x∈l):=by
 rw [setM_get];split<;>simp [*]
structure LstI (l:List Int)(left:Int→Bool)(L:List Int):Prop where
 nd:L.Nodup
 mem: ∀x,x∈L↔x∈l∧left x=false
theorem LstI.start {l:List Int}{left:Int→Bool}(h: ∀x,left x=decide (x∈l)):LstI l left []:=
 ⟨List.nodup_nil,fun x=>⟨fun hx=>by simp at hx,fun hx=>by
   obtain⟨h1,h2⟩:=hx;rw [h,decide_eq_true h1]at h2
   simp at h2⟩⟩
theorem LstI.put {l:List Int}{left:Int→Bool}{L:List Int}(h:LstI l left L){x:Int}(hx:x∈l)(hl:left x=true):LstI l (fun y=>left y&& !(y==x)) (L++ [x]):=
 ⟨by
   rw [List.nodup_append]
   refine⟨h.nd,by simp,fun a ha b hb=> ?_⟩
   rw [List.mem_singleton]at hb;subst hb
   intro e
   subst e;have:=((h.mem a).1 ha).2;rw [hl]at this
   simp at this,
  fun y=>by
   rw [List.mem_append,List.mem_singleton,h.mem y]
   by_cases hyx:y=x
   · subst hyx
     exact⟨fun _=>⟨hx,by simp⟩,fun _=> .inr rfl⟩
   · simp [hyx]⟩
theorem rises_eq: ∀ {l m:List Int},l.Pairwise (· < ·)→m.Pairwise (· < ·)→(∀x,x∈l↔x∈m)→l=m
 | [],[],_,_,_=>rfl
 | [],b::m,_,_,h=>by have:=(h b).2 (by simp);simp at this
 |a::l,[],_,_,h=>by have:=(h a).1 (by simp);simp at this
 |a::l,b::m,hl,hm,h=>by
  obtain⟨hl1,hl2⟩:=List.pairwise_cons.1 hl;obtain⟨hm1,hm2⟩:=List.pairwise_cons.1 hm
  have hab:a=b:=by
    have h1:=(h a).1 (by simp)
    have h2:=(h b).2 (by simp)
    rcases List.mem_cons.1 h1 with e|h1
    · exact e
    · rcases List.mem_cons.1 h2 with e|h2
      · exact e.symm
      · have:=hl1 b h2
        have:=hm1 a h1
        omega
  subst hab
  rw [rises_eq hl2 hm2 fun x=> ?_]
  constructor
  · intro hx
    rcases List.mem_cons.1 ((h x).1 (List.mem_cons_of_mem _ hx))with e|h1
    · subst e;have:=hl1 x hx;omega
    · exact h1
  · intro hx
    rcases List.mem_cons.1 ((h x).2 (List.mem_cons_of_mem _ hx))with e|h1
    · subst e;have:=hm1 x hx;omega
    · exact h1
theorem LstI.done {l:List Int}{left:Int→Bool}{L L':List Int}(h:LstI l left L)(hl: ∀x,left x=false)(hup:l.Pairwise (· < ·))(hp:L'.Perm L)(hs:L'.Pairwise (· ≤ ·)):L'=l:=by
 have hn:L'.Nodup:=hp.nodup_iff.2 h.nd
 refine rises_eq ((hs.and hn).imp fun⟨h1,h2⟩=>by omega) hup fun x=> ?_
 rw [hp.mem_iff,h.mem x]
 exact⟨fun h=>h.1,fun h=>⟨h,hl x⟩⟩
theorem mkList_any (s b:Nat)(w:World)(l:List Int)(h:MkAt s b w l)(hl:l.length≤100000):
   Calls Tryz.prog 86 #[.pointer (some ⟨s,0,none⟩)] w fun e w'=> ∃(a:Option Addr) (cap:Nat),e= .returned (.slice a l.length cap)∧Own u64R w.heap.size 24 (fun k=>w.heap.size≤k) w' (.slice a l.length cap) l∧Below w.heap.size w w':=by
 have HC:=Hd h.cell;have HM:=Hd h.set.map;have HUP:=Hd h.set.up;have HBB:Hid (b<w.heap.size∧s<w.heap.size):=⟨h.set.map.lt,h.lt⟩;have hml:=setM_len l;have HSM:Hid (∀x,(getM (setM l) x).isSome=decide (x∈l)):=setM_some l
 have HGM:Hid (∀x v,getM (setM l) x=some v→x∈l):=fun x v hv=>by have:=setM_some l x;rw [hv]at this;simpa using this
 obtain⟨nm,hnm⟩: ∃x,setM l=x:=⟨_,rfl⟩;rw [hnm]at HM HSM HGM hml;have HNL:=Hd hml;have hlen':=HM.out.len (t:=138) (e:=4) Tryz.underlying138;rw [hml]at hlen';clear h hnm hml
 go_enter Tryz.func86,Tryz.ntmps86
 obtain⟨x0,x1⟩:=box_cells HC.out
 go_wp2_with (at_make;go_loud (refine wpList_make_lc rfl _ _ rfl Tryz.etyNums (n:=0) (m:=l.length) rfl rfl ?_ ?_ ?_ ?_ ?_ ?_))
 · rfl
 · rfl
 · omega
 · omega
 · unfold maxLen;omega
 intro cur hcur W1 hg hb1 hsz
 have hO:Own u64R w.heap.size 24 (fun x=>False∨w.heap.size≤x) W1 (.slice (some ⟨w.heap.size,0,none⟩) 0 l.length) []:=own_ints (cur:=cur) hg hcur rfl (fun x hx=>by simp at hx) (Nat.zero_le _) (by unfold maxLen;omega) (Nat.le_refl _)
 obtain⟨v0,hv0⟩: ∃v,Value.slice (some ⟨w.heap.size,0,none⟩) 0 l.length=v:=⟨_,rfl⟩;rw [hv0]at hO⊢
 have HO:Hid (Own u64R w.heap.size 24 (fun k=>w.heap.size≤k) W1 v0 []):=Own.mono hO fun k _ h=>h.resolve_left id
 have HB1:=Hd hb1;have HM1:=Hd (HM.out.keepB hb1);have HC1:=Hd (box_after hb1 HC.out);clear hO hg hsz hcur hv0 x0 x1 hb1 hlen';obtain⟨x0,x1⟩:=box_cells HC1.out
 go_wp2_with (first
   |(at_range;refine wpList_rangeM rfl _ rfl _ 138 rfl 4 Tryz.underlying138 b nm rfl HM1.out ?_;intro w1 hrg1 hb1 hs1)
   |go_in)
 go_frame
 have HRG:=Hd hrg1;have HO1:=Hd (HO.out.keepB hb1);have HBW:=Hd (bnext HB1.out hb1);have HW1:Hid (w.heap.size≤W1.heap.size):=HB1.out.size
 have HRV:Hid (∀k,v0.ownBlock=some k→k<W1.heap.size):=fun k hk=>(HO.out.lt hk).1
 obtain⟨R,hR⟩: ∃R,W1.heap.size=R:=⟨_,rfl⟩;rw [hR]at HRG HW1 HRV⊢;have HRZ:Hid (R<w1.heap.size):=HRG.out.lt.2.1;clear hrg1 hb1 hs1 HO HM1 HC1 HB1 hR x0 x1
 go_loopw [3] (fun v3 wr=> ∃(L:List Int) (left:Int→Bool) (cnt:Nat),Hid (RngAt wr b R nm left cnt)∧Hid (LstI l left L)∧Hid (Own u64R w.heap.size 24 (fun k=>w.heap.size≤k) wr v3 L)∧Hid (∀k,v3.ownBlock=some k→k≠R)∧L.length+cnt≤nm.length∧Hid (Below w.heap.size w wr)) (fun _ wr=>wr.rangeLeft b R)
 case atStart=>exact⟨[],_,_,HRG,LstI.start HSM.out,HO1,fun k hk=>by have:=HRV.out k hk;omega,by simp,HBW⟩
 case round=>
   clear HRG HO1 HBW HRV HRZ;obtain⟨L,left,cnt,HRG,HLI,HOW,HNR,hcn,HBR⟩:=hrel;obtain⟨wq,hwq⟩: ∃x,x=wr:=⟨_,rfl⟩;subst hwq;obtain⟨ua,uc,rfl, -, -⟩:=own_form HOW.out
   go_wp2_with (first
     |(at_next;refine wpList_nextM rfl _ rfl _ rfl b R nm left cnt rfl HRG.out ?_ ?_)
     |go_in)
   · intro hc1 hl1
     have HL1:=Hd hl1
     have HNN:L.length≤1000000:=by have:=HNL.out;omega
     clear hc1 hl1;go_wp2_with fail
     refine(sortN_any w.heap.size _ wq ua uc L HNN HOW.out).mono ?_
     rintro e w5 ⟨rfl,L',hperm,hsort,ho5,hk5⟩;have hlen:=hperm.length_eq;have hLl:=HLI.out.done HL1.out HUP.out hperm hsort;rw [hLl]at hlen ho5;rw [←hlen]at ho5⊢;have HO5:=Hd ho5
     have HB5:Hid (Below w.heap.size w w5):=Kept.behind HBR.out hk5 (Nat.le_trans HW1.out (Nat.le_of_lt (HRG.out.lt.2.1))) fun k hk h=>by
       have:=(HOW.out.lt h).2.1
       omega
     clear hperm hsort ho5 hk5 hlen hLl;go_wp2_with fail;go_ret
     exact⟨ua,uc,rfl,HO5.out,HB5.out⟩
   · intro x cv w2 cnt3 hwx hlx hgx hrg2 hlt hk2 hs2 hen
     have hxl:=HGM.out x cv hgx;have HRG2:=Hd hrg2
     have HOW2:Hid (Own u64R w.heap.size 24 (fun k=>w.heap.size≤k) w2 (.slice ua L.length uc) L):=(HOW.out.tight.keep (hk2.mono fun k _ hk=>HNR.out k hk)).mono fun k _ hk=>(HOW.out.lt hk).2.1
     have HBR2:Hid (Below w.heap.size w w2):=Kept.behind HBR.out hk2 (Nat.le_trans HW1.out (Nat.le_of_lt (HRG.out.lt.2.1))) fun k hk=>by show k≠R;have:=HW1.out;omega
     have HLI2:=Hd (HLI.out.put hxl hlx)
     have HLEFT:Hid (w2.rangeLeft b R<wq.rangeLeft b R):=by show _<_;rw [HRG2.out.left,HRG.out.left];exact hlt
     have HNRs:Hid (R<w2.heap.size∧w.heap.size≤w2.heap.size):=⟨HRG2.out.lt.2.1,HBR2.out.size⟩
     have HBR0:Hid (b≠R∧b<w.heap.size):=⟨by have:=HBB.out.1;have:=HW1.out;omega,HBB.out.1⟩
     have HLL:Hid (L.length≤100000):=by show _≤_;have:=HNL.out;omega
     obtain⟨L2,hL2⟩: ∃l,L++ [x]=l:=⟨_,rfl⟩;have HL2:=Hd hL2
     have hlen2:L2.length=L.length+1:=by rw [←hL2];simp
     rw [hL2]at HLI2;have hlt2:=hlt;clear hL2 hrg2 hk2 hs2 hgx hlx HOW HBR HRG HLI
     go_wp2_with (at_builtin;refine wpList_append_rel (r:=u64R) (base:=w.heap.size) (v:= .slice ua L.length uc) (u:= .slice (some ⟨w2.heap.size,0,none⟩) 1 1) (S:=fun _=>False) rfl _ _ rfl Tryz.etyNums rfl rfl (HOW2.out.keepB (bnew (Below.refl _ _) (.cells #[.int .u64 x] 24))) (Src.one (r:=u64R) (y:=x) ⟨rfl,hwx⟩ (CellsAt.new w2 [.int .u64 x] 24)) (fun _ _ h=>h.elim) (fun _ _ h=>h) (by have:=HLL.out;unfold maxLen;simp;omega) (by have:=HLL.out;simp;omega) (by rw [World.size_alloc];have:=HNRs.out.2;omega) ?_)
     intro v9 w9 ho9 hk9 hl9
     rw [HL2.out]at ho9;have hbp:=bnew (Below.refl w2.heap.size w2) (.cells #[.int .u64 x] 24)
     have HOB:Hid (∀k,(Value.slice ua L.length uc).ownBlock=some k→k≠R∧k≠b∧w.heap.size≤k):=fun k hk=>by
       have h1:=HNR.out k hk;have h2:=(HOW2.out.lt hk).2.1;have h3:=HBR0.out.2
       exact⟨h1,by omega,h2⟩
     have HRG9:Hid (RngAt w9 b R nm (fun y=>left y&& !(y==x)) cnt3):=(HRG2.out.keepB hbp).keep hk9 (fun e=>(HOB.out _ e).2.1 rfl) (fun e=>(HOB.out _ e).1 rfl)
     have HOW9:Hid (Own u64R w.heap.size 24 (fun k=>w.heap.size≤k) w9 v9 L2):=ho9.mono fun k _ hk=>by
       rcases hk with h1|h1
       · exact h1
       · have h2:=HNRs.out.2
         omega
     have HNR9:Hid (∀k,v9.ownBlock=some k→k≠R):=fun k hk=>by
       rcases hl9 with h1|h1
       · rw [h1]at hk;exact(HOB.out k hk).1
       · rw [h1]at hk
         have h2:=Option.some.inj hk;have h3:=HNRs.out.1
         omega
     have HBR9:Hid (Below w.heap.size w w9):=Kept.behind (HBR2.out.trans (hbp.mono HNRs.out.2)) hk9 (by rw [World.size_alloc];have:=HNRs.out.2;omega) fun k hk e=>by have:=(HOB.out k e).2.2;omega
     have HLEFT9:Hid (w9.rangeLeft b R<wq.rangeLeft b R):=by show _<_;rw [HRG9.out.left];have:=HLEFT.out;rw [HRG2.out.left]at this;exact this
     clear hbp ho9 hk9 hl9 HRG2 HOW2 HBR2 HNR;go_wp2_with fail
     go_roundw
     case rel=>exact⟨L2,_,_,HRG9,HLI2,HOW9,HNR9,by omega,HBR9⟩
     case measure=>exact HLEFT9.out
end Go.Proofs.YtjknlhiimmbilaaGreatDoor
/- The state of a chain of the program: Marks, Encode. -/
set_option maxRecDepth 100000
set_option maxHeartbeats 4000000
namespace Go.Proofs.YtjknlhiimmbilaaGreatDoor
open Go.ChangeShapes Go.WideShapes Go.ChangeAt Go.RowKit Go.Sort
def acD (x:AcM):List Int:=digs 8 x.id++digs 8 x.bal++digs 8 x.nonce
def acsD:List AcM→List Int
 | []=> []
 |x::l=>acD x++acsD l
theorem acsD_snoc: ∀(l:List AcM) (x:AcM),acsD (l++ [x])=acsD l++acD x
 | [],x=>by simp [acsD]
 |y::l,x=>by simp [acsD,acsD_snoc l x]
def encP (win:Int)(s:PoM):List Int:=digs 4 (s.past.length:Int)++listS s.leaves++listS s.marks++digs 4 (s.book.length:Int)++acsD s.book++digs 8 s.hidden++listS (anchM win s.roots)
theorem UintY (N:Nat)(w:World)(a:Option Addr)(cap:Nat)(xs:List Int)(h:bytesR.rel (fun _=>True) w [.slice a xs.length cap] xs)(hx:xs.length≤N)(hN:N≤100000000)(n:Int)(hn:okU n):
   Calls Tryz.prog 55 #[.slice a xs.length cap,.int .u64 n] w (SomeX (xs++digs 8 n) (N+8) w):=
 (Uint_any _ w a cap xs h n (okU_in hn).1 (okU_in hn).2 (by omega)).mono fun _ _ h=>GivesS.someX h (by rw [List.length_append,digs_len];omega)
theorem IntY (N:Nat)(w:World)(a:Option Addr)(cap:Nat)(xs:List Int)(h:bytesR.rel (fun _=>True) w [.slice a xs.length cap] xs)(hx:xs.length≤N)(hN:N≤100000000)(n:Nat)(hn:n≤4294967295):
   Calls Tryz.prog 52 #[.slice a xs.length cap,.int .i64 n] w (SomeX (xs++digs 4 n) (N+4) w):=
 (Int_any _ w a cap xs h n hn (by omega)).mono fun _ _ h=>GivesS.someX h (by rw [List.length_append,digs_len];omega)
theorem ListY (N M:Nat)(S':Nat→Prop)(w:World)(a:Option Addr)(cap:Nat)(xs:List Int)(h:bytesR.rel (fun _=>True) w [.slice a xs.length cap] xs)(hx:xs.length≤N)(hN:N≤100000000)(la:Option Addr)(lc:Nat)(l:List Int)(hl:numsR.rel S' w [.slice la l.length lc] l)(hlm:l.length≤M)(hM:M≤1000000):
   Calls Tryz.prog 53 #[.slice a xs.length cap,.slice la l.length lc] w (SomeX (xs++listS l) (N+4+8*M) w):=
 (List_any _ S' w a cap xs h la lc l hl (by omega) (by omega)).mono fun _ _ h=>by
   rw [List.append_assoc]at h
   exact GivesS.someX (ys:=xs++listS l) h (by simp only [List.length_append,listS_len];omega)
theorem poMarks_any (p:Nat)(I:Nat→Prop)(w:World)(r:RuM)(s:PoM)(v:PoV)(h:PoAt p I w r s v)(hl:s.marks.length≤100000):
   Calls Tryz.prog 54 #[.pointer (some ⟨p,0,none⟩)] w fun e w'=> ∃(a:Option Addr) (cap:Nat),e= .returned (.slice a s.marks.length cap)∧numsR.rel (fun _=>True) w' [.slice a s.marks.length cap] s.marks∧Below w.heap.size w w':=by
 obtain⟨x0,x1⟩:=box_cells h.cell
 simp only [poCells]at x0
 have HM:=Hd h.data.marks;clear h
 go_enter Tryz.func54,Tryz.ntmps54
 go_wp2_with fail
 refine(mkList_any v.sb v.mb w s.marks HM.out hl).mono ?_
 rintro e w1 ⟨a,cap,rfl,ho,hb1⟩;have HO:=Hd ho;clear ho x0 x1;go_wp2_with fail;go_ret
 exact⟨a,cap,rfl,(sliceR u64R).mono HO.out.slice fun _ _ _=>trivial,hb1⟩
theorem poEncode_any (p:Nat)(I:Nat→Prop)(w:World)(r:RuM)(s:PoM)(v:PoV)(h:PoAt p I w r s v)(hw1:1≤r.win)(hw2:r.win≤100)(h0:0<s.roots.length)(k1:s.past.length≤10000)(k2:s.leaves.length≤10000)(k3:s.marks.length≤100000)(k4:s.book.length≤100000)(k5:s.roots.length≤10001):
   Calls Tryz.prog 22 #[.pointer (some ⟨p,0,none⟩)] w (SomeX (encP r.win s) 100000000 w):=by
 obtain⟨ta,tc,la,lc,sb,mb,ba,bc,ra,rc,pa,pc⟩:=v;obtain⟨g,hg⟩:=own_at h.data.roots h0;have H:=Hd h;have HC:=Hd h.cell;have HBK:Hid (accsR.rel I w [.slice ba s.book.length bc] s.book):=h.data.book;have HLV:=Hd h.data.leaves.slice;have HHD:=Hd h.data.hidden
 have HAL:Hid ((anchM r.win s.roots).length≤10001):=by show _≤_;unfold anchM;rw [List.length_drop];omega
 clear h
 go_enter Tryz.func22,Tryz.ntmps22
 obtain⟨x0,x1⟩:=box_cells HC.out
 simp only [poCells]at x0
 go_wp2_with fail
 refine(IntY 0 w none 0 [] sliceR.nil (Nat.le_refl _) (by omega) s.past.length (by omega)).mono ?_
 rintro e w1 ⟨y1,a1,c1,Ey1,l1,rfl,h1,hb1⟩;clear x0 x1;obtain⟨x0,x1⟩:=box_cells (box_after hb1 HC.out)
 simp only [poCells]at x0
 go_wp2_with fail
 refine(ListY 4 10000 _ w1 a1 c1 y1 h1 (by omega) (by omega) la lc s.leaves (numsR.keepB HLV.out hb1) (by omega) (by omega)).mono ?_
 rintro e w2 ⟨y2,a2,c2,Ey2,l2,rfl,h2,hb2⟩;have hk2:=bnext hb1 hb2;clear x0 x1;go_wp2_with fail
 refine(poMarks_any p I w2 r s _ (H.out.keepB hk2) k3).mono ?_
 rintro e w3 ⟨am,cm,rfl,hm3,hb3⟩;have hk3:=bnext hk2 hb3;have h23:=bytesR.keepB h2 hb3;clear h2 h1;go_wp2_with fail
 refine(ListY 80008 100000 _ w3 a2 c2 y2 h23 (by omega) (by omega) am cm s.marks hm3 (by omega) (by omega)).mono ?_
 rintro e w4 ⟨y4,a4,c4,Ey4,l4,rfl,h4,hb4⟩;have hk4:=bnext hk3 hb4;clear h23 hm3;obtain⟨x0,x1⟩:=box_cells (box_after hk4 HC.out)
 simp only [poCells]at x0
 go_wp2_with fail
 refine(IntY 880012 w4 a4 c4 y4 h4 (by omega) (by omega) s.book.length (by omega)).mono ?_
 rintro e w5 ⟨y5,a5,c5,Ey5,l5,rfl,h5,hb5⟩;have hk5:=bnext hk4 hb5;clear h4 x0 x1;obtain⟨x0,x1⟩:=box_cells (box_after hk5 HC.out)
 simp only [poCells]at x0
 have HK5:=Hd hk5;have H5:=Hd h5;clear hk5 hk4 hk3 hk2 hb1 hb2 hb3 hb4 hb5 h5;go_wp2_with fail
 go_loopw [3,36] (fun vb vi wr=> ∃(k:Nat) (ys:List Int) (a:Option Addr) (c:Nat),k≤s.book.length∧vi= .int .i64 k∧vb= .slice a ys.length c∧Hid (ys=y5++acsD (s.book.take k))∧ys.length≤880016+24*k∧Hid (bytesR.rel (fun _=>True) wr [.slice a ys.length c] ys)∧Hid (Below w.heap.size w wr)) (fun _ vi _=>s.book.length-(intOf vi).toNat)
 case atStart=>exact⟨0,y5,a5,c5,Nat.zero_le _,rfl,rfl,by show _=_;simp [acsD],by omega,H5,HK5⟩
 case round=>
   obtain⟨k,ys,a,c,hk,rfl,rfl,hye,hyl,hys,hbr⟩:=hrel;clear x0 x1 HK5 H5
   by_cases hlt:k<s.book.length
   · obtain⟨b,off,rfl,hbl, -,hok,d0,d1,d2⟩:=acs_at ((accsR).keepB HBK.out hbr.out) k hlt
     have HT:Hid (acsD (s.book.take (k+1))=acsD (s.book.take k)++acD s.book[k]):=by show _=_;rw [List.take_succ_eq_append_getElem hlt,acsD_snoc]
     obtain⟨x,hx⟩: ∃x,s.book[k]=x:=⟨_,rfl⟩;rw [hx]at hok d0 d1 d2 HT;clear hx hbl;have HXO:=Hd hok;have hbn:=bnew (Below.refl wr.heap.size wr) (.cells #[.int .u64 x.id,.int .u64 x.bal,.int .u64 x.nonce] 124);have HIN:=Hd (box_new wr (.cells #[.int .u64 x.id,.int .u64 x.bal,.int .u64 x.nonce] 124));have HBN:=Hd (bnext hbr.out hbn);have HYS:=Hd (bytesR.keepB hys.out hbn);clear hbn hys hbr hok;go_wp2_with fail;generalize wr.alloc (.cells #[.int .u64 x.id,.int .u64 x.bal,.int .u64 x.nonce] 124)=wn at*;clear d0 d1 d2
     refine(UintY (880016+24*k) wn a c ys HYS.out hyl (by omega) x.id HXO.out.id).mono ?_
     rintro e w6 ⟨y6,a6,c6,Ey6,l6,rfl,h6,hb6⟩;obtain⟨x0,x1⟩:=box_cells (box_after hb6 HIN.out);go_wp2_with fail
     refine(UintY (880016+24*k+8) w6 a6 c6 y6 h6 l6 (by omega) x.bal HXO.out.bal).mono ?_
     rintro e w7 ⟨y7,a7,c7,Ey7,l7,rfl,h7,hb7⟩;have hk7:=bnext hb6 hb7;clear x0 x1;obtain⟨x0,x1⟩:=box_cells (box_after hk7 HIN.out);go_wp2_with fail
     refine(UintY (880016+24*k+16) w7 a7 c7 y7 h7 l7 (by omega) x.nonce HXO.out.nonce).mono ?_
     rintro e w8 ⟨y8,a8,c8,Ey8,l8,rfl,h8,hb8⟩
     have HE8:Hid (y8=y5++acsD (s.book.take (k+1))):=by show _=_;rw [Ey8.out,Ey7.out,Ey6.out,hye.out,HT.out];simp [acD]
     have HK8:=Hd (bnext HBN.out (bnext hk7 hb8));have H8:=Hd h8;clear x0 x1 h6 h7 h8 hb6 hb7 hb8 hk7 HYS HIN;go_wp2_with fail
     go_roundw
     case rel=>exact⟨k+1,y8,a8,c8,by omega,by go_num,rfl,HE8,by omega,H8,HK8⟩
     case measure=>simp [intOf];omega
   · obtain rfl:k=s.book.length:=by omega
     have HE:Hid (ys=y5++acsD s.book):=by show _=_;rw [hye.out,List.take_length]
     obtain⟨x0,x1⟩:=box_cells (box_after hbr.out HC.out)
     simp only [poCells]at x0
     go_wp2_with fail
     refine(UintY (880016+24*100000) wr a c ys hys.out (by omega) (by omega) s.hidden HHD.out).mono ?_
     rintro e w6 ⟨y6,a6,c6,Ey6,l6,rfl,h6,hb6⟩;have HK6:=Hd (bnext hbr.out hb6);have HP6:=Hd (H.out.keepB HK6.out);have H6:=Hd h6;clear x0 x1 h6 hb6 hys hbr hye;go_wp2_with fail
     refine(anchors_any p I w6 r s _ HP6.out hw1 hw2 h0 (by omega) g hg).mono ?_
     rintro e w7 ⟨rfl,hb7⟩
     have HAN:=Hd (anch_rel (win:=r.win) (g:=g) (rc:=rc) (by rw [←hg];exact numsR.mono (numsR.keepB HP6.out.data.roots.slice hb7) fun _ _ _=>trivial))
     have H7:=Hd (bytesR.keepB H6.out hb7);have HK7:=Hd (bnext HK6.out hb7);clear hb7 H6 HK6;go_wp2_with fail
     refine(ListY 3280024 10001 _ w7 a6 c6 y6 H7.out (by omega) (by omega) _ _ (anchM r.win s.roots) HAN.out HAL.out (by omega)).mono ?_
     rintro e w8 ⟨y8,a8,c8,Ey8,l8,rfl,h8,hb8⟩
     have HF:Hid (y8=encP r.win s):=by
       show _=_
       rw [Ey8.out,Ey6.out,HE.out,Ey5.out,Ey4.out,Ey2.out,Ey1.out]
       simp [encP]
     have HR8:=Hd h8;have HK8:=Hd (bnext HK7.out hb8);clear h8 hb8 HK7 H7 HAN;go_wp2_with fail;go_ret
     exact⟨y8,a8,c8,HF,by omega,rfl,HR8.out,HK8.out⟩
theorem encode_run (p:Nat)(I:Nat→Prop)(w:World)(r:RuM)(hr:RuOK r)(bs:List BlkM)(ho:RunOK r bs)(hl:bs.length≤200)(v:PoV)(h:PoAt p I w r (runW r bs) v):
   Calls Tryz.prog 22 #[.pointer (some ⟨p,0,none⟩)] w (SomeX (encP r.win (runW r bs)) 100000000 w):=by
 have hf:=run_facts hr _ bs rfl ho;have h1:=hf.ok.roots;have h2:=hf.past;have h3:=hf.ok.marks;have h4:=hf.ok.book
 have h5:(runW r bs).leaves.length≤10000:=by
   have h1:=hf.ok.count;have h2:=hf.ok.tree.c1
   obtain⟨-, -,e3⟩:=pow12 ⟨r.depth.toNat,by have:=hf.ok.tree.d1;omega⟩
   simp only at e3
   omega
 exact poEncode_any p I w r (runW r bs) v h hr.w0 hr.w1 (by omega) (by omega) h5 (by omega) (by omega) (by omega)
end Go.Proofs.YtjknlhiimmbilaaGreatDoor

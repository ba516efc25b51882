/- The wire's writers: what they append. -/
import Derived.Test.YtjknlhiimmbilaaGreatDoorMFld
import Derived.Test.YtjknlhiimmbilaaGreatDoorMKit
import Derived.Laws.Bits64b
import Derived.Deep.Cut
import Derived.Deep.CutRange
set_option maxRecDepth 100000
set_option maxHeartbeats 1000000
namespace Go.Proofs.YtjknlhiimmbilaaGreatDoor
open Go.ChangeShapes Go.WideShapes Go.ChangeAt Go.RowKit
theorem room_any (S:Nat→Prop)(w:World)(a:Option Addr)(cap:Nat)(xs:List Int)(h:bytesR.rel S w [.slice a xs.length cap] xs)(n:Nat)(hx:xs.length+n≤1000000000):
   Calls Tryz.prog 84 #[.slice a xs.length cap,.int .i64 n] w (GrewTo w.heap.size w xs):=by
 have hxl:xs.length≤1000000000:=by omega
 have H:=Hd h;clear h;obtain⟨cs,hcs⟩: ∃cs,cs=xs.map (Value.int .u8):=⟨_,rfl⟩;have HC:=Hd hcs
 have hcl:cs.length=xs.length:=by rw [hcs];simp
 have HL:=Hd hcl;clear hcs hcl
 go_enter Tryz.func84,Tryz.ntmps84
 go_wp2_with (at_make;refine wpList_make_lc rfl _ _ rfl Tryz.etyBytes (n:=xs.length) (m:=xs.length+n) rfl rfl ?_ ?_ ?_ ?_ ?_ ?_)
 · go_num
 · go_num
 · omega
 · omega
 · unfold maxLen;omega
 intro cur hcur w1 hg1 hb1 hz1
 have HG:=Hd hg1;have HCU:=Hd hcur;clear hg1 hcur
 go_wp2_with (refine wpList_copy_splice rfl (.tmp 13) (.tmp 14) 71 71 rfl 5 Tryz.underlying71 (by kernel_rfl) _ _ _ _ _ _ rfl rfl w.heap.size 0 cur 5 HG.out cs ?_ ?_ ?_ ?_ w.heap.size w hb1 (Nat.le_refl _) ?_)
 · rw [HL.out];simp
 · intro h0
   rw [HL.out]at h0;obtain⟨ad,had,hc⟩:=ints_cells (bytesR.keepB H.out hb1) h0
   have hc': ∀j v,cs[j]? =some v→w1.cell? (ad.add j)=some v:=fun j v hj=>hc j v (by rw [←HC.out];exact hj)
   exact⟨ad,had,hc'⟩
 · rw [HL.out,HCU.out];omega
 · intro v hv
   rw [HC.out]at hv;obtain⟨x, -,rfl⟩:=List.mem_map.1 hv
   rfl
 intro w2 HG2 hb2
 have hfin:Own u8R w.heap.size 5 (fun x=>False∨w.heap.size≤x) w2 (.slice (some ⟨w.heap.size,0,none⟩) xs.length (xs.length+n)) xs:=by
   refine own_ints HG2.out ?_ ?_ (ints_wf H.out) (by omega) (by unfold maxLen;omega) (Nat.le_refl _)
   · rw [length_splice _ _ _ (by rw [HL.out,HCU.out];omega),HCU.out]
   · unfold splice
     rw [List.take_zero,List.nil_append,←HC.out]
     exact List.take_left' HL.out
 go_wp2_with fail;go_ret
 exact⟨_,rfl,hfin,hb2⟩
abbrev GivesB (ys:List Int)(w:World):Ending→World→Prop:=GivesS u8R (fun _=>True) ys w
theorem GrewTo.gives {B:Nat}{w w':World}{ys:List Int}{e:Ending}(hB:B=w.heap.size)(h:GrewTo B w ys e w'):GivesB ys w e w':=by
 subst hB;obtain⟨v,rfl,ho,hb⟩:=h
 exact GivesS.mk (bytesR.mono ho.slice fun _ _ _=>trivial) hb
theorem appendLength_any (w0 w:World) (B:Nat) (hb:Below B w0 w) (hB0:B≤w0.heap.size) (v:Value) (xs:List Int) (ho:Own u8R B 5 (fun x=>False∨B≤x) w v xs) (n:Nat) (hn:n≤4294967295)
   (hl:xs.length≤1000000000):Calls Tryz.prog 83 #[v,.int .i64 n] w (GrewTo B w0 (xs++digs 4 n)):=by
 go_enter Tryz.func83,Tryz.ntmps83
 go_wp2_with fail
 refine(appendDigits_any w0 w B hb hB0 v xs ho n (by omega) (by omega) 4 (by omega) hl).mono ?_
 rintro e w1 ⟨v',rfl,ho',hb'⟩;go_wp2_with fail;go_ret
 exact⟨v',rfl,ho',hb'⟩
theorem Uint_any (S:Nat→Prop)(w:World)(a:Option Addr)(cap:Nat)(xs:List Int)(h:bytesR.rel S w [.slice a xs.length cap] xs)(n:Int)(n0:0≤n)(n1:n<18446744073709551616)(hx:xs.length≤100000000):
   Calls Tryz.prog 55 #[.slice a xs.length cap,.int .u64 n] w (GivesB (xs++digs 8 n) w):=by
 go_enter Tryz.func55,Tryz.ntmps55
 go_wp2_with fail
 refine(room_any S w a cap xs h 8 (by omega)).mono ?_
 rintro e w1 ⟨v,rfl,ho,hb⟩;go_wp2_with fail
 refine(appendDigits_any w w1 w.heap.size hb (Nat.le_refl _) v xs ho n n0 n1 8 (by omega) (by omega)).mono ?_
 intro e w2 hg
 have HG:=Hd (GrewTo.gives rfl hg);obtain⟨v',rfl, -, -⟩:=hg;go_wp2_with fail;go_ret
 exact HG.out
theorem Int_any (S:Nat→Prop)(w:World)(a:Option Addr)(cap:Nat)(xs:List Int)(h:bytesR.rel S w [.slice a xs.length cap] xs)(n:Nat)(n1:n≤4294967295)(hx:xs.length≤100000000):
   Calls Tryz.prog 52 #[.slice a xs.length cap,.int .i64 n] w (GivesB (xs++digs 4 n) w):=by
 go_enter Tryz.func52,Tryz.ntmps52
 go_wp2_with fail
 refine(room_any S w a cap xs h 4 (by omega)).mono ?_
 rintro e w1 ⟨v,rfl,ho,hb⟩;go_wp2_with fail
 refine(appendLength_any w w1 w.heap.size hb (Nat.le_refl _) v xs ho n n1 (by omega)).mono ?_
 intro e w2 hg
 have HG:=Hd (GrewTo.gives rfl hg);obtain⟨v',rfl, -, -⟩:=hg;go_wp2_with fail;go_ret
 exact HG.out
def digsAll:List Int→List Int
 | []=> []
 |n::l=>digs 8 n++digsAll l
theorem digsAll_len: ∀l,(digsAll l).length=8*l.length
 | []=>rfl
 |n::l=>by simp [digsAll,digs_len,digsAll_len l];omega
theorem digsAll_snoc: ∀(l:List Int) (n:Int),digsAll (l++ [n])=digsAll l++digs 8 n
 | [],n=>by simp [digsAll]
 |x::l,n=>by simp [digsAll,digsAll_snoc l n]
theorem List_any (S S':Nat→Prop)(w:World)(a:Option Addr)(cap:Nat)(xs:List Int)(h:bytesR.rel S w [.slice a xs.length cap] xs)(la:Option Addr)(lc:Nat)(l:List Int)(hl:numsR.rel S' w [.slice la l.length lc] l)(hx:xs.length≤100000000)(hll:l.length≤10000000):
   Calls Tryz.prog 53 #[.slice a xs.length cap,.slice la l.length lc] w (GivesB (xs++digs 4 l.length++digsAll l) w):=by
 have HL:=Hd hl;clear hl
 go_enter Tryz.func53,Tryz.ntmps53
 go_wp2_with fail
 refine(room_any S w a cap xs h (4+8*l.length) (by omega)).mono ?_
 rintro e w1 ⟨v,rfl,ho,hb⟩;go_wp2_with fail
 refine(appendLength_any w w1 w.heap.size hb (Nat.le_refl _) v xs ho l.length (by omega) (by omega)).mono ?_
 rintro e w2 ⟨v2,rfl,ho2,hb2⟩;have HO2:=Hd ho2;clear ho ho2;go_wp2_with fail
 go_loopw [5,19] (fun vb vi wr=> ∃k:Nat,k≤l.length∧vi= .int .i64 k∧Own u8R w.heap.size 5 (fun x=>False∨w.heap.size≤x) wr vb (xs++digs 4 l.length++digsAll (l.take k))∧Below w.heap.size w wr) (fun _ vi _=>l.length-(intOf vi).toNat)
 case atStart=>exact⟨0,Nat.zero_le _,rfl,by simpa [digsAll]using HO2.out,hb2⟩
 case round=>
   obtain⟨k,hk,rfl,hor,hbr⟩:=hrel
   by_cases hlt:k<l.length
   · obtain⟨b,off,rfl,hbl,n0,n1,hc⟩:=nums_at (numsR.keepB HL.out hbr) k hlt
     have HS:Hid (xs++digs 4 l.length++digsAll (l.take (k+1))=(xs++digs 4 l.length++digsAll (l.take k))++digs 8 l[k]):=by
       show _=_
       rw [List.take_succ_eq_append_getElem hlt,digsAll_snoc];simp only [List.append_assoc]
     have hln:(xs++digs 4 l.length++digsAll (l.take k)).length≤1000000000:=by
       simp only [List.length_append,digs_len,digsAll_len,List.length_take];omega
     generalize l[k]=n at*;generalize xs++digs 4 l.length++digsAll (l.take k)=ys at*;go_wp2_with fail
     refine(appendDigits_any w wr w.heap.size hbr (Nat.le_refl _) _ ys hor n n0 n1 8 (by omega) hln).mono ?_
     rintro e w3 ⟨v3,rfl,ho3,hb3⟩;go_wp2_with fail
     go_roundw
     case rel=>exact⟨k+1,by omega,by go_num,by rw [HS.out];exact ho3,hb3⟩
     case measure=>simp [intOf];omega
   · obtain rfl:k=l.length:=by omega
     rw [List.take_length]at hor
     have HG:=Hd (GivesS.mk (bytesR.mono hor.slice fun _ _ _=>trivial) hbr)
     go_wp2_with fail;go_ret
     exact HG.out
theorem Bytes_any (S S':Nat→Prop)(w:World)(a:Option Addr)(cap:Nat)(xs:List Int)(h:bytesR.rel S w [.slice a xs.length cap] xs)(la:Option Addr)(lc:Nat)(l:List Int)(hl:bytesR.rel S' w [.slice la l.length lc] l)(hx:xs.length≤100000000)(hll:l.length≤10000000):
   Calls Tryz.prog 231 #[.slice a xs.length cap,.slice la l.length lc] w (GivesB (xs++(digs 4 l.length++l)) w):=by
 have HL:=Hd hl;clear hl
 go_enter Tryz.func231,Tryz.ntmps231
 go_wp2_with fail
 refine(room_any S w a cap xs h (4+l.length) (by omega)).mono ?_
 rintro e w1 ⟨v,rfl,ho,hb⟩;go_wp2_with fail
 refine(appendLength_any w w1 w.heap.size hb (Nat.le_refl _) v xs ho l.length (by omega) (by omega)).mono ?_
 rintro e w2 ⟨v2,rfl,ho2,hb2⟩;have HO2:=Hd ho2
 have HL2:=Hd (Src.plain (S':=fun _=>False) (Plain.int .u8) (Src.of_slice (bytesR.keepB HL.out hb2)))
 have hln:(xs++digs 4 l.length).length+l.length≤1000000000:=by simp only [List.length_append,digs_len];omega
 clear ho ho2
 go_wp2_with (at_builtin;refine wpList_append_rel (r:=u8R) (base:=w.heap.size) rfl _ _ rfl Tryz.etyBytes rfl rfl HO2.out HL2.out (fun _ _ h=>h.elim) (fun _ _ h=>h) (by unfold maxLen;omega) (by omega) hb2.size ?_)
 intro v3 w3 ho3 hk3 _
 have hb3:Below w.heap.size w w3:=Kept.behind hb2 hk3 hb2.size fun k hk h=>by have:=(HO2.out.lt h).2.2;omega
 have HG:=Hd (GivesS.mk (bytesR.mono ho3.slice fun _ _ _=>trivial) hb3)
 clear ho3;go_wp2_with fail;go_ret
 exact HG.out
end Go.Proofs.YtjknlhiimmbilaaGreatDoor
/- The wire's reader. -/
set_option maxRecDepth 100000
set_option maxHeartbeats 2000000
namespace Go.Proofs.YtjknlhiimmbilaaGreatDoor
open Go.ChangeShapes Go.WideShapes Go.ChangeAt Go.RowKit
structure RdM where
 bytes:List Int
 pos:Nat
 failed:Bool
def RdAt (p:Nat)(w:World)(r:RdM):Prop:=
 ∃a cap,w.heap[p]? =some (.cells #[.slice a r.bytes.length cap,.int .i64 r.pos,.bool r.failed] 338 (0,0))∧bytesR.rel (fun k=>k<p) w [.slice a r.bytes.length cap] r.bytes∧r.pos≤r.bytes.length∧r.bytes.length≤1000000
theorem RdAt.keep {p:Nat}{w w':World}{r:RdM}(h:RdAt p w r)(hk:Below w.heap.size w w'):RdAt p w' r:=by
 obtain⟨a,cap,h1,h2,h3⟩:=h
 exact⟨a,cap,box_after hk h1,bytesR.keepB h2 hk,h3⟩
theorem RdAt.kept {p:Nat}{w w':World}{r:RdM}(h:RdAt p w r)(hk:Kept (fun k=>k≤p) w w'):RdAt p w' r:=by
 obtain⟨a,cap,h1,h2,h3⟩:=h
 exact⟨a,cap,box_kept hk h1 (Nat.le_refl _),bytesR.keep h2 (hk.mono fun k _ h=>Nat.le_of_lt h),h3⟩
def RdTo (p:Nat)(w:World)(r:RdM)(w':World):Prop:=RdAt p w' r∧Kept (fun k=>k≠p) w w'
theorem kept_next {S:Nat→Prop}{a b c:World}(h:Kept S a b)(k:Kept S b c):Kept S a c:=h.trans k fun _ _ h=>h
theorem RdTo.next {p:Nat}{w w1 w2:World}{r r':RdM}(h:RdTo p w r w1)(k:RdTo p w1 r' w2):RdTo p w r' w2:=⟨k.1,kept_next h.2 k.2⟩
theorem newReader_any (S:Nat→Prop)(w:World)(a:Option Addr)(cap:Nat)(xs:List Int)(h:bytesR.rel S w [.slice a xs.length cap] xs)(hx:xs.length≤1000000):
   Calls Tryz.prog 154 #[.slice a xs.length cap] w fun e w'=> ∃p,e= .returned (.pointer (some ⟨p,0,none⟩))∧w.heap.size≤p∧RdAt p w' ⟨xs,0,false⟩∧Below w.heap.size w w':=by
 go_enter Tryz.func154,Tryz.ntmps154
 go_wp2_with fail
 refine(room_any S w a cap xs h 0 (by omega)).mono ?_
 rintro e w1 ⟨v,rfl,ho,hb⟩;have hs:=ho.slice;obtain⟨a1,c1,rfl, -⟩:=sliceR.form hs;have HB:=Hd (bnew (Below.refl w1.heap.size w1) (.cells #[.slice a1 xs.length c1,.int .i64 0,.bool false] 338));have HX:=Hd (box_new w1 (.cells #[.slice a1 xs.length c1,.int .i64 0,.bool false] 338));have HS:=Hd (bytesR.bound hs);have HR:=Hd hb;clear ho hs hb;go_wp2_with fail;go_ret
 refine⟨w1.heap.size,by simp,HR.out.size,⟨a1,c1,HX.out,?_,Nat.zero_le _,hx⟩,bnext HR.out HB.out⟩
 exact bytesR.mono (bytesR.keepB HS.out HB.out) fun k _ hk=>hk.2
def RdM.fail (r:RdM):RdM:=⟨r.bytes,r.pos,true⟩
def RdM.to (r:RdM)(n:Nat):RdM:=⟨r.bytes,r.pos+n,r.failed⟩
def RdM.bad (r:RdM)(size:Nat):Bool:=r.failed||decide (r.bytes.length<r.pos+size)
def RdM.num (r:RdM)(size:Nat):Int:=leN ((r.bytes.drop r.pos).take size)
theorem left_any (w:World)(p:Nat)(r:RdM)(h:RdAt p w r):Calls Tryz.prog 219 #[.pointer (some ⟨p,0,none⟩)] w fun e w'=>e= .returned (.int .i64 (r.bytes.length-r.pos:Nat))∧Below w.heap.size w w':=by
 obtain⟨a,cap,h1,h2,h3,h4⟩:=h;obtain⟨c0,c1⟩:=box_cells h1;clear h1 h2
 go_enter Tryz.func219,Tryz.ntmps219
 go_wp2_with fail
 go_quiet (fail)
 go_wp2_with fail;go_ret
 exact⟨ret_int (by omega),bdrewN (Below.refl _ _) _⟩
theorem RdM.num_step (r:RdM)(k:Nat)(h:r.pos+k<r.bytes.length):r.num (k+1)=r.num k+r.bytes[r.pos+k]*256^k:=by
 unfold RdM.num
 have hk:k<(r.bytes.drop r.pos).length:=by rw [List.length_drop];omega
 rw [List.take_succ_eq_append_getElem hk,leN_snoc,List.length_take,Nat.min_eq_left (by omega),List.getElem_drop]
theorem RdM.num_in {r:RdM}(hb: ∀d∈r.bytes,0≤d∧d<256)(k:Nat)(h:r.pos+k≤r.bytes.length):0≤r.num k∧r.num k<256^k:=by
 have:=leN_in ((r.bytes.drop r.pos).take k) fun d hd=>hb d (List.mem_of_mem_drop (List.mem_of_mem_take hd))
 rwa [List.length_take,List.length_drop,Nat.min_eq_left (by omega)]at this
theorem RdAt.fail {p:Nat}{w:World}{r:RdM}(h:RdAt p w r):RdTo p w r.fail (w.setCell ⟨p,2,none⟩ (.bool true)):=by
 obtain⟨a,cap,h1,h2,h3⟩:=h
 have hk:Kept (fun k=>k≠p) w (w.setCell ⟨p,2,none⟩ (.bool true)):=(Kept.refl _ _).setCell (fun _ h=>h rfl) _
 exact⟨⟨a,cap,box_set h1,bytesR.keep h2 (hk.mono fun k _ h=>Nat.ne_of_lt h),h3⟩,hk⟩
theorem RdAt.to {p:Nat}{w:World}{r:RdM}(h:RdAt p w r)(n:Nat)(hn:r.pos+n≤r.bytes.length):RdTo p w (r.to n) (w.setCell ⟨p,1,none⟩ (.int .i64 (r.pos+n:Nat))):=by
 obtain⟨a,cap,h1,h2,h3,h4⟩:=h
 have hk:Kept (fun k=>k≠p) w (w.setCell ⟨p,1,none⟩ (.int .i64 (r.pos+n:Nat))):=(Kept.refl _ _).setCell (fun _ h=>h rfl) _
 exact⟨⟨a,cap,box_set h1,bytesR.keep h2 (hk.mono fun k _ h=>Nat.ne_of_lt h),hn,h4⟩,hk⟩
theorem RdTo.of {p:Nat}{w w1 w2:World}{r:RdM}(hb:Below w.heap.size w w1)(h:RdTo p w1 r w2):RdTo p w r w2:=⟨h.1,kept_next (Kept.of_below hb) h.2⟩
theorem RdAt.drewN {p:Nat}{w:World}{r:RdM}(h:RdAt p w r)(d:Nat):RdAt p (w.drewN d) r:=h.keep (bdrewN (Below.refl _ _) d)
theorem or_step {m x:Int}(k:Nat)(hk:k<8)(m0:0≤m)(m1:m<256^k)(x0:0≤x)(x1:x<256):bits BinOp.or IntKind.u64 m (IntKind.u64.wrap (x*2^(8*k)))=m+x*256^k:=by
 obtain⟨M,rfl⟩:=Int.eq_ofNat_of_zero_le m0;obtain⟨X,rfl⟩:=Int.eq_ofNat_of_zero_le x0
 have e:(256:Int)^k=((2^(8*k):Nat):Int):=by
   rw [Nat.pow_mul,Int.natCast_pow];rfl
 have e2:(2:Int)^(8*k)=((2^(8*k):Nat):Int):=by rw [Int.natCast_pow];rfl
 rw [e]at m1⊢;rw [e2];have hM:M<2^(8*k):=Int.ofNat_lt.1 m1
 have hp:2^(8*k)≤2^56:=Nat.pow_le_pow_right (by omega) (by omega)
 have hX:X≤255:=by omega
 have hb:=Nat.mul_le_mul hp hX;have h5:=Nat.two_pow_add_eq_or_of_lt hM X
 have e3:(X:Int)*((2^(8*k):Nat):Int)=((2^(8*k)*X:Nat):Int):=by rw [Int.natCast_mul,Int.mul_comm]
 rw [e3];generalize 2^(8*k)*X=Y at*
 have hY:Y<18446744073709551616:=by omega
 have hM2:M<18446744073709551616:=by omega
 rw [IntKind.wrap_u64,Int.emod_eq_of_lt (by omega) (by omega),bits_or_u64_nat M Y hM2 hY,Nat.or_comm,←h5]
 omega
def RdM.dig (r:RdM)(size:Nat):Int×Bool×RdM:=if r.bad size=true then (0,false,r.fail)else (r.num size,true,r.to size)
theorem digits_any (w:World)(p:Nat)(r:RdM)(h:RdAt p w r)(size:Nat)(hs:size≤8):
   Calls Tryz.prog 218 #[.pointer (some ⟨p,0,none⟩),.int .i64 size] w fun e w'=>e= .returned (.tuple #[.int .u64 (r.dig size).1,.bool (r.dig size).2.1])∧RdTo p w (r.dig size).2.2 w':=by
 have H:=Hd h;obtain⟨a,cap,h1,h2,h3,h4⟩:=h;obtain⟨c0,c1⟩:=box_cells h1;have HB:=Hd h2;clear h1 h2
 cases hf:r.failed with
 |true=>
  have HD:Hid (r.dig size=(0,false,r.fail)):=by
    show _=_;unfold RdM.dig RdM.bad;rw [hf];rfl
  rw [hf]at c0;have HR:=Hd H.out.fail
  go_enter Tryz.func218,Tryz.ntmps218
  go_wp2_with fail;go_ret2;rw [HD.out]
  exact⟨rfl,HR.out⟩
 |false=>
  rw [hf]at c0
  go_enter Tryz.func218,Tryz.ntmps218
  go_wp2_with fail
  refine(left_any w p r H.out).mono ?_
  rintro e w1 ⟨rfl,hb1⟩;have hr1:=H.out.keep hb1;have HR1:=Hd hr1;obtain⟨a1,cap1,q1,q2,q3,q4⟩:=hr1;clear c0 c1;obtain⟨c0,c1⟩:=box_cells q1;rw [hf]at c0;have HB1:=Hd q2;clear q1 q2
  by_cases hlt:r.bytes.length-r.pos<size
  · have HD:Hid (r.dig size=(0,false,r.fail)):=by
      show _=_;unfold RdM.dig RdM.bad;rw [hf,decide_eq_true (by omega)];rfl
    have HR:=Hd (RdTo.of hb1 HR1.out.fail);go_wp2_with fail;go_ret2;rw [HD.out]
    exact⟨rfl,HR.out⟩
  · have HD:Hid (r.dig size=(r.num size,true,r.to size)):=by
      show _=_;unfold RdM.dig RdM.bad;rw [hf,decide_eq_false (by omega)];rfl
    have hle:r.pos+size≤r.bytes.length:=by omega
    have hby: ∀d∈r.bytes,0≤d∧d<256:=fun d hd=>okB_in (ints_wf HB1.out d hd)
    have HBY:=Hd hby;clear hby;go_wp2_with fail
    go_loopw [6,22] (fun vn vi wr=> ∃k:Nat,k≤size∧vi= .int .i64 k∧vn= .int .u64 (r.num k)∧ ∃d,wr=w1.drewN d) (fun _ vi _=>size-(intOf vi).toNat)
    case atStart=>exact⟨0,Nat.zero_le _,rfl,by simp [RdM.num,leN],0,rfl⟩
    case round=>
      obtain⟨k,hk,rfl,rfl,d,rfl⟩:=hrel
      by_cases hks:k<size
      · have hpk:r.pos+k<r.bytes.length:=by omega
        obtain⟨b,off,rfl,hbl,hbp,d0,d1,hc⟩:=bytes_at HB1.out (r.pos+k) hpk
        have hn:=RdM.num_in HBY.out k (by omega)
        have HS:=Hd (r.num_step k hpk);generalize r.bytes[r.pos+k]=x at*;generalize r.num k=m at*;go_wp2_with fail
        go_quiet (fail)
        go_wp2_with fail
        go_roundw
        case rel=>
          refine⟨k+1,by omega,by go_num,?_,?_⟩
          · rw [HS.out]
            rw [or_step k (by omega) hn.1 hn.2 d0 d1]
          · exact⟨d+nq,rfl⟩
        case measure=>simp [intOf];omega
      · obtain rfl:k=size:=by omega
        have HR:=Hd (RdTo.of (bdrewN hb1 d) (RdAt.to (RdAt.drewN HR1.out d) k hle));go_wp2_with fail;go_ret2;rw [HD.out]
        exact⟨rfl,HR.out⟩
theorem RdAt.okb {p:Nat}{w:World}{r:RdM}(h:RdAt p w r): ∀d∈r.bytes,0≤d∧d<256:=by
 obtain⟨a,cap,h1,h2,h3⟩:=h
 exact fun d hd=>okB_in (ints_wf h2 d hd)
theorem RdAt.dig_in {p:Nat}{w:World}{r:RdM}(h:RdAt p w r)(size:Nat):0≤(r.dig size).1∧(r.dig size).1<256^size:=by
 unfold RdM.dig
 split
 · exact⟨Int.le_refl _,Int.pow_pos (by omega)⟩
 · rename_i hb
   refine RdM.num_in h.okb size ?_
   unfold RdM.bad at hb
   simp at hb
   omega
def RdM.uint (r:RdM)(most:Int):Int×RdM:=if (r.dig 8).2.1=false∨most<(r.dig 8).1 then (0,(r.dig 8).2.2.fail)else ((r.dig 8).1,(r.dig 8).2.2)
def RdM.int (r:RdM)(most:Int):Int×RdM:=if (r.dig 4).2.1=false∨most<(r.dig 4).1 then (0,(r.dig 4).2.2.fail)else ((r.dig 4).1,(r.dig 4).2.2)
theorem rdUint_any (w:World)(p:Nat)(r:RdM)(h:RdAt p w r)(most:Int)(m0:0≤most):
   Calls Tryz.prog 157 #[.pointer (some ⟨p,0,none⟩),.int .u64 most] w fun e w'=>e= .returned (.int .u64 (r.uint most).1)∧RdTo p w (r.uint most).2 w'∧0≤(r.uint most).1∧(r.uint most).1≤most:=by
 have hd:=h.dig_in 8;have HU:Hid (r.uint most=if (r.dig 8).2.1=false∨most<(r.dig 8).1 then (0,(r.dig 8).2.2.fail)else ((r.dig 8).1,(r.dig 8).2.2)):=rfl
 go_enter Tryz.func157,Tryz.ntmps157
 go_wp2_with fail
 refine(digits_any w p r h 8 (by omega)).mono ?_
 rintro e w1 ⟨rfl,hr⟩;generalize r.dig 8=t at*;obtain⟨n,ok,r'⟩:=t
 simp only at hd hr HU⊢
 have HR:=Hd hr;have HF:=Hd (RdTo.next hr hr.1.fail);obtain⟨a,cap,h1, -⟩:=hr.1;obtain⟨c0,c1⟩:=box_cells h1;clear h1 hr h
 cases ok with
 |false=>
  have HV:Hid (r.uint most=(0,r'.fail)):=by show _=_;rw [HU.out,if_pos (.inl rfl)]
  clear HU;go_wp2_with fail;go_ret;rw [HV.out]
  exact⟨rfl,HF.out,Int.le_refl _,m0⟩
 |true=>
  by_cases hlt:most<n
  · have HV:Hid (r.uint most=(0,r'.fail)):=by show _=_;rw [HU.out,if_pos (.inr hlt)]
    clear HU;go_wp2_with fail;go_ret;rw [HV.out]
    exact⟨rfl,HF.out,Int.le_refl _,m0⟩
  · have HV:Hid (r.uint most=(n,r')):=by show _=_;rw [HU.out,if_neg (fun h=>h.elim (fun h=>by cases h) hlt)]
    clear HU;go_wp2_with fail;go_ret;rw [HV.out]
    exact⟨rfl,HR.out,hd.1,by omega⟩
theorem rdInt_any (w:World)(p:Nat)(r:RdM)(h:RdAt p w r)(most:Int)(m0:0≤most)(_m1:most≤4294967295):
   Calls Tryz.prog 155 #[.pointer (some ⟨p,0,none⟩),.int .i64 most] w fun e w'=>e= .returned (.int .i64 (r.int most).1)∧RdTo p w (r.int most).2 w'∧0≤(r.int most).1∧(r.int most).1≤most:=by
 have hd:=h.dig_in 4;have HU:Hid (r.int most=if (r.dig 4).2.1=false∨most<(r.dig 4).1 then (0,(r.dig 4).2.2.fail)else ((r.dig 4).1,(r.dig 4).2.2)):=rfl
 go_enter Tryz.func155,Tryz.ntmps155
 go_wp2_with fail
 refine(digits_any w p r h 4 (by omega)).mono ?_
 rintro e w1 ⟨rfl,hr⟩;generalize r.dig 4=t at*;obtain⟨n,ok,r'⟩:=t
 simp only at hd hr HU⊢
 have hd2:n<4294967296:=by simpa using hd.2
 have hd1:=hd.1;clear hd;have HR:=Hd hr;have HF:=Hd (RdTo.next hr hr.1.fail);obtain⟨a,cap,h1, -⟩:=hr.1;obtain⟨c0,c1⟩:=box_cells h1;clear h1 hr h
 cases ok with
 |false=>
  have HV:Hid (r.int most=(0,r'.fail)):=by show _=_;rw [HU.out,if_pos (.inl rfl)]
  clear HU;go_wp2_with fail;go_ret;rw [HV.out]
  exact⟨rfl,HF.out,Int.le_refl _,m0⟩
 |true=>
  by_cases hlt:most<n
  · have HV:Hid (r.int most=(0,r'.fail)):=by show _=_;rw [HU.out,if_pos (.inr hlt)]
    clear HU;go_wp2_with fail;go_ret;rw [HV.out]
    exact⟨rfl,HF.out,Int.le_refl _,m0⟩
  · have HV:Hid (r.int most=(n,r')):=by show _=_;rw [HU.out,if_neg (fun h=>h.elim (fun h=>by cases h) hlt)]
    clear HU;go_wp2_with fail;go_ret;rw [HV.out]
    exact⟨rfl,HR.out,hd1,by omega⟩
theorem nat_eq_dec (a b:Nat):((a:Int)==(b:Int))=decide (a=b):=by
 rw [Bool.eq_iff_iff,beq_iff_eq,decide_eq_true_eq];omega
def RdM.done (r:RdM):Bool:= !r.failed&&decide (r.pos=r.bytes.length)
theorem done_any (w:World)(p:Nat)(r:RdM)(h:RdAt p w r):Calls Tryz.prog 159 #[.pointer (some ⟨p,0,none⟩)] w fun e w'=>e= .returned (.bool r.done)∧Below w.heap.size w w':=by
 obtain⟨a,cap,h1,h2,h3,h4⟩:=h;obtain⟨c0,c1⟩:=box_cells h1;clear h1 h2
 cases hf:r.failed with
 |true=>
  rw [hf]at c0
  have HD:Hid (r.done=false):=by show _=_;unfold RdM.done;rw [hf];rfl
  go_enter Tryz.func159,Tryz.ntmps159
  go_wp2_with fail
  go_quiet (fail)
  go_wp2_with fail;go_ret
  exact⟨ret_bool HD.out.symm,bdrewN (Below.refl _ _) _⟩
 |false=>
  rw [hf]at c0
  have HD:Hid (r.done=decide (r.pos=r.bytes.length)):=by show _=_;unfold RdM.done;rw [hf];rfl
  go_enter Tryz.func159,Tryz.ntmps159
  go_wp2_with fail
  go_quiet (fail)
  go_wp2_with fail;go_ret;rw [HD.out]
  refine⟨ret_bool (nat_eq_dec _ _),bdrewN (Below.refl _ _) _⟩
end Go.Proofs.YtjknlhiimmbilaaGreatDoor
/- The reader's lists. -/
set_option maxRecDepth 100000
set_option maxHeartbeats 3000000
namespace Go.Proofs.YtjknlhiimmbilaaGreatDoor
open Go.ChangeShapes Go.WideShapes Go.ChangeAt Go.RowKit
def RdM.many (p:Int):Nat→RdM→List Int→List Int×RdM
 |0,r,acc=>(acc,r)
 |k+1,r,acc=>if p≤(r.dig 8).1 then ([],(r.dig 8).2.2.fail)else RdM.many p k (r.dig 8).2.2 (acc++ [(r.dig 8).1])
def RdM.list (r:RdM)(most p:Int):List Int×RdM:=
 if (r.int most).2.failed=true∨(((r.int most).2.bytes.length-(r.int most).2.pos:Nat):Int) / 8<(r.int most).1 then ([],(r.int most).2.fail)else RdM.many p (r.int most).1.toNat (r.int most).2 []
def rowS (acc:List Int)(k:Nat):List Value:=(acc++List.replicate k 0).map (Value.int .u64)
theorem rowS_set (acc:List Int)(k:Nat)(x:Int):(rowS acc (k+1)).toArray.setIfInBounds acc.length (.int .u64 x)=(rowS (acc++ [x]) k).toArray:=by
 apply Array.ext'
 simp [rowS,List.replicate_succ]
theorem rowS_zero (acc:List Int):rowS acc 0=acc.map (Value.int .u64):=by simp [rowS]
theorem madeRow (n:Nat):madeCells #[Value.int .u64 0] n=(rowS [] n).toArray:=by
 apply Array.ext'
 apply List.ext_getElem?
 intro j
 rcases Nat.lt_or_ge j n with h|h
 · have hm:j % 1=0:=Nat.mod_one j
   simp [madeCells,rowS,h,hm]
 · simp [madeCells,rowS,h]
def GaveList (p:Nat)(w:World)(x:List Int×RdM)(e:Ending)(w':World):Prop:=
 ∃a cap,e= .returned (.slice a x.1.length cap)∧numsR.rel (fun k=>w.heap.size≤k) w' [.slice a x.1.length cap] x.1∧RdTo p w x.2 w'
theorem RdAt.lt {p:Nat}{w:World}{r:RdM}(h:RdAt p w r):p<w.heap.size:=by
 obtain⟨a,cap,h1, -⟩:=h
 exact box_lt h1
theorem rdList_any (w:World)(p:Nat)(r:RdM)(h:RdAt p w r)(most pr:Int)(m0:0≤most)(m1:most≤1000):
   Calls Tryz.prog 158 #[.pointer (some ⟨p,0,none⟩),.int .i64 most,.int .u64 pr] w (GaveList p w (r.list most pr)):=by
 have HLT:=Hd h.lt
 go_enter Tryz.func158,Tryz.ntmps158
 go_wp2_with fail
 refine(rdInt_any w p r h most m0 (by omega)).mono ?_
 rintro e w1 ⟨rfl,hr,n0,n1⟩;have HU:Hid (r.list most pr=if (r.int most).2.failed=true∨(((r.int most).2.bytes.length-(r.int most).2.pos:Nat):Int) / 8<(r.int most).1 then ([],(r.int most).2.fail)else RdM.many pr (r.int most).1.toNat (r.int most).2 []):=rfl;generalize r.int most=t at*;obtain⟨n,r1⟩:=t
 simp only at hr n0 n1 HU⊢
 have HR:=Hd hr;have HF:=Hd (RdTo.next hr hr.1.fail);obtain⟨a,cap,h1, -,h3,h4⟩:=hr.1;obtain⟨c0,c1⟩:=box_cells h1;clear h1 hr h
 cases hf:r1.failed with
 |true=>
  have HV:Hid (r.list most pr=([],r1.fail)):=by show _=_;rw [HU.out,if_pos (.inl hf)]
  rw [hf]at c0;clear HU;go_wp2_with fail;go_ret;rw [HV.out]
  exact⟨none,0,rfl,sliceR.nil,HF.out⟩
 |false=>
  rw [hf]at c0;go_wp2_with fail
  refine(left_any w1 p r1 HR.out.1).mono ?_
  rintro e w2 ⟨rfl,hb2⟩;have HR2:=Hd (⟨HR.out.1.keep hb2,kept_next HR.out.2 (Kept.of_below hb2)⟩:RdTo p w r1 w2);have HF2:=Hd (RdTo.next HR2.out HR2.out.1.fail);clear c0 c1 HF;obtain⟨a2,cap2,q1, -, -, -⟩:=HR2.out.1;obtain⟨c0,c1⟩:=box_cells q1;clear q1;rw [hf]at c0
  by_cases hlt:((r1.bytes.length-r1.pos:Nat):Int) / 8<n
  · have HV:Hid (r.list most pr=([],r1.fail)):=by show _=_;rw [HU.out,if_pos (.inr hlt)]
    clear HU;go_wp2_with fail;go_ret;rw [HV.out]
    exact⟨none,0,rfl,sliceR.nil,HF2.out⟩
  · have HV:Hid (r.list most pr=RdM.many pr n.toNat r1 []):=by show _=_;rw [HU.out,if_neg (fun h=>h.elim (fun h=>by rw [hf]at h;cases h) hlt)]
    clear HU;obtain⟨N,rfl⟩:=Int.eq_ofNat_of_zero_le n0;rw [Int.toNat_natCast]at HV
    have hN:N≤1000:=by omega
    go_wp2_with (at_make;refine wpList_make_cells rfl _ _ rfl Tryz.etyNums (z:= .int .u64 0) (by kernel_rfl) (n:=N) rfl rfl rfl rfl ?_ ?_ ?_)
    · omega
    · unfold maxLen;omega
    have hg3:=box_new w2 (.cells (rowS [] N).toArray 24);have hb3:=bnew (Below.refl w2.heap.size w2) (.cells (rowS [] N).toArray 24);rw [madeRow];have HG3:=Hd hg3;have HB3:=Hd hb3;generalize w2.alloc (.cells (rowS [] N).toArray 24)=w3 at*;have hgs:w.heap.size≤w2.heap.size:=HR2.out.2.size;clear hg3 hb3 c0 c1;have HR3:=Hd (⟨HR2.out.1.keep HB3.out,kept_next HR2.out.2 (Kept.of_below HB3.out)⟩:RdTo p w r1 w3);generalize hG:w2.heap.size=G at*
    have hpG:p<G:=by have:=HLT.out;omega
    go_loopw [31] (fun vi wr=> ∃(k:Nat) (rd:RdM) (acc:List Int),k≤N∧vi= .int .i64 k∧acc.length=k∧(∀x∈acc,okU x)∧RdTo p w rd wr∧wr.heap[G]? =some (.cells (rowS acc (N-k)).toArray 24 (0,0))∧Hid (RdM.many pr (N-k) rd acc=RdM.many pr N r1 [])) (fun vi _=>N-(intOf vi).toNat)
    case atStart=>exact⟨0,r1,[],Nat.zero_le _,rfl,rfl,fun x h=>by simp at h,HR3.out,HG3.out,rfl⟩
    case round=>
      obtain⟨k,rd,acc,hk,rfl,hacc,hok,hrd,hrow,hinv⟩:=hrel
      by_cases hks:k<N
      · obtain⟨j,hj⟩: ∃j,N-k=j+1:=⟨N-k-1,by omega⟩
        have hj2:N-(k+1)=j:=by omega
        rw [hj]at hrow hinv;have HROW:=Hd hrow;have HRD:=Hd hrd;have hdi:=hrd.1.dig_in 8;have HU:Hid (RdM.many pr (j+1) rd acc=if pr≤(rd.dig 8).1 then ([],(rd.dig 8).2.2.fail)else RdM.many pr j (rd.dig 8).2.2 (acc++ [(rd.dig 8).1])):=rfl;clear hrow;go_wp2_with fail
        refine(digits_any _ p rd hrd.1 8 (by omega)).mono ?_
        rintro e w4 ⟨rfl,hr4⟩;generalize rd.dig 8=t at*;obtain⟨x,ok,r4⟩:=t
        simp only at hr4 hdi HU⊢
        have hx1:x<18446744073709551616:=by simpa using hdi.2
        have hx0:=hdi.1;clear hdi
        have hrow4:=box_kept hr4.2 HROW.out (show G≠p by omega)
        obtain⟨d0,d1⟩:=box_cells hrow4
        have hlen4:(rowS acc (j+1)).length=N:=by unfold rowS;simp;omega
        have HSET:=Hd (rowS_set acc j x);rw [hacc]at HSET;have hnew:=box_set (i:=k) (v:= .int .u64 x) hrow4;rw [HSET.out]at hnew;have HNEW:=Hd hnew
        have hck:w4.cell? ⟨G,k,none⟩=some (.int .u64 0):=by rw [d0];simp [rowS,hacc]
        have hgk:=World.cell?_setCell_same w4 ⟨G,k,none⟩ (.int .u64 x) hck
        have R5:Hid (RdTo p w r4 (w4.setCell ⟨G,k,none⟩ (.int .u64 x))):=by
          have hk5:Kept (fun i=>i≤p) w4 (w4.setCell ⟨G,k,none⟩ (.int .u64 x)):=(Kept.refl _ _).setCell (fun _ h=>by have h':G≤p:=h;omega) _
          have hk6:Kept (fun i=>i≠p) w (w4.setCell ⟨G,k,none⟩ (.int .u64 x)):=(kept_next HRD.out.2 hr4.2).setCell (fun h=>by have h':G<w.heap.size:=h;omega) _
          exact⟨hr4.1.kept hk5,hk6⟩
        clear hnew hrow4 d0 hrd
        by_cases hpx:pr≤x
        · have HE:Hid (r.list most pr=([],r4.fail)):=by show _=_;rw [HV.out,←hinv.out,HU.out,if_pos hpx]
          have HF5:=Hd (RdTo.next R5.out R5.out.1.fail);obtain⟨a5,cap5,q5, -, -, -⟩:=R5.out.1;obtain⟨e0,e1⟩:=box_cells q5;clear q5;go_wp2_with fail;go_ret;rw [HE.out]
          exact⟨none,0,rfl,sliceR.nil,HF5.out⟩
        · have HI:Hid (RdM.many pr j r4 (acc++ [x])=RdM.many pr N r1 []):=by show _=_;rw [←hinv.out,HU.out,if_neg hpx]
          go_wp2_with fail
          go_roundw
          case rel=>exact⟨k+1,r4,acc++ [x],by omega,by go_num,by simp [hacc],fun y hy=>by rcases List.mem_append.1 hy with h|h;exact hok y h;simp at h;subst h;exact okU_of hx0 hx1,R5.out,by rw [hj2];exact HNEW.out,by rw [hj2];exact HI⟩
          case measure=>simp [intOf];omega
      · obtain rfl:k=N:=by omega
        rw [Nat.sub_self]at hrow hinv;rw [rowS_zero]at hrow
        have HE:Hid (r.list most pr=(acc,rd)):=by show _=_;rw [HV.out,←hinv.out];rfl
        have hown:Own (intR .u64) w.heap.size 24 (fun x=>False∨w.heap.size≤x) wr (.slice (some ⟨G,0,none⟩) acc.length acc.length) acc:=
          own_ints (cur:=acc.map (Value.int .u64)) hrow (by rw [List.length_map]) (List.take_of_length_le (by rw [List.length_map];exact Nat.le_refl _)) hok (Nat.le_refl _) (by unfold maxLen;omega) (by omega)
        have HS:Hid (numsR.rel (fun k=>w.heap.size≤k) wr [.slice (some ⟨G,0,none⟩) acc.length acc.length] acc):=numsR.mono hown.slice (fun i _ h=>h.resolve_left id)
        clear hown hrow;subst hacc;go_wp2_with fail;go_ret;rw [HE.out]
        exact⟨some ⟨G,0,none⟩,acc.length,rfl,HS.out,hrd⟩
end Go.Proofs.YtjknlhiimmbilaaGreatDoor
/- Reading notes and witnesses: the data, the state of Decode, readNote. -/
set_option maxRecDepth 100000
set_option maxHeartbeats 1000000
namespace Go.Proofs.YtjknlhiimmbilaaGreatDoor
open Go.ChangeShapes Go.WideShapes Go.ChangeAt Go.RowKit
def RdM.n1 (r:RdM):RdM:=(r.uint 4294967295).2
def RdM.n2 (r:RdM):RdM:=(r.n1.uint 18446744069414584320).2
def RdM.n3 (r:RdM):RdM:=(r.n2.uint 18446744069414584320).2
def RdM.n4 (r:RdM):RdM:=(r.n3.uint 18446744069414584320).2
def RdM.note (r:RdM):NoteM:=⟨(r.uint 4294967295).1,(r.n1.uint 18446744069414584320).1,(r.n2.uint 18446744069414584320).1,(r.n3.uint 18446744069414584320).1⟩
def RdM.s1 (r:RdM):RdM:=(r.n4.uint 18446744069414584320).2
def RdM.s2 (r:RdM):RdM:=(r.s1.int 3).2
def RdM.s3 (r:RdM):RdM:=(r.s2.int 4095).2
def RdM.s4 (r:RdM):RdM:=(r.s3.list 12 18446744069414584321).2
def RdM.s5 (r:RdM):RdM:=(r.s4.int 1).2
def RdM.spent (r:RdM):SpentM:=⟨r.note,(r.n4.uint 18446744069414584320).1,(r.s1.int 3).1,(r.s2.int 4095).1,(r.s3.list 12 18446744069414584321).1,(r.s4.int 1).1==1⟩
def RdM.spents:Nat→RdM→List SpentM→List SpentM×RdM
 |0,r,acc=>(acc,r)
 |k+1,r,acc=>RdM.spents k r.s5 (acc++ [r.spent])
def RdM.notes:Nat→RdM→List NoteM→List NoteM×RdM
 |0,r,acc=>(acc,r)
 |k+1,r,acc=>RdM.notes k r.n4 (acc++ [r.note])
theorem readNote_any (w:World)(p:Nat)(r:RdM)(h:RdAt p w r):Calls Tryz.prog 156 #[.pointer (some ⟨p,0,none⟩)] w
   fun e w'=>e= .returned (.agg #[.int .u64 r.note.value,.int .u64 r.note.owner,.int .u64 r.note.rho,.int .u64 r.note.blind])∧RdTo p w r.n4 w'∧NoteOk r.note:=by
 have hlt:=h.lt;have hb0:=bnew (Below.refl w.heap.size w) (.cells #[.int .u64 0,.int .u64 0,.int .u64 0,.int .u64 0] 247);have HX:=Hd (box_new w (.cells #[.int .u64 0,.int .u64 0,.int .u64 0,.int .u64 0] 247));have H0:=Hd (h.keep hb0);have HB0:=Hd hb0;clear hb0 h
 go_enter Tryz.func156,Tryz.ntmps156
 go_wp2_with fail
 refine(rdUint_any _ p r H0.out 4294967295 (by omega)).mono ?_
 rintro e w1 ⟨rfl,h1,a0,a1⟩;go_wp2_with fail
 refine(rdUint_any w1 p r.n1 h1.1 18446744069414584320 (by omega)).mono ?_
 rintro e w2 ⟨rfl,h2,b0,b1⟩;go_wp2_with fail
 refine(rdUint_any w2 p r.n2 h2.1 18446744069414584320 (by omega)).mono ?_
 rintro e w3 ⟨rfl,h3,c0,c1⟩;go_wp2_with fail
 refine(rdUint_any w3 p r.n3 h3.1 18446744069414584320 (by omega)).mono ?_
 rintro e w4 ⟨rfl,h4,d0,d1⟩;have hk:=kept_next (kept_next h1.2 h2.2) (kept_next h3.2 h4.2)
 have hx4:=box_kept hk HX.out (by omega)
 obtain⟨x0,x1⟩:=box_cells hx4
 have HN:Hid (NoteOk r.note):=⟨okU_of a0 (Int.lt_of_le_of_lt a1 (by omega)),okU_of b0 (Int.lt_of_le_of_lt b1 (by omega)),okU_of c0 (Int.lt_of_le_of_lt c1 (by omega)),okU_of d0 (Int.lt_of_le_of_lt d1 (by omega))⟩
 have HT:Hid (RdAt p w4 r.n4):=h4.1
 have HK:Hid (Kept (fun k=>k≠p) w w4):=kept_next (Kept.of_below HB0.out) hk
 have e1:r.note.value=(r.uint 4294967295).1:=rfl;have e2:r.note.owner=(r.n1.uint 18446744069414584320).1:=rfl;have e3:r.note.rho=(r.n2.uint 18446744069414584320).1:=rfl;have e4:r.note.blind=(r.n3.uint 18446744069414584320).1:=rfl;rw [←e1,←e2,←e3,←e4];clear e1 e2 e3 e4 a0 a1 b0 b1 c0 c1 d0 d1 h1 h2 h3 h4 hk;obtain⟨n,hn⟩: ∃n,r.note=n:=⟨_,rfl⟩;have HNE:=Hd hn;rw [hn]at HN⊢;clear hn;have hf4:=box_set (i:=3) (v:= .int .u64 n.blind) (box_set (i:=2) (v:= .int .u64 n.rho) (box_set (i:=1) (v:= .int .u64 n.owner) (box_set (i:=0) (v:= .int .u64 n.value) hx4)));obtain⟨z0, -⟩:=box_cells hf4;have k0:=z0 0;have k1:=z0 1;have k2:=z0 2;have k3:=z0 3
 simp at k0 k1 k2 k3
 clear z0 hf4 hx4;go_wp2_with fail
 refine bodyPost_ret (v:= .agg #[.int .u64 n.value,.int .u64 n.owner,.int .u64 n.rho,.int .u64 n.blind]) (by simp [results,Tryz.results156,go_sem,k0,k1,k2,k3]) rfl ⟨by rw [HNE.out],⟨?_,?_⟩,by rw [HNE.out];exact HN.out⟩
 · exact HT.out.kept (((((Kept.refl _ _).setCell (fun _ h=>by have h':w.heap.size≤p:=h;omega) _).setCell (fun _ h=>by have h':w.heap.size≤p:=h;omega) _).setCell (fun _ h=>by have h':w.heap.size≤p:=h;omega) _).setCell (fun _ h=>by have h':w.heap.size≤p:=h;omega) _)
 · exact((((HK.out.setCell (fun h=>absurd h (Nat.lt_irrefl _)) _).setCell (fun h=>absurd h (Nat.lt_irrefl _)) _).setCell (fun h=>absurd h (Nat.lt_irrefl _)) _).setCell (fun h=>absurd h (Nat.lt_irrefl _)) _)
structure DecAt (w:World)(p q B:Nat)(v1 v2:Value)(sec:Int)(rd:RdM)(wr:World):Prop where
 below:Below w.heap.size w wr
 rd:RdAt p wr rd
 box:wr.heap[q]? =some (.cells #[v1,v2,.int .u64 sec] 187 (0,0))
 res:wr.heap[w.heap.size]? =some (.cells #[.slice none 0 0,.slice none 0 0,.int .u64 0] 187 (0,0))
 base:B≤wr.heap.size
structure DecLay (w:World)(p q B:Nat):Prop where
 wp:w.heap.size<p
 wq:w.heap.size<q
 pB:p<B
 qB:q<B
 pq:p<q
theorem DecAt.kept {w wr w2:World}{p q B:Nat}{v1 v2:Value}{sec:Int}{rd:RdM}(L:DecLay w p q B)(h:DecAt w p q B v1 v2 sec rd wr)(hk:Kept (fun k=>k<B) wr w2):DecAt w p q B v1 v2 sec rd w2:=
 have:=L.wp;have:=L.wq;have:=L.pB;have:=L.qB
 ⟨Kept.behind h.below (hk.mono (S':=fun k=>k<B) fun _ _ h=>h) h.below.size (fun k hk=>by omega),h.rd.kept (hk.mono fun k _ h=>by omega),box_kept hk h.box L.qB,box_kept hk h.res (by omega),Nat.le_trans h.base hk.size⟩
theorem DecAt.keepB {w wr w2:World}{p q B:Nat}{v1 v2:Value}{sec:Int}{rd:RdM}(L:DecLay w p q B)(h:DecAt w p q B v1 v2 sec rd wr)(hb:Below wr.heap.size wr w2):DecAt w p q B v1 v2 sec rd w2:=h.kept L (Kept.of_below hb)
theorem DecAt.read {w wr w2:World}{p q B:Nat}{v1 v2:Value}{sec:Int}{rd rd':RdM}(L:DecLay w p q B)(h:DecAt w p q B v1 v2 sec rd wr)(hr:RdTo p wr rd' w2):DecAt w p q B v1 v2 sec rd' w2:=
 have:=L.wp;have:=L.wq;have:=L.pB;have:=L.qB;have:=L.pq
 ⟨Kept.behind h.below hr.2 h.below.size (fun k hk=>by omega),hr.1,box_kept hr.2 h.box (by omega),box_kept hr.2 h.res (by omega),Nat.le_trans h.base hr.2.size⟩
theorem DecAt.store {w wr:World}{p q B:Nat}{v1 v2 u1 u2:Value}{sec usec:Int}{rd:RdM}(L:DecLay w p q B)(h:DecAt w p q B v1 v2 sec rd wr)(i:Nat)(v:Value)(hv:(#[v1,v2,.int .u64 sec]:Array Value).setIfInBounds i v= #[u1,u2,.int .u64 usec]):DecAt w p q B u1 u2 usec rd (wr.setCell ⟨q,i,none⟩ v):=
 have:=L.wp;have:=L.wq;have:=L.pB;have:=L.qB;have:=L.pq
 have hk:Kept (fun k=>k≤p) wr (wr.setCell ⟨q,i,none⟩ v):=(Kept.refl _ _).setCell (fun _ h=>by have h':q≤p:=h;omega) _
 ⟨h.below.setCell (by show w.heap.size≤q;omega) _,h.rd.kept hk,hv▸box_set h.box,box_set_far h.res (show w.heap.size≠q by omega),by rw [World.size_setCell];exact h.base⟩
theorem DecAt.drew {w wr:World}{p q B:Nat}{v1 v2:Value}{sec:Int}{rd:RdM}(L:DecLay w p q B)(h:DecAt w p q B v1 v2 sec rd wr):DecAt w p q B v1 v2 sec rd wr.drew:=h.keepB L (Below.refl _ _).drew
theorem Tryz.etySpent:ElemTy Tryz.prog 184 252 9 88:=ElemTy.of Tryz.underlying184 (z:= .agg #[.int .u64 0,.int .u64 0,.int .u64 0,.int .u64 0,.int .u64 0,.int .i64 0,.int .i64 0,.slice none 0 0,.bool false]) (by kernel_rfl) rfl (by omega)
theorem Tryz.etyNote:ElemTy Tryz.prog 185 247 4 32:=ElemTy.of Tryz.underlying185 (z:= .agg #[.int .u64 0,.int .u64 0,.int .u64 0,.int .u64 0]) (by kernel_rfl) rfl (by omega)
end Go.Proofs.YtjknlhiimmbilaaGreatDoor
/- Decode. -/
set_option maxRecDepth 100000
set_option maxHeartbeats 8000000
namespace Go.Proofs.YtjknlhiimmbilaaGreatDoor
open Go.ChangeShapes Go.WideShapes Go.ChangeAt Go.RowKit
abbrev SpOwn (B:Nat)(w:World)(v:Value)(l:List SpentM):Prop:=Own spentR B 252 (fun x=>False∨B≤x) w v l
abbrev NtOwn (B:Nat)(w:World)(v:Value)(l:List NoteM):Prop:=Own noteR B 247 (fun x=>False∨B≤x) w v l
theorem SpOwn.read {B p:Nat}{w w2:World}{v:Value}{l:List SpentM}{rd:RdM}(h:SpOwn B w v l)(hp:p<B)(hr:RdTo p w rd w2):SpOwn B w2 v l:=h.keep (hr.2.mono fun k _ h=>by rcases h with h|h;exact h.elim;omega)
theorem NtOwn.read {B p:Nat}{w w2:World}{v:Value}{l:List NoteM}{rd:RdM}(h:NtOwn B w v l)(hp:p<B)(hr:RdTo p w rd w2):NtOwn B w2 v l:=h.keep (hr.2.mono fun k _ h=>by rcases h with h|h;exact h.elim;omega)
theorem SpOwn.store {B q:Nat}{w:World}{v:Value}{l:List SpentM}(h:SpOwn B w v l)(hq:q<B)(i:Nat)(u:Value):SpOwn B (w.setCell ⟨q,i,none⟩ u) v l:=h.keep ((Kept.refl _ _).setCell (fun _ h=>by have h':False∨B≤q:=h;rcases h' with h'|h';exact h';omega) _)
theorem NtOwn.store {B q:Nat}{w:World}{v:Value}{l:List NoteM}(h:NtOwn B w v l)(hq:q<B)(i:Nat)(u:Value):NtOwn B (w.setCell ⟨q,i,none⟩ u) v l:=h.keep ((Kept.refl _ _).setCell (fun _ h=>by have h':False∨B≤q:=h;rcases h' with h'|h';exact h';omega) _)
def decodeS (bs:List Int):Option WitM:=
 match RdM.spents (RdM.int ⟨bs,0,false⟩ 4).1.toNat (RdM.int ⟨bs,0,false⟩ 4).2 []with
 |(ins,r)=>match RdM.notes (r.int 4).1.toNat (r.int 4).2 []with
  |(outs,r')=>if (r'.uint 18446744069414584320).2.done=true then some ⟨ins,outs,(r'.uint 18446744069414584320).1⟩else none
def DecOut (bs:List Int)(w:World)(e:Ending)(w':World):Prop:=
 match decodeS bs with
 |none=>e= .returned (.tuple #[.agg #[.slice none 0 0,.slice none 0 0,.int .u64 0],.int .i64 2])∧Below w.heap.size w w'
 |some t=> ∃a1 c1 a2 c2,e= .returned (.tuple #[.agg #[.slice a1 t.ins.length c1,.slice a2 t.outs.length c2,.int .u64 t.secret],.int .i64 0])∧
    spentsR.rel (fun _=>True) w' [.slice a1 t.ins.length c1] t.ins∧notesR.rel (fun _=>True) w' [.slice a2 t.outs.length c2] t.outs∧okU t.secret∧Below w.heap.size w w'
theorem decode_any (w:World)(a:Option Addr)(cap:Nat)(bs:List Int)(S:Nat→Prop)(h:bytesR.rel S w [.slice a bs.length cap] bs)(hx:bs.length≤1000000):
   Calls Tryz.prog 109 #[.slice a bs.length cap] w (DecOut bs w):=by
 have hb0:=bnew (Below.refl w.heap.size w) (.cells #[.slice none 0 0,.slice none 0 0,.int .u64 0] 187);have HX:=Hd (box_new w (.cells #[.slice none 0 0,.slice none 0 0,.int .u64 0] 187));have H:=Hd (bytesR.keepB h hb0);have HB0:=Hd hb0;have hs0:(w.alloc (.cells #[.slice none 0 0,.slice none 0 0,.int .u64 0] 187)).heap.size=w.heap.size+1:=World.size_alloc ..;have HS0:=Hd hs0;clear hb0 h hs0
 go_enter Tryz.func109,Tryz.ntmps109
 go_wp2_with fail
 refine(newReader_any S _ a cap bs H.out hx).mono ?_
 rintro e w1 ⟨p,rfl,hp1,hrd1,hb1⟩
 have hlay:DecLay w p w1.heap.size (w1.heap.size+1):=by
   have h1:=HS0.out;have h2:=hrd1.lt;rw [h1]at hp1
   exact⟨by omega,by omega,by omega,by omega,by omega⟩
 have hbq:=bnew (Below.refl w1.heap.size w1) (.cells #[.slice none 0 0,.slice none 0 0,.int .u64 0] 187)
 have hd:DecAt w p w1.heap.size (w1.heap.size+1) (.slice none 0 0) (.slice none 0 0) 0 ⟨bs,0,false⟩ (w1.alloc (.cells #[.slice none 0 0,.slice none 0 0,.int .u64 0] 187)):=
   ⟨bnext (bnext HB0.out hb1) hbq,hrd1.keep hbq,box_new _ _,box_old (box_after hb1 HX.out),by rw [World.size_alloc];exact Nat.le_refl _⟩
 have HD:=Hd hd;have HL:=Hd hlay;clear hd hlay hbq hrd1 hb1 hp1 HX HB0 HS0 H;go_wp2_with fail;generalize w1.alloc (.cells #[.slice none 0 0,.slice none 0 0,.int .u64 0] 187)=W at HD⊢;generalize hq:w1.heap.size=q at*;generalize hBq:q+1=B at*
 refine(rdInt_any W p _ HD.out.rd 4 (by omega) (by omega)).mono ?_
 rintro e w2 ⟨rfl,h2,n0,n1⟩;have HD2:=Hd (HD.out.read HL.out h2);obtain⟨N,hN⟩:=Int.eq_ofNat_of_zero_le n0;have HN:=Hd hN;rw [hN]at n1⊢;clear hN n0 h2 HD;obtain⟨r1,hr1⟩: ∃r1,(RdM.int ⟨bs,0,false⟩ 4).2=r1:=⟨_,rfl⟩;have HR1:=Hd hr1;rw [hr1]at HD2;clear hr1
 have hN4:N≤4:=by omega
 go_wp2_with fail
 go_loopw [10] (fun vi wr=> ∃(k:Nat) (rd:RdM) (v:Value) (ins:List SpentM),k≤N∧vi= .int .i64 k∧ins.length=k∧DecAt w p q B v (.slice none 0 0) 0 rd wr∧SpOwn B wr v ins∧Hid (RdM.spents (N-k) rd ins=RdM.spents N r1 [])) (fun vi _=>N-(intOf vi).toNat)
 case atStart=>exact⟨0,r1,.slice none 0 0,[],Nat.zero_le _,rfl,rfl,HD2.out,Own.nil _ _ _ _ _,rfl⟩
 case round=>
   obtain⟨k,rd,v,ins,hk,rfl,hil,hd,hown,hinv⟩:=hrel
   by_cases hks:k<N
   · obtain⟨j,hj⟩: ∃j,N-k=j+1:=⟨N-k-1,by omega⟩
     have hj2:N-(k+1)=j:=by omega
     rw [hj]at hinv;have HI:Hid (RdM.spents j rd.s5 (ins++ [rd.spent])=RdM.spents N r1 []):=hinv;have HDr:=Hd (hd.drew HL.out);have HOr:=Hd (show SpOwn B wr.drew v ins from hown.keepB (Below.refl _ _).drew)
     have HLT:=Hd (fun k (hk:v.ownBlock=some k)=>(hown.lt hk).1)
     obtain⟨x0,x1⟩:=box_cells hd.box;clear hinv hd hown;go_wp2_with fail
     go_region_law (first
       |(refine step_append_rel (r:=spentR) (base:=B) (v:=v) (u:= .slice (some ⟨w7.heap.size,0,none⟩) 1 1) rfl _ _ rfl Tryz.etySpent rfl rfl (Own.keepB O6.out (bnew (Below.refl _ _) _)) (Src.one (spentR.keepB SREL.out (bnew (Below.refl _ _) _)) (CellsAt.new w7 (spentCells rd.spent pa pc) 252)) (fun k _ h=> .inr (Nat.le_trans HDr.out.base h)) (fun k hk h=>absurd (HLT.out k hk) (Nat.not_lt.2 h)) (by unfold maxLen;simp;omega) (by simp;omega) (Nat.le_trans G6.out.base (by rw [World.size_alloc];omega)) ?_
         intro v2 w8 ho8 hk8 hl8
         obtain⟨a2,cap2,rfl, -, -⟩:=sliceR.form ho8.slice
         have G8:=Hd (DecAt.kept HL.out (DecAt.keepB HL.out G6.out (bnew (Below.refl _ _) _)) (hk8.mono (S':=fun k=>k<B) fun k _ hkB he=>by have:=(Own.lt O6.out he).2.2;omega))
         have O8:Hid (SpOwn B w8 (.slice a2 (ins++ [rd.spent]).length cap2) (ins++ [rd.spent])):=ho8.mono fun k _ h=>by
           rcases h with h|h
           · exact h
           · exact .inr (Nat.le_trans G6.out.base (Nat.le_trans (by rw [World.size_alloc];omega) h))
         obtain⟨t0,t1⟩:=box_cells G8.out.box)
       |(go_simp;first
        |(go_at_call 156;refine(readNote_any _ p rd HDr.out.rd).mono ?_;rintro e w2 ⟨rfl,g1,okn⟩
          have G1:=Hd (DecAt.read HL.out HDr.out g1);have O1:=Hd (SpOwn.read HOr.out HL.out.pB g1);obtain⟨y0,y1⟩:=box_cells G1.out.box)
        |(go_at_call 157;refine(rdUint_any _ p rd.n4 G1.out.rd 18446744069414584320 (by omega)).mono ?_;rintro e w3 ⟨rfl,g2,a0,a1⟩
          have G2:Hid (DecAt w p q B v (.slice none 0 0) 0 rd.s1 w3):=DecAt.read HL.out G1.out g2;have O2:=Hd (SpOwn.read O1.out HL.out.pB g2);obtain⟨z0,z1⟩:=box_cells G2.out.box)
        |(go_at_call_of 155 (Value.int IntKind.i64 3);refine(rdInt_any _ p rd.s1 G2.out.rd 3 (by omega) (by omega)).mono ?_;rintro e w4 ⟨rfl,g3,b0,b1⟩
          have G3:Hid (DecAt w p q B v (.slice none 0 0) 0 rd.s2 w4):=DecAt.read HL.out G2.out g3;have O3:=Hd (SpOwn.read O2.out HL.out.pB g3);obtain⟨m0,m1⟩:=box_cells G3.out.box)
        |(go_at_call_of 155 (Value.int IntKind.i64 4095);refine(rdInt_any _ p rd.s2 G3.out.rd 4095 (by omega) (by omega)).mono ?_;rintro e w5 ⟨rfl,g4,c0,c1⟩
          have G4:Hid (DecAt w p q B v (.slice none 0 0) 0 rd.s3 w5):=DecAt.read HL.out G3.out g4;have O4:=Hd (SpOwn.read O3.out HL.out.pB g4);obtain⟨l0,l1⟩:=box_cells G4.out.box)
        |(go_at_call 158;refine(rdList_any _ p rd.s3 G4.out.rd 12 18446744069414584321 (by omega) (by omega)).mono ?_;rintro e w6 ⟨pa,pc,rfl,hpath,g5⟩
          have G5:Hid (DecAt w p q B v (.slice none 0 0) 0 rd.s4 w6):=DecAt.read HL.out G4.out g5;have O5:=Hd (SpOwn.read O4.out HL.out.pB g5);obtain⟨i0,i1⟩:=box_cells G5.out.box;have HPATH:=Hd hpath;clear hpath)
        |(go_at_call_of 155 (Value.int IntKind.i64 1);refine(rdInt_any _ p rd.s4 G5.out.rd 1 (by omega) (by omega)).mono ?_;rintro e w7 ⟨rfl,g6,d0,d1⟩
          have G6:Hid (DecAt w p q B v (.slice none 0 0) 0 rd.s5 w7):=DecAt.read HL.out G5.out g6;have O6:=Hd (SpOwn.read O5.out HL.out.pB g6);obtain⟨k0,k1⟩:=box_cells G6.out.box;have kk:=fun o'=>(box_cells (box_old (o':=o') G6.out.box)).1
          have SREL:Hid (spentR.rel (fun k=>wr.heap.size≤k) w7 (spentCells rd.spent pa pc) rd.spent):=
            spentR.mk (s:=rd.spent) ⟨okn,okU_of a0 (Int.lt_of_le_of_lt a1 (by omega)),okI_of (Int.le_trans (by omega) b0) (Int.lt_of_le_of_lt b1 (by omega)),okI_of (Int.le_trans (by omega) c0) (Int.lt_of_le_of_lt c1 (by omega))⟩
              (numsR.mono (numsR.keep HPATH.out (g6.2.mono fun k _ h=>Nat.ne_of_gt (Nat.lt_of_lt_of_le HL.out.pB (Nat.le_trans G4.out.base h)))) fun k _ h=>Nat.le_trans (Nat.le_trans (show wr.heap.size≤w2.heap.size from g1.2.size) (Nat.le_trans g2.2.size (Nat.le_trans g3.2.size g4.2.size))) h))))
     all_goals
       have HFIN:=Hd (DecAt.store HL.out G8.out 0 (.slice a2 (ins++ [rd.spent]).length cap2) rfl);have O9:=Hd (SpOwn.store O8.out HL.out.qB 0 (.slice a2 (ins++ [rd.spent]).length cap2));go_wp2_with fail
       go_roundw
       case rel=>exact⟨k+1,rd.s5,.slice a2 (ins++ [rd.spent]).length cap2,ins++ [rd.spent],by omega,by go_num,by rw [List.length_append,hil];rfl,by simpa [hil]using HFIN.out,by simpa [hil]using O9.out,by rw [hj2];exact HI⟩
       case measure=>simp [intOf];omega
   · obtain rfl:k=N:=by omega
     subst hil;rw [Nat.sub_self]at hinv;have HI1:Hid (RdM.spents ins.length r1 []=(ins,rd)):=hinv.out.symm;have hCB:=hd.base;have HINS:=Hd (spentsR.bound hown.slice);obtain⟨a1,c1,rfl, -, -⟩:=sliceR.form hown.slice;obtain⟨C,hC⟩: ∃C,wr.heap.size=C:=⟨_,rfl⟩;rw [hC]at hCB
     have HINS2:Hid (spentsR.rel (fun x=>B≤x∧x<C) wr [.slice a1 ins.length c1] ins):=spentsR.mono HINS.out fun x _ h=>⟨h.1.resolve_left id,by rw [←hC];exact h.2⟩
     have HDw:=Hd hd
     have hCw:C≤wr.heap.size:=by omega
     clear hinv hd hown HINS hC HD2;go_wp2_with fail
     refine(rdInt_any wr p rd HDw.out.rd 4 (by omega) (by omega)).mono ?_
     rintro e w3 ⟨rfl,h3,n2,n3⟩;have HD3:=Hd (HDw.out.read HL.out h3)
     have HI3:Hid (spentsR.rel (fun x=>B≤x∧x<C) w3 [.slice a1 ins.length c1] ins):=spentsR.keep HINS2.out (h3.2.mono fun x _ h=>Nat.ne_of_gt (Nat.lt_of_lt_of_le HL.out.pB h.1))
     have hC3:C≤w3.heap.size:=Nat.le_trans hCw h3.2.size;obtain⟨M,hM⟩:=Int.eq_ofNat_of_zero_le n2;have HM:=Hd hM;rw [hM]at n3⊢;clear hM n2 h3 HDw HINS2;obtain⟨r2,hr2⟩: ∃r2,(rd.int 4).2=r2:=⟨_,rfl⟩;have HR2:=Hd hr2;rw [hr2]at HD3;clear hr2
     have hM4:M≤4:=by omega
     go_wp2_with fail
     go_loopw [34] (fun vi wr=> ∃(k:Nat) (rd:RdM) (v:Value) (outs:List NoteM),k≤M∧vi= .int .i64 k∧outs.length=k∧DecAt w p q B (.slice a1 ins.length c1) v 0 rd wr∧NtOwn C wr v outs∧spentsR.rel (fun x=>B≤x∧x<C) wr [.slice a1 ins.length c1] ins∧C≤wr.heap.size∧Hid (RdM.notes (M-k) rd outs=RdM.notes M r2 [])) (fun vi _=>M-(intOf vi).toNat)
     case atStart=>exact⟨0,r2,.slice none 0 0,[],Nat.zero_le _,rfl,rfl,HD3.out,Own.nil _ _ _ _ _,HI3.out,hC3,rfl⟩
     case round=>
       obtain⟨k2,rd2,v,outs,hk2,rfl,hol,hd,hown,hins,hCr,hinv⟩:=hrel
       by_cases hks2:k2<M
       · obtain⟨j,hj⟩: ∃j,M-k2=j+1:=⟨M-k2-1,by omega⟩
         have hj2:M-(k2+1)=j:=by omega
         rw [hj]at hinv;have HI:Hid (RdM.notes j rd2.n4 (outs++ [rd2.note])=RdM.notes M r2 []):=hinv;have HDr:=Hd (hd.drew HL.out);have HOr:=Hd (show NtOwn C wr.drew v outs from hown.keepB (Below.refl _ _).drew);have HIr:=Hd (spentsR.keepB hins (Below.refl _ _).drew);obtain⟨x0,x1⟩:=box_cells hd.box;clear hinv hd hown hins
         have HLT:=Hd (fun k (hk:v.ownBlock=some k)=>(HOr.out.lt hk).1)
         go_wp2_with fail
         go_region_law (first
           |(refine step_append_rel (r:=noteR) (base:=C) (v:=v) (u:= .slice (some ⟨w4.heap.size,0,none⟩) 1 1) (S:=fun _=>False) rfl _ _ rfl Tryz.etyNote rfl rfl (Own.keepB O1.out (bnew (Below.refl _ _) _)) (Src.one (noteR.mk okn) (CellsAt.new w4 [.int .u64 rd2.note.value,.int .u64 rd2.note.owner,.int .u64 rd2.note.rho,.int .u64 rd2.note.blind] 247)) (fun k _ h=>h.elim) (fun k hk h=>h) (by unfold maxLen;simp;omega) (by simp;omega) (Nat.le_trans hC4 (by rw [World.size_alloc];omega)) ?_
             intro v2 w8 ho8 hk8 hl8
             obtain⟨a2,cap2,rfl, -, -⟩:=sliceR.form ho8.slice
             have hk9:Kept (fun k=>k<C) (w4.alloc (.cells #[.int .u64 rd2.note.value,.int .u64 rd2.note.owner,.int .u64 rd2.note.rho,.int .u64 rd2.note.blind] 247)) w8:=hk8.mono fun k _ hkC he=>by have:=(Own.lt O1.out he).2.2;omega
             have G8:=Hd (DecAt.kept HL.out (DecAt.keepB HL.out G1.out (bnew (Below.refl _ _) _)) (hk9.mono (S':=fun k=>k<B) fun k _ hkB=>Nat.lt_of_lt_of_le hkB hCB))
             have I8:=Hd (spentsR.keep (spentsR.keepB I1.out (bnew (Below.refl _ _) _)) (hk9.mono fun k _ h=>h.2))
             have hC8:C≤w8.heap.size:=Nat.le_trans hC4 (Nat.le_trans (by rw [World.size_alloc];omega) hk9.size)
             have O8:Hid (NtOwn C w8 (.slice a2 (outs++ [rd2.note]).length cap2) (outs++ [rd2.note])):=ho8.mono fun k _ h=>by
               rcases h with h|h
               · exact h
               · exact .inr (Nat.le_trans hC4 (Nat.le_trans (by rw [World.size_alloc];omega) h))
             obtain⟨t0,t1⟩:=box_cells G8.out.box)
           |(go_simp;go_at_call 156;refine(readNote_any _ p rd2 HDr.out.rd).mono ?_;rintro e w4 ⟨rfl,g1,okn⟩
             have G1:=Hd (DecAt.read HL.out HDr.out g1);have O1:=Hd (NtOwn.read HOr.out (Nat.lt_of_lt_of_le HL.out.pB hCB) g1);obtain⟨y0,y1⟩:=box_cells G1.out.box;have yy:=fun o'=>(box_cells (box_old (o':=o') G1.out.box)).1
             have hC4:C≤w4.heap.size:=Nat.le_trans hCr g1.2.size
             have I1:=Hd (spentsR.keep HIr.out (g1.2.mono fun x _ h=>Nat.ne_of_gt (Nat.lt_of_lt_of_le HL.out.pB h.1)))))
         all_goals
           have HFIN:=Hd (DecAt.store HL.out G8.out 1 (.slice a2 (outs++ [rd2.note]).length cap2) rfl);have O9:=Hd (NtOwn.store O8.out (Nat.lt_of_lt_of_le HL.out.qB hCB) 1 (.slice a2 (outs++ [rd2.note]).length cap2))
           have I9:=Hd (spentsR.keep I8.out ((Kept.refl _ w8).setCell (p:=⟨q,1,none⟩) (fun _ h=>by have h':B≤q∧q<C:=h;have:=HL.out.qB;omega) (.slice a2 (outs++ [rd2.note]).length cap2)))
           have hC9:C≤(w8.setCell ⟨q,1,none⟩ (.slice a2 (outs++ [rd2.note]).length cap2)).heap.size:=by rw [World.size_setCell];exact hC8
           go_wp2_with fail
           go_roundw
           case rel=>exact⟨k2+1,rd2.n4,.slice a2 (outs++ [rd2.note]).length cap2,outs++ [rd2.note],by omega,by go_num,by rw [List.length_append,hol];rfl,by simpa [hol]using HFIN.out,by simpa [hol]using O9.out,by simpa [hol]using I9.out,by simpa [hol]using hC9,by rw [hj2];exact HI⟩
           case measure=>simp [intOf];omega
       · obtain rfl:k2=M:=by omega
         subst hol;rw [Nat.sub_self]at hinv;have HI2:Hid (RdM.notes outs.length r2 []=(outs,rd2)):=hinv.out.symm;obtain⟨a2,c2,rfl, -, -⟩:=sliceR.form hown.slice
         have HNT:=Hd (notesR.mono hown.slice (S':=fun k=>C≤k) fun x _ h=>h.resolve_left id)
         have HIN:=Hd hins;have HDw:=Hd hd
         have HDEC:Hid (decodeS bs=if (rd2.uint 18446744069414584320).2.done=true then some ⟨ins,outs,(rd2.uint 18446744069414584320).1⟩else none):=by
           show _=_
           unfold decodeS;rw [HN.out,HR1.out,Int.toNat_natCast,HI1.out]
           simp only
           rw [HM.out,HR2.out,Int.toNat_natCast,HI2.out]
         clear hinv hd hown hins HD3 HI3;go_wp2_with fail
         refine(rdUint_any _ p rd2 HDw.out.rd 18446744069414584320 (by omega)).mono ?_
         rintro e w5 ⟨rfl,h5,s0,s1⟩;have HD5:=Hd (HDw.out.read HL.out h5)
         have HN5:=Hd (notesR.keep HNT.out (h5.2.mono fun x _ h=>Nat.ne_of_gt (Nat.lt_of_lt_of_le HL.out.pB (Nat.le_trans hCB h))))
         have HI5:=Hd (spentsR.keep HIN.out (h5.2.mono fun x _ h=>Nat.ne_of_gt (Nat.lt_of_lt_of_le HL.out.pB h.1)))
         generalize rd2.uint 18446744069414584320=t at*;obtain⟨sec,r5⟩:=t
         simp only at HD5 HDEC s0 s1⊢
         obtain⟨t0,t1⟩:=box_cells HD5.out.box;have HD6:=Hd (DecAt.store HL.out HD5.out 2 (.int .u64 sec) (u1:= .slice a1 ins.length c1) (u2:= .slice a2 outs.length c2) (usec:=sec) rfl)
         have hk6:Kept (fun k=>B≤k) w5 (w5.setCell ⟨q,2,none⟩ (.int .u64 sec)):=(Kept.refl _ _).setCell (fun _ h=>by have h':B≤q:=h;have:=HL.out.qB;omega) _
         have HN6:=Hd (notesR.keep HN5.out (hk6.mono fun k _ h=>Nat.le_trans hCB h))
         have HI6:=Hd (spentsR.keep HI5.out (hk6.mono fun k _ h=>h.1))
         clear hk6 h5;go_wp2_with fail;generalize w5.setCell ⟨q,2,none⟩ (.int .u64 sec)=w6 at*
         refine(done_any _ p r5 HD6.out.rd).mono ?_
         rintro e w7 ⟨rfl,hb7⟩;have HD7:=Hd (HD6.out.keepB HL.out hb7);have HN7:=Hd (notesR.keepB HN6.out hb7);have HI7:=Hd (spentsR.keepB HI6.out hb7);clear t0 t1;obtain⟨t0,t1⟩:=box_cells HD7.out.box;obtain⟨f0,f1⟩:=box_cells HD7.out.res;have HB7:=Hd HD7.out.below
         cases hdn:r5.done with
         |true=>
          have HV:Hid (decodeS bs=some ⟨ins,outs,sec⟩):=by show _=_;rw [HDEC.out,hdn];rfl
          obtain⟨r0,r1',r2'⟩:=read3 (x:= .slice a1 ins.length c1) (y:= .slice a2 outs.length c2) (z:= .int .u64 sec) (f0 0) (f0 1) (f0 2);go_wp2_with fail
          refine bodyPost_ret (v:= .tuple #[.agg #[.slice a1 ins.length c1,.slice a2 outs.length c2,.int .u64 sec],.int .i64 0]) (by simp [results,Tryz.results109,go_sem,r0,r1',r2']) rfl ?_
          have hkf:Kept (fun k=>B≤k) w7 (((w7.setCell ⟨w.heap.size,0,none⟩ (.slice a1 ins.length c1)).setCell ⟨w.heap.size,1,none⟩ (.slice a2 outs.length c2)).setCell ⟨w.heap.size,2,none⟩ (.int .u64 sec)):=by
            have hn:w.heap.size<w7.heap.size→ ¬B≤w.heap.size:=fun _ h=>by have:=HL.out.wq;have:=HL.out.qB;omega
            exact(((Kept.refl _ _).setCell hn _).setCell hn _).setCell hn _
          unfold DecOut;rw [HV.out]
          exact⟨a1,c1,a2,c2,rfl,spentsR.mono (spentsR.keep HI7.out (hkf.mono fun k _ h=>h.1)) fun _ _ _=>trivial,notesR.mono (notesR.keep HN7.out (hkf.mono fun k _ h=>Nat.le_trans hCB h)) fun _ _ _=>trivial,okU_of s0 (Int.lt_of_le_of_lt s1 (by omega)),
            ((HB7.out.setCell (Nat.le_refl _) _).setCell (Nat.le_refl _) _).setCell (Nat.le_refl _) _⟩
         |false=>
          have HV:Hid (decodeS bs=none):=by show _=_;rw [HDEC.out,hdn];rfl
          obtain⟨r0,r1',r2'⟩:=read3 (x:= .slice none 0 0) (y:= .slice none 0 0) (z:= .int .u64 0) (f0 0) (f0 1) (f0 2);go_wp2_with fail
          refine bodyPost_ret (v:= .tuple #[.agg #[.slice none 0 0,.slice none 0 0,.int .u64 0],.int .i64 2]) (by simp [results,Tryz.results109,go_sem,r0,r1',r2']) rfl ?_
          unfold DecOut;rw [HV.out]
          exact⟨rfl,((HB7.out.setCell (Nat.le_refl _) _).setCell (Nat.le_refl _) _).setCell (Nat.le_refl _) _⟩
end Go.Proofs.YtjknlhiimmbilaaGreatDoor

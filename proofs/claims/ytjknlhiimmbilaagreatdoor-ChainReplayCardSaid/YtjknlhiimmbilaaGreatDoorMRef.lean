/- The reference's field at the big prime: row, Valid, Exponent, Reduce, Add, Mul, Pow, Sum. -/
import Derived.Test.YtjknlhiimmbilaaGreatDoorMSp
import Derived.Test.YtjknlhiimmbilaaGreatDoorMRel
set_option maxRecDepth 100000
set_option maxHeartbeats 1000000
namespace Go.Proofs.YtjknlhiimmbilaaGreatDoor
open Go.ChangeShapes Go.WideShapes Go.ChangeAt Go.RowKit Go.Sort
theorem quiet_eq {P:Program} {f:FuncId} {args:Array Value} {w:World} {n:Nat} {v:Value}
   (h:Calls P f args (w.drewN n) fun e w'=>e= .returned v∧w.drewN n=w'):Calls P f args (w.drewN n) fun e w''=>e= .returned v∧ ∃m,w''=w.drewN m:=
 h.mono fun _ _ ⟨he,hm⟩=>⟨he,n,hm.symm⟩
theorem rrow_big (w:World):Calls Tryz.prog 174 #[.int .u64 18446744069414584321] w fun e w'=>e= .returned (.agg #[.int .u64 7,.int .u64 32,.int .u64 7])∧Below w.heap.size w w':=by
 go_enter Tryz.func174,Tryz.ntmps174
 go_wp2_with fail
 refine bodyPost_ret (v:= .agg #[.int .u64 7,.int .u64 32,.int .u64 7]) (by simp [results,Tryz.results174,go_sem]) rfl ⟨rfl,?_⟩
 exact bnew (Below.refl _ _) _
theorem index3_2 (x y z:Int)(w:World):(Instr.index 205 (.agg #[.int .u64 x,.int .u64 y,.int .u64 z]) (.int .i64 2)).run Tryz.prog w= .ok (.int .u64 z) w:=by
 have hs:(Tryz.prog.info? 24).map (·.size)=some 1:=by kernel_rfl
 obtain⟨i,hi,hz⟩:=Option.map_eq_some_iff.1 hs
 simp [Instr.index,asIntOf,run_underlying Tryz.underlying205,sizeOf,typeInfo,hi,hz,part,go_sem]
theorem rvalid_big (w:World):Calls Tryz.prog 130 #[.int .u64 18446744069414584321] w fun e w'=>e= .returned (.bool true)∧Below w.heap.size w w':=by
 go_enter Tryz.func130,Tryz.ntmps130
 go_wp2_with fail
 refine(rrow_big _).mono ?_
 rintro e w1 ⟨rfl,hb⟩;have hix:=index3 7 32 7;go_wp2_with fail;go_ret
 exact⟨rfl,hb⟩
theorem rexponent_big (w:World):Calls Tryz.prog 239 #[.int .u64 18446744069414584321] w fun e w'=>e= .returned (.int .u64 7)∧Below w.heap.size w w':=by
 go_enter Tryz.func239,Tryz.ntmps239
 go_wp2_with fail
 refine(rrow_big _).mono ?_
 rintro e w1 ⟨rfl,hb⟩;have hix:=index3_2 7 32 7;go_wp2_with fail;go_ret
 exact⟨rfl,hb⟩
theorem rAdd_big (a b:Int)(a0:0≤a)(b0:0≤b)(w:World):
   Calls Tryz.prog 175 #[.int .u64 18446744069414584321,.int .u64 a,.int .u64 b] w fun e w'=>e= .returned (.int .u64 (addP a b))∧Below w.heap.size w w':=by
 have HU:Hid (addP a b=(a % 18446744069414584321+b % 18446744069414584321) % 18446744069414584321):=by show _=_;unfold addP;omega
 have p0:0≤a % 18446744069414584321:=by omega
 have p1:a % 18446744069414584321<18446744069414584321:=by omega
 have q0:0≤b % 18446744069414584321:=by omega
 have q1:b % 18446744069414584321<18446744069414584321:=by omega
 by_cases h:a % 18446744069414584321+b % 18446744069414584321<18446744069414584321
 · have HR:Hid (addP a b=a % 18446744069414584321+b % 18446744069414584321):=by show _=_;rw [HU.out];omega
   go_enter Tryz.func175,Tryz.ntmps175
   go_wp2_with fail
   refine(rvalid_big _).mono ?_
   rintro e w1 ⟨rfl,hb⟩;go_wp2_with fail
   go_quiet (fail)
   go_wp2_with fail;go_ret
   exact⟨ret_int HR.out.symm,bdrewN hb _⟩
 · have HR:Hid (addP a b=a % 18446744069414584321-(18446744069414584321-b % 18446744069414584321)):=by show _=_;rw [HU.out];omega
   go_enter Tryz.func175,Tryz.ntmps175
   go_wp2_with fail
   refine(rvalid_big _).mono ?_
   rintro e w1 ⟨rfl,hb⟩;go_wp2_with fail
   go_quiet (fail)
   go_wp2_with fail;go_ret
   exact⟨ret_int HR.out.symm,bdrewN hb _⟩
theorem rMul_big (a b:Int)(a0:0≤a)(b0:0≤b)(w:World):
   Calls Tryz.prog 176 #[.int .u64 18446744069414584321,.int .u64 a,.int .u64 b] w fun e w'=>e= .returned (.int .u64 (mulP a b))∧Below w.heap.size w w':=by
 have ha:=redP_in a;have hb:=redP_in b;have HR:=Hd (mulP_red a b);have ea:Hid (a % 18446744069414584321=redP a):=rfl;have eb:Hid (b % 18446744069414584321=redP b):=rfl;obtain⟨g0,g1,g2,g3⟩:=hiOf_in ha.1 ha.2 hb.1 hb.2;have HL:=Hd (leftOf_mul (redP a) (redP b))
 go_enter Tryz.func176,Tryz.ntmps176
 go_wp2_with fail
 refine(rvalid_big _).mono ?_
 rintro e w1 ⟨rfl,hb1⟩;go_wp2_with fail
 go_quiet ((go_at_call 235;rw [ea.out,eb.out];exact quiet_eq (mul64_any (redP a) (redP b) ha.1 (by omega) hb.1 (by omega) _)))
 have hb1d:=bdrewN hb1 nq;clear hb1;generalize w1.drewN nq=w2 at*;go_wp2_with fail
 refine(div64_any _ _ g0 g1 g2 g3 _).mono ?_
 rintro e w3 ⟨q,rfl,hb2⟩;rw [HL.out];go_wp2_with fail;go_ret
 exact⟨ret_int HR.out,bnext hb1d hb2⟩
theorem rPow_big (a:Int)(a0:0≤a)(e:Nat)(he:e<18446744073709551616)(w:World):
   Calls Tryz.prog 237 #[.int .u64 18446744069414584321,.int .u64 a,.int .u64 e] w fun x w'=>x= .returned (.int .u64 (powP a e))∧Below w.heap.size w w':=by
 have hr:=redP_in a
 have HP:Hid (mulP 1 (powP (a % 18446744069414584321) e)=powP a e):=by show _=_;rw [powP_of];exact powP_red a e
 go_enter Tryz.func237,Tryz.ntmps237
 go_wp2_with fail
 refine(rvalid_big _).mono ?_
 rintro x w0 ⟨rfl,hb0⟩;go_wp2_with fail
 go_loopw [1,2,7] (fun va ve vr wr=> ∃(b r:Int) (k:Nat),va= .int .u64 b∧ve= .int .u64 k∧vr= .int .u64 r∧0≤b∧b<18446744069414584321∧0≤r∧r<18446744069414584321∧k<18446744073709551616∧Hid (mulP r (powP b k)=powP a e)∧Below w.heap.size w wr) (fun _ ve _ _=>(intOf ve).toNat)
 case atStart=>exact⟨_,1,e,rfl,rfl,rfl,hr.1,hr.2,by omega,by omega,he,HP,hb0⟩
 case round=>
   obtain⟨b,r,k,rfl,rfl,rfl,b0,b1,r0,r1,hk,hinv,hbr⟩:=hrel
   by_cases hk0:k=0
   · subst hk0
     have HF:Hid (r=powP a e):=by show _=_;rw [←hinv.out,mulP_one r0 r1]
     go_wp2_with fail;go_ret
     exact⟨ret_int HF.out,hbr⟩
   · have k1:0<(k:Int):=by omega
     have hm:=mulP_in r b;have hq:=mulP_in b b
     by_cases hodd:k % 2=1
     · have HN:Hid (mulP (mulP r b) (powP (mulP b b) (k / 2))=powP a e):=by show _=_;rw [pow_odd r b k hodd,hinv.out]
       have ho:(k:Int) % 2=1:=by omega
       go_wp2_with fail
       refine(rMul_big r b r0 b0 _).mono ?_
       rintro x w1 ⟨rfl,hb1⟩;go_wp2_with fail
       refine(rMul_big b b b0 b0 _).mono ?_
       rintro x w2 ⟨rfl,hb2⟩;go_wp2_with fail
       go_roundw
       case rel=>exact⟨mulP b b,mulP r b,k / 2,rfl,by rw [Int.natCast_ediv];rfl,rfl,hq.1,hq.2,hm.1,hm.2,by omega,HN,bnext (bnext hbr hb1) hb2⟩
       case measure=>simp [intOf];omega
     · have HN:Hid (mulP r (powP (mulP b b) (k / 2))=powP a e):=by show _=_;rw [pow_even r b k (by omega),hinv.out]
       have ho:((k:Int) % 2==1)=false:=by rw [beq_eq_false_iff_ne];omega
       go_wp2_with fail
       refine(rMul_big b b b0 b0 _).mono ?_
       rintro x w2 ⟨rfl,hb2⟩;go_wp2_with fail
       go_roundw
       case rel=>exact⟨mulP b b,r,k / 2,rfl,by rw [Int.natCast_ediv];rfl,rfl,hq.1,hq.2,r0,r1,by omega,HN,bnext hbr hb2⟩
       case measure=>simp [intOf];omega
def sumTo (l:List Int):Nat→Int
 |0=>0
 |k+1=>addP (sumTo l k) (l.getD k 0)
theorem sumTo_in (l:List Int): ∀k,0≤sumTo l k∧sumTo l k<18446744069414584321
 |0=>by simp [sumTo]
 |k+1=>addP_in _ _
theorem rSum_len (S:Nat→Prop)(w:World)(a:Option Addr)(len cap:Nat)(l:List Int)(hlen:len=l.length)(h:numsR.rel S w [.slice a len cap] l):
   Calls Tryz.prog 304 #[.int .u64 18446744069414584321,.slice a len cap] w fun e w'=>e= .returned (.int .u64 (sumTo l l.length))∧Below w.heap.size w w':=by
 subst hlen;have g1:=(sliceR.lens h).2;unfold maxLen at g1;have H:=Hd h;clear h
 go_enter Tryz.func304,Tryz.ntmps304
 go_wp2_with fail
 go_loopw [5,6] (fun vo vi wr=> ∃(k:Nat),k≤l.length∧vo= .int .u64 (sumTo l k)∧vi= .int .i64 k∧Below w.heap.size w wr) (fun _ vi _=>l.length-(intOf vi).toNat)
 case atStart=>exact⟨0,Nat.zero_le _,rfl,rfl,Below.refl _ _⟩
 case round=>
   obtain⟨k,hk,rfl,rfl,hbr⟩:=hrel
   by_cases hlt:k<l.length
   · obtain⟨b,off,rfl,hbl,e0,en,hc⟩:=nums_at (numsR.keepB H.out hbr) k hlt
     have HS:Hid (sumTo l (k+1)=addP (sumTo l k) l[k]):=by show addP (sumTo l k) (l.getD k 0)=_;rw [getD_at l 0 k hlt]
     have hs:=sumTo_in l k
     have i0:(0:Int)≤(k:Int):=by omega
     have i1:(k:Int)<(l.length:Int):=by omega
     generalize l[k]=m at*;generalize sumTo l k=s at*;go_wp2_with fail
     refine(rAdd_big s m hs.1 e0 _).mono ?_
     rintro x w1 ⟨rfl,hb1⟩;go_wp2_with fail
     go_roundw
     case rel=>exact⟨k+1,by omega,by rw [HS.out],by go_num,bnext hbr hb1⟩
     case measure=>simp [intOf];omega
   · obtain rfl:k=l.length:=by omega
     go_wp2_with fail;go_ret
     exact⟨rfl,hbr⟩
end Go.Proofs.YtjknlhiimmbilaaGreatDoor
/- The reference's permutation at the big prime. -/
set_option maxRecDepth 100000
set_option maxHeartbeats 4000000
namespace Go.Proofs.YtjknlhiimmbilaaGreatDoor
open Go.ChangeShapes Go.WideShapes Go.ChangeAt Go.RowKit Go.Sort
theorem rconstant_big (r i:Int)(r0:0≤r)(r1:r<8)(i0:0≤i)(i1:i≤2)(w:World):
   Calls Tryz.prog 238 #[.int .u64 18446744069414584321,.int .i64 r,.int .i64 i] w fun e w'=>e= .returned (.int .u64 (cstP r i))∧Below w.heap.size w w':=by
 have hw:0≤IntKind.u64.wrap ((3*r+i+1)*11400714819323198485):=by rw [IntKind.wrap_u64];omega
 have h1: ¬r<0:=by omega
 have h2: ¬7<r:=by omega
 have h3: ¬i<0:=by omega
 have h4: ¬2<i:=by omega
 go_enter Tryz.func238,Tryz.ntmps238
 go_wp2_with fail
 refine(rvalid_big _).mono ?_
 rintro e w1 ⟨rfl,hb1⟩;go_wp2_with fail;go_ret
 exact⟨ret_int (by unfold cstP redP;rfl),hb1⟩
def TriAt (A B:Obj)(w:World)(q:Nat)(s:T3)(wr:World):Prop:=
 Below w.heap.size w wr∧wr.heap[w.heap.size]? =some A∧wr.heap[w.heap.size+1]? =some B∧wr.heap[q]? =some (.cells #[.int .u64 s.1,.int .u64 s.2.1,.int .u64 s.2.2] 205 (0,0))∧w.heap.size+1<q
theorem TriAt.next {A B:Obj}{w w1 w2:World}{q:Nat}{s:T3}(h:TriAt A B w q s w1)(hb:Below w1.heap.size w1 w2):TriAt A B w q s w2:=
 ⟨bnext h.1 hb,box_after hb h.2.1,box_after hb h.2.2.1,box_after hb h.2.2.2.1,h.2.2.2.2⟩
theorem TriAt.one {A B:Obj}{w wr:World}{q:Nat}{s t:T3}(h:TriAt A B w q s wr)(i:Nat)(v:Value)(ht:(#[.int .u64 s.1,.int .u64 s.2.1,.int .u64 s.2.2]:Array Value).setIfInBounds i v= #[.int .u64 t.1,.int .u64 t.2.1,.int .u64 t.2.2]):TriAt A B w q t (wr.setCell ⟨q,i,none⟩ v):=by
 obtain⟨h1,h2,h3,h4,h5⟩:=h
 have e0:w.heap.size≠q:=by omega
 have e1:w.heap.size+1≠q:=by omega
 exact⟨h1.setCell (by show w.heap.size≤q;omega) _,box_set_far h2 e0,box_set_far h3 e1,ht▸box_set h4,h5⟩
theorem two_new (w:World)(a b:Obj):((w.alloc a).alloc b).heap[w.heap.size+1]? =some b∧((w.alloc a).alloc b).heap[w.heap.size]? =some a:=by
 have e1:(w.alloc a).heap.size=w.heap.size+1:=World.size_alloc ..
 exact⟨e1▸box_new _ b,box_old (box_new _ a)⟩
theorem mix_sum {a b c:Int}:sumTo [a,b,c] 3=addP (addP a b) c:=by
 simp only [sumTo,List.getD_cons_zero,List.getD_cons_succ]
 unfold addP;omega
def mixTo (a b c m:Int):Nat→T3
 |0=>(0,0,0)
 |1=>(addP a m,0,0)
 |2=>(addP a m,addP b m,0)
 |_=>(addP a m,addP b m,addP c m)
theorem rmix_big (a b c:Int)(ha:okU a)(hb:okU b)(hc:okU c)(w:World):
   Calls Tryz.prog 240 #[.int .u64 18446744069414584321,.agg #[.int .u64 a,.int .u64 b,.int .u64 c]] w
     fun e w'=>e= .returned (.agg #[.int .u64 (mixS (a,b,c)).1,.int .u64 (mixS (a,b,c)).2.1,.int .u64 (mixS (a,b,c)).2.2])∧Below w.heap.size w w':=by
 have hbA:=bnew (bnew (Below.refl w.heap.size w) (.cells #[.int .u64 a,.int .u64 b,.int .u64 c] 205)) (.cells #[.int .u64 0,.int .u64 0,.int .u64 0] 205);obtain⟨qB,qA⟩:=two_new w (.cells #[.int .u64 a,.int .u64 b,.int .u64 c] 205) (.cells #[.int .u64 0,.int .u64 0,.int .u64 0] 205)
 have eW:((w.alloc (.cells #[.int .u64 a,.int .u64 b,.int .u64 c] 205)).alloc (.cells #[.int .u64 0,.int .u64 0,.int .u64 0] 205)).heap.size=w.heap.size+1+1:=by rw [World.size_alloc,World.size_alloc]
 have hX:=nums_new ((w.alloc (.cells #[.int .u64 a,.int .u64 b,.int .u64 c] 205)).alloc (.cells #[.int .u64 0,.int .u64 0,.int .u64 0] 205)) 24 [a,b,c] 3 (by intro u hu;simp at hu;rcases hu with rfl|rfl|rfl<;>assumption) (by simp) (by have:=maxLen_9;omega)
 rw [eW]at hX;have HX:=Hd hX;have HA:=Hd qA;have HB:=Hd qB;have HBel:=Hd hbA;obtain⟨a0,a1⟩:=okU_in ha;obtain⟨b0,b1⟩:=okU_in hb;obtain⟨c0,c1⟩:=okU_in hc;have HM:Hid (mixS (a,b,c)=(addP a (addP (addP a b) c),addP b (addP (addP a b) c),addP c (addP (addP a b) c))):=rfl;clear hX qA qB hbA ha hb hc
 go_enter Tryz.func240,Tryz.ntmps240
 go_wp2_with fail;generalize (w.alloc (.cells #[.int .u64 a,.int .u64 b,.int .u64 c] 205)).alloc (.cells #[.int .u64 0,.int .u64 0,.int .u64 0] 205)=W at*
 refine(rSum_len (fun _=>True) _ _ 3 3 [a,b,c] rfl HX.out).mono ?_
 rintro e w1 ⟨rfl,hb1⟩;rw [show [a,b,c].length=3 from rfl,mix_sum];have hbk:=bnext (bnew (Below.refl W.heap.size W) (.cells #[.int .u64 a,.int .u64 b,.int .u64 c] 24)) hb1;clear hb1 HX;have m0:=addP_word (addP a b) c;generalize addP (addP a b) c=m at*;have hsz:=hbk.size
 have hst:TriAt (.cells #[.int .u64 a,.int .u64 b,.int .u64 c] 205) (.cells #[.int .u64 0,.int .u64 0,.int .u64 0] 205) w w1.heap.size (0,0,0) (w1.alloc (.cells #[.int .u64 0,.int .u64 0,.int .u64 0] 205)):=
   ⟨bnew (bnext HBel.out hbk) _,box_old (box_after hbk HA.out),box_old (box_after hbk HB.out),box_new _ _,by omega⟩
 have HST:=Hd hst;clear hst;go_wp2_with fail
 go_loopw [7] (fun vi wr=> ∃k:Nat,k≤3∧vi= .int .i64 k∧TriAt (.cells #[.int .u64 a,.int .u64 b,.int .u64 c] 205) (.cells #[.int .u64 0,.int .u64 0,.int .u64 0] 205) w w1.heap.size (mixTo a b c m k) wr) (fun vi _=>3-(intOf vi).toNat)
 case atStart=>exact⟨0,by omega,rfl,HST.out⟩
 case round=>
   obtain⟨k,hk,rfl,hat⟩:=hrel
   by_cases h3:k<3
   · have HAT:=Hd hat
     obtain⟨x0,x1⟩:=box_cells hat.2.1;clear hat
     have hcase:k=0∨k=1∨k=2:=by omega
     rcases hcase with h0|h0|h0
     · obtain rfl:k=0:=by omega
       go_wp2_with fail
       refine(rAdd_big a m a0 m0.1 _).mono ?_
       rintro e w2 ⟨rfl,hb2⟩;have p1:=HAT.out.next hb2;obtain⟨c0',c1'⟩:=box_cells p1.2.2.2.1;have HN:=Hd (TriAt.one (t:=mixTo a b c m 1) p1 0 (.int .u64 (addP a m)) rfl);clear p1 x0 x1;unfold mixTo at c0';go_wp2_with fail
       go_roundw
       case rel=>exact⟨1,by omega,by go_num,HN.out⟩
       case measure=>simp [intOf]
     · obtain rfl:k=1:=by omega
       go_wp2_with fail
       refine(rAdd_big b m b0 m0.1 _).mono ?_
       rintro e w2 ⟨rfl,hb2⟩;have p1:=HAT.out.next hb2;obtain⟨c0',c1'⟩:=box_cells p1.2.2.2.1;have HN:=Hd (TriAt.one (t:=mixTo a b c m 2) p1 1 (.int .u64 (addP b m)) rfl);clear p1 x0 x1;unfold mixTo at c0';go_wp2_with fail
       go_roundw
       case rel=>exact⟨2,by omega,by go_num,HN.out⟩
       case measure=>simp [intOf]
     · obtain rfl:k=2:=by omega
       go_wp2_with fail
       refine(rAdd_big c m c0 m0.1 _).mono ?_
       rintro e w2 ⟨rfl,hb2⟩;have p1:=HAT.out.next hb2;obtain⟨c0',c1'⟩:=box_cells p1.2.2.2.1;have HN:=Hd (TriAt.one (t:=mixTo a b c m 3) p1 2 (.int .u64 (addP c m)) rfl);clear p1 x0 x1;unfold mixTo at c0';go_wp2_with fail
       go_roundw
       case rel=>exact⟨3,by omega,by go_num,HN.out⟩
       case measure=>simp [intOf]
   · obtain rfl:k=3:=by omega
     obtain⟨x0,x1⟩:=box_cells hat.2.2.2.1;obtain⟨y0,y1⟩:=box_cells hat.2.2.1;have HBq:=Hd hat.1;unfold mixTo at x0;obtain⟨r0,r1,r2⟩:=read3 (x:= .int .u64 (addP a m)) (y:= .int .u64 (addP b m)) (z:= .int .u64 (addP c m)) (y0 0) (y0 1) (y0 2);clear hat;go_wp2_with fail
     refine bodyPost_ret (v:= .agg #[.int .u64 (addP a m),.int .u64 (addP b m),.int .u64 (addP c m)]) (by simp [results,Tryz.results240,go_sem,r0,r1,r2]) rfl ⟨by rw [HM.out],?_⟩
     exact((HBq.out.setCell (Nat.le_succ _) _).setCell (Nat.le_succ _) _).setCell (Nat.le_succ _) _
def RpAt (w:World)(s:T3)(wr:World):Prop:=
 Below w.heap.size w wr∧wr.heap[w.heap.size]? =some (.cells #[.int .u64 s.1,.int .u64 s.2.1,.int .u64 s.2.2] 205 (0,0))∧wr.heap[w.heap.size+1]? =some (.cells #[.int .u64 0,.int .u64 0,.int .u64 0] 205 (0,0))
theorem RpAt.next {w w1 w2:World}{s:T3}(h:RpAt w s w1)(hb:Below w1.heap.size w1 w2):RpAt w s w2:=⟨bnext h.1 hb,box_after hb h.2.1,box_after hb h.2.2⟩
theorem RpAt.start (w:World)(s:T3):RpAt w s ((w.alloc (.cells #[.int .u64 s.1,.int .u64 s.2.1,.int .u64 s.2.2] 205)).alloc (.cells #[.int .u64 0,.int .u64 0,.int .u64 0] 205)):=by
 obtain⟨q1,q2⟩:=two_new w (.cells #[.int .u64 s.1,.int .u64 s.2.1,.int .u64 s.2.2] 205) (.cells #[.int .u64 0,.int .u64 0,.int .u64 0] 205)
 exact⟨bnew (bnew (Below.refl _ _) _) _,q2,q1⟩
theorem RpAt.store {w wr:World}{s:T3}(h:RpAt w s wr)(t:T3):RpAt w t (((wr.setCell ⟨w.heap.size,0,none⟩ (.int .u64 t.1)).setCell ⟨w.heap.size,1,none⟩ (.int .u64 t.2.1)).setCell ⟨w.heap.size,2,none⟩ (.int .u64 t.2.2)):=by
 obtain⟨h1,h2,h3⟩:=h
 have e1:w.heap.size+1≠w.heap.size:=by omega
 exact⟨((h1.setCell (Nat.le_refl _) _).setCell (Nat.le_refl _) _).setCell (Nat.le_refl _) _,box_set (box_set (box_set h2)),box_set_far (box_set_far (box_set_far h3 e1) e1) e1⟩
theorem RpAt.one {w wr:World}{s t:T3}(h:RpAt w s wr)(i:Nat)(v:Value)(ht:(#[.int .u64 s.1,.int .u64 s.2.1,.int .u64 s.2.2]:Array Value).setIfInBounds i v= #[.int .u64 t.1,.int .u64 t.2.1,.int .u64 t.2.2]):RpAt w t (wr.setCell ⟨w.heap.size,i,none⟩ v):=by
 obtain⟨h1,h2,h3⟩:=h
 have e1:w.heap.size+1≠w.heap.size:=by omega
 exact⟨h1.setCell (Nat.le_refl _) _,ht▸box_set h2,box_set_far h3 e1⟩
theorem rpermute_big (s:T3)(hs:Words3 s)(w:World):
   Calls Tryz.prog 177 #[.int .u64 18446744069414584321,.agg #[.int .u64 s.1,.int .u64 s.2.1,.int .u64 s.2.2]] w
     fun e w'=>e= .returned (.agg #[.int .u64 (permS s).1,.int .u64 (permS s).2.1,.int .u64 (permS s).2.2])∧Below w.heap.size w w':=by
 have hst:=Hd (RpAt.start w s);have HW:=Hd (permTo_words hs);clear hs
 go_enter Tryz.func177,Tryz.ntmps177
 go_wp2_with fail
 refine(rvalid_big _).mono ?_
 rintro e w1 ⟨rfl,hb1⟩;have h2:=hst.out.next hb1;clear hst hb1;go_wp2_with fail
 go_loopw [5] (fun i wr=> ∃k:Nat,k≤8∧i= .int .i64 k∧RpAt w (permTo s k) wr) (fun i _=>8-(intOf i).toNat)
 case atStart=>exact⟨0,by omega,rfl,h2⟩
 case round=>
   obtain⟨k,hk,rfl,hp⟩:=hrel;clear h2
   by_cases hlt:k<8
   · have hwk:=HW.out k
     have hsucc:Hid (permTo s (k+1)=mixS (stepS k (permTo s k) 3)):=rfl;generalize permTo s k=t at*
     have n0:(0:Int)≤(k:Int):=by omega
     have n1:(k:Int)<8:=by omega
     go_wp2_with fail
     go_loopw [6] (fun i wr=> ∃j:Nat,j≤3∧i= .int .i64 j∧RpAt w (stepS k t j) wr) (fun i _=>3-(intOf i).toNat)
     case atStart=>exact⟨0,by omega,rfl,hp⟩
     case round=>
       obtain⟨j,hj,rfl,hq⟩:=hrel;clear hp
       by_cases hj3:j<3
       · have hcase:j=0∨j=1∨j=2:=by omega
         rcases hcase with h0|h0|h0
         · obtain rfl:j=0:=by omega
           have hq':RpAt w (t.1,t.2.1,t.2.2) wr:=hq;have HQ:=Hd hq';have x0:=box_regrown hq'.2.1;clear hq hq'
           have hx:0≤t.1:=by unfold Words3 at hwk;omega
           have hc:=cstP_word k 0;have ha:=addP_word t.1 (cstP k 0);go_wp2_with fail
           refine wp_region_quiet_tail 14 (by kernel_rfl) (by kernel_rfl) ?_
           simp only [List.take_succ_cons,List.take_zero,List.drop_succ_cons,List.drop_zero]
           repeat (quiet_step (first
             |exact Calls.regrown_of (rconstant_big k 0 n0 n1 (by omega) (by omega) _)
             |exact Calls.regrown_of (rAdd_big t.1 (cstP k 0) hx hc _)
             |exact Calls.regrown_of (rexponent_big _)
             |exact Calls.regrown_of (rPow_big (addP t.1 (cstP k 0)) ha.1 7 (by omega) _)))
           refine wpQuiet_nil ?_
           intro wq hw'
           obtain⟨⟨dq,osq⟩,hw''⟩:=hw';have hbq:=below_regrown wr dq osq;rw [←hw'']at hbq;clear hw'' x0;have pC:=RpAt.next HQ.out hbq;obtain⟨c0,c1⟩:=box_cells pC.2.1;have HN:=Hd (RpAt.one (t:=(sbox k 0 t.1,t.2.1,t.2.2)) pC 0 (.int .u64 (sbox k 0 t.1)) rfl);clear pC;unfold sbox at HN;go_wp2_with fail
           go_roundw
           case rel=>exact⟨1,by omega,by go_num,HN.out⟩
           case measure=>simp [intOf]
         · obtain rfl:j=1:=by omega
           have hq':RpAt w (sbox k 0 t.1,t.2.1,t.2.2) wr:=hq;have HQ:=Hd hq';have x0:=box_regrown hq'.2.1;clear hq hq'
           have hx:0≤t.2.1:=by unfold Words3 at hwk;omega
           have hc:=cstP_word k 1;have ha:=addP_word t.2.1 (cstP k 1);go_wp2_with fail
           refine wp_region_quiet_tail 14 (by kernel_rfl) (by kernel_rfl) ?_
           simp only [List.take_succ_cons,List.take_zero,List.drop_succ_cons,List.drop_zero]
           repeat (quiet_step (first
             |exact Calls.regrown_of (rconstant_big k 1 n0 n1 (by omega) (by omega) _)
             |exact Calls.regrown_of (rAdd_big t.2.1 (cstP k 1) hx hc _)
             |exact Calls.regrown_of (rexponent_big _)
             |exact Calls.regrown_of (rPow_big (addP t.2.1 (cstP k 1)) ha.1 7 (by omega) _)))
           refine wpQuiet_nil ?_
           intro wq hw'
           obtain⟨⟨dq,osq⟩,hw''⟩:=hw';have hbq:=below_regrown wr dq osq;rw [←hw'']at hbq;clear hw'' x0;have pC:=RpAt.next HQ.out hbq;obtain⟨c0,c1⟩:=box_cells pC.2.1;have HN:=Hd (RpAt.one (t:=(sbox k 0 t.1,sbox k 1 t.2.1,t.2.2)) pC 1 (.int .u64 (sbox k 1 t.2.1)) rfl);clear pC;unfold sbox at HN;go_wp2_with fail
           go_roundw
           case rel=>exact⟨2,by omega,by go_num,HN.out⟩
           case measure=>simp [intOf]
         · obtain rfl:j=2:=by omega
           have hq':RpAt w (sbox k 0 t.1,sbox k 1 t.2.1,t.2.2) wr:=hq;have HQ:=Hd hq';have x0:=box_regrown hq'.2.1;clear hq hq'
           have hx:0≤t.2.2:=by unfold Words3 at hwk;omega
           have hc:=cstP_word k 2;have ha:=addP_word t.2.2 (cstP k 2);go_wp2_with fail
           refine wp_region_quiet_tail 14 (by kernel_rfl) (by kernel_rfl) ?_
           simp only [List.take_succ_cons,List.take_zero,List.drop_succ_cons,List.drop_zero]
           repeat (quiet_step (first
             |exact Calls.regrown_of (rconstant_big k 2 n0 n1 (by omega) (by omega) _)
             |exact Calls.regrown_of (rAdd_big t.2.2 (cstP k 2) hx hc _)
             |exact Calls.regrown_of (rexponent_big _)
             |exact Calls.regrown_of (rPow_big (addP t.2.2 (cstP k 2)) ha.1 7 (by omega) _)))
           refine wpQuiet_nil ?_
           intro wq hw'
           obtain⟨⟨dq,osq⟩,hw''⟩:=hw';have hbq:=below_regrown wr dq osq;rw [←hw'']at hbq;clear hw'' x0;have pC:=RpAt.next HQ.out hbq;obtain⟨c0,c1⟩:=box_cells pC.2.1;have HN:=Hd (RpAt.one (t:=(sbox k 0 t.1,sbox k 1 t.2.1,sbox k 2 t.2.2)) pC 2 (.int .u64 (sbox k 2 t.2.2)) rfl);clear pC;unfold sbox at HN;go_wp2_with fail
           go_roundw
           case rel=>exact⟨3,by omega,by go_num,HN.out⟩
           case measure=>simp [intOf]
       · obtain rfl:j=3:=by omega
         have HQ:=Hd hq;obtain⟨x0,x1⟩:=box_cells hq.2.1;clear hq;generalize hu:stepS k t 3=u at*;have HU:=Hd hu
         have hu0:okU u.1∧okU u.2.1∧okU u.2.2:=by
           rw [←hu];exact⟨okU_of (sbox_word _ _ _).1 (sbox_word _ _ _).2,okU_of (sbox_word _ _ _).1 (sbox_word _ _ _).2,okU_of (sbox_word _ _ _).1 (sbox_word _ _ _).2⟩
         have HU0:=Hd hu0;clear hu hu0;go_wp2_with fail
         refine(rmix_big u.1 u.2.1 u.2.2 HU0.out.1 HU0.out.2.1 HU0.out.2.2 _).mono ?_
         rintro e w3 ⟨rfl,hb3⟩;have h3:=HQ.out.next hb3;clear x0 x1;obtain⟨x0,x1⟩:=box_cells h3.2.1;have HN:=Hd (RpAt.store h3 (mixS (u.1,u.2.1,u.2.2)));clear h3;go_wp2_with fail
         go_roundw
         case rel=>exact⟨k+1,by omega,by go_num,by rw [hsucc.out];exact HN.out⟩
         case measure=>simp [intOf];omega
   · obtain rfl:k=8:=by omega
     obtain⟨h1,h2,h3⟩:=hp;obtain⟨x0,x1⟩:=box_cells h2;obtain⟨y0,y1⟩:=box_cells h3;have hpe:Hid (permS s=permTo s 8):=rfl;generalize permTo s 8=t at*;obtain⟨r0,r1,r2⟩:=read3 (x:= .int .u64 t.1) (y:= .int .u64 t.2.1) (z:= .int .u64 t.2.2) (y0 0) (y0 1) (y0 2);go_wp2_with fail
     refine bodyPost_ret (v:= .agg #[.int .u64 t.1,.int .u64 t.2.1,.int .u64 t.2.2]) (by simp [results,Tryz.results177,go_sem,r0,r1,r2]) rfl ⟨by rw [hpe.out],?_⟩
     exact((h1.setCell (Nat.le_succ _) _).setCell (Nat.le_succ _) _).setCell (Nat.le_succ _) _
end Go.Proofs.YtjknlhiimmbilaaGreatDoor
/- The reference's sponge at the big prime. -/
set_option maxRecDepth 100000
set_option maxHeartbeats 4000000
namespace Go.Proofs.YtjknlhiimmbilaaGreatDoor
open Go.ChangeShapes Go.WideShapes Go.ChangeAt Go.RowKit Go.Sort
def RaAt (w:World)(q:Nat)(s:T3)(wr:World):Prop:=
 Below w.heap.size w wr∧wr.heap[w.heap.size]? =some (.cells #[.int .u64 0,.int .u64 0,.int .u64 0] 205 (0,0))∧wr.heap[q]? =some (.cells #[.int .u64 s.1,.int .u64 s.2.1,.int .u64 s.2.2] 205 (0,0))∧w.heap.size<q
theorem RaAt.next {w w1 w2:World}{q:Nat}{s:T3}(h:RaAt w q s w1)(hb:Below w1.heap.size w1 w2):RaAt w q s w2:=⟨bnext h.1 hb,box_after hb h.2.1,box_after hb h.2.2.1,h.2.2.2⟩
theorem RaAt.store {w wr:World}{q:Nat}{s:T3}(h:RaAt w q s wr)(t:T3):RaAt w q t (((wr.setCell ⟨q,0,none⟩ (.int .u64 t.1)).setCell ⟨q,1,none⟩ (.int .u64 t.2.1)).setCell ⟨q,2,none⟩ (.int .u64 t.2.2)):=by
 obtain⟨h1,h2,h4,h5⟩:=h
 have e0:w.heap.size≠q:=by omega
 have hq:w.heap.size≤q:=by omega
 exact⟨((h1.setCell hq _).setCell hq _).setCell hq _,box_set_far (box_set_far (box_set_far h2 e0) e0) e0,box_set (box_set (box_set h4)),h5⟩
theorem RaAt.one {w wr:World}{q:Nat}{s t:T3}(h:RaAt w q s wr)(i:Nat)(v:Value)(ht:(#[.int .u64 s.1,.int .u64 s.2.1,.int .u64 s.2.2]:Array Value).setIfInBounds i v= #[.int .u64 t.1,.int .u64 t.2.1,.int .u64 t.2.2]):RaAt w q t (wr.setCell ⟨q,i,none⟩ v):=by
 obtain⟨h1,h2,h4,h5⟩:=h
 have e0:w.heap.size≠q:=by omega
 exact⟨h1.setCell (by show w.heap.size≤q;omega) _,box_set_far h2 e0,ht▸box_set h4,h5⟩
theorem rabsorb_big (label:Int)(hl0:0≤label)(S:Nat→Prop)(w:World)(a:Option Addr)(cap:Nat)(l:List Int)(h:numsR.rel S w [.slice a l.length cap] l)(hlen:l.length≤1000000):
   Calls Tryz.prog 131 #[.int .u64 18446744069414584321,.int .u64 label,.slice a l.length cap] w
     fun e w'=>e= .returned (.agg #[.int .u64 (absorbS label l).1,.int .u64 (absorbS label l).2.1,.int .u64 (absorbS label l).2.2])∧Below w.heap.size w w':=by
 have H:=Hd h;clear h;have m0:=mulP_in label 65536
 have l0:(0:Int)≤l.length:=by omega
 have hwr:IntKind.u64.wrap (l.length:Int)=l.length:=by rw [IntKind.wrap_u64];omega
 have hbA:=bnew (Below.refl w.heap.size w) (.cells #[.int .u64 0,.int .u64 0,.int .u64 0] 205);have HA:=Hd (box_new w (.cells #[.int .u64 0,.int .u64 0,.int .u64 0] 205));have HSW:=Hd (absStart_words label l.length);have HSE:Hid (absStart label l.length=(0,0,addP (mulP label 65536) l.length)):=rfl;have eA:(w.alloc (.cells #[.int .u64 0,.int .u64 0,.int .u64 0] 205)).heap.size=w.heap.size+1:=World.size_alloc ..
 go_enter Tryz.func131,Tryz.ntmps131
 go_wp2_with fail
 refine(rMul_big label 65536 hl0 (by omega) _).mono ?_
 rintro e w1 ⟨rfl,hb1⟩;go_wp2_with fail
 refine(rAdd_big (mulP label 65536) l.length m0.1 l0 _).mono ?_
 rintro e w2 ⟨rfl,hb2⟩;have hbk:=bnext hb1 hb2;have hsz:=hbk.size;rw [eA]at hsz
 have hq:RaAt w w2.heap.size (absStart label l.length) (w2.alloc (.cells #[.int .u64 0,.int .u64 0,.int .u64 (addP (mulP label 65536) l.length)] 205)):=
   ⟨bnew (bnext hbA hbk) _,box_old (box_after hbk HA.out),by rw [HSE.out];exact box_new _ _,by omega⟩
 have HQ:=Hd hq;clear hq m0 l0 hwr hbA HA hb1 hb2 hbk hsz eA;go_wp2_with fail;generalize w2.alloc (.cells #[.int .u64 0,.int .u64 0,.int .u64 (addP (mulP label 65536) l.length)] 205)=wc at*;generalize w2.heap.size=q at*
 by_cases hl0':l.length=0
 · have HR:Hid (absorbS label l=permS (absStart label l.length)):=by show _=_;unfold absorbS;rw [if_pos hl0',hl0']
   generalize absStart label l.length=s at*
   go_loopw [8] (fun vi wr=> ∃(i:Int) (t:T3),vi= .int .i64 i∧RaAt w q t wr∧Hid ((i=0∧t=s)∨(i=2∧t=permS s))) (fun vi _=>2-(intOf vi).toNat)
   case atStart=>exact⟨0,s,rfl,HQ.out,.inl ⟨rfl,rfl⟩⟩
   case round=>
     obtain⟨i,t,rfl,hat,hor⟩:=hrel
     rcases hor.out with⟨rfl,rfl⟩|⟨rfl,rfl⟩
     · have HAT:=Hd hat
       obtain⟨c0,c1⟩:=box_cells hat.2.2.1;clear hat
       have hz: ¬(0:Int)<(l.length:Int):=by omega
       have hz1: ¬(1:Int)<(l.length:Int):=by omega
       clear hl0';go_wp2_with fail
       refine(rpermute_big t HSW.out _).mono ?_
       rintro e w3 ⟨rfl,hb3⟩;have p5:=HAT.out.next hb3;clear c0 c1;obtain⟨c0,c1⟩:=box_cells p5.2.2.1;have HN:=Hd (RaAt.store p5 (permS t));clear p5;go_wp2_with fail
       go_roundw
       case rel=>exact⟨2,permS t,by go_num,HN.out,.inr ⟨rfl,rfl⟩⟩
       case measure=>simp [intOf]
     · have HB:=Hd hat.1
       obtain⟨y0,y1⟩:=box_cells hat.2.1;obtain⟨z0,z1⟩:=box_cells hat.2.2.1;clear hat
       have hz: ¬(2:Int)<(l.length:Int):=by omega
       clear hl0';generalize permS s=t at*;obtain⟨r0,r1,r2⟩:=read3 (x:= .int .u64 t.1) (y:= .int .u64 t.2.1) (z:= .int .u64 t.2.2) (y0 0) (y0 1) (y0 2);go_wp2_with fail
       refine bodyPost_ret (v:= .agg #[.int .u64 t.1,.int .u64 t.2.1,.int .u64 t.2.2]) (by simp [results,Tryz.results131,go_sem,r0,r1,r2]) rfl ⟨by rw [HR.out],?_⟩
       exact((HB.out.setCell (Nat.le_refl _) _).setCell (Nat.le_refl _) _).setCell (Nat.le_refl _) _
 · have HT:Hid (absorbS label l=absLoop (absStart label l.length) l):=by show _=_;unfold absorbS;rw [if_neg hl0']
   generalize absStart label l.length=s0 at*
   go_loopw [8] (fun vi wr=> ∃(i:Nat) (s:T3),i≤l.length+1∧vi= .int .i64 i∧Words3 s∧RaAt w q s wr∧Hid (absLoop s (l.drop i)=absLoop s0 l)) (fun vi _=>l.length+2-(intOf vi).toNat)
   case atStart=>exact⟨0,s0,by omega,rfl,HSW.out,HQ.out,rfl⟩
   case round=>
     obtain⟨i,s,hi,rfl,hws,hat,hinv⟩:=hrel
     by_cases hlt:i<l.length
     · obtain⟨b,off,rfl,hbl,e0,en,hc⟩:=nums_at H.out i hlt
       by_cases hi0:i=0
       · have z1:((i:Int)==0)=true:=by rw [beq_iff_eq];omega
         clear hi0
         have sn:0≤s.1:=by unfold Words3 at hws;omega
         have sm:0≤s.2.1:=by unfold Words3 at hws;omega
         have i0:(0:Int)≤(i:Int):=by omega
         have i1:(i:Int)<(l.length:Int):=by omega
         have sa:=addP_word s.1 l[i]
         by_cases hlt2:i+1<l.length
         · have HS:=Hd (absLoop_two s l i hlt2)
           obtain⟨b2,off2,hbo,hbl2,f0,fn,hc2⟩:=nums_at H.out (i+1) hlt2
           simp at hbo
           obtain⟨rfl,rfl⟩:=hbo;have HC2:=Hd hc2;clear hc2
           have i2:(i:Int)+1<(l.length:Int):=by omega
           have i3:(0:Int)≤(i:Int)+1:=by omega
           have i4:((i:Int)+1).toNat=i+1:=by omega
           have hw1:IntKind.i64.wrap ((i:Int)+1)=(i:Int)+1:=by rw [IntKind.wrap_i64];omega
           have sb:=addP_word s.2.1 l[i+1];generalize l[i]=m at*;generalize l[i+1]=m2 at*
           have HI:Hid (absLoop (permS (addP s.1 m,addP s.2.1 m2,s.2.2)) (l.drop (i+2))=absLoop s0 l):=by show _=_;rw [←HS.out,hinv.out]
           have NW:Hid (Words3 (addP s.1 m,addP s.2.1 m2,s.2.2)):=by unfold Words3 at hws;exact⟨sa,sb,hws.2.2⟩
           have HAT:=Hd hat;have hci:=(hat.1.cell (p:=⟨b,off+i,none⟩) hbl).trans hc;have y0:=box_regrown hat.2.2.1;have z0:=cell_in hci;clear hat hci;go_wp2_with fail
           refine wp_region_quiet_tail 8 (by kernel_rfl) (by kernel_rfl) ?_
           simp only [List.take_succ_cons,List.take_zero,List.drop_succ_cons,List.drop_zero]
           repeat (first|go_big_quiet_step (exact Calls.regrown_of (rAdd_big s.1 m sn e0 _))|quiet_step (exact Calls.regrown_of (rAdd_big s.1 m sn e0 _)))
           refine wpQuiet_nil ?_
           intro wq hw'
           obtain⟨⟨dq,osq⟩,hw''⟩:=hw';have hbq:=below_regrown wr dq osq;rw [←hw'']at hbq;clear hw'' y0 z0;have p1:=HAT.out.next hbq;obtain⟨c0,c1⟩:=box_cells p1.2.2.1;have P2:=Hd (RaAt.one (t:=(addP s.1 m,s.2.1,s.2.2)) p1 0 (.int .u64 (addP s.1 m)) rfl);clear p1;go_wp2_with fail;generalize wq.setCell ⟨q,0,none⟩ (.int .u64 (addP s.1 m))=wx at P2⊢;clear c0 c1;have hcx:=(P2.out.1.cell (p:=⟨b,off+(i+1),none⟩) hbl2).trans HC2.out;have y0:=box_regrown P2.out.2.2.1;have z0:=cell_in hcx;clear hcx
           refine wp_region_quiet_tail 9 (by kernel_rfl) (by kernel_rfl) ?_
           simp only [List.take_succ_cons,List.take_zero,List.drop_succ_cons,List.drop_zero]
           repeat (first|go_big_quiet_step (exact Calls.regrown_of (rAdd_big s.2.1 m2 sm f0 _))|quiet_step (exact Calls.regrown_of (rAdd_big s.2.1 m2 sm f0 _)))
           refine wpQuiet_nil ?_
           intro wq2 hw'
           obtain⟨⟨dq2,osq2⟩,hw''⟩:=hw';have hbq2:=below_regrown wx dq2 osq2;rw [←hw'']at hbq2;clear hw'' y0 z0;have p1:=P2.out.next hbq2;obtain⟨c0,c1⟩:=box_cells p1.2.2.1;have PX:=Hd (RaAt.one (t:=(addP s.1 m,addP s.2.1 m2,s.2.2)) p1 1 (.int .u64 (addP s.2.1 m2)) rfl);clear p1;go_wp2_with fail
           refine(rpermute_big (addP s.1 m,addP s.2.1 m2,s.2.2) NW.out _).mono ?_
           rintro e w5 ⟨rfl,hb5⟩;have p5:=PX.out.next hb5;clear c0 c1;obtain⟨c0,c1⟩:=box_cells p5.2.2.1;have HN:=Hd (RaAt.store p5 (permS (addP s.1 m,addP s.2.1 m2,s.2.2)));clear p5;go_wp2_with fail
           go_roundw
           case rel=>exact⟨i+2,permS (addP s.1 m,addP s.2.1 m2,s.2.2),by omega,by go_num,permS_words _,HN.out,HI⟩
           case measure=>simp [intOf];omega
         · have HS:=Hd (absLoop_one s l i hlt (by omega))
           generalize l[i]=m at*
           have i2: ¬((i:Int)+1<(l.length:Int)):=by omega
           have HI:Hid (absLoop (permS (addP s.1 m,s.2.1,s.2.2)) (l.drop (i+2))=absLoop s0 l):=by
             show _=_
             rw [←hinv.out,HS.out,List.drop_of_length_le (by omega)];rfl
           have NW:Hid (Words3 (addP s.1 m,s.2.1,s.2.2)):=by unfold Words3 at hws;exact⟨sa,hws.2.1,hws.2.2⟩
           have HAT:=Hd hat;have hci:=(hat.1.cell (p:=⟨b,off+i,none⟩) hbl).trans hc;have y0:=box_regrown hat.2.2.1;have z0:=cell_in hci;clear hat hci;go_wp2_with fail
           refine wp_region_quiet_tail 8 (by kernel_rfl) (by kernel_rfl) ?_
           simp only [List.take_succ_cons,List.take_zero,List.drop_succ_cons,List.drop_zero]
           repeat (first|go_big_quiet_step (exact Calls.regrown_of (rAdd_big s.1 m sn e0 _))|quiet_step (exact Calls.regrown_of (rAdd_big s.1 m sn e0 _)))
           refine wpQuiet_nil ?_
           intro wq hw'
           obtain⟨⟨dq,osq⟩,hw''⟩:=hw';have hbq:=below_regrown wr dq osq;rw [←hw'']at hbq;clear hw'' y0 z0;have p1:=HAT.out.next hbq;obtain⟨c0,c1⟩:=box_cells p1.2.2.1;have PX:=Hd (RaAt.one (t:=(addP s.1 m,s.2.1,s.2.2)) p1 0 (.int .u64 (addP s.1 m)) rfl);clear p1;go_wp2_with fail
           refine(rpermute_big (addP s.1 m,s.2.1,s.2.2) NW.out _).mono ?_
           rintro e w5 ⟨rfl,hb5⟩;have p5:=PX.out.next hb5;clear c0 c1;obtain⟨c0,c1⟩:=box_cells p5.2.2.1;have HN:=Hd (RaAt.store p5 (permS (addP s.1 m,s.2.1,s.2.2)));clear p5;go_wp2_with fail
           go_roundw
           case rel=>exact⟨i+2,permS (addP s.1 m,s.2.1,s.2.2),by omega,by go_num,permS_words _,HN.out,HI⟩
           case measure=>simp [intOf];omega
       · have z1:((i:Int)==0)=false:=by rw [beq_eq_false_iff_ne];omega
         clear hi0
         have sn:0≤s.1:=by unfold Words3 at hws;omega
         have sm:0≤s.2.1:=by unfold Words3 at hws;omega
         have i0:(0:Int)≤(i:Int):=by omega
         have i1:(i:Int)<(l.length:Int):=by omega
         have sa:=addP_word s.1 l[i]
         by_cases hlt2:i+1<l.length
         · have HS:=Hd (absLoop_two s l i hlt2)
           obtain⟨b2,off2,hbo,hbl2,f0,fn,hc2⟩:=nums_at H.out (i+1) hlt2
           simp at hbo
           obtain⟨rfl,rfl⟩:=hbo;have HC2:=Hd hc2;clear hc2
           have i2:(i:Int)+1<(l.length:Int):=by omega
           have i3:(0:Int)≤(i:Int)+1:=by omega
           have i4:((i:Int)+1).toNat=i+1:=by omega
           have hw1:IntKind.i64.wrap ((i:Int)+1)=(i:Int)+1:=by rw [IntKind.wrap_i64];omega
           have sb:=addP_word s.2.1 l[i+1];generalize l[i]=m at*;generalize l[i+1]=m2 at*
           have HI:Hid (absLoop (permS (addP s.1 m,addP s.2.1 m2,s.2.2)) (l.drop (i+2))=absLoop s0 l):=by show _=_;rw [←HS.out,hinv.out]
           have NW:Hid (Words3 (addP s.1 m,addP s.2.1 m2,s.2.2)):=by unfold Words3 at hws;exact⟨sa,sb,hws.2.2⟩
           have HAT:=Hd hat;have hci:=(hat.1.cell (p:=⟨b,off+i,none⟩) hbl).trans hc;have y0:=box_regrown hat.2.2.1;have z0:=cell_in hci;clear hat hci;go_wp2_with fail
           refine wp_region_quiet_tail 8 (by kernel_rfl) (by kernel_rfl) ?_
           simp only [List.take_succ_cons,List.take_zero,List.drop_succ_cons,List.drop_zero]
           repeat (first|go_big_quiet_step (exact Calls.regrown_of (rAdd_big s.1 m sn e0 _))|quiet_step (exact Calls.regrown_of (rAdd_big s.1 m sn e0 _)))
           refine wpQuiet_nil ?_
           intro wq hw'
           obtain⟨⟨dq,osq⟩,hw''⟩:=hw';have hbq:=below_regrown wr dq osq;rw [←hw'']at hbq;clear hw'' y0 z0;have p1:=HAT.out.next hbq;obtain⟨c0,c1⟩:=box_cells p1.2.2.1;have P2:=Hd (RaAt.one (t:=(addP s.1 m,s.2.1,s.2.2)) p1 0 (.int .u64 (addP s.1 m)) rfl);clear p1;go_wp2_with fail;generalize wq.setCell ⟨q,0,none⟩ (.int .u64 (addP s.1 m))=wx at P2⊢;clear c0 c1;have hcx:=(P2.out.1.cell (p:=⟨b,off+(i+1),none⟩) hbl2).trans HC2.out;have y0:=box_regrown P2.out.2.2.1;have z0:=cell_in hcx;clear hcx
           refine wp_region_quiet_tail 9 (by kernel_rfl) (by kernel_rfl) ?_
           simp only [List.take_succ_cons,List.take_zero,List.drop_succ_cons,List.drop_zero]
           repeat (first|go_big_quiet_step (exact Calls.regrown_of (rAdd_big s.2.1 m2 sm f0 _))|quiet_step (exact Calls.regrown_of (rAdd_big s.2.1 m2 sm f0 _)))
           refine wpQuiet_nil ?_
           intro wq2 hw'
           obtain⟨⟨dq2,osq2⟩,hw''⟩:=hw';have hbq2:=below_regrown wx dq2 osq2;rw [←hw'']at hbq2;clear hw'' y0 z0;have p1:=P2.out.next hbq2;obtain⟨c0,c1⟩:=box_cells p1.2.2.1;have PX:=Hd (RaAt.one (t:=(addP s.1 m,addP s.2.1 m2,s.2.2)) p1 1 (.int .u64 (addP s.2.1 m2)) rfl);clear p1;go_wp2_with fail
           refine(rpermute_big (addP s.1 m,addP s.2.1 m2,s.2.2) NW.out _).mono ?_
           rintro e w5 ⟨rfl,hb5⟩;have p5:=PX.out.next hb5;clear c0 c1;obtain⟨c0,c1⟩:=box_cells p5.2.2.1;have HN:=Hd (RaAt.store p5 (permS (addP s.1 m,addP s.2.1 m2,s.2.2)));clear p5;go_wp2_with fail
           go_roundw
           case rel=>exact⟨i+2,permS (addP s.1 m,addP s.2.1 m2,s.2.2),by omega,by go_num,permS_words _,HN.out,HI⟩
           case measure=>simp [intOf];omega
         · have HS:=Hd (absLoop_one s l i hlt (by omega))
           generalize l[i]=m at*
           have i2: ¬((i:Int)+1<(l.length:Int)):=by omega
           have HI:Hid (absLoop (permS (addP s.1 m,s.2.1,s.2.2)) (l.drop (i+2))=absLoop s0 l):=by
             show _=_
             rw [←hinv.out,HS.out,List.drop_of_length_le (by omega)];rfl
           have NW:Hid (Words3 (addP s.1 m,s.2.1,s.2.2)):=by unfold Words3 at hws;exact⟨sa,hws.2.1,hws.2.2⟩
           have HAT:=Hd hat;have hci:=(hat.1.cell (p:=⟨b,off+i,none⟩) hbl).trans hc;have y0:=box_regrown hat.2.2.1;have z0:=cell_in hci;clear hat hci;go_wp2_with fail
           refine wp_region_quiet_tail 8 (by kernel_rfl) (by kernel_rfl) ?_
           simp only [List.take_succ_cons,List.take_zero,List.drop_succ_cons,List.drop_zero]
           repeat (first|go_big_quiet_step (exact Calls.regrown_of (rAdd_big s.1 m sn e0 _))|quiet_step (exact Calls.regrown_of (rAdd_big s.1 m sn e0 _)))
           refine wpQuiet_nil ?_
           intro wq hw'
           obtain⟨⟨dq,osq⟩,hw''⟩:=hw';have hbq:=below_regrown wr dq osq;rw [←hw'']at hbq;clear hw'' y0 z0;have p1:=HAT.out.next hbq;obtain⟨c0,c1⟩:=box_cells p1.2.2.1;have PX:=Hd (RaAt.one (t:=(addP s.1 m,s.2.1,s.2.2)) p1 0 (.int .u64 (addP s.1 m)) rfl);clear p1;go_wp2_with fail
           refine(rpermute_big (addP s.1 m,s.2.1,s.2.2) NW.out _).mono ?_
           rintro e w5 ⟨rfl,hb5⟩;have p5:=PX.out.next hb5;clear c0 c1;obtain⟨c0,c1⟩:=box_cells p5.2.2.1;have HN:=Hd (RaAt.store p5 (permS (addP s.1 m,s.2.1,s.2.2)));clear p5;go_wp2_with fail
           go_roundw
           case rel=>exact⟨i+2,permS (addP s.1 m,s.2.1,s.2.2),by omega,by go_num,permS_words _,HN.out,HI⟩
           case measure=>simp [intOf];omega
     · have HE:Hid (absorbS label l=s):=by
         show _=_
         rw [HT.out,←hinv.out,List.drop_of_length_le (by omega)];rfl
       have z1:((i:Int)==0)=false:=by rw [beq_eq_false_iff_ne];omega
       have HB:=Hd hat.1;obtain⟨y0,y1⟩:=box_cells hat.2.1;obtain⟨z0,z1'⟩:=box_cells hat.2.2.1;clear hat;obtain⟨r0,r1,r2⟩:=read3 (x:= .int .u64 s.1) (y:= .int .u64 s.2.1) (z:= .int .u64 s.2.2) (y0 0) (y0 1) (y0 2);go_wp2_with fail
       refine bodyPost_ret (v:= .agg #[.int .u64 s.1,.int .u64 s.2.1,.int .u64 s.2.2]) (by simp [results,Tryz.results131,go_sem,r0,r1,r2]) rfl ⟨by rw [HE.out],?_⟩
       exact((HB.out.setCell (Nat.le_refl _) _).setCell (Nat.le_refl _) _).setCell (Nat.le_refl _) _
theorem rHash_big (label:Int)(hl0:0≤label)(S:Nat→Prop)(w:World)(a:Option Addr)(cap:Nat)(l:List Int)(h:numsR.rel S w [.slice a l.length cap] l)(hlen:l.length≤1000000):
   Calls Tryz.prog 89 #[.int .u64 18446744069414584321,.int .u64 label,.slice a l.length cap] w fun e w'=>e= .returned (.int .u64 (hashS label l))∧Below w.heap.size w w':=by
 have HH:Hid (hashS label l=(absorbS label l).1):=rfl
 go_enter Tryz.func89,Tryz.ntmps89
 go_wp2_with fail
 refine(rvalid_big _).mono ?_
 rintro e w1 ⟨rfl,hb1⟩;go_wp2_with fail
 refine(rabsorb_big label hl0 S w1 a cap l (numsR.keepB h hb1) hlen).mono ?_
 rintro e w2 ⟨rfl,hb2⟩;generalize absorbS label l=t at*;have hix:=index3 t.1 t.2.1 t.2.2;go_wp2_with fail;go_ret
 exact⟨ret_int HH.out.symm,bnext hb1 hb2⟩
end Go.Proofs.YtjknlhiimmbilaaGreatDoor
/- The reference's elements, keys, notes, nodes. -/
set_option maxRecDepth 100000
set_option maxHeartbeats 1000000
namespace Go.Proofs.YtjknlhiimmbilaaGreatDoor
open Go.ChangeShapes Go.WideShapes Go.ChangeAt Go.RowKit Go.Sort
theorem nums3 (w:World)(t:TypeId){x y z:Int}(hx:okU x)(hy:okU y)(hz:okU z):numsR.rel (fun _=>True) (w.alloc (.cells #[.int .u64 x,.int .u64 y,.int .u64 z] t)) [.slice (some ⟨w.heap.size,0,none⟩) 3 3] [x,y,z]:=
 nums_new w t [x,y,z] 3 (by intro u hu;simp at hu;rcases hu with rfl|rfl|rfl<;>assumption) (by simp) (by have:=maxLen_9;omega)
end Go.Proofs.YtjknlhiimmbilaaGreatDoor
/- The reference's keys, paths, commitments, and one spent note. -/
set_option maxRecDepth 100000
set_option maxHeartbeats 3000000
namespace Go.Proofs.YtjknlhiimmbilaaGreatDoor
open Go.ChangeShapes Go.WideShapes Go.ChangeAt Go.RowKit Go.Sort
theorem bit_and (n:Nat)(h:n<4096):bits BinOp.and IntKind.i64 (n:Int) 1=((n % 2:Nat):Int):=by
 have: ∀(i j:Fin 64),bits BinOp.and IntKind.i64 ((64*i.val+j.val:Nat):Int) 1=(((64*i.val+j.val) % 2:Nat):Int):=by decide+kernel
 have h2:=this ⟨n / 64,by omega⟩ ⟨n % 64,by omega⟩
 rw [show 64*(n / 64)+n % 64=n by omega]at h2
 exact h2
end Go.Proofs.YtjknlhiimmbilaaGreatDoor

/- The reference's bytes: Digits, Int, List, Bytes. -/
import Derived.Test.YtjknlhiimmbilaaGreatDoorMRdR
import Derived.Test.YtjknlhiimmbilaaGreatDoorMKit
import Derived.Test.YtjknlhiimmbilaaGreatDoorMRef
import Derived.Test.YtjknlhiimmbilaaGreatDoorMSp
import Derived.Test.YtjknlhiimmbilaaGreatDoorMTx
set_option maxRecDepth 100000
set_option maxHeartbeats 1000000
namespace Go.Proofs.YtjknlhiimmbilaaGreatDoor
open Go.ChangeShapes Go.WideShapes Go.ChangeAt Go.RowKit Go.Sort
def listS (l:List Int):List Int:=digs 4 l.length++digsAll l
def outS (o:OutM):List Int:=digsAll [o.commit,o.p0,o.p1]++listS o.cipher
def outsS:List OutM→List Int
 | []=> []
 |o::l=>outS o++outsS l
def encS (t:TxM)(proof:List Int):List Int:=
 digs 8 t.anchor++listS t.marks++digs 4 t.outs.length++outsS t.outs++digsAll [t.dep,t.wd,t.fee,t.acc,t.nonce]++digs 4 t.exp++(digs 4 proof.length++proof)
theorem listS_len (l:List Int):(listS l).length=4+8*l.length:=by simp [listS,digs_len,digsAll_len]
theorem outS_len (o:OutM):(outS o).length=28+8*o.cipher.length:=by simp only [outS,List.length_append,listS_len,digsAll_len];simp;omega
theorem outsS_snoc: ∀(l:List OutM) (o:OutM),outsS (l++ [o])=outsS l++outS o
 | [],o=>by simp [outsS]
 |x::l,o=>by simp [outsS,outsS_snoc l o]
theorem outsS_len: ∀(l:List OutM),(∀o∈l,o.cipher.length≤1000)→(outsS l).length≤9000*l.length
 | [],_=>by simp [outsS]
 |x::l,h=>by
  have h1:=h x (by simp)
  have h2:=outsS_len l fun o ho=>h o (by simp [ho])
  simp only [outsS,List.length_append,List.length_cons,outS_len];omega
def chunk (l:List Int)(j:Nat):Int:=leN ((l.drop (7*j)).take 7)
def chunks (l:List Int):List Int:=(List.range ((l.length+6) / 7)).map (chunk l)
def packS (l:List Int):List Int:=(l.length:Int)::chunks l
theorem chunks_len (l:List Int):(chunks l).length=(l.length+6) / 7:=by simp [chunks]
theorem chunks_at (l:List Int)(j:Nat)(h:j<(chunks l).length):(chunks l)[j]=chunk l j:=by simp [chunks]
theorem take_chunk (l:List Int)(i j:Nat)(h:7*j+7≤i):chunk (l.take i) j=chunk l j:=by
 unfold chunk
 rw [List.drop_take,List.take_take,Nat.min_eq_left (by omega)]
theorem last_chunk (l:List Int)(i j:Nat)(h1:7*j≤i)(h2:i≤7*j+7):chunk (l.take i) j=leN ((l.drop (7*j)).take (i-7*j)):=by
 unfold chunk
 rw [List.drop_take,List.take_take,Nat.min_eq_right (by omega)]
theorem chunks_new (l:List Int)(i:Nat)(hi:i<l.length)(hm:i % 7=0):chunks (l.take (i+1))=chunks (l.take i)++ [l[i]]:=by
 have e1:(l.take (i+1)).length=i+1:=by simp;omega
 have e2:(l.take i).length=i:=by simp;omega
 apply List.ext_getElem
 · rw [List.length_append,chunks_len,chunks_len,e1,e2];simp;omega
 · intro j h1 h2
   rw [chunks_len,e1]at h1;rw [chunks_at]
   rcases Nat.lt_or_ge j (i / 7)with hj|hj
   · rw [List.getElem_append_left (by rw [chunks_len,e2];omega),chunks_at,take_chunk _ _ _ (by omega),take_chunk _ _ _ (by omega)]
   · obtain rfl:j=i / 7:=by omega
     rw [List.getElem_append_right (by rw [chunks_len,e2];omega)]
     simp only [List.getElem_singleton]
     rw [last_chunk _ _ _ (by omega) (by omega),show 7*(i / 7)=i by omega,show i+1-i=0+1 by omega,List.drop_eq_getElem_cons hi,List.take_succ_cons,List.take_zero]
     show l[i]+256*0=l[i]
     omega
theorem chunks_more (l:List Int)(i:Nat)(hi:i<l.length)(hm:i % 7≠0):chunks (l.take (i+1))=(chunks (l.take i)).set (i / 7) (chunk (l.take i) (i / 7)+l[i]*256^(i % 7)):=by
 have e1:(l.take (i+1)).length=i+1:=by simp;omega
 have e2:(l.take i).length=i:=by simp;omega
 apply List.ext_getElem
 · rw [List.length_set,chunks_len,chunks_len,e1,e2];omega
 · intro j h1 h2
   rw [chunks_len,e1]at h1;rw [chunks_at,List.getElem_set]
   split
   · rename_i hj
     subst hj
     rw [last_chunk _ _ _ (by omega) (by omega),last_chunk _ _ _ (by omega) (by omega),show i+1-7*(i / 7)=(i-7*(i / 7))+1 by omega,List.take_succ_eq_append_getElem (by simp;omega),leN_snoc]
     have e3:((l.drop (7*(i / 7))).take (i-7*(i / 7))).length=i % 7:=by simp;omega
     rw [e3]
     congr 2
     rw [List.getElem_drop]
     congr 1
     omega
   · rename_i hj
     rw [chunks_at,take_chunk _ _ _ (by omega),take_chunk _ _ _ (by omega)]
theorem chunk_in (l:List Int)(h: ∀d∈l,0≤d∧d<256)(j:Nat):0≤chunk l j∧chunk l j<72057594037927936:=by
 have h1:=leN_in ((l.drop (7*j)).take 7) fun d hd=>h d (List.mem_of_mem_drop (List.mem_of_mem_take hd))
 have h2:=(pow256 ⟨((l.drop (7*j)).take 7).length,by simp;omega⟩).2 (by simp;omega)
 simp only at h2
 unfold chunk
 omega
theorem rDigits_any (w:World)(n:Int)(n0:0≤n)(n1:n<18446744073709551616)(count:Nat)(hc:count≤8):Calls Tryz.prog 92 #[.int .u64 n,.int .i64 count] w (GrewTo w.heap.size w (digs count n)):=by
 go_enter Tryz.func92,Tryz.ntmps92
 go_wp2_with fail
 go_loopw [0,5,6] (fun vn vo vi wr=> ∃(k:Nat) (m:Int) (ys:List Int),k≤count∧vi= .int .i64 k∧vn= .int .u64 m∧0≤m∧m<18446744073709551616∧ys.length=k∧Hid (ys++digs (count-k) m=digs count n)∧Own u8R w.heap.size 5 (fun x=>False∨w.heap.size≤x) wr vo (ys)∧Below w.heap.size w wr) (fun _ _ vi _=>count-(intOf vi).toNat)
 case atStart=>exact⟨0,n,[],Nat.zero_le _,rfl,rfl,n0,n1,rfl,rfl,Own.nil _ _ _ _ _,Below.refl _ _⟩
 case round=>
   obtain⟨k,m,ys,hk,rfl,rfl,m0,m1,hyl,hinv,hor,hbr⟩:=hrel;have hBr:=hbr.size
   by_cases hlt:k<count
   · have HI:Hid ((ys++ [m % 256])++digs (count-(k+1)) (m / 256)=digs count n):=by
       show _=_
       rw [←hinv.out,List.append_assoc,show count-k=(count-(k+1))+1 by omega]
       rfl
     have hwf:(Lit.int .u8 (m % 256)).wf=true:=by
       simp [Lit.wf,IntKind.min,IntKind.max,IntKind.signed,IntKind.bits];omega
     have HO:=Hd hor
     have HY:Hid (u8R.rel (fun _=>False) wr [.int .u8 (m % 256)] (m % 256)):=⟨rfl,hwf⟩
     have e1:IntKind.u8.wrap (m % 256)=m % 256:=by rw [IntKind.wrap_u8];omega
     have e2:0≤m / 256:=by omega
     have e3:m / 256<18446744073709551616:=by omega
     have hki:(k:Int)<(count:Int):=by omega
     have HLEN:Hid (ys.length+1≤maxLen∧(ys.length+1)*1≤140737488355328):=by unfold maxLen;constructor<;>omega
     clear hor hwf
     go_wp2_with (at_builtin;refine wpList_push (r:=u8R) (wr:=wr) (es:= [.int .u8 (m % 256)]) (w0:=w) (B:=w.heap.size) rfl _ _ rfl Tryz.etyBytes rfl rfl hbr hBr HO.out HY.out (fun x hx=>hx.elim) HLEN.out.1 HLEN.out.2 ?_)
     intro v2 w2 ho2 hb2
     have HZ:=Hd (Own.mono ho2 (F':=fun x=>False∨w.heap.size≤x) fun x _ h=>by first|exact h|exact .inr h)
     clear ho2;go_wp2_with fail
     go_roundw
     case rel=>exact⟨k+1,m / 256,ys++ [m % 256],by omega,by go_num,rfl,e2,e3,by rw [List.length_append,hyl];rfl,HI,HZ.out,hb2⟩
     case measure=>simp [intOf];omega
   · obtain rfl:k=count:=by omega
     have HF:Hid (ys=digs k n):=by
       show _=_
       rw [←hinv.out,Nat.sub_self];simp [digs]
     go_wp2_with fail;go_ret
     exact⟨_,rfl,by rw [←HF.out];exact hor,hbr⟩
theorem GrewTo.read {B:Nat}{w w':World}{ys:List Int}{e:Ending}(h:GrewTo B w ys e w'): ∃a cap,e= .returned (.slice a ys.length cap)∧Own u8R B 5 (fun x=>False∨B≤x) w' (.slice a ys.length cap) (ys)∧bytesR.rel (fun _=>True) w' [.slice a ys.length cap] ys∧Below B w w':=by
 obtain⟨v,rfl,ho,hb⟩:=h;obtain⟨a,cap,rfl, -, -⟩:=sliceR.form ho.slice
 exact⟨a,cap,rfl,ho,bytesR.mono ho.slice fun _ _ _=>trivial,hb⟩
theorem rInt_any (w:World)(n:Nat)(hn:n≤4294967295):Calls Tryz.prog 128 #[.int .i64 n] w (GrewTo w.heap.size w (digs 4 n)):=by
 have e1:IntKind.u64.wrap (n:Int)=n:=by rw [IntKind.wrap_u64];omega
 have h1: ¬(n:Int)<0:=by omega
 have h2: ¬(4294967296:Int)≤(n:Int):=by omega
 go_enter Tryz.func128,Tryz.ntmps128
 go_wp2_with fail
 refine(rDigits_any w n (by omega) (by omega) 4 (by omega)).mono ?_
 intro e w1 h
 obtain⟨a,cap,rfl,ho, -,hb⟩:=h.read;have HO:=Hd ho;clear ho h;go_wp2_with fail;go_ret
 exact⟨_,rfl,HO.out,hb⟩
theorem rList_any (S:Nat→Prop)(w:World)(la:Option Addr)(lc:Nat)(l:List Int)(hl:numsR.rel S w [.slice la l.length lc] l)(hx:l.length≤1000000):Calls Tryz.prog 127 #[.slice la l.length lc] w (GrewTo w.heap.size w (listS l)):=by
 have H:=Hd hl;clear hl
 go_enter Tryz.func127,Tryz.ntmps127
 go_wp2_with fail
 refine(rInt_any w l.length (by omega)).mono ?_
 intro e w1 h
 obtain⟨a,cap,rfl,ho, -,hb1⟩:=h.read;rw [digs_len]at ho⊢;have HO:=Hd ho;clear ho h;go_wp2_with fail
 go_loopw [3,4] (fun vo vi wr=> ∃(k:Nat),k≤l.length∧vi= .int .i64 k∧Own u8R w.heap.size 5 (fun x=>False∨w.heap.size≤x) wr vo (digs 4 l.length++digsAll (l.take k))∧Below w.heap.size w wr) (fun _ vi _=>l.length-(intOf vi).toNat)
 case atStart=>exact⟨0,Nat.zero_le _,rfl,by simpa [digsAll]using HO.out,hb1⟩
 case round=>
   obtain⟨k,hk,rfl,hor,hbr⟩:=hrel;have HOR:=Hd hor;have hBr:=hbr.size;clear hor
   by_cases hlt:k<l.length
   · obtain⟨b,off,rfl,hbl,n0,n1,hc⟩:=nums_at (numsR.keepB H.out hbr) k hlt
     have HT:Hid (digsAll (l.take (k+1))=digsAll (l.take k)++digs 8 l[k]):=by show _=_;rw [List.take_succ_eq_append_getElem hlt,digsAll_snoc]
     have HLEN:Hid ((digs 4 l.length++digsAll (l.take k)).length+(digs 8 l[k]).length≤maxLen∧((digs 4 l.length++digsAll (l.take k)).length+(digs 8 l[k]).length)*1≤140737488355328):=by
       have:(l.take k).length≤l.length:=by simp;omega
       simp only [List.length_append,digs_len,digsAll_len]
       unfold maxLen;constructor<;>omega
     have i0:(0:Int)≤(k:Int):=by omega
     have i1:(k:Int)<(l.length:Int):=by omega
     generalize l[k]=m at*;go_wp2_with fail
     refine(rDigits_any wr m n0 n1 8 (by omega)).mono ?_
     intro e w2 h
     obtain⟨a2,c2,rfl, -,hr2,hb2⟩:=h.read;have HR2:=Hd hr2;have hbw:=bnext hbr hb2;have hBw:=hbw.size;have HO2:=Hd (HOR.out.keepB hb2);clear h hr2
     go_wp2_with (at_builtin;go_loud (refine wpList_cat (k:= .u8) (v:=u3) (u:= .slice a2 (digs 8 m).length c2) (w0:=w) (B:=w.heap.size) (wr:=w2) (ys:=digs 8 m) rfl _ _ rfl Tryz.etyBytes rfl rfl hbw hBw HO2.out HR2.out HLEN.out.1 HLEN.out.2 ?_))
     intro v2 w3 ho3 hb3
     have ho4:=Own.mono ho3 (F':=fun x=>False∨w.heap.size≤x) fun x _ h=>by first|exact h|exact .inr h
     first|rw [List.append_assoc,←HT.out]at ho4|rw [←HT.out]at ho4
     have HZ:=Hd ho4;clear ho4;clear ho3;go_wp2_with fail
     go_roundw
     case rel=>exact⟨k+1,by omega,by go_num,HZ.out,hb3⟩
     case measure=>simp [intOf];omega
   · obtain rfl:k=l.length:=by omega
     rw [List.take_length]at HOR;have HF:Hid (listS l=digs 4 l.length++digsAll l):=rfl;go_wp2_with fail;go_ret
     exact⟨_,rfl,by rw [HF.out];exact HOR.out,hbr⟩
theorem rBytes_any (S:Nat→Prop)(w:World)(la:Option Addr)(lc:Nat)(l:List Int)(hl:bytesR.rel S w [.slice la l.length lc] l)(hx:l.length≤100000000):Calls Tryz.prog 129 #[.slice la l.length lc] w (GrewTo w.heap.size w (digs 4 l.length++l)):=by
 have H:=Hd hl;clear hl
 go_enter Tryz.func129,Tryz.ntmps129
 go_wp2_with fail
 refine(rInt_any w l.length (by omega)).mono ?_
 intro e w1 h
 obtain⟨a,cap,rfl,ho, -,hb1⟩:=h.read;have HO:=Hd ho;have HR:=Hd (bytesR.keepB H.out hb1);have hB:=hb1.size
 have HLEN:Hid ((digs 4 l.length).length+l.length≤maxLen∧((digs 4 l.length).length+l.length)*1≤140737488355328):=by
   simp only [digs_len]
   unfold maxLen;constructor<;>omega
 clear ho h
 go_wp2_with (at_builtin;go_loud (refine wpList_cat (k:= .u8) (v:= .slice a (digs 4 l.length).length cap) (u:= .slice la l.length lc) (w0:=w) (B:=w.heap.size) (wr:=w1) (xs:=digs 4 l.length) (ys:=l) rfl _ _ rfl Tryz.etyBytes rfl rfl hb1 hB HO.out HR.out HLEN.out.1 HLEN.out.2 ?_))
 intro v2 w3 ho3 hb3
 have HZ:=Hd (Own.mono ho3 (F':=fun x=>False∨w.heap.size≤x) fun x _ h=>by first|exact h|exact .inr h)
 clear ho3;go_wp2_with fail;go_ret
 exact⟨_,rfl,HZ.out,hb3⟩
end Go.Proofs.YtjknlhiimmbilaaGreatDoor
/- The reference's transactions: what is well-formed, the origin. -/
set_option maxRecDepth 100000
set_option maxHeartbeats 8000000
namespace Go.Proofs.YtjknlhiimmbilaaGreatDoor
open Go.ChangeShapes Go.WideShapes Go.ChangeAt Go.RowKit Go.Sort
theorem reduced_len (S:Nat→Prop)(w:World)(a:Option Addr)(len cap:Nat)(l:List Int)(hlen:len=l.length)(h:numsR.rel S w [.slice a len cap] l):
   Calls Tryz.prog 125 #[.slice a len cap] w fun e w'=>e= .returned (.bool (elemsB l))∧Below w.heap.size w w':=by
 subst hlen;have g1:=(sliceR.lens h).2;unfold maxLen at g1;have H:=Hd h;clear h
 go_enter Tryz.func125,Tryz.ntmps125
 go_wp2_with fail
 go_loop [3] (fun i=> ∃k:Nat,k≤l.length∧i= .int .i64 k∧Hid (allUp (fun k=>elemB (l.getD k 0)) k=true)) (fun i=>l.length-(intOf i).toNat)
 case atStart=>exact⟨0,Nat.zero_le _,rfl,rfl⟩
 case round=>
   obtain⟨k,hk,rfl,hall⟩:=hrel
   by_cases hlt:k<l.length
   · obtain⟨b,off,rfl,hbl,n0,n1,hc⟩:=nums_at H.out k hlt
     have hg:=Hd (getD_at l 0 k hlt)
     have i0:(0:Int)≤(k:Int):=by omega
     have i1:(k:Int)<(l.length:Int):=by omega
     generalize l[k]=n at*
     by_cases hp:n<18446744069414584321
     · have HY:Hid (allUp (fun k=>elemB (l.getD k 0)) (k+1)=true):=allUp_step hall.out (by rw [hg.out];exact decide_eq_true hp)
       go_wp2_with fail
       go_round
       case rel=>exact⟨k+1,by omega,by go_num,HY⟩
       case measure=>simp [intOf];omega
     · have HF:Hid (elemsB l=false):=allUp_false (k:=k) (by rw [hg.out];exact decide_eq_false hp) hlt
       go_wp2_with fail;go_ret
       exact⟨ret_bool HF.out.symm,Below.refl _ _⟩
   · obtain rfl:k=l.length:=by omega
     have HF:Hid (elemsB l=true):=hall;go_wp2_with fail;go_ret
     exact⟨ret_bool HF.out.symm,Below.refl _ _⟩
theorem rgroup_any (w:World)(x y:Int)(x0:0≤x)(y0:0≤y):Calls Tryz.prog 126 #[.agg #[.int .u64 x,.int .u64 y]] w fun e w'=>e= .returned (.bool (groupB x y))∧Below w.heap.size w w':=by
 go_enter Tryz.func126,Tryz.ntmps126
 go_wp2_with fail
 all_goals go_ret
 all_goals refine⟨ret_bool ?_,(Below.refl _ _).alloc (Nat.le_refl _) _⟩
 all_goals unfold groupB
 all_goals first
   |exact(decide_eq_true (by omega)).symm
   |exact(decide_eq_false (by omega)).symm
   |exact decide_eq_decide.2 (by omega)
   |(rw [Bool.eq_iff_iff];simp;omega)
theorem validE_bad {t:TxM}(h:(marksB t.marks&&(outsB t.outs&&(amountsB t&&restB t)))=false):validE t=1:=by unfold validE;rw [h];rfl
theorem allUp_and (p q:Nat→Bool): ∀n,allUp (fun k=>p k&&q k) n=(allUp p n&&allUp q n)
 |0=>rfl
 |n+1=>by
  unfold allUp;rw [allUp_and p q n]
  cases allUp p n<;>cases allUp q n<;>cases p n<;>cases q n<;>rfl
def apartB (l:List Int)(k:Nat):Bool:= !hasUp l (l.getD k 0) k
theorem marksB_eq (l:List Int):marksB l=(decide (l.length≤4)&&(elemsB l&&allUp (apartB l) l.length)):=by
 have h:=allUp_and (fun k=>elemB (l.getD k 0)) (apartB l) l.length
 unfold marksB elemsB
 rw [←h];rfl
theorem elems3 {a b c:Int}(h:elemsB [a,b,c]=true):a<18446744069414584321∧b<18446744069414584321∧c<18446744069414584321:=by
 simp [elemsB,allUp,elemB]at h;omega
theorem elems3_bad {t:TxM}(h:elemsB [t.anchor,t.acc,t.nonce]=false):(amountsB t&&restB t)=false:=by
 cases h1:(amountsB t&&restB t)with
 |false=>rfl
 |true=>
  rw [Bool.and_eq_true]at h1;have h2:=of_decide_eq_true h1.1;have h3:=of_decide_eq_true h1.2
  have:elemsB [t.anchor,t.acc,t.nonce]=true:=by simp [elemsB,allUp,elemB];omega
  rw [this]at h;cases h
theorem validE_rest {t:TxM}(hm:marksB t.marks=true)(ho:outsB t.outs=true)(he:elemsB [t.anchor,t.acc,t.nonce]=true)(hd:okU t.dep)(hw:okU t.wd):
   validE t=if (t.dep≤4294967295∧t.wd≤4294967295∧t.fee≤4294967295)∧ ¬(0<t.dep∧0<t.wd)∧(t.dep=0→t.nonce=0∧t.marks.length≠0∧(t.wd=0→t.acc=0))∧0≤t.exp∧t.exp≤1048576 then (if t.proof.length≤1048576 then 0 else 3)else 1:=by
 have h3:=elems3 he;have d:=okU_in hd;have d2:=okU_in hw;unfold validE;rw [hm,ho,Bool.true_and,Bool.true_and]
 by_cases hc:(t.dep≤4294967295∧t.wd≤4294967295∧t.fee≤4294967295)∧ ¬(0<t.dep∧0<t.wd)∧(t.dep=0→t.nonce=0∧t.marks.length≠0∧(t.wd=0→t.acc=0))∧0≤t.exp∧t.exp≤1048576
 · have h1:amountsB t=true:=decide_eq_true (by omega)
   have h2:restB t=true:=decide_eq_true (by omega)
   rw [if_pos hc,h1,h2];rfl
 · have h1:(amountsB t&&restB t)=false:=by
     cases h4:(amountsB t&&restB t)with
     |false=>rfl
     |true=>
      rw [Bool.and_eq_true]at h4;have h5:=of_decide_eq_true h4.1;have h6:=of_decide_eq_true h4.2
      exact absurd (by omega) hc
   rw [if_neg hc,h1];rfl
theorem rtxValid_any (S:Nat→Prop)(w:World)(t:TxM)(ma oa pa:Option Addr)(mc oc pc:Nat)(h:TxIn S w t ma oa pa mc oc pc):
   Calls Tryz.prog 87 #[.agg #[.int .u64 t.anchor,.slice ma t.marks.length mc,.slice oa t.outs.length oc,.int .u64 t.dep,.int .u64 t.wd,.int .u64 t.fee,.int .u64 t.acc,.int .u64 t.nonce,.int .i64 t.exp,.slice pa t.proof.length pc]] w fun e w'=>e= .returned (.int .i64 (validE t))∧Below w.heap.size w w':=by
 have g1:=(sliceR.lens h.marks).2;have g2:=(sliceR.lens h.outs).2;have g3:=(sliceR.lens h.proof).2;unfold maxLen at g1 g2 g3;have hbB:=(bnew (Below.refl w.heap.size w) (.cells #[.int .u64 t.anchor,.slice ma t.marks.length mc,.slice oa t.outs.length oc,.int .u64 t.dep,.int .u64 t.wd,.int .u64 t.fee,.int .u64 t.acc,.int .u64 t.nonce,.int .i64 t.exp,.slice pa t.proof.length pc] 111));have HA0:=Hd (box_new w (.cells #[.int .u64 t.anchor,.slice ma t.marks.length mc,.slice oa t.outs.length oc,.int .u64 t.dep,.int .u64 t.wd,.int .u64 t.fee,.int .u64 t.acc,.int .u64 t.nonce,.int .i64 t.exp,.slice pa t.proof.length pc] 111));have HBel:=Hd hbB;have H:=Hd (h.keepB hbB);clear h hbB
 by_cases m4:t.marks.length≤4
 · have m4i:(t.marks.length:Int)≤4:=by omega
   by_cases o4:t.outs.length≤4
   · have o4i:(t.outs.length:Int)≤4:=by omega
     go_enter Tryz.func87,Tryz.ntmps87
     go_wp2_with fail;generalize w.alloc (.cells #[.int .u64 t.anchor,.slice ma t.marks.length mc,.slice oa t.outs.length oc,.int .u64 t.dep,.int .u64 t.wd,.int .u64 t.fee,.int .u64 t.acc,.int .u64 t.nonce,.int .i64 t.exp,.slice pa t.proof.length pc] 111)=W at*
     refine(reduced_len S W ma _ mc t.marks rfl H.out.marks).mono ?_
     rintro e w1 ⟨rfl,hb1⟩
     cases he1:elemsB t.marks with
     |false=>
      have HF:Hid (validE t=1):=validE_bad (by rw [marksB_eq,he1,Bool.false_and,Bool.and_false,Bool.false_and])
      go_wp2_with fail;go_ret
      exact⟨ret_int HF.out.symm,bnext HBel.out hb1⟩
     |true=>
      have HE1:=Hd he1;clear he1;obtain⟨x0,x1⟩:=box_cells (box_after hb1 HA0.out);have HX:=Hd (nums3 w1 24 H.out.anchor H.out.acc H.out.nonce);go_wp2_with fail
      refine(reduced_len (fun _=>True) _ _ 3 3 [t.anchor,t.acc,t.nonce] rfl HX.out).mono ?_
      rintro e w2 ⟨rfl,hb2⟩;have hbk:=bnext (bnew hb1 (.cells #[.int .u64 t.anchor,.int .u64 t.acc,.int .u64 t.nonce] 24)) hb2;clear x0 x1 hb2 HX
      cases he3:elemsB [t.anchor,t.acc,t.nonce]with
      |false=>
       have HF:Hid (validE t=1):=validE_bad (by rw [elems3_bad he3,Bool.and_false,Bool.and_false])
       go_wp2_with fail;go_ret
       exact⟨ret_int HF.out.symm,bnext HBel.out hbk⟩
      |true=>
       have HE3:=Hd he3;clear he3;go_wp2_with fail
       go_loopw [3] (fun vi wr=> ∃i:Nat,i≤t.marks.length∧vi= .int .i64 i∧Hid (allUp (apartB t.marks) i=true)∧Below W.heap.size W wr) (fun vi _=>t.marks.length-(intOf vi).toNat)
       case atStart=>exact⟨0,Nat.zero_le _,rfl,rfl,hbk⟩
       case round=>
         obtain⟨i,hi,rfl,hall,hbr⟩:=hrel;obtain⟨x0,x1⟩:=box_cells (box_after hbr HA0.out)
         by_cases hlt:i<t.marks.length
         · have i0:(0:Int)≤(i:Int):=by omega
           have i1:(i:Int)<(t.marks.length:Int):=by omega
           have hg:=Hd (getD_at t.marks 0 i hlt);go_wp2_with fail;clear x0 x1
           go_loopw [4] (fun vk wq=> ∃k:Nat,k≤i∧vk= .int .i64 k∧Hid (hasUp t.marks t.marks[i] k=false)∧Below W.heap.size W wq) (fun vk _=>i-(intOf vk).toNat)
           case atStart=>exact⟨0,Nat.zero_le _,rfl,rfl,hbr⟩
           case round=>
             clear hbr;obtain⟨k,hk,rfl,hno,hbr⟩:=hrel
             by_cases hki:k<i
             · obtain⟨b,off,hbo,hbl,n0,n1,hc⟩:=nums_at (numsR.keepB H.out.marks hbr) i hlt
               obtain⟨b',off',rfl,hbl',n0',n1',hc'⟩:=nums_at (numsR.keepB H.out.marks hbr) k (by omega)
               simp at hbo
               obtain⟨rfl,rfl⟩:=hbo
               have hgk:=Hd (getD_at t.marks 0 k (by omega))
               have k0:(0:Int)≤(k:Int):=by omega
               have k1:(k:Int)<(t.marks.length:Int):=by omega
               have k2:(k:Int)<(i:Int):=by omega
               have HUP:Hid (hasUp t.marks t.marks[i] (k+1)=(hasUp t.marks t.marks[i] k||(t.marks[i]==t.marks.getD k 0))):=rfl
               have HTR:=Hd (fun(h:(t.marks[i]==t.marks.getD k 0)=true)=>hasUp_true h hki)
               generalize t.marks[i]=x at*
               generalize t.marks[k]'(by omega)=y at*
               have xq:=box_regrown (box_after hbr HA0.out);have z0:=cell_in hc;have z1:=cell_in hc';clear hc hc';go_wp2_with fail
               refine wp_region_quiet_below (by kernel_rfl) (by kernel_rfl) ?_
               repeat (first|go_big_quiet_step (fail)|quiet_step (fail))
               refine wpQuiet_nil ?_
               intro wz hw'
               obtain⟨⟨dq,osq⟩,hw''⟩:=hw';have hbwz:=below_regrown wr dq osq;rw [←hw'']at hbwz;clear hw'' xq z0 z1;have hbw:=bnext hbr hbwz
               by_cases hxy:x=y
               · have b1:(x==y)=true:=by rw [beq_iff_eq];exact hxy
                 have hap:apartB t.marks i=false:=by
                   unfold apartB
                   rw [hg.out,HTR.out (by rw [hgk.out];exact b1)];rfl
                 have HF:Hid (validE t=1):=validE_bad (by rw [marksB_eq,allUp_false hap hlt,Bool.and_false,Bool.and_false,Bool.false_and])
                 clear hxy;go_wp2_with fail;go_ret
                 exact⟨ret_int HF.out.symm,bnext HBel.out hbw⟩
               · have b1:(x==y)=false:=by rw [beq_eq_false_iff_ne];exact hxy
                 have HY:Hid (hasUp t.marks x (k+1)=false):=by show _=_;rw [HUP.out,hno.out,hgk.out,b1];rfl
                 clear hxy;go_wp2_with fail
                 go_roundw
                 case rel=>exact⟨k+1,by omega,by go_num,HY,hbw⟩
                 case measure=>simp [intOf];omega
             · obtain rfl:k=i:=by omega
               have HY:Hid (allUp (apartB t.marks) (k+1)=true):=allUp_step hall.out (by unfold apartB;rw [hg.out,hno.out];rfl)
               go_wp2_with fail
               go_roundw
               case rel=>exact⟨k+1,by omega,by go_num,HY,hbr⟩
               case measure=>simp [intOf];omega
         · obtain rfl:i=t.marks.length:=by omega
           have HM:Hid (marksB t.marks=true):=by show _=_;rw [marksB_eq,decide_eq_true m4,HE1.out,hall.out];rfl
           clear hall HE1;go_wp2_with fail;clear x0 x1
           go_loopw [5] (fun vi wr=> ∃i:Nat,i≤t.outs.length∧vi= .int .i64 i∧Hid ((t.outs.take i).all outB=true)∧Below W.heap.size W wr) (fun vi _=>t.outs.length-(intOf vi).toNat)
           case atStart=>exact⟨0,Nat.zero_le _,rfl,rfl,hbr⟩
           case round=>
             clear hbr;obtain⟨k,hk,rfl,hall,hbr⟩:=hrel;obtain⟨x0,x1⟩:=box_cells (box_after hbr HA0.out)
             by_cases hlt:k<t.outs.length
             · obtain⟨b,off,ca,cc,rfl, -,hbl,k1,k2,k3,hci,c0,c1,c2,c3⟩:=outs_at (outsR.keepB H.out.outs hbr) k hlt
               have hno:=Hd (all_false outB t.outs k hlt);have hyes:=Hd (all_take_succ outB t.outs k hlt)
               have i0:(0:Int)≤(k:Int):=by omega
               have i1:(k:Int)<(t.outs.length:Int):=by omega
               generalize t.outs[k]=o at*;have hvl:=(sliceR.lens hci).2;unfold maxLen at hvl;have HOB:Hid (outB o=(elemB o.commit&&(groupB o.p0 o.p1&&(decide (o.cipher.length=3)&&elemsB o.cipher)))):=rfl;have hbn:=bnew (Below.refl wr.heap.size wr) (.cells #[.int .u64 o.commit,.int .u64 o.p0,.int .u64 o.p1,.slice ca o.cipher.length cc] 134);have HCI:=Hd (numsR.keepB hci hbn);have HIN:=Hd (box_new wr (.cells #[.int .u64 o.commit,.int .u64 o.p0,.int .u64 o.p1,.slice ca o.cipher.length cc] 134));have hbrn:=bnext hbr hbn;have p0:=(okU_in k2).1;have p1:=(okU_in k3).1;clear hci hbn
               have HBO:=Hd (fun(h:outB o=false)=>(validE_bad (t:=t) (by unfold outsB;rw [hno.out h,Bool.and_false,Bool.false_and,Bool.and_false]):validE t=1))
               by_cases hcm:o.commit<18446744069414584321
               · have HC1:Hid (elemB o.commit=true):=decide_eq_true hcm
                 go_wp2_with fail;clear c0 c1 c2 c3 x0 x1;generalize wr.alloc (.cells #[.int .u64 o.commit,.int .u64 o.p0,.int .u64 o.p1,.slice ca o.cipher.length cc] 134)=wn at*
                 refine(rgroup_any wn o.p0 o.p1 p0 p1).mono ?_
                 rintro e w5 ⟨rfl,hb5⟩;have hbw5:=bnext hbrn hb5;obtain⟨y0,y1⟩:=box_cells (box_after hb5 HIN.out)
                 cases hg:groupB o.p0 o.p1 with
                 |false=>
                  have HF:=Hd (HBO.out (by rw [HOB.out,hg,Bool.false_and,Bool.and_false]))
                  go_wp2_with fail;go_ret
                  exact⟨ret_int HF.out.symm,bnext HBel.out hbw5⟩
                 |true=>
                  by_cases h3:o.cipher.length=3
                  · have HC3:=Hd (decide_eq_true h3)
                    have b3:((o.cipher.length:Int)==3)=true:=by rw [beq_iff_eq];omega
                    have b3':((o.cipher.length:Int) != 3)=false:=by rw [bne_eq_false_iff_eq];omega
                    clear h3;go_wp2_with fail
                    refine(reduced_len S w5 ca _ cc o.cipher rfl (numsR.keepB HCI.out hb5)).mono ?_
                    rintro e w6 ⟨rfl,hb6⟩;have hbw6:=bnext hbw5 hb6
                    cases hec:elemsB o.cipher with
                    |true=>
                     have HY:Hid ((t.outs.take (k+1)).all outB=true):=by show _=_;rw [hyes.out,hall.out,HOB.out,HC1.out,hg,HC3.out,hec];rfl
                     go_wp2_with fail
                     go_roundw
                     case rel=>exact⟨k+1,by omega,by go_num,HY,hbw6⟩
                     case measure=>simp [intOf];omega
                    |false=>
                     have HF:=Hd (HBO.out (by rw [HOB.out,hec,Bool.and_false,Bool.and_false,Bool.and_false]))
                     go_wp2_with fail;go_ret
                     exact⟨ret_int HF.out.symm,bnext HBel.out hbw6⟩
                  · have HF:=Hd (HBO.out (by rw [HOB.out,decide_eq_false h3,Bool.false_and,Bool.and_false,Bool.and_false]))
                    have b3:((o.cipher.length:Int)==3)=false:=by rw [beq_eq_false_iff_ne];omega
                    have b3':((o.cipher.length:Int) != 3)=true:=by rw [bne_iff_ne];omega
                    clear h3;go_wp2_with fail;go_ret
                    exact⟨ret_int HF.out.symm,bnext HBel.out hbw5⟩
               · have HF:=Hd (HBO.out (by rw [HOB.out];unfold elemB;rw [decide_eq_false hcm,Bool.false_and]))
                 go_wp2_with fail;go_ret
                 exact⟨ret_int HF.out.symm,bnext HBel.out hbrn⟩
             · obtain rfl:k=t.outs.length:=by omega
               have HOU:Hid (outsB t.outs=true):=by
                 have:=hall.out;rw [List.take_length]at this
                 show _=_
                 unfold outsB
                 rw [decide_eq_true o4,this];rfl
               have HV:Hid (validE t=if (t.dep≤4294967295∧t.wd≤4294967295∧t.fee≤4294967295)∧ ¬(0<t.dep∧0<t.wd)∧(t.dep=0→t.nonce=0∧t.marks.length≠0∧(t.wd=0→t.acc=0))∧0≤t.exp∧t.exp≤1048576 then (if t.proof.length≤1048576 then 0 else 3)else 1):=validE_rest HM.out HOU.out HE3.out H.out.dep H.out.wd;have hfin:=bnext HBel.out hbr;have d1:=okU_in H.out.dep;have d2:=okU_in H.out.wd;have d3:=okU_in H.out.acc;have d4:=okU_in H.out.nonce;clear hall HOU HM HE3;go_wp2_with fail
               all_goals go_ret
               all_goals refine⟨ret_int ?_,hfin⟩
               all_goals rw [HV.out]
               all_goals (simp only [beq_iff_eq,bne_iff_ne,beq_eq_false_iff_ne,bne_eq_false_iff_eq,ne_eq]at*)
               all_goals first
                 |(rw [if_neg (by omega)];done)
                 |(rename_i hmn _;simp only [←List.length_eq_zero_iff]at hmn;rw [if_neg (by omega)];done)
                 |(rename_i hmn;simp only [←List.length_eq_zero_iff]at hmn;rw [if_neg (by omega)];done)
                 |(rw [if_pos (by omega),if_pos (by omega)];done)
                 |(rw [if_pos (by omega),if_neg (by omega)];done)
   · have o4i: ¬(t.outs.length:Int)≤4:=by omega
     have HF:Hid (validE t=1):=validE_bad (by unfold outsB;rw [decide_eq_false o4,Bool.false_and,Bool.false_and,Bool.and_false])
     go_enter Tryz.func87,Tryz.ntmps87
     go_wp2_with fail;go_ret
     exact⟨ret_int HF.out.symm,HBel.out⟩
 · have m4i: ¬(t.marks.length:Int)≤4:=by omega
   have HF:Hid (validE t=1):=validE_bad (by rw [marksB_eq,decide_eq_false m4,Bool.false_and,Bool.false_and])
   go_enter Tryz.func87,Tryz.ntmps87
   go_wp2_with fail;go_ret
   exact⟨ret_int HF.out.symm,HBel.out⟩
end Go.Proofs.YtjknlhiimmbilaaGreatDoor
/- The reference's bytes of a transaction. -/
set_option maxRecDepth 100000
set_option maxHeartbeats 16000000
namespace Go.Proofs.YtjknlhiimmbilaaGreatDoor
open Go.ChangeShapes Go.WideShapes Go.ChangeAt Go.RowKit Go.Sort
def outTo (o:OutM):Nat→List Int
 |0=> []
 |1=> [o.commit]
 |2=> [o.commit,o.p0]
 |_=> [o.commit,o.p0,o.p1]
def fiveTo (t:TxM):Nat→List Int
 |0=> []
 |1=> [t.dep]
 |2=> [t.dep,t.wd]
 |3=> [t.dep,t.wd,t.fee]
 |4=> [t.dep,t.wd,t.fee,t.acc]
 |_=> [t.dep,t.wd,t.fee,t.acc,t.nonce]
def bytesS (l:List Int):List Int:=digs 4 l.length++l
theorem bytesS_len (l:List Int):(bytesS l).length=4+l.length:=by simp [bytesS,digs_len]
theorem rBytesS_any (S:Nat→Prop)(w:World)(la:Option Addr)(lc:Nat)(l:List Int)(hl:bytesR.rel S w [.slice la l.length lc] l)(hx:l.length≤100000000):Calls Tryz.prog 129 #[.slice la l.length lc] w (GrewTo w.heap.size w (bytesS l)):=rBytes_any S w la lc l hl hx
theorem rInt_int (w:World)(n:Int)(h0:0≤n)(h1:n≤4294967295):Calls Tryz.prog 128 #[.int .i64 n] w (GrewTo w.heap.size w (digs 4 n)):=by
 obtain⟨m,rfl⟩:=Int.eq_ofNat_of_zero_le h0
 exact rInt_any w m (by omega)
end Go.Proofs.YtjknlhiimmbilaaGreatDoor
/- The key of numbers, exact; the map of issued proofs, which has no entry or one. -/
set_option maxRecDepth 100000
set_option maxHeartbeats 2000000
namespace Go.Proofs.YtjknlhiimmbilaaGreatDoor
open Go.ChangeShapes Go.WideShapes Go.ChangeAt Go.RowKit
theorem digs_bytej: ∀(k:Nat) {a b:Int},0≤a→0≤b→a<256^k→b<256^k→digs k a=digs k b→a=b
 |0,a,b,a0,b0,a1,b1,_=>by simp at a1 b1;omega
 |k+1,a,b,a0,b0,a1,b1,h=>by
  simp only [digs,List.cons.injEq]at h
  have h1:a / 256<256^k:=by
    rw [Int.pow_succ]at a1;exact Int.ediv_lt_of_lt_mul (by omega) a1
  have h2:b / 256<256^k:=by
    rw [Int.pow_succ]at b1;exact Int.ediv_lt_of_lt_mul (by omega) b1
  have:=digs_bytej k (by omega) (by omega) h1 h2 h.2
  omega
theorem digsAll_inj: ∀ {l m:List Int},(∀x∈l,okU x)→(∀x∈m,okU x)→digsAll l=digsAll m→l=m
 | [],[],_,_,_=>rfl
 | [],y::m,_,_,h=>by simp [digsAll,digs]at h
 |x::l,[],_,_,h=>by simp [digsAll,digs]at h
 |x::l,y::m,hl,hm,h=>by
  simp only [digsAll]at h
  obtain⟨h1,h2⟩:=List.append_inj h (by rw [digs_len,digs_len])
  have bx:=okU_in (hl x (by simp))
  have by':=okU_in (hm y (by simp))
  rw [digs_bytej 8 bx.1 by'.1 (by have:=bx.2;omega) (by have:=by'.2;omega) h1,digsAll_inj (fun z hz=>hl z (by simp [hz])) (fun z hz=>hm z (by simp [hz])) h2]
theorem zero_bool (w:World):(zeroValue 4).run Tryz.prog w= .ok (.bool false) w:=by
 have h0:(Tryz.prog.info? 4).map (·.zero)=some (some (.bool false)):=by kernel_rfl
 obtain⟨i,hi,hz⟩:=Option.map_eq_some_iff.1 h0
 simp [zeroValue,typeInfo,hi,hz]
end Go.Proofs.YtjknlhiimmbilaaGreatDoor
/- Transactions with the same bytes are the same, in plain Lean. -/
set_option maxRecDepth 100000
namespace Go.Proofs.YtjknlhiimmbilaaGreatDoor
open Go.ChangeShapes Go.WideShapes Go.ChangeAt Go.RowKit Go.Sort
structure OkO (o:OutM):Prop where
 c:okU o.commit
 p0:okU o.p0
 p1:okU o.p1
 ci: ∀x∈o.cipher,okU x
structure OkT (t:TxM):Prop where
 anchor:okU t.anchor
 marks: ∀x∈t.marks,okU x
 outs: ∀o∈t.outs,OkO o
 dep:okU t.dep
 wd:okU t.wd
 fee:okU t.fee
 acc:okU t.acc
 nonce:okU t.nonce
theorem outsS_inj: ∀ {l m:List OutM},l.length=m.length→(∀o∈l,OkO o)→(∀o∈m,OkO o)→(∀i (hi:i<l.length) (hj:i<m.length),l[i].cipher.length=m[i].cipher.length)→ ∀ {u v:List Int},outsS l++u=outsS m++v→l=m∧u=v
 | [],[],_,_,_,_,u,v,h=>⟨rfl,by simpa [outsS]using h⟩
 | [],_::_,hlen,_,_,_,_,_,_=>by simp at hlen
 |_::_,[],hlen,_,_,_,_,_,_=>by simp at hlen
 |a::l,b::m,hlen,hl,hm,hc,u,v,h=>by
  have h0:=hc 0 (by simp) (by simp)
  have h0':a.cipher.length=b.cipher.length:=h0
  simp only [outsS,List.append_assoc]at h
  obtain⟨h1,h2⟩:=List.append_inj h (by rw [outS_len,outS_len,h0'])
  obtain⟨h3,h4⟩:=outsS_inj (by simpa using hlen) (fun o ho=>hl o (by simp [ho])) (fun o ho=>hm o (by simp [ho])) (fun i hi hj=>hc (i+1) (by simpa using hi) (by simpa using hj)) h2
  have ha:=hl a (by simp)
  have hb:=hm b (by simp)
  unfold outS listS at h1
  obtain⟨h5,h6⟩:=List.append_inj h1 (by rw [digsAll_len,digsAll_len];rfl)
  obtain⟨-,h7⟩:=List.append_inj h6 (by rw [digs_len,digs_len])
  have e1:=digsAll_inj (l:= [a.commit,a.p0,a.p1]) (m:= [b.commit,b.p0,b.p1]) (by simp;exact⟨ha.c,ha.p0,ha.p1⟩) (by simp;exact⟨hb.c,hb.p0,hb.p1⟩) h5
  have e2:=digsAll_inj ha.ci hb.ci h7
  simp only [List.cons.injEq,and_true]at e1
  refine⟨?_,h4⟩
  rw [h3]
  congr 1
  cases a;cases b
  simp_all
theorem encS_inj {t t':TxM} (ok:OkT t) (ok':OkT t') (hm:t.marks.length≤4294967295) (hm':t'.marks.length≤4294967295) (hp:t.proof.length≤4294967295) (hp':t'.proof.length≤4294967295)
   (ho:t.outs.length=t'.outs.length) (he:t.exp=t'.exp) (hc: ∀i (hi:i<t.outs.length) (hj:i<t'.outs.length),t.outs[i].cipher.length=t'.outs[i].cipher.length) (h:encS t t.proof=encS t' t'.proof):t=t':=by
 unfold encS listS at h
 simp only [List.append_assoc]at h
 obtain⟨h1,h⟩:=List.append_inj h (by rw [digs_len,digs_len])
 obtain⟨h2,h⟩:=List.append_inj h (by rw [digs_len,digs_len])
 have b1:=okU_in ok.anchor;have b1':=okU_in ok'.anchor
 have e1:=digs_bytej 8 b1.1 b1'.1 (by have:=b1.2;omega) (by have:=b1'.2;omega) h1
 have e2:=digs_bytej 4 (a:=(t.marks.length:Int)) (b:=(t'.marks.length:Int)) (by omega) (by omega) (by omega) (by omega) h2
 obtain⟨h3,h⟩:=List.append_inj h (by rw [digsAll_len,digsAll_len];omega)
 have e3:=digsAll_inj ok.marks ok'.marks h3
 obtain⟨-,h⟩:=List.append_inj h (by rw [digs_len,digs_len])
 obtain⟨e4,h⟩:=outsS_inj ho ok.outs ok'.outs hc h
 obtain⟨h5,h⟩:=List.append_inj h (by rw [digsAll_len,digsAll_len];rfl)
 have e5:=digsAll_inj (l:= [t.dep,t.wd,t.fee,t.acc,t.nonce]) (m:= [t'.dep,t'.wd,t'.fee,t'.acc,t'.nonce]) (by simp;exact⟨ok.dep,ok.wd,ok.fee,ok.acc,ok.nonce⟩) (by simp;exact⟨ok'.dep,ok'.wd,ok'.fee,ok'.acc,ok'.nonce⟩) h5
 obtain⟨-,h⟩:=List.append_inj h (by rw [digs_len,digs_len])
 obtain⟨-,h⟩:=List.append_inj h (by rw [digs_len,digs_len])
 simp only [List.cons.injEq,and_true]at e5
 cases t;cases t'
 simp_all
end Go.Proofs.YtjknlhiimmbilaaGreatDoor
/- The bytes of a transaction in the reference, whatever its expiry. -/
set_option maxRecDepth 100000
set_option maxHeartbeats 16000000
namespace Go.Proofs.YtjknlhiimmbilaaGreatDoor
open Go.ChangeShapes Go.WideShapes Go.ChangeAt Go.RowKit Go.Sort
def clampI (n:Int):Int:=if n<0∨4294967296≤n then 0 else n
def encE (t:TxM):List Int:=encS ⟨t.anchor,t.marks,t.outs,t.dep,t.wd,t.fee,t.acc,t.nonce,clampI t.exp,t.proof⟩ t.proof
theorem rInt_all (w:World)(n:Int):Calls Tryz.prog 128 #[.int .i64 n] w (GrewTo w.heap.size w (digs 4 (clampI n))):=by
 by_cases h:n<0∨4294967296≤n
 · have HF:Hid (clampI n=0):=if_pos h
   have e1:IntKind.u64.wrap (0:Int)=0:=by rw [IntKind.wrap_u64];rfl
   go_enter Tryz.func128,Tryz.ntmps128
   rcases h with h|h
   · go_wp2_with fail
     refine(rDigits_any w 0 (by omega) (by omega) 4 (by omega)).mono ?_
     intro e w1 h
     obtain⟨a,cap,rfl,ho, -,hb⟩:=h.read;have HO:=Hd ho;clear ho h;go_wp2_with fail;go_ret;rw [HF.out]
     exact⟨_,rfl,HO.out,hb⟩
   · have h': ¬n<0:=by omega
     go_wp2_with fail
     refine(rDigits_any w 0 (by omega) (by omega) 4 (by omega)).mono ?_
     intro e w1 h
     obtain⟨a,cap,rfl,ho, -,hb⟩:=h.read;have HO:=Hd ho;clear ho h;go_wp2_with fail;go_ret;rw [HF.out]
     exact⟨_,rfl,HO.out,hb⟩
 · rw [show clampI n=n from if_neg h]
   exact rInt_int w n (by omega) (by omega)
theorem rTxBytes_gen (S:Nat→Prop)(w:World)(t:TxM)(ma oa pa:Option Addr)(mc oc pc:Nat)(h:TxIn S w t ma oa pa mc oc pc)(l1:t.marks.length≤1000)(l2:t.outs.length≤1000)(l3: ∀o∈t.outs,o.cipher.length≤1000)(l4:t.proof.length≤2000000):
   Calls Tryz.prog 88 #[.agg #[.int .u64 t.anchor,.slice ma t.marks.length mc,.slice oa t.outs.length oc,.int .u64 t.dep,.int .u64 t.wd,.int .u64 t.fee,.int .u64 t.acc,.int .u64 t.nonce,.int .i64 t.exp,.slice pa t.proof.length pc]] w fun e w'=> ∃a cap,e= .returned (.slice a (encE t).length cap)∧bytesR.rel (fun _=>True) w' [.slice a (encE t).length cap] (encE t)∧Below w.heap.size w w':=by
 have hbB:=(bnew (Below.refl w.heap.size w) (.cells #[.int .u64 t.anchor,.slice ma t.marks.length mc,.slice oa t.outs.length oc,.int .u64 t.dep,.int .u64 t.wd,.int .u64 t.fee,.int .u64 t.acc,.int .u64 t.nonce,.int .i64 t.exp,.slice pa t.proof.length pc] 111));have HA0:=Hd (box_new w (.cells #[.int .u64 t.anchor,.slice ma t.marks.length mc,.slice oa t.outs.length oc,.int .u64 t.dep,.int .u64 t.wd,.int .u64 t.fee,.int .u64 t.acc,.int .u64 t.nonce,.int .i64 t.exp,.slice pa t.proof.length pc] 111));have HBel:=Hd hbB;have H:=Hd (h.keepB hbB);have d0:=okU_in h.anchor;clear h hbB
 go_enter Tryz.func88,Tryz.ntmps88
 go_wp2_with fail;generalize w.alloc (.cells #[.int .u64 t.anchor,.slice ma t.marks.length mc,.slice oa t.outs.length oc,.int .u64 t.dep,.int .u64 t.wd,.int .u64 t.fee,.int .u64 t.acc,.int .u64 t.nonce,.int .i64 t.exp,.slice pa t.proof.length pc] 111)=W at*
 refine(rDigits_any W t.anchor d0.1 d0.2 8 (by omega)).mono ?_
 intro e w0 h
 obtain⟨a0,c0,rfl,ho0, -,hb0⟩:=h.read;have HO0:=Hd ho0;clear h ho0;have hn0:(digs 8 t.anchor).length=8:=digs_len _ _;obtain⟨x0,x1⟩:=box_cells (box_after hb0 HA0.out);go_wp2_with fail
 refine(rList_any S w0 ma mc t.marks (numsR.keepB H.out.marks hb0) (by omega)).mono ?_
 intro e wc1 h
 obtain⟨ac1,cc1,rfl, -,hr1,hbc1⟩:=h.read;have HR1:=Hd hr1;have hbk1:=bnext hb0 hbc1;have hBk1:=hbk1.size;have HOc1:=Hd (HO0.out.keepB hbc1);clear h hr1
 have HLEN1:Hid ((digs 8 t.anchor).length+(listS t.marks).length≤maxLen∧((digs 8 t.anchor).length+(listS t.marks).length)*1≤140737488355328):=by simp only [listS_len,digs_len];unfold maxLen;constructor<;>omega
 go_wp2_with (at_builtin;refine wpList_cat (k:= .u8) (v:=(.slice a0 (digs 8 t.anchor).length c0)) (u:= .slice ac1 (listS t.marks).length cc1) (w0:=W) (B:=W.heap.size) (wr:=wc1) (xs:=(digs 8 t.anchor)) (ys:=listS t.marks) rfl _ _ rfl Tryz.etyBytes rfl rfl hbk1 hBk1 HOc1.out HR1.out HLEN1.out.1 HLEN1.out.2 ?_)
 intro v1 w1 ho1 hb1
 have hp1:=Own.mono ho1 (F':=fun x=>False∨W.heap.size≤x) fun x _ h=>by first|exact h|exact .inr h
 obtain⟨L1,hL1⟩: ∃l,(digs 8 t.anchor)++listS t.marks=l:=⟨_,rfl⟩;have HL1:=Hd hL1
 have hn1:L1.length=(digs 8 t.anchor).length+(listS t.marks).length:=by rw [←hL1,List.length_append]
 rw [hL1]at hp1;have HO1:=Hd hp1;clear hp1 ho1 hL1;rw [listS_len]at hn1;clear x0 x1;obtain⟨x0,x1⟩:=box_cells (box_after hb1 HA0.out);go_wp2_with fail
 refine(rInt_any w1 t.outs.length (by omega)).mono ?_
 intro e wc2 h
 obtain⟨ac2,cc2,rfl, -,hr2,hbc2⟩:=h.read;have HR2:=Hd hr2;have hbk2:=bnext hb1 hbc2;have hBk2:=hbk2.size;have HOc2:=Hd (HO1.out.keepB hbc2);clear h hr2
 have HLEN2:Hid (L1.length+(digs 4 (t.outs.length:Int)).length≤maxLen∧(L1.length+(digs 4 (t.outs.length:Int)).length)*1≤140737488355328):=by simp only [digs_len];unfold maxLen;constructor<;>omega
 go_wp2_with (at_builtin;refine wpList_cat (k:= .u8) (v:=v1) (u:= .slice ac2 (digs 4 (t.outs.length:Int)).length cc2) (w0:=W) (B:=W.heap.size) (wr:=wc2) (xs:=L1) (ys:=digs 4 (t.outs.length:Int)) rfl _ _ rfl Tryz.etyBytes rfl rfl hbk2 hBk2 HOc2.out HR2.out HLEN2.out.1 HLEN2.out.2 ?_)
 intro v2 w2 ho2 hb2
 have hp2:=Own.mono ho2 (F':=fun x=>False∨W.heap.size≤x) fun x _ h=>by first|exact h|exact .inr h
 obtain⟨L2,hL2⟩: ∃l,L1++digs 4 (t.outs.length:Int)=l:=⟨_,rfl⟩;have HL2:=Hd hL2
 have hn2:L2.length=L1.length+(digs 4 (t.outs.length:Int)).length:=by rw [←hL2,List.length_append]
 rw [hL2]at hp2;have HO2:=Hd hp2;clear hp2 ho2 hL2;rw [digs_len]at hn2;clear x0 x1;go_wp2_with fail
 go_loopw [3,4] (fun vb vi wr=> ∃(k:Nat) (L:List Int),k≤t.outs.length∧vi= .int .i64 k∧Own u8R W.heap.size 5 (fun x=>False∨W.heap.size≤x) wr vb L∧Below W.heap.size W wr∧Hid (L=L2++outsS (t.outs.take k))∧L.length≤20000+9000*k) (fun _ vi _=>t.outs.length-(intOf vi).toNat)
 case atStart=>exact⟨0,L2,Nat.zero_le _,rfl,HO2.out,hb2,by show _=_;simp [outsS],by omega⟩
 case round=>
   obtain⟨k,L,hk,rfl,hor,hbr,hLk,hLl⟩:=hrel;clear hb2 HO2
   by_cases hlt:k<t.outs.length
   · obtain⟨b,off,ca,cc,rfl, -,hbl,k1,k2,k3,hci,q0',q1',q2',q3'⟩:=outs_at H.out.outs k hlt
     have c0':=(hbr.cell (cell_lt q0')).trans q0';have c1':=(hbr.cell (cell_lt q1')).trans q1';have c2':=(hbr.cell (cell_lt q2')).trans q2';have c3':=(hbr.cell (cell_lt q3')).trans q3';clear q0' q1' q2' q3';obtain⟨x0,x1⟩:=box_cells (box_after hbr HA0.out)
     have i0:(0:Int)≤(k:Int):=by omega
     have i1:(k:Int)<(t.outs.length:Int):=by omega
     have HT:Hid (outsS (t.outs.take (k+1))=outsS (t.outs.take k)++outS t.outs[k]):=by show _=_;rw [List.take_succ_eq_append_getElem hlt,outsS_snoc]
     have hcl:=l3 t.outs[k] (List.getElem_mem hlt);generalize t.outs[k]=o at*;have HCI:=Hd hci;have HK:=Hd (And.intro k1 (And.intro k2 k3));have HOR:=Hd hor;have hbn:=bnew (bnew (Below.refl wr.heap.size wr) (.cells #[.int .u64 o.commit,.int .u64 o.p0,.int .u64 o.p1,.slice ca o.cipher.length cc] 134)) (.cells #[.int .u64 o.commit,.int .u64 o.p0,.int .u64 o.p1] 24);have HX0:=Hd (two_new wr (.cells #[.int .u64 o.commit,.int .u64 o.p0,.int .u64 o.p1,.slice ca o.cipher.length cc] 134) (.cells #[.int .u64 o.commit,.int .u64 o.p0,.int .u64 o.p1] 24));have HBN:=Hd (bnext hbr hbn);have HON:=Hd (HOR.out.keepB hbn)
     have HNN:=Hd (fun j (hj:j=wr.heap.size∨j=wr.heap.size+1)=>(fun he=>by have:=(HOR.out.lt he).1;omega:u3.ownBlock≠some j))
     clear hor hci hbn k1 k2 k3;go_wp2_with fail;clear x0 x1 c0' c1' c2' c3';generalize (wr.alloc (.cells #[.int .u64 o.commit,.int .u64 o.p0,.int .u64 o.p1,.slice ca o.cipher.length cc] 134)).alloc (.cells #[.int .u64 o.commit,.int .u64 o.p0,.int .u64 o.p1] 24)=wl at*;obtain⟨X,hX⟩: ∃X,wr.heap.size=X:=⟨_,rfl⟩
     have hXl:X+1<wl.heap.size:=by rw [←hX];exact box_lt HX0.out.1
     rw [hX]at HX0 HNN⊢
     go_loopw [3,7] (fun vb vk wq=> ∃(k2:Nat) (M2:List Int),k2≤3∧vk= .int .i64 k2∧Own u8R W.heap.size 5 (fun x=>False∨W.heap.size≤x) wq vb M2∧Below W.heap.size W wq∧Hid (M2=L++digsAll (outTo o k2))∧wq.heap[X]? =some (.cells #[.int .u64 o.commit,.int .u64 o.p0,.int .u64 o.p1,.slice ca o.cipher.length cc] 134 (0,0))∧wq.heap[X+1]? =some (.cells #[.int .u64 o.commit,.int .u64 o.p0,.int .u64 o.p1] 24 (0,0))∧(∀j,j=X∨j=X+1→vb.ownBlock≠some j)∧M2.length≤L.length+8*k2) (fun _ vk _=>3-(intOf vk).toNat)
     case atStart=>exact⟨0,L,by omega,rfl,HON.out,HBN.out,by show _=_;simp [outTo,digsAll],HX0.out.2,HX0.out.1,HNN.out,by omega⟩
     case round=>
       obtain⟨k2,M2,hk2,rfl,hoq,hbq,HM2,hxb,hxl,hno,hm2⟩:=hrel;have HOQ:=Hd hoq;have HNO:=Hd hno;have HBX:=Hd hxb;have HXL:=Hd hxl;have hXq:=box_lt hxl;clear hoq hno
       by_cases h3:k2<3
       · have hcase:k2=0∨k2=1∨k2=2:=by omega
         rcases hcase with h0|h0|h0
         · obtain rfl:k2=0:=by omega
           have x0:=HXL.out;obtain⟨b0,b1⟩:=box_cells hxl;have d:=okU_in HK.out.1;go_wp2_with fail
           refine(rDigits_any wr o.commit d.1 d.2 8 (by omega)).mono ?_
           intro e wc20 h
           obtain⟨ac20,cc20,rfl, -,hr20,hbc20⟩:=h.read;have HR20:=Hd hr20;have hbk20:=bnext hbq hbc20;have hBk20:=hbk20.size;have HOc20:=Hd (HOQ.out.keepB hbc20);clear h hr20
           have HLEN20:Hid (M2.length+(digs 8 o.commit).length≤maxLen∧(M2.length+(digs 8 o.commit).length)*1≤140737488355328):=by simp only [digs_len];unfold maxLen;constructor<;>omega
           go_wp2_with (at_builtin;refine wpList_catK (k:= .u8) (v:=u3) (u:= .slice ac20 (digs 8 o.commit).length cc20) (w0:=W) (B:=W.heap.size) (wr:=wc20) (xs:=M2) (ys:=digs 8 o.commit) rfl _ _ rfl Tryz.etyBytes rfl rfl hbk20 hBk20 HOc20.out HR20.out HLEN20.out.1 HLEN20.out.2 ?_)
           intro v20 w20 ho20 hb20 hk20 hl20
           have hp20:=Own.mono ho20 (F':=fun x=>False∨W.heap.size≤x) fun x _ h=>by first|exact h|exact .inr h
           have HNX:=Hd (fun j (hj:j=X∨j=X+1)=>(by
               rcases hl20 with h|h
               · rw [h];exact HNO.out j hj
               · rw [h];intro he;have he':=Option.some.inj he;have:=hbc20.size;rcases hj with rfl|rfl<;>omega:v20.ownBlock≠some j))
           have HX1:=Hd (box_kept hk20 (box_after hbc20 HBX.out) (HNO.out X (.inl rfl)));have HX2:=Hd (box_kept hk20 (box_after hbc20 hxl) (HNO.out (X+1) (.inr rfl)))
           have HZ:Hid (M2++digs 8 o.commit=L++digsAll [o.commit]):=by show _=_;rw [HM2.out];simp [digsAll,outTo]
           obtain⟨L20,hL20⟩: ∃l,M2++digs 8 o.commit=l:=⟨_,rfl⟩;have HL20:=Hd hL20
           have hn20:L20.length=M2.length+(digs 8 o.commit).length:=by rw [←hL20,List.length_append]
           rw [hL20]at hp20;have HO20:=Hd hp20;clear hp20 ho20 hL20;go_wp2_with fail
           go_roundw
           case rel=>exact⟨1,L20,by omega,by go_num,HO20.out,hb20,by show _=_;rw [←HL20.out];exact HZ.out,HX1.out,HX2.out,HNX.out,by rw [hn20,digs_len];omega⟩
           case measure=>simp [intOf]
         · obtain rfl:k2=1:=by omega
           have x0:=HXL.out;obtain⟨b0,b1⟩:=box_cells hxl;have d:=okU_in HK.out.2.1;go_wp2_with fail
           refine(rDigits_any wr o.p0 d.1 d.2 8 (by omega)).mono ?_
           intro e wc21 h
           obtain⟨ac21,cc21,rfl, -,hr21,hbc21⟩:=h.read;have HR21:=Hd hr21;have hbk21:=bnext hbq hbc21;have hBk21:=hbk21.size;have HOc21:=Hd (HOQ.out.keepB hbc21);clear h hr21
           have HLEN21:Hid (M2.length+(digs 8 o.p0).length≤maxLen∧(M2.length+(digs 8 o.p0).length)*1≤140737488355328):=by simp only [digs_len];unfold maxLen;constructor<;>omega
           go_wp2_with (at_builtin;refine wpList_catK (k:= .u8) (v:=u3) (u:= .slice ac21 (digs 8 o.p0).length cc21) (w0:=W) (B:=W.heap.size) (wr:=wc21) (xs:=M2) (ys:=digs 8 o.p0) rfl _ _ rfl Tryz.etyBytes rfl rfl hbk21 hBk21 HOc21.out HR21.out HLEN21.out.1 HLEN21.out.2 ?_)
           intro v21 w21 ho21 hb21 hk21 hl21
           have hp21:=Own.mono ho21 (F':=fun x=>False∨W.heap.size≤x) fun x _ h=>by first|exact h|exact .inr h
           have HNX:=Hd (fun j (hj:j=X∨j=X+1)=>(by
               rcases hl21 with h|h
               · rw [h];exact HNO.out j hj
               · rw [h];intro he;have he':=Option.some.inj he;have:=hbc21.size;rcases hj with rfl|rfl<;>omega:v21.ownBlock≠some j))
           have HX1:=Hd (box_kept hk21 (box_after hbc21 HBX.out) (HNO.out X (.inl rfl)));have HX2:=Hd (box_kept hk21 (box_after hbc21 hxl) (HNO.out (X+1) (.inr rfl)))
           have HZ:Hid (M2++digs 8 o.p0=L++digsAll [o.commit,o.p0]):=by show _=_;rw [HM2.out];simp [digsAll,outTo]
           obtain⟨L21,hL21⟩: ∃l,M2++digs 8 o.p0=l:=⟨_,rfl⟩;have HL21:=Hd hL21
           have hn21:L21.length=M2.length+(digs 8 o.p0).length:=by rw [←hL21,List.length_append]
           rw [hL21]at hp21;have HO21:=Hd hp21;clear hp21 ho21 hL21;go_wp2_with fail
           go_roundw
           case rel=>exact⟨2,L21,by omega,by go_num,HO21.out,hb21,by show _=_;rw [←HL21.out];exact HZ.out,HX1.out,HX2.out,HNX.out,by rw [hn21,digs_len];omega⟩
           case measure=>simp [intOf]
         · obtain rfl:k2=2:=by omega
           have x0:=HXL.out;obtain⟨b0,b1⟩:=box_cells hxl;have d:=okU_in HK.out.2.2;go_wp2_with fail
           refine(rDigits_any wr o.p1 d.1 d.2 8 (by omega)).mono ?_
           intro e wc22 h
           obtain⟨ac22,cc22,rfl, -,hr22,hbc22⟩:=h.read;have HR22:=Hd hr22;have hbk22:=bnext hbq hbc22;have hBk22:=hbk22.size;have HOc22:=Hd (HOQ.out.keepB hbc22);clear h hr22
           have HLEN22:Hid (M2.length+(digs 8 o.p1).length≤maxLen∧(M2.length+(digs 8 o.p1).length)*1≤140737488355328):=by simp only [digs_len];unfold maxLen;constructor<;>omega
           go_wp2_with (at_builtin;refine wpList_catK (k:= .u8) (v:=u3) (u:= .slice ac22 (digs 8 o.p1).length cc22) (w0:=W) (B:=W.heap.size) (wr:=wc22) (xs:=M2) (ys:=digs 8 o.p1) rfl _ _ rfl Tryz.etyBytes rfl rfl hbk22 hBk22 HOc22.out HR22.out HLEN22.out.1 HLEN22.out.2 ?_)
           intro v22 w22 ho22 hb22 hk22 hl22
           have hp22:=Own.mono ho22 (F':=fun x=>False∨W.heap.size≤x) fun x _ h=>by first|exact h|exact .inr h
           have HNX:=Hd (fun j (hj:j=X∨j=X+1)=>(by
               rcases hl22 with h|h
               · rw [h];exact HNO.out j hj
               · rw [h];intro he;have he':=Option.some.inj he;have:=hbc22.size;rcases hj with rfl|rfl<;>omega:v22.ownBlock≠some j))
           have HX1:=Hd (box_kept hk22 (box_after hbc22 HBX.out) (HNO.out X (.inl rfl)));have HX2:=Hd (box_kept hk22 (box_after hbc22 hxl) (HNO.out (X+1) (.inr rfl)))
           have HZ:Hid (M2++digs 8 o.p1=L++digsAll [o.commit,o.p0,o.p1]):=by show _=_;rw [HM2.out];simp [digsAll,outTo]
           obtain⟨L22,hL22⟩: ∃l,M2++digs 8 o.p1=l:=⟨_,rfl⟩;have HL22:=Hd hL22
           have hn22:L22.length=M2.length+(digs 8 o.p1).length:=by rw [←hL22,List.length_append]
           rw [hL22]at hp22;have HO22:=Hd hp22;clear hp22 ho22 hL22;go_wp2_with fail
           go_roundw
           case rel=>exact⟨3,L22,by omega,by go_num,HO22.out,hb22,by show _=_;rw [←HL22.out];exact HZ.out,HX1.out,HX2.out,HNX.out,by rw [hn22,digs_len];omega⟩
           case measure=>simp [intOf]
       · obtain rfl:k2=3:=by omega
         obtain⟨b0,b1⟩:=box_cells hxb;go_wp2_with fail
         refine(rList_any S wr ca cc o.cipher (numsR.keepB HCI.out hbq) (by omega)).mono ?_
         intro e wc30 h
         obtain⟨ac30,cc30,rfl, -,hr30,hbc30⟩:=h.read;have HR30:=Hd hr30;have hbk30:=bnext hbq hbc30;have hBk30:=hbk30.size;have HOc30:=Hd (HOQ.out.keepB hbc30);clear h hr30
         have HLEN30:Hid (M2.length+(listS o.cipher).length≤maxLen∧(M2.length+(listS o.cipher).length)*1≤140737488355328):=by simp only [listS_len];unfold maxLen;constructor<;>omega
         go_wp2_with (at_builtin;refine wpList_cat (k:= .u8) (v:=u3) (u:= .slice ac30 (listS o.cipher).length cc30) (w0:=W) (B:=W.heap.size) (wr:=wc30) (xs:=M2) (ys:=listS o.cipher) rfl _ _ rfl Tryz.etyBytes rfl rfl hbk30 hBk30 HOc30.out HR30.out HLEN30.out.1 HLEN30.out.2 ?_)
         intro v30 w30 ho30 hb30
         have hp30:=Own.mono ho30 (F':=fun x=>False∨W.heap.size≤x) fun x _ h=>by first|exact h|exact .inr h
         obtain⟨L30,hL30⟩: ∃l,M2++listS o.cipher=l:=⟨_,rfl⟩;have HL30:=Hd hL30
         have hn30:L30.length=M2.length+(listS o.cipher).length:=by rw [←hL30,List.length_append]
         rw [hL30]at hp30;have HO30:=Hd hp30;clear hp30 ho30 hL30;rw [listS_len]at hn30
         have HZ:Hid (L30=L2++outsS (t.outs.take (k+1))):=by
           show _=_
           rw [←HL30.out,HM2.out,hLk.out,HT.out]
           simp only [outS,outTo,List.append_assoc]
         go_wp2_with fail
         go_roundw
         case rel=>exact⟨k+1,L30,by omega,by go_num,HO30.out,hb30,HZ,by omega⟩
         case measure=>simp [intOf];omega
   · obtain rfl:k=t.outs.length:=by omega
     have HL3:Hid (L=L2++outsS t.outs):=by show _=_;rw [hLk.out,List.take_length]
     have HOR:=Hd hor;obtain⟨x0,x1⟩:=box_cells (box_after hbr HA0.out);have hb5:=bnew hbr (.cells #[.int .u64 t.dep,.int .u64 t.wd,.int .u64 t.fee,.int .u64 t.acc,.int .u64 t.nonce] 24);have HB5:=Hd (box_new wr (.cells #[.int .u64 t.dep,.int .u64 t.wd,.int .u64 t.fee,.int .u64 t.acc,.int .u64 t.nonce] 24));have HO5:=Hd (HOR.out.keepB (bnew (Below.refl wr.heap.size wr) (.cells #[.int .u64 t.dep,.int .u64 t.wd,.int .u64 t.fee,.int .u64 t.acc,.int .u64 t.nonce] 24)))
     have HNY:Hid (u3.ownBlock≠some wr.heap.size):=fun he=>by have:=(HOR.out.lt he).1;omega
     clear hor hLk;go_wp2_with fail;clear x0 x1;generalize wr.alloc (.cells #[.int .u64 t.dep,.int .u64 t.wd,.int .u64 t.fee,.int .u64 t.acc,.int .u64 t.nonce] 24)=w5 at*;obtain⟨Y,hY⟩: ∃Y,wr.heap.size=Y:=⟨_,rfl⟩
     have hY5:Y<w5.heap.size:=by rw [←hY];exact box_lt HB5.out
     rw [hY]at HB5 HNY⊢;clear hY
     go_loopw [3,9] (fun vb vk wr=> ∃(k:Nat) (M2:List Int),k≤5∧vk= .int .i64 k∧Own u8R W.heap.size 5 (fun x=>False∨W.heap.size≤x) wr vb M2∧Below W.heap.size W wr∧Hid (M2=L++digsAll (fiveTo t k))∧wr.heap[Y]? =some (.cells #[.int .u64 t.dep,.int .u64 t.wd,.int .u64 t.fee,.int .u64 t.acc,.int .u64 t.nonce] 24 (0,0))∧vb.ownBlock≠some Y∧M2.length≤L.length+8*k) (fun _ vk _=>5-(intOf vk).toNat)
     case atStart=>exact⟨0,L,by omega,rfl,HO5.out,hb5,by show _=_;simp [fiveTo,digsAll],HB5.out,HNY.out,by omega⟩
     case round=>
       clear hb5 hbr HOR;obtain⟨k,M2,hk,rfl,hoq,hbr,HM2,hyl,hno,hm2⟩:=hrel;have HOQ:=Hd hoq;have HNO:=Hd hno;have hYl:=box_lt hyl;clear hoq hno
       by_cases h5:k<5
       · have hcase:k=0∨k=1∨k=2∨k=3∨k=4:=by omega
         rcases hcase with h0|h0|h0|h0|h0
         · obtain rfl:k=0:=by omega
           obtain⟨b0,b1⟩:=box_cells hyl;have d:=okU_in H.out.dep;go_wp2_with fail
           refine(rDigits_any wr t.dep d.1 d.2 8 (by omega)).mono ?_
           intro e wc40 h
           obtain⟨ac40,cc40,rfl, -,hr40,hbc40⟩:=h.read;have HR40:=Hd hr40;have hbk40:=bnext hbr hbc40;have hBk40:=hbk40.size;have HOc40:=Hd (HOQ.out.keepB hbc40);clear h hr40
           have HLEN40:Hid (M2.length+(digs 8 t.dep).length≤maxLen∧(M2.length+(digs 8 t.dep).length)*1≤140737488355328):=by simp only [digs_len];unfold maxLen;constructor<;>omega
           go_wp2_with (at_builtin;refine wpList_catK (k:= .u8) (v:=u3) (u:= .slice ac40 (digs 8 t.dep).length cc40) (w0:=W) (B:=W.heap.size) (wr:=wc40) (xs:=M2) (ys:=digs 8 t.dep) rfl _ _ rfl Tryz.etyBytes rfl rfl hbk40 hBk40 HOc40.out HR40.out HLEN40.out.1 HLEN40.out.2 ?_)
           intro v40 w40 ho40 hb40 hk40 hl40
           have hp40:=Own.mono ho40 (F':=fun x=>False∨W.heap.size≤x) fun x _ h=>by first|exact h|exact .inr h
           have HNX:Hid (v40.ownBlock≠some Y):=by
             show _≠_
             rcases hl40 with h|h
             · rw [h];exact HNO.out
             · rw [h];intro he;have he':=Option.some.inj he;have:=hbc40.size;omega
           have HX2:=Hd (box_kept hk40 (box_after hbc40 hyl) HNO.out)
           have HZ:Hid (M2++digs 8 t.dep=L++digsAll [t.dep]):=by show _=_;rw [HM2.out];simp [digsAll,fiveTo]
           obtain⟨L40,hL40⟩: ∃l,M2++digs 8 t.dep=l:=⟨_,rfl⟩;have HL40:=Hd hL40
           have hn40:L40.length=M2.length+(digs 8 t.dep).length:=by rw [←hL40,List.length_append]
           rw [hL40]at hp40;have HO40:=Hd hp40;clear hp40 ho40 hL40;go_wp2_with fail
           go_roundw
           case rel=>exact⟨1,L40,by omega,by go_num,HO40.out,hb40,by show _=_;rw [←HL40.out];exact HZ.out,HX2.out,HNX.out,by rw [hn40,digs_len];omega⟩
           case measure=>simp [intOf]
         · obtain rfl:k=1:=by omega
           obtain⟨b0,b1⟩:=box_cells hyl;have d:=okU_in H.out.wd;go_wp2_with fail
           refine(rDigits_any wr t.wd d.1 d.2 8 (by omega)).mono ?_
           intro e wc41 h
           obtain⟨ac41,cc41,rfl, -,hr41,hbc41⟩:=h.read;have HR41:=Hd hr41;have hbk41:=bnext hbr hbc41;have hBk41:=hbk41.size;have HOc41:=Hd (HOQ.out.keepB hbc41);clear h hr41
           have HLEN41:Hid (M2.length+(digs 8 t.wd).length≤maxLen∧(M2.length+(digs 8 t.wd).length)*1≤140737488355328):=by simp only [digs_len];unfold maxLen;constructor<;>omega
           go_wp2_with (at_builtin;refine wpList_catK (k:= .u8) (v:=u3) (u:= .slice ac41 (digs 8 t.wd).length cc41) (w0:=W) (B:=W.heap.size) (wr:=wc41) (xs:=M2) (ys:=digs 8 t.wd) rfl _ _ rfl Tryz.etyBytes rfl rfl hbk41 hBk41 HOc41.out HR41.out HLEN41.out.1 HLEN41.out.2 ?_)
           intro v41 w41 ho41 hb41 hk41 hl41
           have hp41:=Own.mono ho41 (F':=fun x=>False∨W.heap.size≤x) fun x _ h=>by first|exact h|exact .inr h
           have HNX:Hid (v41.ownBlock≠some Y):=by
             show _≠_
             rcases hl41 with h|h
             · rw [h];exact HNO.out
             · rw [h];intro he;have he':=Option.some.inj he;have:=hbc41.size;omega
           have HX2:=Hd (box_kept hk41 (box_after hbc41 hyl) HNO.out)
           have HZ:Hid (M2++digs 8 t.wd=L++digsAll [t.dep,t.wd]):=by show _=_;rw [HM2.out];simp [digsAll,fiveTo]
           obtain⟨L41,hL41⟩: ∃l,M2++digs 8 t.wd=l:=⟨_,rfl⟩;have HL41:=Hd hL41
           have hn41:L41.length=M2.length+(digs 8 t.wd).length:=by rw [←hL41,List.length_append]
           rw [hL41]at hp41;have HO41:=Hd hp41;clear hp41 ho41 hL41;go_wp2_with fail
           go_roundw
           case rel=>exact⟨2,L41,by omega,by go_num,HO41.out,hb41,by show _=_;rw [←HL41.out];exact HZ.out,HX2.out,HNX.out,by rw [hn41,digs_len];omega⟩
           case measure=>simp [intOf]
         · obtain rfl:k=2:=by omega
           obtain⟨b0,b1⟩:=box_cells hyl;have d:=okU_in H.out.fee;go_wp2_with fail
           refine(rDigits_any wr t.fee d.1 d.2 8 (by omega)).mono ?_
           intro e wc42 h
           obtain⟨ac42,cc42,rfl, -,hr42,hbc42⟩:=h.read;have HR42:=Hd hr42;have hbk42:=bnext hbr hbc42;have hBk42:=hbk42.size;have HOc42:=Hd (HOQ.out.keepB hbc42);clear h hr42
           have HLEN42:Hid (M2.length+(digs 8 t.fee).length≤maxLen∧(M2.length+(digs 8 t.fee).length)*1≤140737488355328):=by simp only [digs_len];unfold maxLen;constructor<;>omega
           go_wp2_with (at_builtin;refine wpList_catK (k:= .u8) (v:=u3) (u:= .slice ac42 (digs 8 t.fee).length cc42) (w0:=W) (B:=W.heap.size) (wr:=wc42) (xs:=M2) (ys:=digs 8 t.fee) rfl _ _ rfl Tryz.etyBytes rfl rfl hbk42 hBk42 HOc42.out HR42.out HLEN42.out.1 HLEN42.out.2 ?_)
           intro v42 w42 ho42 hb42 hk42 hl42
           have hp42:=Own.mono ho42 (F':=fun x=>False∨W.heap.size≤x) fun x _ h=>by first|exact h|exact .inr h
           have HNX:Hid (v42.ownBlock≠some Y):=by
             show _≠_
             rcases hl42 with h|h
             · rw [h];exact HNO.out
             · rw [h];intro he;have he':=Option.some.inj he;have:=hbc42.size;omega
           have HX2:=Hd (box_kept hk42 (box_after hbc42 hyl) HNO.out)
           have HZ:Hid (M2++digs 8 t.fee=L++digsAll [t.dep,t.wd,t.fee]):=by show _=_;rw [HM2.out];simp [digsAll,fiveTo]
           obtain⟨L42,hL42⟩: ∃l,M2++digs 8 t.fee=l:=⟨_,rfl⟩;have HL42:=Hd hL42
           have hn42:L42.length=M2.length+(digs 8 t.fee).length:=by rw [←hL42,List.length_append]
           rw [hL42]at hp42;have HO42:=Hd hp42;clear hp42 ho42 hL42;go_wp2_with fail
           go_roundw
           case rel=>exact⟨3,L42,by omega,by go_num,HO42.out,hb42,by show _=_;rw [←HL42.out];exact HZ.out,HX2.out,HNX.out,by rw [hn42,digs_len];omega⟩
           case measure=>simp [intOf]
         · obtain rfl:k=3:=by omega
           obtain⟨b0,b1⟩:=box_cells hyl;have d:=okU_in H.out.acc;go_wp2_with fail
           refine(rDigits_any wr t.acc d.1 d.2 8 (by omega)).mono ?_
           intro e wc43 h
           obtain⟨ac43,cc43,rfl, -,hr43,hbc43⟩:=h.read;have HR43:=Hd hr43;have hbk43:=bnext hbr hbc43;have hBk43:=hbk43.size;have HOc43:=Hd (HOQ.out.keepB hbc43);clear h hr43
           have HLEN43:Hid (M2.length+(digs 8 t.acc).length≤maxLen∧(M2.length+(digs 8 t.acc).length)*1≤140737488355328):=by simp only [digs_len];unfold maxLen;constructor<;>omega
           go_wp2_with (at_builtin;refine wpList_catK (k:= .u8) (v:=u3) (u:= .slice ac43 (digs 8 t.acc).length cc43) (w0:=W) (B:=W.heap.size) (wr:=wc43) (xs:=M2) (ys:=digs 8 t.acc) rfl _ _ rfl Tryz.etyBytes rfl rfl hbk43 hBk43 HOc43.out HR43.out HLEN43.out.1 HLEN43.out.2 ?_)
           intro v43 w43 ho43 hb43 hk43 hl43
           have hp43:=Own.mono ho43 (F':=fun x=>False∨W.heap.size≤x) fun x _ h=>by first|exact h|exact .inr h
           have HNX:Hid (v43.ownBlock≠some Y):=by
             show _≠_
             rcases hl43 with h|h
             · rw [h];exact HNO.out
             · rw [h];intro he;have he':=Option.some.inj he;have:=hbc43.size;omega
           have HX2:=Hd (box_kept hk43 (box_after hbc43 hyl) HNO.out)
           have HZ:Hid (M2++digs 8 t.acc=L++digsAll [t.dep,t.wd,t.fee,t.acc]):=by show _=_;rw [HM2.out];simp [digsAll,fiveTo]
           obtain⟨L43,hL43⟩: ∃l,M2++digs 8 t.acc=l:=⟨_,rfl⟩;have HL43:=Hd hL43
           have hn43:L43.length=M2.length+(digs 8 t.acc).length:=by rw [←hL43,List.length_append]
           rw [hL43]at hp43;have HO43:=Hd hp43;clear hp43 ho43 hL43;go_wp2_with fail
           go_roundw
           case rel=>exact⟨4,L43,by omega,by go_num,HO43.out,hb43,by show _=_;rw [←HL43.out];exact HZ.out,HX2.out,HNX.out,by rw [hn43,digs_len];omega⟩
           case measure=>simp [intOf]
         · obtain rfl:k=4:=by omega
           obtain⟨b0,b1⟩:=box_cells hyl;have d:=okU_in H.out.nonce;go_wp2_with fail
           refine(rDigits_any wr t.nonce d.1 d.2 8 (by omega)).mono ?_
           intro e wc44 h
           obtain⟨ac44,cc44,rfl, -,hr44,hbc44⟩:=h.read;have HR44:=Hd hr44;have hbk44:=bnext hbr hbc44;have hBk44:=hbk44.size;have HOc44:=Hd (HOQ.out.keepB hbc44);clear h hr44
           have HLEN44:Hid (M2.length+(digs 8 t.nonce).length≤maxLen∧(M2.length+(digs 8 t.nonce).length)*1≤140737488355328):=by simp only [digs_len];unfold maxLen;constructor<;>omega
           go_wp2_with (at_builtin;refine wpList_catK (k:= .u8) (v:=u3) (u:= .slice ac44 (digs 8 t.nonce).length cc44) (w0:=W) (B:=W.heap.size) (wr:=wc44) (xs:=M2) (ys:=digs 8 t.nonce) rfl _ _ rfl Tryz.etyBytes rfl rfl hbk44 hBk44 HOc44.out HR44.out HLEN44.out.1 HLEN44.out.2 ?_)
           intro v44 w44 ho44 hb44 hk44 hl44
           have hp44:=Own.mono ho44 (F':=fun x=>False∨W.heap.size≤x) fun x _ h=>by first|exact h|exact .inr h
           have HNX:Hid (v44.ownBlock≠some Y):=by
             show _≠_
             rcases hl44 with h|h
             · rw [h];exact HNO.out
             · rw [h];intro he;have he':=Option.some.inj he;have:=hbc44.size;omega
           have HX2:=Hd (box_kept hk44 (box_after hbc44 hyl) HNO.out)
           have HZ:Hid (M2++digs 8 t.nonce=L++digsAll [t.dep,t.wd,t.fee,t.acc,t.nonce]):=by show _=_;rw [HM2.out];simp [digsAll,fiveTo]
           obtain⟨L44,hL44⟩: ∃l,M2++digs 8 t.nonce=l:=⟨_,rfl⟩;have HL44:=Hd hL44
           have hn44:L44.length=M2.length+(digs 8 t.nonce).length:=by rw [←hL44,List.length_append]
           rw [hL44]at hp44;have HO44:=Hd hp44;clear hp44 ho44 hL44;go_wp2_with fail
           go_roundw
           case rel=>exact⟨5,L44,by omega,by go_num,HO44.out,hb44,by show _=_;rw [←HL44.out];exact HZ.out,HX2.out,HNX.out,by rw [hn44,digs_len];omega⟩
           case measure=>simp [intOf]
       · obtain rfl:k=5:=by omega
         obtain⟨x0,x1⟩:=box_cells (box_after hbr HA0.out);go_wp2_with fail
         refine(rInt_all wr t.exp).mono ?_
         intro e wc50 h
         obtain⟨ac50,cc50,rfl, -,hr50,hbc50⟩:=h.read;have HR50:=Hd hr50;have hbk50:=bnext hbr hbc50;have hBk50:=hbk50.size;have HOc50:=Hd (HOQ.out.keepB hbc50);clear h hr50
         have HLEN50:Hid (M2.length+(digs 4 (clampI t.exp)).length≤maxLen∧(M2.length+(digs 4 (clampI t.exp)).length)*1≤140737488355328):=by simp only [digs_len];unfold maxLen;constructor<;>omega
         go_wp2_with (at_builtin;refine wpList_cat (k:= .u8) (v:=u3) (u:= .slice ac50 (digs 4 (clampI t.exp)).length cc50) (w0:=W) (B:=W.heap.size) (wr:=wc50) (xs:=M2) (ys:=digs 4 (clampI t.exp)) rfl _ _ rfl Tryz.etyBytes rfl rfl hbk50 hBk50 HOc50.out HR50.out HLEN50.out.1 HLEN50.out.2 ?_)
         intro v50 w50 ho50 hb50
         have hp50:=Own.mono ho50 (F':=fun x=>False∨W.heap.size≤x) fun x _ h=>by first|exact h|exact .inr h
         obtain⟨L50,hL50⟩: ∃l,M2++digs 4 (clampI t.exp)=l:=⟨_,rfl⟩;have HL50:=Hd hL50
         have hn50:L50.length=M2.length+(digs 4 (clampI t.exp)).length:=by rw [←hL50,List.length_append]
         rw [hL50]at hp50;have HO50:=Hd hp50;clear hp50 ho50 hL50;rw [digs_len]at hn50;clear x0 x1;obtain⟨x0,x1⟩:=box_cells (box_after hb50 HA0.out);go_wp2_with fail
         refine(rBytesS_any S w50 pa pc t.proof (bytesR.keepB H.out.proof hb50) (by omega)).mono ?_
         intro e wc51 h
         obtain⟨ac51,cc51,rfl, -,hr51,hbc51⟩:=h.read;have HR51:=Hd hr51;have hbk51:=bnext hb50 hbc51;have hBk51:=hbk51.size;have HOc51:=Hd (HO50.out.keepB hbc51);clear h hr51
         have HLEN51:Hid (L50.length+(bytesS t.proof).length≤maxLen∧(L50.length+(bytesS t.proof).length)*1≤140737488355328):=by simp only [bytesS_len];unfold maxLen;constructor<;>omega
         go_wp2_with (at_builtin;refine wpList_cat (k:= .u8) (v:=v50) (u:= .slice ac51 (bytesS t.proof).length cc51) (w0:=W) (B:=W.heap.size) (wr:=wc51) (xs:=L50) (ys:=bytesS t.proof) rfl _ _ rfl Tryz.etyBytes rfl rfl hbk51 hBk51 HOc51.out HR51.out HLEN51.out.1 HLEN51.out.2 ?_)
         intro v51 w51 ho51 hb51
         have hp51:=Own.mono ho51 (F':=fun x=>False∨W.heap.size≤x) fun x _ h=>by first|exact h|exact .inr h
         obtain⟨L51,hL51⟩: ∃l,L50++bytesS t.proof=l:=⟨_,rfl⟩;have HL51:=Hd hL51
         have hn51:L51.length=L50.length+(bytesS t.proof).length:=by rw [←hL51,List.length_append]
         rw [hL51]at hp51;have HO51:=Hd hp51;clear hp51 ho51 hL51
         have HE:Hid (encE t=L51):=by
           show _=_
           rw [←HL51.out,←HL50.out,HM2.out,HL3.out,←HL2.out,←HL1.out]
           rfl
         obtain⟨a9,c9,rfl, -, -⟩:=sliceR.form HO51.out.slice
         have HS:=Hd (bytesR.mono HO51.out.slice (S':=fun _=>True) fun _ _ _=>trivial)
         clear x0 x1;go_wp2_with fail;go_ret;rw [HE.out]
         exact⟨a9,c9,rfl,HS.out,bnext HBel.out hb51⟩
theorem rTxBytes_any (S:Nat→Prop)(w:World)(t:TxM)(ma oa pa:Option Addr)(mc oc pc:Nat)(h:TxIn S w t ma oa pa mc oc pc)(l1:t.marks.length≤1000)(l2:t.outs.length≤1000)(l3: ∀o∈t.outs,o.cipher.length≤1000)(l4:t.proof.length≤2000000)(ex0:0≤t.exp)(ex1:t.exp≤4294967295):
   Calls Tryz.prog 88 #[.agg #[.int .u64 t.anchor,.slice ma t.marks.length mc,.slice oa t.outs.length oc,.int .u64 t.dep,.int .u64 t.wd,.int .u64 t.fee,.int .u64 t.acc,.int .u64 t.nonce,.int .i64 t.exp,.slice pa t.proof.length pc]] w fun e w'=> ∃a cap,e= .returned (.slice a (encS t t.proof).length cap)∧bytesR.rel (fun _=>True) w' [.slice a (encS t t.proof).length cap] (encS t t.proof)∧Below w.heap.size w w':= by
  have e : encE t = encS t t.proof := by
    unfold encE clampI
    rw [if_neg (by omega)]
  have := rTxBytes_gen S w t ma oa pa mc oc pc h l1 l2 l3 l4
  rw [e] at this
  exact this
end Go.Proofs.YtjknlhiimmbilaaGreatDoor
/- The reference's packed bytes, digests of bytes, the binding of a transaction. -/
set_option maxRecDepth 100000
set_option maxHeartbeats 4000000
namespace Go.Proofs.YtjknlhiimmbilaaGreatDoor
open Go.ChangeShapes Go.WideShapes Go.ChangeAt Go.RowKit Go.Sort
theorem nums_single (w:World)(t:TypeId){x:Int}(hx:okU x):Own u64R w.heap.size t (fun y=>False∨w.heap.size≤y) (w.alloc (.cells #[.int .u64 x] t)) (.slice (some ⟨w.heap.size,0,none⟩) 1 1) [x]:=
 own_ints (k:= .u64) (cur:= [.int .u64 x]) (xs:= [x]) (box_new w _) rfl rfl (by intro y hy;simp at hy;subst hy;exact hx) (Nat.le_refl _) (by have:=maxLen_9;simp;omega) (Nat.le_refl _)
theorem pw7: ∀k:Fin 7,(256:Int)^k.val≤281474976710656∧(0:Int)<256^k.val∧(k.val≤5→(256:Int)^k.val≤1099511627776):=by decide+kernel
theorem pack_new (xs:List Int)(i:Nat)(hi:i<xs.length)(hm:i % 7=0):(((xs.length:Int)::chunks (xs.take i))++ [0]).set (i / 7+1) (0+xs[i]*256^(i % 7))=(xs.length:Int)::chunks (xs.take (i+1)):=by
 have e2:(xs.take i).length=i:=by simp;omega
 rw [chunks_new xs i hi hm,hm,Int.pow_zero,Int.mul_one,Int.zero_add,List.cons_append,List.set_cons_succ,List.set_append_right _ _ (by rw [chunks_len,e2];omega),chunks_len,e2,show i / 7-(i+6) / 7=0 by omega]
 rfl
theorem pack_more (xs:List Int)(i:Nat)(hi:i<xs.length)(hm:i % 7≠0):((xs.length:Int)::chunks (xs.take i)).set (i / 7+1) (chunk (xs.take i) (i / 7)+xs[i]*256^(i % 7))=(xs.length:Int)::chunks (xs.take (i+1)):=by
 rw [List.set_cons_succ,chunks_more xs i hi hm]
theorem rPack_any (S:Nat→Prop)(w:World)(a:Option Addr)(cap:Nat)(xs:List Int)(h:bytesR.rel S w [.slice a xs.length cap] xs)(hx:xs.length≤3000000):
   Calls Tryz.prog 90 #[.slice a xs.length cap] w fun e w'=> ∃a' c',e= .returned (.slice a' (packS xs).length c')∧numsR.rel (fun _=>True) w' [.slice a' (packS xs).length c'] (packS xs)∧Below w.heap.size w w':=by
 have H:=Hd h;have HI:=Hd (bytes_in h)
 have e1:IntKind.u64.wrap (xs.length:Int)=xs.length:=by rw [IntKind.wrap_u64];omega
 have HO:=Hd (nums_single w 24 (okU_of (x:=(xs.length:Int)) (by omega) (by omega)))
 have HB:=Hd (bnew (Below.refl w.heap.size w) (.cells #[.int .u64 (xs.length:Int)] 24));clear h
 go_enter Tryz.func90,Tryz.ntmps90
 go_wp2_with fail
 go_loopw [3,4] (fun vo vi wr=> ∃i:Nat,i≤xs.length∧vi= .int .i64 i∧Own u64R w.heap.size 24 (fun x=>False∨w.heap.size≤x) wr vo ((xs.length:Int)::chunks (xs.take i))∧Below w.heap.size w wr) (fun _ vi _=>xs.length-(intOf vi).toNat)
 case atStart=>exact⟨0,Nat.zero_le _,rfl,by simpa [chunks]using HO.out,HB.out⟩
 case round=>
   obtain⟨i,hi,rfl,hor,hbr⟩:=hrel;have HOR:=Hd hor;have hBr:=hbr.size;clear hor
   by_cases hlt:i<xs.length
   · have e2:(xs.take i).length=i:=by simp;omega
     have hcl:(chunks (xs.take i)).length=(i+6) / 7:=by rw [chunks_len,e2]
     have i0:(0:Int)≤(i:Int):=by omega
     have i1:(i:Int)<(xs.length:Int):=by omega
     obtain⟨b,off,rfl,hbl, -,x0,x1,hcb⟩:=bytes_at H.out i hlt
     have e3:IntKind.u64.wrap xs[i]=xs[i]:=by rw [IntKind.wrap_u64];omega
     by_cases hm:i % 7=0
     · have hmi:((i:Int) % 7==0)=true:=by rw [beq_iff_eq];omega
       have HNEW:=Hd (pack_new xs i hlt hm)
       have HY:Hid (u64R.rel (fun _=>False) wr [.int .u64 0] 0):=⟨rfl,okU_of (by omega) (by omega)⟩
       have HLEN:Hid (((xs.length:Int)::chunks (xs.take i)).length+1≤maxLen∧(((xs.length:Int)::chunks (xs.take i)).length+1)*8≤140737488355328):=by
         rw [List.length_cons,hcl];unfold maxLen;constructor<;>omega
       have hLz:(((xs.length:Int)::chunks (xs.take i))++ [0]).length=i / 7+1+1:=by rw [List.length_append,List.length_cons,hcl];simp;omega
       have hL0: ∀h,(((xs.length:Int)::chunks (xs.take i))++ [0])[i / 7+1]'h=0:=by
         intro h
         rw [List.getElem_append_right (by rw [List.length_cons,hcl];omega)];simp
       obtain⟨x,hxe⟩: ∃x,xs[i]=x:=⟨_,rfl⟩;rw [hxe]at x0 x1 e3 hcb HNEW;clear hxe e2 hcl;obtain⟨r,hr⟩: ∃r,i % 7=r:=⟨_,rfl⟩
       have hri:(i:Int) % 7=(r:Int):=by omega
       have hr7:r<7:=by omega
       rw [hr]at HNEW;obtain⟨L0,hLe0⟩: ∃l,(xs.length:Int)::chunks (xs.take i)=l:=⟨_,rfl⟩;rw [hLe0]at HOR HLEN HNEW hLz
       have hL1: ∀h,(L0++ [0])[i / 7+1]'h=0:=by subst hLe0;exact hL0
       clear hLe0 hL0;obtain⟨cv,hcv0⟩: ∃cv:Int,cv=0:=⟨_,rfl⟩;obtain⟨Lz,hLze⟩: ∃l,L0++ [0]=l:=⟨_,rfl⟩;have HLZ:=Hd hLze;obtain⟨J,hJ⟩: ∃J,i / 7+1=J:=⟨_,rfl⟩
       have hcvE: ∀h,Lz[J]'h=cv:=by subst hLze hJ hcv0;exact hL1
       have hcv:0≤cv∧cv<72057594037927936:=by omega
       have HNEW2:Hid (Lz.set J (cv+x*256^r)=(xs.length:Int)::chunks (xs.take (i+1))):=by subst hLze hJ hcv0;exact HNEW.out
       rw [hLze,hJ]at hLz;clear hLze hJ hcv0 hL1 HNEW;have HNEW:=HNEW2;clear HNEW2
       go_wp2_with (at_builtin;refine wpList_push (r:=u64R) (wr:=wr) (es:= [.int .u64 0]) (v:=u3) (w0:=w) (B:=w.heap.size) rfl _ _ rfl Tryz.etyNums rfl rfl hbr hBr HOR.out HY.out (fun x hx=>hx.elim) HLEN.out.1 HLEN.out.2 ?_)
       intro v2 w2 ho2 hb2
       have ho3:=Own.mono ho2 (F':=fun x=>False∨w.heap.size≤x) fun x _ h=>by first|exact h|exact .inr h
       rw [HLZ.out]at ho3;have HOZ:=Hd ho3;clear ho2 ho3 HOR HLEN
       obtain⟨g,c,hvz,gc,gm,hg,hBg,hcell,hfr,hset⟩:=HOZ.out.setInt J (by omega)
       rw [hLz]at hvz;subst hvz;have HSET:=Hd hset;rw [hcvE]at hcell;have HCZ:=Hd hcell;have hcx:=(hb2.cell (p:=⟨b,off+i,none⟩) hbl).trans hcb
       have gc2:J+1≤c:=by omega
       unfold maxLen at gm;clear hset hcell hcvE;have HFR:=Hd hfr;clear hfr;go_wp2_with fail;clear hcx
       go_loop [5,6] (fun vn vk=> ∃(k:Nat),k≤r∧vk= .int .i64 k∧vn= .int .u64 (x*256^k)) (fun _ vk=>r-(intOf vk).toNat)
       case atStart=>exact⟨0,Nat.zero_le _,rfl,by rw [Int.pow_zero,Int.mul_one]⟩
       case round=>
         obtain⟨k,hk,rfl,rfl⟩:=hrel
         by_cases hkr:k<r
         · have hp:=pw7 ⟨k,by omega⟩
           simp only at hp
           have hm:0≤x*256^k∧x*256^k≤255*256^k:=⟨Int.mul_nonneg x0 (Int.le_of_lt hp.2.1),Int.mul_le_mul_of_nonneg_right (by omega) (Int.le_of_lt hp.2.1)⟩
           have hk5:=hp.2.2 (by show k≤5;omega)
           have e4:IntKind.u64.wrap (x*256^k*256)=x*256^k*256:=by rw [IntKind.wrap_u64];omega
           have e5:Hid (x*256^(k+1)=x*256^k*256):=by show _=_;rw [Int.pow_succ,Int.mul_assoc]
           have hki:(k:Int)<(r:Int):=by omega
           clear hp hm hk5;generalize x*256^k=y at*;go_wp2_with fail
           go_round
           case rel=>exact⟨k+1,by omega,by go_num,by rw [e5.out]⟩
           case measure=>simp [intOf];omega
         · obtain rfl:k=r:=by omega
           have hp:=pw7 ⟨k,by omega⟩
           simp only at hp
           have hm:0≤x*256^k∧x*256^k≤255*256^k:=⟨Int.mul_nonneg x0 (Int.le_of_lt hp.2.1),Int.mul_le_mul_of_nonneg_right (by omega) (Int.le_of_lt hp.2.1)⟩
           have hb8:=hp.1
           have hy:0≤x*256^k∧x*256^k<72057594037927936:=by omega
           clear hp hm hb8;generalize x*256^k=y at*
           have e6:IntKind.u64.wrap (cv+y)=cv+y:=by rw [IntKind.wrap_u64];omega
           obtain⟨hoN,hkN⟩:=HSET.out (cv+y) (okU_of (by omega) (by omega))
           rw [HNEW.out]at hoN;have HON:=Hd hoN;have HBN:=Hd (hb2.setCell (p:=⟨g,J,none⟩) hBg (.int .u64 (cv+y)));clear hoN hkN;have hcv:=HCZ.out;have hfz:=HFR.out
           have j0:(0:Int)≤(J:Int):=by omega
           go_wp2_with fail
           go_roundw
           case rel=>exact⟨i+1,by omega,by go_num,HON.out,HBN.out⟩
           case measure=>simp [intOf];omega
     · have hmi:((i:Int) % 7==0)=false:=by rw [beq_eq_false_iff_ne];omega
       have HNEW0:=Hd (pack_more xs i hlt hm)
       have hLz:((xs.length:Int)::chunks (xs.take i)).length=i / 7+1+1:=by rw [List.length_cons,hcl];omega
       have hL0: ∀h,((xs.length:Int)::chunks (xs.take i))[i / 7+1]'h=chunk (xs.take i) (i / 7):=by
         intro h
         rw [List.getElem_cons_succ,chunks_at]
       have hcv:=chunk_in (xs.take i) (fun d hd=>HI.out d (List.mem_of_mem_take hd)) (i / 7)
       obtain⟨x,hxe⟩: ∃x,xs[i]=x:=⟨_,rfl⟩;rw [hxe]at x0 x1 e3 hcb HNEW0;clear hxe e2 hcl;obtain⟨r,hr⟩: ∃r,i % 7=r:=⟨_,rfl⟩
       have hri:(i:Int) % 7=(r:Int):=by omega
       have hr7:r<7:=by omega
       rw [hr]at HNEW0;obtain⟨cv,hcve⟩: ∃cv,chunk (xs.take i) (i / 7)=cv:=⟨_,rfl⟩;rw [hcve]at hcv HNEW0;obtain⟨Lz,hLze⟩: ∃l,(xs.length:Int)::chunks (xs.take i)=l:=⟨_,rfl⟩;rw [hLze]at HOR HNEW0 hLz;obtain⟨J,hJ⟩: ∃J,i / 7+1=J:=⟨_,rfl⟩
       have hcvE: ∀h,Lz[J]'h=cv:=by subst hLze hJ hcve;exact hL0
       rw [hJ]at hLz HNEW0;clear hLze hJ hcve hL0;have HNEW:=HNEW0;clear HNEW0
       obtain⟨g,c,hvz,gc,gm,hg,hBg,hcell,hfr,hset⟩:=HOR.out.setInt J (by omega)
       rw [hLz]at hvz;subst hvz;have HSET:=Hd hset;rw [hcvE]at hcell;have HCZ:=Hd hcell;have hcx:=(hbr.cell (p:=⟨b,off+i,none⟩) hbl).trans hcb
       have gc2:J+1≤c:=by omega
       unfold maxLen at gm;clear hset hcell hcvE;have HFR:=Hd hfr;clear hfr;go_wp2_with fail;clear hcx
       go_loop [5,6] (fun vn vk=> ∃(k:Nat),k≤r∧vk= .int .i64 k∧vn= .int .u64 (x*256^k)) (fun _ vk=>r-(intOf vk).toNat)
       case atStart=>exact⟨0,Nat.zero_le _,rfl,by rw [Int.pow_zero,Int.mul_one]⟩
       case round=>
         obtain⟨k,hk,rfl,rfl⟩:=hrel
         by_cases hkr:k<r
         · have hp:=pw7 ⟨k,by omega⟩
           simp only at hp
           have hm:0≤x*256^k∧x*256^k≤255*256^k:=⟨Int.mul_nonneg x0 (Int.le_of_lt hp.2.1),Int.mul_le_mul_of_nonneg_right (by omega) (Int.le_of_lt hp.2.1)⟩
           have hk5:=hp.2.2 (by show k≤5;omega)
           have e4:IntKind.u64.wrap (x*256^k*256)=x*256^k*256:=by rw [IntKind.wrap_u64];omega
           have e5:Hid (x*256^(k+1)=x*256^k*256):=by show _=_;rw [Int.pow_succ,Int.mul_assoc]
           have hki:(k:Int)<(r:Int):=by omega
           clear hp hm hk5;generalize x*256^k=y at*;go_wp2_with fail
           go_round
           case rel=>exact⟨k+1,by omega,by go_num,by rw [e5.out]⟩
           case measure=>simp [intOf];omega
         · obtain rfl:k=r:=by omega
           have hp:=pw7 ⟨k,by omega⟩
           simp only at hp
           have hm:0≤x*256^k∧x*256^k≤255*256^k:=⟨Int.mul_nonneg x0 (Int.le_of_lt hp.2.1),Int.mul_le_mul_of_nonneg_right (by omega) (Int.le_of_lt hp.2.1)⟩
           have hb8:=hp.1
           have hy:0≤x*256^k∧x*256^k<72057594037927936:=by omega
           clear hp hm hb8;generalize x*256^k=y at*
           have e6:IntKind.u64.wrap (cv+y)=cv+y:=by rw [IntKind.wrap_u64];omega
           obtain⟨hoN,hkN⟩:=HSET.out (cv+y) (okU_of (by omega) (by omega))
           rw [HNEW.out]at hoN;have HON:=Hd hoN;have HBN:=Hd (hbr.setCell (p:=⟨g,J,none⟩) hBg (.int .u64 (cv+y)));clear hoN hkN;have hcv:=HCZ.out;have hfz:=HFR.out
           have j0:(0:Int)≤(J:Int):=by omega
           go_wp2_with fail
           go_roundw
           case rel=>exact⟨i+1,by omega,by go_num,HON.out,HBN.out⟩
           case measure=>simp [intOf];omega
   · obtain rfl:i=xs.length:=by omega
     have hs:=HOR.out.slice;rw [List.take_length]at hs;have HP:Hid (packS xs=(xs.length:Int)::chunks xs):=rfl;rw [←HP.out]at hs;obtain⟨a2,c2,rfl, -, -⟩:=sliceR.form hs
     have HS:=Hd (numsR.mono hs (S':=fun _=>True) fun _ _ _=>trivial)
     clear hs;go_wp2_with fail;go_ret
     exact⟨a2,c2,rfl,HS.out,hbr⟩
theorem rHashBytes_any (S:Nat→Prop)(w:World)(label:Int)(hl0:0≤label)(a:Option Addr)(len cap:Nat)(xs:List Int)(hlen:len=xs.length)(h:bytesR.rel S w [.slice a len cap] xs)(hx:xs.length≤3000000):
   Calls Tryz.prog 58 #[.int .u64 label,.slice a len cap] w fun e w'=>e= .returned (.int .u64 (hashS label (packS xs)))∧Below w.heap.size w w':=by
 subst hlen
 have hpl:(packS xs).length≤1000000:=by
   show((xs.length:Int)::chunks xs).length≤_
   rw [List.length_cons,chunks_len];omega
 go_enter Tryz.func58,Tryz.ntmps58
 go_wp2_with fail
 refine(rPack_any S w a cap xs h hx).mono ?_
 rintro e w1 ⟨a1,c1,rfl,hr1,hb1⟩;have HR1:=Hd hr1;have HPL:=Hd hpl;clear hr1 hpl;obtain⟨l,hl⟩: ∃l,packS xs=l:=⟨_,rfl⟩;have HL:=Hd hl;rw [hl]at HR1 HPL⊢;clear hl;go_wp2_with fail
 refine(rHash_big label hl0 (fun _=>True) w1 a1 c1 l HR1.out HPL.out).mono ?_
 rintro e w2 ⟨rfl,hb2⟩;go_wp2_with fail;go_ret
 exact⟨ret_int (by rw [HL.out]),bnext hb1 hb2⟩
theorem validE_sizes {t:TxM}(hv:validE t=0):t.marks.length≤4∧t.outs.length≤4∧(∀o∈t.outs,o.cipher.length=3)∧0≤t.exp∧t.exp≤1048576∧t.proof.length≤1048576:=by
 have hall:(marksB t.marks&&(outsB t.outs&&(amountsB t&&restB t)))=true:=by
   cases h:(marksB t.marks&&(outsB t.outs&&(amountsB t&&restB t)))with
   |true=>rfl
   |false=>rw [validE_bad h]at hv;cases hv
 have hp:t.proof.length≤1048576:=by
   unfold validE at hv;rw [hall,if_pos rfl]at hv
   by_cases hp:t.proof.length≤1048576
   · exact hp
   · rw [if_neg hp]at hv;cases hv
 simp only [Bool.and_eq_true]at hall
 obtain⟨hm,ho, -,hr⟩:=hall;have h1:=of_decide_eq_true hr;rw [marksB_eq]at hm;unfold outsB at ho
 simp only [Bool.and_eq_true]at hm ho
 refine⟨of_decide_eq_true hm.1,of_decide_eq_true ho.1,fun o hmem=> ?_,h1.2.1,h1.2.2,hp⟩
 have h2:=List.all_eq_true.1 ho.2 o hmem;unfold outB at h2
 simp only [Bool.and_eq_true]at h2
 exact of_decide_eq_true h2.2.2.1
end Go.Proofs.YtjknlhiimmbilaaGreatDoor

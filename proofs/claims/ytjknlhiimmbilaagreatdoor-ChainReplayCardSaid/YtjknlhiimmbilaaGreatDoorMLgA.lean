/- The ledger of the program: accounts; the search. -/
import Derived.Test.YtjknlhiimmbilaaGreatDoorMFr
set_option maxRecDepth 100000
set_option maxHeartbeats 400000
namespace Go.Proofs.YtjknlhiimmbilaaGreatDoor
open Go.ChangeShapes Go.WideShapes Go.ChangeAt Go.RowKit Go.Sort
structure AcM where
 id:Int
 bal:Int
 nonce:Int
def acR:Rep AcM:=mapR (fun n=>(n.id,n.bal,n.nonce)) (pairR u64R (pairR u64R u64R))
theorem acR.n:acR.n=3:=rfl
abbrev accsR:Rep (List AcM):=sliceR acR
structure AcOk (x:AcM):Prop where
 id:okU x.id
 bal:okU x.bal
 nonce:okU x.nonce
theorem acR.inv {S:Nat→Prop}{w:World}{cs:List Value}{n:AcM}(h:acR.rel S w cs n):cs= [.int .u64 n.id,.int .u64 n.bal,.int .u64 n.nonce]∧AcOk n:=by
 obtain⟨_,_,rfl,⟨rfl,w1⟩,_,_,rfl,⟨rfl,w2⟩,⟨rfl,w3⟩⟩:=h
 exact⟨rfl,w1,w2,w3⟩
theorem acR.mk {S:Nat→Prop}{w:World}{n:AcM}(h:AcOk n):acR.rel S w [.int .u64 n.id,.int .u64 n.bal,.int .u64 n.nonce] n:=
 ⟨[_],[_,_],rfl,⟨rfl,h.id⟩,[_],[_],rfl,⟨rfl,h.bal⟩,⟨rfl,h.nonce⟩⟩
theorem acs_at {S:Nat→Prop}{w:World}{a:Option Addr}{len cap:Nat}{l:List AcM}(h:accsR.rel S w [.slice a len cap] l)(k:Nat)(hk:k<l.length):
   ∃b off,a=some ⟨b,off,none⟩∧b<w.heap.size∧S b∧AcOk l[k]∧w.cell? ⟨b,off+k*3,none⟩=some (.int .u64 l[k].id)∧w.cell? ⟨b,off+k*3+1,none⟩=some (.int .u64 l[k].bal)∧w.cell? ⟨b,off+k*3+2,none⟩=some (.int .u64 l[k].nonce):=by
 obtain⟨b,off,es,rfl,hb,hbl,hrel,hca⟩:=sliceR.at h k hk;obtain⟨rfl,ok⟩:=acR.inv hrel;rw [acR.n]at hca
 exact⟨b,off,rfl,hbl,hb,ok,hca 0 _ rfl,hca 1 _ rfl,hca 2 _ rfl⟩
def cmpI (a b:Int):Int:=if a<b then -1 else if b<a then 1 else 0
theorem isNaN_any (w:World)(a:Int):Calls Tryz.prog 183 #[.int .u64 a] w fun e w'=>e= .returned (.bool false)∧Below w.heap.size w w':=by
 have z:(a != a)=false:=by simp
 go_enter Tryz.func183,Tryz.ntmps183
 go_wp2_with fail;go_ret
 exact⟨rfl,Below.refl _ _⟩
theorem compare_any (w:World)(a b:Int):Calls Tryz.prog 234 #[.int .u64 a,.int .u64 b] w fun e w'=>e= .returned (.int .i64 (cmpI a b))∧Below w.heap.size w w':=by
 have HC:Hid (cmpI a b=if a<b then -1 else if b<a then 1 else 0):=rfl
 go_enter Tryz.func234,Tryz.ntmps234
 go_wp2_with fail
 refine(isNaN_any w a).mono ?_
 rintro e w1 ⟨rfl,hb1⟩;go_wp2_with fail
 refine(isNaN_any w1 b).mono ?_
 rintro e w2 ⟨rfl,hb2⟩;have hbw:=bnext hb1 hb2
 by_cases h1:a<b
 · have HF:Hid (cmpI a b= -1):=by show _=_;rw [HC.out,if_pos h1]
   go_wp2_with fail;go_ret
   exact⟨ret_int HF.out.symm,hbw⟩
 · by_cases h2:b<a
   · have HF:Hid (cmpI a b=1):=by show _=_;rw [HC.out,if_neg h1,if_pos h2]
     go_wp2_with fail;go_ret
     exact⟨ret_int HF.out.symm,hbw⟩
   · have HF:Hid (cmpI a b=0):=by show _=_;rw [HC.out,if_neg h1,if_neg h2]
     go_wp2_with fail;go_ret
     exact⟨ret_int HF.out.symm,hbw⟩
theorem findc_any (w:World)(x:AcM)(id:Int):Calls Tryz.prog 233 #[.agg #[.int .u64 x.id,.int .u64 x.bal,.int .u64 x.nonce],.int .u64 id] w fun e w'=>e= .returned (.int .i64 (cmpI x.id id))∧Below w.heap.size w w':=by
 have HX:=Hd (box_new w (.cells #[.int .u64 x.id,.int .u64 x.bal,.int .u64 x.nonce] 124));have HB:=Hd (bnew (Below.refl w.heap.size w) (.cells #[.int .u64 x.id,.int .u64 x.bal,.int .u64 x.nonce] 124))
 go_enter Tryz.func233,Tryz.ntmps233
 go_upto_region 1 with(fail)
 generalize w.alloc (.cells #[.int .u64 x.id,.int .u64 x.bal,.int .u64 x.nonce] 124)=W at*;obtain⟨x0,x1⟩:=box_cells HX.out;go_wp2_with fail
 refine(compare_any W x.id id).mono ?_
 rintro e w1 ⟨rfl,hb1⟩;go_wp2_with fail;go_ret
 exact⟨rfl,bnext HB.out hb1⟩
def posL:List AcM→Int→Nat
 | [],_=>0
 |x::l,id=>if x.id<id then posL l id+1 else 0
theorem posL_le: ∀(l:List AcM) (id:Int),posL l id≤l.length
 | [],_=>Nat.le_refl _
 |x::l,id=>by
  unfold posL
  split
  · have:=posL_le l id;simp;omega
  · omega
theorem posL_eq: ∀(l:List AcM) (id:Int) (i:Nat),i≤l.length→(∀m (hm:m<l.length),m<i→l[m].id<id)→(∀hm:i<l.length,¬l[i].id<id)→posL l id=i
 | [],_,i,h,_,_=>by simp at h;subst h;rfl
 |x::l,id,0,_,_,h2=>by
  have:=h2 (by simp)
  unfold posL
  rw [if_neg (by simpa using this)]
 |x::l,id,i+1,h,h1,h2=>by
  have h0:=h1 0 (by simp) (by omega)
  have ih:=posL_eq l id i (by simp at h;omega) (fun m hm hi=>by have:=h1 (m+1) (by simp;omega) (by omega);simpa using this) (fun hm=>by have:=h2 (by simp;omega);simpa using this)
  unfold posL
  rw [if_pos (by simpa using h0),ih]
def foundL (l:List AcM)(id:Int):Bool:=(l[posL l id]?.map fun x=>x.id==id).getD false
abbrev upL (l:List AcM):Prop:=l.Pairwise fun x y=>x.id<y.id
theorem bsearch_any (S:Nat→Prop)(w:World)(a:Option Addr)(cap:Nat)(l:List AcM)(h:accsR.rel S w [.slice a l.length cap] l)(hl:l.length≤1000000)(hup:upL l)(id:Int):
   Calls Tryz.prog 232 #[.slice a l.length cap,.int .u64 id,.func (Fn.func 233) #[] #[]] w fun e w'=>e= .returned (.tuple #[.int .i64 (posL l id),.bool (foundL l id)])∧Below w.heap.size w w':=by
 have H:=Hd h;have HUP:=Hd (List.pairwise_iff_getElem.1 hup);clear h hup
 go_enter Tryz.func232,Tryz.ntmps232
 go_wp2_with fail
 go_loopw [9,10] (fun vi vj wr=> ∃(i j:Nat),vi= .int .i64 i∧vj= .int .i64 j∧i≤j∧j≤l.length∧Hid (∀m (hm:m<l.length),m<i→l[m].id<id)∧Hid (∀m (hm:m<l.length),j≤m→id≤l[m].id)∧Below w.heap.size w wr) (fun vi vj _=>(intOf vj).toNat-(intOf vi).toNat)
 case atStart=>exact⟨0,l.length,rfl,rfl,Nat.zero_le _,Nat.le_refl _,fun m hm hi=>by omega,fun m hm hi=>by omega,Below.refl _ _⟩
 case round=>
   obtain⟨i,j,rfl,rfl,hij,hj,hlo,hhi,hbr⟩:=hrel
   by_cases hlt:i<j
   · obtain⟨m,hm⟩: ∃m,(i+j) / 2=m:=⟨_,rfl⟩
     have hml:m<l.length:=by omega
     have hmi:i≤m∧m<j:=by omega
     have hw1:wrap64 ((i:Int)+j)=(i:Int)+j:=by unfold wrap64;omega
     have hw2:IntKind.u64.wrap ((i:Int)+j)=(i:Int)+j:=by rw [IntKind.wrap_u64];omega
     have hd:((i:Int)+j) / 2=(m:Int):=by omega
     have hw3:IntKind.i64.wrap (m:Int)=m:=by rw [IntKind.wrap_i64];omega
     obtain⟨b,off,rfl,hbl, -,hok,c0,c1,c2⟩:=acs_at ((accsR).keepB H.out hbr) m hml
     have HLT:Hid (l[m].id<id→ ∀k (hk:k<l.length),k<m+1→l[k].id<id):=fun hh k hk hkm=>by
       rcases Nat.lt_or_ge k m with h|h
       · have:=HUP.out k m hk hml h;omega
       · obtain rfl:k=m:=by omega
         exact hh
     have HGE:Hid (id≤l[m].id→ ∀k (hk:k<l.length),m≤k→id≤l[k].id):=fun hh k hk hkm=>by
       rcases Nat.lt_or_ge m k with h|h
       · have:=HUP.out m k hml hk h;omega
       · obtain rfl:k=m:=by omega
         exact hh
     have HM:=Hd hm;clear hm;generalize l[m]=x at*;go_wp2_with fail
     refine(findc_any wr x id).mono ?_
     rintro e w3 ⟨rfl,hb3⟩;have HBR:=Hd (bnext hbr hb3)
     have HSP:Hid (cmpI x.id id<0↔x.id<id):=by
       show _↔_;unfold cmpI;split
       · omega
       · split<;>omega
     clear hbr hb3 c0 c1 c2
     by_cases hx:x.id<id
     · have HQ:=Hd (HLT.out hx)
       have hc:cmpI x.id id<0:=HSP.out.2 hx;obtain⟨r,hr⟩: ∃r,cmpI x.id id=r:=⟨_,rfl⟩;rw [hr]at hc⊢;clear hr hx hd hw1 hw2 hw3;go_wp2_with fail
       go_roundw
       case rel=>exact⟨m+1,j,by go_num,rfl,by omega,hj,HQ.out,hhi.out,HBR.out⟩
       case measure=>simp [intOf];omega
     · have HQ:=Hd (HGE.out (by omega))
       have hc: ¬cmpI x.id id<0:=fun hh=>hx (HSP.out.1 hh)
       obtain⟨r,hr⟩: ∃r,cmpI x.id id=r:=⟨_,rfl⟩;rw [hr]at hc⊢;clear hr hx hd hw1 hw2 hw3;go_wp2_with fail
       go_roundw
       case rel=>exact⟨i,m,rfl,rfl,by omega,by omega,hlo.out,HQ.out,HBR.out⟩
       case measure=>simp [intOf];omega
   · obtain rfl:i=j:=by omega
     have HP:Hid (posL l id=i):=posL_eq l id i hj (fun m hm hi=>hlo.out m hm hi) fun hm=>by have:=hhi.out i hm (Nat.le_refl _);omega
     have HFD:Hid (foundL l id=(l[i]?.map fun x=>x.id==id).getD false):=by show _=_;unfold foundL;rw [HP.out]
     have HBR:=Hd hbr;clear hbr
     by_cases hlt2:i<l.length
     · obtain⟨b,off,rfl,hbl, -,hok,c0,c1,c2⟩:=acs_at ((accsR).keepB H.out HBR.out) i hlt2
       have HF:Hid (foundL l id=(l[i].id==id)):=by show _=_;rw [HFD.out,List.getElem?_eq_getElem hlt2];rfl
       generalize l[i]=x at*;go_wp2_with fail
       refine(findc_any wr x id).mono ?_
       rintro e w3 ⟨rfl,hb3⟩
       have HSP:Hid ((cmpI x.id id==0)=(x.id==id)):=by
         show _=_;rw [Bool.eq_iff_iff,beq_iff_eq,beq_iff_eq];unfold cmpI;split
         · omega
         · split<;>omega
       clear c0 c1 c2;obtain⟨r,hr⟩: ∃r,cmpI x.id id=r:=⟨_,rfl⟩;rw [hr]at HSP⊢;clear hr;go_wp2_with fail;go_ret2
       exact⟨by rw [HP.out,HF.out,←HSP.out];rfl,bnext HBR.out hb3⟩
     · have HF:Hid (foundL l id=false):=by show _=_;rw [HFD.out,List.getElem?_eq_none (by omega)];rfl
       go_wp2_with fail;go_ret2
       exact⟨by rw [HP.out,HF.out];rfl,HBR.out⟩
end Go.Proofs.YtjknlhiimmbilaaGreatDoor
/- The ledger of the program: find, Get. -/
set_option maxRecDepth 100000
set_option maxHeartbeats 400000
namespace Go.Proofs.YtjknlhiimmbilaaGreatDoor
open Go.ChangeShapes Go.WideShapes Go.ChangeAt Go.RowKit Go.Sort
theorem lfind_any (S:Nat→Prop)(w:World)(a:Option Addr)(cap:Nat)(l:List AcM)(h:accsR.rel S w [.slice a l.length cap] l)(hl:l.length≤1000000)(hup:upL l)(id:Int):
   Calls Tryz.prog 172 #[.agg #[.slice a l.length cap],.int .u64 id] w fun e w'=>e= .returned (.tuple #[.int .i64 (posL l id),.bool (foundL l id)])∧Below w.heap.size w w':=by
 have HX:=Hd (box_new w (.cells #[.slice a l.length cap] 100));have hbA:=bnew (Below.refl w.heap.size w) (.cells #[.slice a l.length cap] 100);have H:=Hd ((accsR).keepB h hbA);have HB:=Hd hbA;clear hbA h
 go_enter Tryz.func172,Tryz.ntmps172
 go_upto_region 1 with(fail)
 generalize w.alloc (.cells #[.slice a l.length cap] 100)=W at*;obtain⟨x0,x1⟩:=box_cells HX.out;go_wp2_with fail
 refine(bsearch_any S W a cap l H.out hl hup id).mono ?_
 rintro e w1 ⟨rfl,hb1⟩;clear x0 x1;go_wp2_with fail;go_ret2
 exact⟨rfl,bnext HB.out hb1⟩
def acL (l:List AcM)(id:Int):AcM:=if foundL l id=true then l.getD (posL l id) ⟨id,0,0⟩else ⟨id,0,0⟩
theorem found_lt {l:List AcM}{id:Int}(h:foundL l id=true):posL l id<l.length:=by
 rcases Nat.lt_or_ge (posL l id) l.length with hh|hh
 · exact hh
 · unfold foundL at h;rw [List.getElem?_eq_none hh]at h;simp at h
theorem lGet_any (S:Nat→Prop)(w:World)(a:Option Addr)(cap:Nat)(l:List AcM)(h:accsR.rel S w [.slice a l.length cap] l)(hl:l.length≤1000000)(hup:upL l)(id:Int):
   Calls Tryz.prog 120 #[.agg #[.slice a l.length cap],.int .u64 id] w fun e w'=>e= .returned (.tuple #[.int .u64 (acL l id).bal,.int .u64 (acL l id).nonce])∧Below w.heap.size w w':=by
 have HX:=Hd (box_new w (.cells #[.slice a l.length cap] 100));have hbA:=bnew (Below.refl w.heap.size w) (.cells #[.slice a l.length cap] 100);have H:=Hd ((accsR).keepB h hbA);have HB:=Hd hbA;clear hbA h
 go_enter Tryz.func120,Tryz.ntmps120
 go_upto_region 1 with(fail)
 generalize w.alloc (.cells #[.slice a l.length cap] 100)=W at*;obtain⟨x0,x1⟩:=box_cells HX.out;go_wp2_with fail
 refine(lfind_any S W a cap l H.out hl hup id).mono ?_
 rintro e w1 ⟨rfl,hb1⟩;clear x0 x1;have HX1:=Hd (box_after hb1 HX.out)
 cases hf:foundL l id with
 |false=>
  have HF:Hid (acL l id=⟨id,0,0⟩):=by show _=_;unfold acL;rw [if_neg (by rw [hf];simp)]
  clear hf;go_wp2_with fail;go_ret2
  exact⟨by rw [HF.out];rfl,bnext HB.out hb1⟩
 |true=>
  have hp:=found_lt hf
  have HF:Hid (acL l id=l[posL l id]):=by show _=_;unfold acL;rw [if_pos hf,List.getD_eq_getElem?_getD,List.getElem?_eq_getElem hp];rfl
  obtain⟨b,off,rfl,hbl, -,hok,k0,k1,k2⟩:=acs_at ((accsR).keepB H.out hb1) (posL l id) hp;clear hf hok hbl;generalize l[posL l id]=x at*;generalize posL l id=p at*;have x0:=box_regrown HX1.out;have c1:=cell_in k1;have c2:=cell_in k2;clear k0 k1 k2;go_wp2_with fail
  refine wp_region_quiet_below (by kernel_rfl) (by kernel_rfl) ?_
  repeat (first|go_big_quiet_step (fail)|quiet_step (fail))
  refine wpQuiet_nil ?_
  intro wq hw'
  obtain⟨⟨dq,osq⟩,hw''⟩:=hw';have hbwq:=below_regrown w1 dq osq;rw [←hw'']at hbwq;clear hw'' x0 c1 c2;go_wp2_with fail;go_ret2
  exact⟨by rw [HF.out];rfl,bnext HB.out (bnext hb1 hbwq)⟩
end Go.Proofs.YtjknlhiimmbilaaGreatDoor
/- The ledger of the program: Clone of accounts; set. -/
set_option maxRecDepth 100000
set_option maxHeartbeats 400000
namespace Go.Proofs.YtjknlhiimmbilaaGreatDoor
open Go.ChangeShapes Go.WideShapes Go.ChangeAt Go.RowKit Go.Sort
theorem Tryz.etyAcc:ElemTy Tryz.prog 98 124 3 24:=ElemTy.of Tryz.underlying98 (z:= .agg #[.int .u64 0,.int .u64 0,.int .u64 0]) (by kernel_rfl) rfl (by omega)
theorem plainAc:Plain acR:=fun h=>(Plain.pair (Plain.int .u64) (Plain.pair (Plain.int .u64) (Plain.int .u64))) h
theorem eql_nilA (a:Option Addr)(l c:Nat)(w:World):(binOp .eql 98 (.slice a l c) (.slice none 0 0)).run Tryz.prog w= .ok (.bool a.isNone) w:=by
 simp only [binOp]
 simp [run_equal_slice_nil w 98 124 a l c Tryz.underlying98]
theorem wpList_catP {P:Program} {ops:Array Oper} {rest:List Oper} {o:Oper} {a:Act} {Q:Exit→Act→World→Prop} (hgd:o.guard=none) (s x:Operand) {t:TypeId}
   (ho:o.op= .call { callee:= .builtin .append,args:= #[s,x],argTypes:= #[t,t] }) {α:Type} {r:Rep α} (hp:Plain r) {e:TypeId} {bytes:Nat} (hT:ElemTy P t e r.n bytes) {S:Nat→Prop} {B:Nat} {w0 wr:World} {v u:Value} {xs ys:List α}
   (hs:a.eval s=v) (hx:a.eval x=u)
   (hbr:Below B w0 wr) (hB:B≤wr.heap.size) (hor:Own r B e (fun x=>False∨B≤x) wr v xs) (hu:(sliceR r).rel S wr [u] ys)
   (h63:xs.length+ys.length≤maxLen) (hbytes:(xs.length+ys.length)*bytes≤140737488355328)
   (hK: ∀v' w',Own r B e (fun x=>False∨B≤x) w' v' (xs++ys)→Below B w0 w'→wpList P ops Q rest (a.put o.dst v') w'):
   wpList P ops Q (o::rest) a wr:=by
 refine wpList_append_rel (r:=r) (base:=B) (F:=fun x=>False∨B≤x) (S:=fun _=>False) (xs:=xs) (ys:=ys) hgd s x ho hT hs hx hor (Src.plain hp (Src.of_slice hu)) (fun _ _ h=>h.elim) (fun _ _ h=>h) h63 hbytes hB fun v' w' ho' hk' _=>hK v' w' ?_ ?_
 · refine ho'.mono fun j _ h=> ?_
   rcases h with h|h
   · exact h
   · exact .inr (Nat.le_trans hB h)
 · exact Kept.behind hbr hk' hB fun j hj he=>by
     have:=(hor.lt he).2.2;omega
theorem cloneA_any (S:Nat→Prop)(w:World)(a:Option Addr)(cap:Nat)(l:List AcM)(h:accsR.rel S w [.slice a l.length cap] l)(hl:l.length≤1000000):
   Calls Tryz.prog 173 #[.slice a l.length cap] w fun e w'=> ∃v,e= .returned v∧Own acR w.heap.size 124 (fun x=>False∨w.heap.size≤x) w' v l∧Below w.heap.size w w':=by
 have hen:=eql_nilA
 cases a with
 |none=>
  have hl0:l= []:=by
    cases l with
    |nil=>rfl
    |cons x xs=>obtain⟨b,off,h1, -⟩:=acs_at h 0 (by simp);cases h1
  subst hl0
  go_enter Tryz.func173,Tryz.ntmps173
  go_wp2_with fail;go_ret
  exact⟨_,rfl,Own.nil _ _ _ _ _,Below.refl _ _⟩
 |some ad=>
  have hb0:=bnew (Below.refl w.heap.size w) (.cells #[] 124);have HO:=Hd (Own.empty acR w.heap.size 124 (box_new w (.cells #[] 124)) (Nat.le_refl _))
  have HS:=Hd (Src.plain (S':=fun _=>False) plainAc (Src.of_slice ((accsR).keepB h hb0)))
  have HB:=Hd hb0;clear h hb0
  go_enter Tryz.func173,Tryz.ntmps173
  go_wp2_with (at_builtin;refine wpList_append_rel (r:=acR) (base:=w.heap.size) rfl _ _ rfl Tryz.etyAcc rfl rfl HO.out HS.out (fun _ _ h=>h.elim) (fun _ _ h=>h) (by unfold maxLen;simp;omega) (by simp;omega) (by rw [World.size_alloc];omega) ?_)
  intro v3 w3 ho3 hk3 _
  have hb3:Below w.heap.size w w3:=Kept.behind HB.out hk3 (by rw [World.size_alloc];omega) fun k hk h=>by have:=(HO.out.lt h).2.2;omega
  have HG:Hid (Own acR w.heap.size 124 (fun x=>False∨w.heap.size≤x) w3 v3 l):=by
    have:=ho3.mono (F':=fun x=>False∨w.heap.size≤x) fun k _ h=> .inr (by rcases h with h|h<;>omega)
    exact this
  have HB3:=Hd hb3;clear ho3 hb3;go_wp2_with fail;go_ret
  exact⟨_,rfl,HG.out,HB3.out⟩
end Go.Proofs.YtjknlhiimmbilaaGreatDoor

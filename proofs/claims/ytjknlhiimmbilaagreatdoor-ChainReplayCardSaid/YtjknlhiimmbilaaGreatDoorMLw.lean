/- The reference of chains: Small, Few; lists of blocks as arguments. -/
import Derived.Test.YtjknlhiimmbilaaGreatDoorMBlk
import Derived.Test.YtjknlhiimmbilaaGreatDoorMFld
import Derived.Test.YtjknlhiimmbilaaGreatDoorMChB
set_option maxRecDepth 100000
set_option maxHeartbeats 4000000
namespace Go.Proofs.YtjknlhiimmbilaaGreatDoor
open Go.ChangeShapes Go.WideShapes Go.ChangeAt Go.RowKit Go.Sort
def blkR:Rep BlkM:=mapR (fun b=>(b.parent,b.height,b.miner,b.work,b.nonce,b.txs))
 (pairR u64R (pairR (intR .i64) (pairR u64R (pairR u64R (pairR u64R txsR)))))
theorem blkR.n:blkR.n=6:=rfl
theorem blkR.inv {S:Nat→Prop}{w:World}{cs:List Value}{b:BlkM}(h:blkR.rel S w cs b):
   ∃xa xc,cs= [.int .u64 b.parent,.int .i64 b.height,.int .u64 b.miner,.int .u64 b.work,.int .u64 b.nonce,.slice xa b.txs.length xc]∧BlkIn S w b xa xc:=by
 obtain⟨a1,b1,rfl,⟨rfl,w1⟩,a2,b2,rfl,⟨rfl,w2⟩,a3,b3,rfl,⟨rfl,w3⟩,a4,b4,rfl,⟨rfl,w4⟩,a5,b5,rfl,⟨rfl,w5⟩,h6⟩:=h;obtain⟨a,cap,rfl⟩:=one_form h6
 exact⟨a,cap,rfl,w1,w2,w3,w4,w5,h6⟩
abbrev blksR:Rep (List BlkM):=sliceR blkR
theorem blks_at {S:Nat→Prop}{w:World}{a:Option Addr}{len cap:Nat}{l:List BlkM}(h:blksR.rel S w [.slice a len cap] l)(k:Nat)(hk:k<l.length):
   ∃b off xa xc,a=some ⟨b,off,none⟩∧b<w.heap.size∧BlkIn S w l[k] xa xc∧w.cell? ⟨b,off+k*6,none⟩=some (.int .u64 l[k].parent)∧w.cell? ⟨b,off+k*6+1,none⟩=some (.int .i64 l[k].height)∧w.cell? ⟨b,off+k*6+2,none⟩=some (.int .u64 l[k].miner)∧w.cell? ⟨b,off+k*6+3,none⟩=some (.int .u64 l[k].work)∧w.cell? ⟨b,off+k*6+4,none⟩=some (.int .u64 l[k].nonce)∧w.cell? ⟨b,off+k*6+5,none⟩=some (.slice xa l[k].txs.length xc):=by
 obtain⟨b,off,es,rfl,hb,hbl,hrel,hca⟩:=sliceR.at h k hk;obtain⟨xa,xc,rfl,ht⟩:=blkR.inv hrel;rw [blkR.n]at hca
 exact⟨b,off,xa,xc,rfl,hbl,ht,hca 0 _ rfl,hca 1 _ rfl,hca 2 _ rfl,hca 3 _ rfl,hca 4 _ rfl,hca 5 _ rfl⟩
def smallT (t:TxM):Bool:=decide (t.marks.length≤6)&&(decide (t.outs.length≤6)&&(decide (t.proof.length≤2000)&&smallOuts t.outs))
def smallBk (b:BlkM):Bool:=b.txs.all smallT&&decide (b.txs.length≤4)
def fewB (m d:Int)(l:List BlkM)(n:Int):Bool:=l.all smallBk&&(decide (m=2)&&(decide (d≤5)&&decide ((l.length:Int)≤n)))
theorem smallT_of {t:TxM}(h:smallT t=true):t.marks.length≤6∧t.outs.length≤6∧t.proof.length≤2000∧ ∀o∈t.outs,o.cipher.length≤10:=by
 unfold smallT smallOuts at h
 simp only [Bool.and_eq_true,decide_eq_true_eq,List.all_eq_true]at h
 exact h
theorem smallBk_of {b:BlkM}(h:smallBk b=true):b.txs.length≤4∧ ∀t∈b.txs,t.marks.length≤6∧t.outs.length≤6∧t.proof.length≤2000∧ ∀o∈t.outs,o.cipher.length≤10:=by
 unfold smallBk at h
 simp only [Bool.and_eq_true,decide_eq_true_eq,List.all_eq_true]at h
 exact⟨h.2,fun t ht=>smallT_of (h.1 t ht)⟩
theorem fewB_of {m d:Int}{l:List BlkM}{n:Int}(h:fewB m d l n=true):(∀b∈l,smallBk b=true)∧m=2∧d≤5∧(l.length:Int)≤n:=by
 unfold fewB at h
 simp only [Bool.and_eq_true,decide_eq_true_eq,List.all_eq_true]at h
 exact h
theorem small48_any (S:Nat→Prop)(w:World)(b:BlkM)(xa:Option Addr)(xc:Nat)(h:BlkIn S w b xa xc):
   Calls Tryz.prog 68 #[.agg #[.int .u64 b.parent,.int .i64 b.height,.int .u64 b.miner,.int .u64 b.work,.int .u64 b.nonce,.slice xa b.txs.length xc]] w fun e w'=>e= .returned (.bool (smallBk b))∧Below w.heap.size w w':=by
 have g1:=(sliceR.lens h.txs).2;unfold maxLen at g1;have hbA:=bnew (Below.refl w.heap.size w) (.cells #[.int .u64 b.parent,.int .i64 b.height,.int .u64 b.miner,.int .u64 b.work,.int .u64 b.nonce,.slice xa b.txs.length xc] 48);have HX:=Hd (box_new w (.cells #[.int .u64 b.parent,.int .i64 b.height,.int .u64 b.miner,.int .u64 b.work,.int .u64 b.nonce,.slice xa b.txs.length xc] 48));have H:=Hd (h.keepB hbA);have HB:=Hd hbA;clear hbA h
 go_enter Tryz.func68,Tryz.ntmps68
 go_upto_region 1 with(fail)
 generalize w.alloc (.cells #[.int .u64 b.parent,.int .i64 b.height,.int .u64 b.miner,.int .u64 b.work,.int .u64 b.nonce,.slice xa b.txs.length xc] 48)=W at*;go_wp2_with fail
 go_loopw [3] (fun vi wr=> ∃k:Nat,k≤b.txs.length∧vi= .int .i64 k∧Hid ((b.txs.take k).all smallT=true)∧Below W.heap.size W wr) (fun vi _=>b.txs.length-(intOf vi).toNat)
 case atStart=>exact⟨0,Nat.zero_le _,rfl,by show _=_;simp,Below.refl _ _⟩
 case round=>
   obtain⟨k,hk,rfl,hall,hbr⟩:=hrel;obtain⟨x0,x1⟩:=box_cells (box_after hbr HX.out)
   by_cases hlt:k<b.txs.length
   · obtain⟨bb,off,ma,oa,pa,mc,oc,pc,rfl,hbl,ht,c0,c1,c2,c3,c4,c5,c6,c7,c8,c9⟩:=txs_at (txsR.keepB H.out.txs hbr) k hlt
     have HAL:=Hd (all_take_succ smallT b.txs k hlt)
     have HBD:Hid (smallT b.txs[k]=false→smallBk b=false):=fun hv=>by unfold smallBk;rw [all_false _ b.txs k hlt hv];rfl
     generalize b.txs[k]=t at*;have gm:=(sliceR.lens ht.marks).2;have go':=(sliceR.lens ht.outs).2;have gp:=(sliceR.lens ht.proof).2;unfold maxLen at gm go' gp;have hbn:=bnew (Below.refl wr.heap.size wr) (.cells #[.int .u64 t.anchor,.slice ma t.marks.length mc,.slice oa t.outs.length oc,.int .u64 t.dep,.int .u64 t.wd,.int .u64 t.fee,.int .u64 t.acc,.int .u64 t.nonce,.int .i64 t.exp,.slice pa t.proof.length pc] 111);have HT2:=Hd (ht.keepB hbn);have HIN:=Hd (box_new wr (.cells #[.int .u64 t.anchor,.slice ma t.marks.length mc,.slice oa t.outs.length oc,.int .u64 t.dep,.int .u64 t.wd,.int .u64 t.fee,.int .u64 t.acc,.int .u64 t.nonce,.int .i64 t.exp,.slice pa t.proof.length pc] 111));have hbrn:=bnext hbr hbn;clear ht hbn
     go_upto_region 5 with(fail)
     clear c0 c1 c2 c3 c4 c5 c6 c7 c8 c9 x0 x1;obtain⟨X,hX⟩: ∃X,wr.heap.size=X:=⟨_,rfl⟩;rw [hX]at HIN⊢;generalize wr.alloc (.cells #[.int .u64 t.anchor,.slice ma t.marks.length mc,.slice oa t.outs.length oc,.int .u64 t.dep,.int .u64 t.wd,.int .u64 t.fee,.int .u64 t.acc,.int .u64 t.nonce,.int .i64 t.exp,.slice pa t.proof.length pc] 111)=wn at*;obtain⟨x0,x1⟩:=box_cells HIN.out
     by_cases p1:6<t.marks.length
     · have HF:Hid (smallBk b=false):=HBD.out (by unfold smallT;rw [decide_eq_false (p:=t.marks.length≤6) (by omega)];rfl)
       go_wp2_with fail;go_ret
       exact⟨by rw [HF.out];rfl,bnext HB.out hbrn⟩
     · by_cases p2:6<t.outs.length
       · have HF:Hid (smallBk b=false):=HBD.out (by unfold smallT;rw [decide_eq_false (p:=t.outs.length≤6) (by omega)];simp)
         go_wp2_with fail;go_ret
         exact⟨by rw [HF.out];rfl,bnext HB.out hbrn⟩
       · by_cases p3:2000<t.proof.length
         · have HF:Hid (smallBk b=false):=HBD.out (by unfold smallT;rw [decide_eq_false (p:=t.proof.length≤2000) (by omega)];simp)
           go_wp2_with fail;go_ret
           exact⟨by rw [HF.out];rfl,bnext HB.out hbrn⟩
         · have HU:Hid (smallT t=smallOuts t.outs):=by show _=_;unfold smallT;rw [decide_eq_true (p:=t.marks.length≤6) (by omega),decide_eq_true (p:=t.outs.length≤6) (by omega),decide_eq_true (p:=t.proof.length≤2000) (by omega)];rfl
           go_wp2_with fail
           go_loop [5] (fun i=> ∃j:Nat,j≤t.outs.length∧i= .int .i64 j∧Hid (smallOuts (t.outs.take j)=true)) (fun i=>t.outs.length-(intOf i).toNat)
           case atStart=>exact⟨0,Nat.zero_le _,rfl,rfl⟩
           case round=>
             obtain⟨j,hj,rfl,HA⟩:=hrel
             by_cases hjt:j<t.outs.length
             · obtain⟨b2,off2,ca,cc,rfl, -,hbl2, -, -, -,hci,c0,c1,c2,c3⟩:=outs_at HT2.out.outs j hjt
               have hno:=Hd (all_false (fun o:OutM=>decide (o.cipher.length≤10)) t.outs j hjt)
               have hyes:=Hd (all_take_succ (fun o:OutM=>decide (o.cipher.length≤10)) t.outs j hjt)
               have hvl:=(sliceR.lens hci).2;unfold maxLen at hvl;generalize t.outs[j]=o at*
               by_cases p4:10<o.cipher.length
               · have HF:Hid (smallBk b=false):=HBD.out (by rw [HU.out];unfold smallOuts;exact hno.out (decide_eq_false (by omega)))
                 go_wp2_with fail;go_ret
                 exact⟨by rw [HF.out];rfl,bnext HB.out hbrn⟩
               · have HY:Hid (smallOuts (t.outs.take (j+1))=true):=by
                   show _=_;unfold smallOuts;rw [hyes.out];have h:=HA.out;unfold smallOuts at h;rw [h,decide_eq_true (by omega)];rfl
                 go_wp2_with fail
                 go_round
                 case rel=>exact⟨j+1,by omega,by go_num,HY⟩
                 case measure=>simp [intOf];omega
             · obtain rfl:j=t.outs.length:=by omega
               have HY:Hid ((b.txs.take (k+1)).all smallT=true):=by
                 show _=_;rw [HAL.out,hall.out,HU.out];have h:=HA.out;rw [List.take_length]at h;rw [h];rfl
               go_wp2_with fail
               go_roundw
               case rel=>exact⟨k+1,by omega,by go_num,HY,hbrn⟩
               case measure=>simp [intOf];omega
   · obtain rfl:k=b.txs.length:=by omega
     have HF:Hid (smallBk b=decide (b.txs.length≤4)):=by show _=_;unfold smallBk;have h:=hall.out;rw [List.take_length]at h;rw [h];rfl
     go_wp2_with fail;go_ret
     refine⟨ret_bool ?_,bnext HB.out hbr⟩
     rw [HF.out]
     first
       |rfl
       |(simp;omega)
theorem few48_any (S:Nat→Prop)(w:World)(m d bl bu qu rew win fin work:Int)(l:List BlkM)(la:Option Addr)(lc:Nat)(n:Int)(h:blksR.rel S w [.slice la l.length lc] l):
   Calls Tryz.prog 37 #[.agg #[.int .i64 m,.int .i64 d,.int .i64 bl,.int .i64 bu,.int .i64 qu,.int .u64 rew,.int .i64 win,.int .i64 fin,.int .u64 work],.slice la l.length lc,.int .i64 n] w fun e w'=>e= .returned (.bool (fewB m d l n))∧Below w.heap.size w w':=by
 have g1:=(sliceR.lens h).2;unfold maxLen at g1;have hbA:=bnew (Below.refl w.heap.size w) (.cells #[.int .i64 m,.int .i64 d,.int .i64 bl,.int .i64 bu,.int .i64 qu,.int .u64 rew,.int .i64 win,.int .i64 fin,.int .u64 work] 26);have HX:=Hd (box_new w (.cells #[.int .i64 m,.int .i64 d,.int .i64 bl,.int .i64 bu,.int .i64 qu,.int .u64 rew,.int .i64 win,.int .i64 fin,.int .u64 work] 26));have H:=Hd (blksR.keepB h hbA);have HB:=Hd hbA;clear hbA h
 go_enter Tryz.func37,Tryz.ntmps37
 go_upto_region 1 with(fail)
 generalize w.alloc (.cells #[.int .i64 m,.int .i64 d,.int .i64 bl,.int .i64 bu,.int .i64 qu,.int .u64 rew,.int .i64 win,.int .i64 fin,.int .u64 work] 26)=W at*;go_wp2_with fail
 go_loopw [7] (fun vi wr=> ∃k:Nat,k≤l.length∧vi= .int .i64 k∧Hid ((l.take k).all smallBk=true)∧Below W.heap.size W wr) (fun vi _=>l.length-(intOf vi).toNat)
 case atStart=>exact⟨0,Nat.zero_le _,rfl,by show _=_;simp,Below.refl _ _⟩
 case round=>
   obtain⟨k,hk,rfl,hall,hbr⟩:=hrel
   by_cases hlt:k<l.length
   · obtain⟨bb,off,xa,xc,rfl,hbl,hb,c0,c1,c2,c3,c4,c5⟩:=blks_at (blksR.keepB H.out hbr) k hlt
     have HAL:=Hd (all_take_succ smallBk l k hlt)
     have HBD:Hid (smallBk l[k]=false→fewB m d l n=false):=fun hv=>by unfold fewB;rw [all_false _ l k hlt hv];rfl
     generalize l[k]=b at*;have HT2:=Hd hb;clear hb;go_wp2_with fail
     refine(small48_any _ wr b xa xc HT2.out).mono ?_
     rintro e w3 ⟨rfl,hb3⟩;clear c0 c1 c2 c3 c4 c5
     cases hs:smallBk b with
     |false=>
      have HF:=Hd (HBD.out hs);clear hs;go_wp2_with fail;go_ret
      exact⟨by rw [HF.out];rfl,bnext HB.out (bnext hbr hb3)⟩
     |true=>
      have HY:Hid ((l.take (k+1)).all smallBk=true):=by show _=_;rw [HAL.out,hall.out,hs];rfl
      clear hs;go_wp2_with fail
      go_roundw
      case rel=>exact⟨k+1,by omega,by go_num,HY,bnext hbr hb3⟩
      case measure=>simp [intOf];omega
   · obtain rfl:k=l.length:=by omega
     have HF:Hid (fewB m d l n=(decide (m=2)&&(decide (d≤5)&&decide ((l.length:Int)≤n)))):=by show _=_;unfold fewB;have h:=hall.out;rw [List.take_length]at h;rw [h];rfl
     obtain⟨x0,x1⟩:=box_cells (box_after hbr HX.out)
     by_cases p1:m=2
     · subst p1
       by_cases p2:d≤5
       · by_cases p3:(l.length:Int)≤n
         · have HG:Hid (fewB 2 d l n=true):=by show _=_;rw [HF.out];simp [p2,p3]
           go_wp2_with fail;go_ret
           exact⟨by rw [HG.out];first|rfl|simp [p2,p3],bnext HB.out hbr⟩
         · have HG:Hid (fewB 2 d l n=false):=by show _=_;rw [HF.out];simp [p2,p3]
           go_wp2_with fail;go_ret
           exact⟨by rw [HG.out];first|rfl|simp [p2,p3],bnext HB.out hbr⟩
       · have HG:Hid (fewB 2 d l n=false):=by show _=_;rw [HF.out];simp [p2]
         go_wp2_with fail;go_ret
         exact⟨by rw [HG.out];first|rfl|simp [p2],bnext HB.out hbr⟩
     · have HG:Hid (fewB m d l n=false):=by show _=_;rw [HF.out];simp [p1]
       have z1:(m==2)=false:=by rw [beq_eq_false_iff_ne];exact p1
       go_wp2_with fail;go_ret
       exact⟨by rw [HG.out];first|rfl|simp [p1],bnext HB.out hbr⟩
def rightL (m d bl bu qu rew win fin work:Int)(l:List BlkM)(n:Int):Bool:=fewB m d l n&&(rulesE m d bl bu qu rew win fin work==0)
theorem right_any (S:Nat→Prop)(w:World)(m d bl bu qu rew win fin work:Int)(l:List BlkM)(la:Option Addr)(lc:Nat)(n:Int)(h:blksR.rel S w [.slice la l.length lc] l):
   Calls Tryz.prog 15 #[.agg #[.int .i64 m,.int .i64 d,.int .i64 bl,.int .i64 bu,.int .i64 qu,.int .u64 rew,.int .i64 win,.int .i64 fin,.int .u64 work],.slice la l.length lc,.int .i64 n] w fun e w'=>e= .returned (.bool (rightL m d bl bu qu rew win fin work l n))∧Below w.heap.size w w':=by
 have hbA:=bnew (Below.refl w.heap.size w) (.cells #[.int .i64 m,.int .i64 d,.int .i64 bl,.int .i64 bu,.int .i64 qu,.int .u64 rew,.int .i64 win,.int .i64 fin,.int .u64 work] 26);have HX:=Hd (box_new w (.cells #[.int .i64 m,.int .i64 d,.int .i64 bl,.int .i64 bu,.int .i64 qu,.int .u64 rew,.int .i64 win,.int .i64 fin,.int .u64 work] 26));have H:=Hd (blksR.keepB h hbA);have HB:=Hd hbA;clear hbA h
 go_enter Tryz.func15,Tryz.ntmps15
 go_upto_region 1 with(fail)
 generalize w.alloc (.cells #[.int .i64 m,.int .i64 d,.int .i64 bl,.int .i64 bu,.int .i64 qu,.int .u64 rew,.int .i64 win,.int .i64 fin,.int .u64 work] 26)=W at*;obtain⟨x0,x1⟩:=box_cells HX.out;go_wp2_with fail
 refine(few48_any _ W m d bl bu qu rew win fin work l la lc n H.out).mono ?_
 rintro e w1 ⟨rfl,hb1⟩;clear x0 x1
 cases hf:fewB m d l n with
 |false=>
  have HF:Hid (rightL m d bl bu qu rew win fin work l n=false):=by show _=_;unfold rightL;rw [hf];rfl
  clear hf;go_wp2_with fail;go_ret
  exact⟨by rw [HF.out];rfl,bnext HB.out hb1⟩
 |true=>
  have HF:Hid (rightL m d bl bu qu rew win fin work l n=(rulesE m d bl bu qu rew win fin work==0)):=by show _=_;unfold rightL;rw [hf];rfl
  clear hf;obtain⟨x0,x1⟩:=box_cells (box_after hb1 HX.out);go_wp2_with fail
  refine(refRules_any m d bl bu qu rew win fin work w1).mono ?_
  rintro e w2 ⟨rfl,hb2⟩;clear x0 x1;go_wp2_with fail;go_ret
  exact⟨by rw [HF.out];rfl,bnext HB.out (bnext hb1 hb2)⟩
end Go.Proofs.YtjknlhiimmbilaaGreatDoor
/- The laws of chains: how they begin. -/
set_option maxRecDepth 100000
set_option maxHeartbeats 2000000
namespace Go.Proofs.YtjknlhiimmbilaaGreatDoor
open Go.ChangeShapes Go.WideShapes Go.ChangeAt Go.RowKit Go.Sort
theorem step_store_row {P:Program} {ops:Array Oper} {o:Oper} {a:Act} {w:World} {K:Act→World→Prop} {Q:Exit→Act→World→Prop} {E:Prop} (hgd:o.guard=none) (ty:TypeId) (x y:Operand) (ho:o.op= .store ty x y)
   (g:Nat) (cells:Array Value) (hx:a.eval x= .pointer (some ⟨g,0,none⟩)) (hy:a.eval y= .agg cells)
   (t:TypeId) (old:Array Value) (hg:w.heap[g]? =some (.cells old t (0,0))) (hi:(P.info? ty).map (·.size)=some cells.size)
   (hold:old.size=cells.size) (h1:cells.all (·.oneCell')=true)
   (h:K (a.put o.dst undef) (w.setRow g cells)):if Region.wanted o (yielded ops a.tmps)=true then Oper.wp P o a w K Q else E:=by
 have hw:Region.wanted o (yielded ops a.tmps)=true:=by simp [Region.wanted,hgd]
 rw [if_pos hw]
 exact wp_store_row ty x y ho g cells hx hy t old hg hi hold h1 h
theorem setRow_other (w:World)(g k:Nat)(cs:Array Value)(h:k≠g):(w.setRow g cs).heap[k]? =w.heap[k]? :=by
 simp [World.setRow,Array.getElem?_modify,Ne.symm h]
theorem below_setRow {B:Nat}{a b:World}{g:Nat}(h:Below B a b)(hg:B≤g)(cs:Array Value):Below B a (b.setRow g cs):=
 ⟨h.os,h.tape,h.output,by rw [size_setRow];exact h.size,fun i hi=>by rw [setRow_other _ _ _ _ (by omega)];exact h.block i hi⟩
theorem step_load_row {P:Program} {ops:Array Oper} {o:Oper} {a:Act} {w:World} {K:Act→World→Prop} {Q:Exit→Act→World→Prop} {E:Prop} (hgd:o.guard=none) (ty:TypeId) (x:Operand) (ho:o.op= .load ty x)
   (g:Nat) (hx:a.eval x= .pointer (some ⟨g,0,none⟩)) (t:TypeId) (cs:Array Value) (fr:Nat×Nat) (d:TypeDesc) (hg:w.heap[g]? =some (.cells cs t fr))
   (hu:P.underlying ty=some d) (hd:(match d with| .struct _| .array _ _=>true|_=>false)=true) (hi:(P.info? ty).map (·.size)=some cs.size)
   (h:K (a.put o.dst (.agg cs)) w):if Region.wanted o (yielded ops a.tmps)=true then Oper.wp P o a w K Q else E:=by
 have hw:Region.wanted o (yielded ops a.tmps)=true:=by simp [Region.wanted,hgd]
 rw [if_pos hw]
 exact wp_load_row ty x ho g hx t cs fr d hg hu hd hi h
theorem ret_cell_tmp {P:Program} {fn:Func} {p u:Tmp} {ty:TypeId} (h:fn.results= #[.cell p ty,.tmp u]) {tmps:Array Value} {w:World} {g:Nat} {t:TypeId} {cs:Array Value} {fr:Nat×Nat} {d:TypeDesc}
   (hp:tmps.getD p undef= .pointer (some ⟨g,0,none⟩)) (hg:w.heap[g]? =some (.cells cs t fr))
   (hu:P.underlying ty=some d) (hd:(match d with| .struct _| .array _ _=>true|_=>false)=true) (hi:(P.info? ty).map (·.size)=some cs.size):
   (results fn tmps).run P w= .ok (.tuple #[.agg cs,tmps.getD u undef]) w:=by
 have hp':tmps[p]?.getD undef= .pointer (some ⟨g,0,none⟩):=by simpa using hp
 simp [results,h,hp',asAddr,run_loadVar_row w g t ty cs fr d hg hu hd hi]
theorem ret_tct {P:Program} {fn:Func} {a p u:Tmp} {ty:TypeId} (h:fn.results= #[.tmp a,.cell p ty,.tmp u]) {tmps:Array Value} {w:World} {g:Nat} {t:TypeId} {cs:Array Value} {fr:Nat×Nat} {d:TypeDesc}
   (hp:tmps.getD p undef= .pointer (some ⟨g,0,none⟩)) (hg:w.heap[g]? =some (.cells cs t fr))
   (hu:P.underlying ty=some d) (hd:(match d with| .struct _| .array _ _=>true|_=>false)=true) (hi:(P.info? ty).map (·.size)=some cs.size):
   (results fn tmps).run P w= .ok (.tuple #[tmps.getD a undef,.agg cs,tmps.getD u undef]) w:=by
 have hp':tmps[p]?.getD undef= .pointer (some ⟨g,0,none⟩):=by simpa using hp
 simp [results,h,hp',asAddr,run_loadVar_row w g t ty cs fr d hg hu hd hi]
theorem refNew48_any (w:World)(r:RuM)(hm:r.mode=2)(he:ruleE r=0):
   Calls Tryz.prog 9 #[.agg #[.bool false,.int .u64 0,.int .i64 0,.slice none 0 0,.slice none 0 0,.slice none 0 0],.agg #[.int .i64 r.mode,.int .i64 r.depth,.int .i64 r.bl,.int .i64 r.bu,.int .i64 r.qu,.int .u64 r.rew,.int .i64 r.win,.int .i64 r.fin,.int .u64 r.work]] w fun e w'=>e= .returned (.tuple #[.agg #[.bool false,.int .u64 0,.int .i64 0,.slice none 0 0,.slice none 0 0,.slice none 0 0,.int .i64 r.mode,.int .i64 r.depth,.int .i64 r.bl,.int .i64 r.bu,.int .i64 r.qu,.int .u64 r.rew,.int .i64 r.win,.int .i64 r.fin,.int .u64 r.work,.slice none 0 0,.int .i64 (-1),.int .i64 (-1)],.int .i64 0])∧Below w.heap.size w w':=by
 have hbA:=bnew (bnew (bnew (Below.refl w.heap.size w) (.cells #[.bool false,.int .u64 0,.int .i64 0,.slice none 0 0,.slice none 0 0,.slice none 0 0] 34)) (.cells #[.int .i64 r.mode,.int .i64 r.depth,.int .i64 r.bl,.int .i64 r.bu,.int .i64 r.qu,.int .u64 r.rew,.int .i64 r.win,.int .i64 r.fin,.int .u64 r.work] 26)) (.cells #[.bool false,.int .u64 0,.int .i64 0,.slice none 0 0,.slice none 0 0,.slice none 0 0,.int .i64 0,.int .i64 0,.int .i64 0,.int .i64 0,.int .i64 0,.int .u64 0,.int .i64 0,.int .i64 0,.int .u64 0,.slice none 0 0,.int .i64 0,.int .i64 0] 43);have HX:=Hd (three_new w (.cells #[.bool false,.int .u64 0,.int .i64 0,.slice none 0 0,.slice none 0 0,.slice none 0 0] 34) (.cells #[.int .i64 r.mode,.int .i64 r.depth,.int .i64 r.bl,.int .i64 r.bu,.int .i64 r.qu,.int .u64 r.rew,.int .i64 r.win,.int .i64 r.fin,.int .u64 r.work] 26) (.cells #[.bool false,.int .u64 0,.int .i64 0,.slice none 0 0,.slice none 0 0,.slice none 0 0,.int .i64 0,.int .i64 0,.int .i64 0,.int .i64 0,.int .i64 0,.int .u64 0,.int .i64 0,.int .i64 0,.int .u64 0,.slice none 0 0,.int .i64 0,.int .i64 0] 43));have HB:=Hd hbA;have HE:=Hd he;have HM:=Hd hm;clear hbA he hm
 go_enter Tryz.func9,Tryz.ntmps9
 go_upto_region 1 with(fail)
 generalize ((w.alloc (.cells #[.bool false,.int .u64 0,.int .i64 0,.slice none 0 0,.slice none 0 0,.slice none 0 0] 34)).alloc (.cells #[.int .i64 r.mode,.int .i64 r.depth,.int .i64 r.bl,.int .i64 r.bu,.int .i64 r.qu,.int .u64 r.rew,.int .i64 r.win,.int .i64 r.fin,.int .u64 r.work] 26)).alloc (.cells #[.bool false,.int .u64 0,.int .i64 0,.slice none 0 0,.slice none 0 0,.slice none 0 0,.int .i64 0,.int .i64 0,.int .i64 0,.int .i64 0,.int .i64 0,.int .u64 0,.int .i64 0,.int .i64 0,.int .u64 0,.slice none 0 0,.int .i64 0,.int .i64 0] 43)=W at*;have hX1:Hid (W.heap[w.heap.size+1]? =some (Obj.cells #[.int .i64 r.mode,.int .i64 r.depth,.int .i64 r.bl,.int .i64 r.bu,.int .i64 r.qu,.int .u64 r.rew,.int .i64 r.win,.int .i64 r.fin,.int .u64 r.work] 26 (0,0))):=HX.out.2.1;have hX2:Hid (W.heap[w.heap.size+1+1]? =some (Obj.cells #[.bool false,.int .u64 0,.int .i64 0,.slice none 0 0,.slice none 0 0,.slice none 0 0,.int .i64 0,.int .i64 0,.int .i64 0,.int .i64 0,.int .i64 0,.int .u64 0,.int .i64 0,.int .i64 0,.int .u64 0,.slice none 0 0,.int .i64 0,.int .i64 0] 43 (0,0))):=HX.out.1;have hX0:=Hd HX.out.2.2;obtain⟨B2,hB2⟩: ∃x,w.heap.size+1+1=x:=⟨_,rfl⟩;rw [hB2]at hX2⊢;obtain⟨B1,hB1⟩: ∃x,w.heap.size+1=x:=⟨_,rfl⟩;rw [hB1]at hX1⊢
 have HBZ:Hid (w.heap.size≤B2):=by show _≤_;omega
 clear hB1 hB2 HX;obtain⟨x0,x1⟩:=box_cells hX0.out;obtain⟨y0,y1⟩:=box_cells hX1.out;obtain⟨z0,z1⟩:=box_cells hX2.out;go_wp2_with fail
 refine(refRules_any r.mode r.depth r.bl r.bu r.qu r.rew r.win r.fin r.work W).mono ?_
 rintro e w1 ⟨rfl,hb1⟩;rw [show rulesE r.mode r.depth r.bl r.bu r.qu r.rew r.win r.fin r.work=0 from HE.out];have HX1:=Hd (box_after hb1 hX0.out);have HY1:=Hd (box_after hb1 hX1.out);have HZ1:=Hd (box_after hb1 hX2.out);have HB1:=Hd (bnext HB.out hb1);clear x0 x1 y0 y1 z0 z1 hb1;obtain⟨x0,x1⟩:=box_cells HX1.out;obtain⟨y0,y1⟩:=box_cells HY1.out;obtain⟨z0,z1⟩:=box_cells HZ1.out
 have hm3:(r.mode==3)=false:=by rw [HM.out];rfl
 clear x0 x1;obtain⟨x0,x1⟩:=box_cells HX1.out
 go_wp2_with (refine wpList_store_row rfl _ _ _ rfl B2 _ rfl rfl _ _ HZ1.out (by kernel_rfl) rfl (by kernel_rfl) ?_)
 have HZ2:Hid ((w1.setRow B2 #[.bool false,.int .u64 0,.int .i64 0,.slice none 0 0,.slice none 0 0,.slice none 0 0,.int .i64 r.mode,.int .i64 r.depth,.int .i64 r.bl,.int .i64 r.bu,.int .i64 r.qu,.int .u64 r.rew,.int .i64 r.win,.int .i64 r.fin,.int .u64 r.work,.slice none 0 0,.int .i64 (-1),.int .i64 (-1)]).heap[B2]? =some (Obj.cells #[.bool false,.int .u64 0,.int .i64 0,.slice none 0 0,.slice none 0 0,.slice none 0 0,.int .i64 r.mode,.int .i64 r.depth,.int .i64 r.bl,.int .i64 r.bu,.int .i64 r.qu,.int .u64 r.rew,.int .i64 r.win,.int .i64 r.fin,.int .u64 r.work,.slice none 0 0,.int .i64 (-1),.int .i64 (-1)] 43 (0,0))):=setRow_heap _ _ _ _ _ _ HZ1.out;have HB2:=Hd (below_setRow (g:=B2) HB1.out HBZ.out #[.bool false,.int .u64 0,.int .i64 0,.slice none 0 0,.slice none 0 0,.slice none 0 0,.int .i64 r.mode,.int .i64 r.depth,.int .i64 r.bl,.int .i64 r.bu,.int .i64 r.qu,.int .u64 r.rew,.int .i64 r.win,.int .i64 r.fin,.int .u64 r.work,.slice none 0 0,.int .i64 (-1),.int .i64 (-1)])
 (try simp only [Exit.inBlock,Exit.then])
 refine bodyPost_ret (v:= .tuple #[.agg #[.bool false,.int .u64 0,.int .i64 0,.slice none 0 0,.slice none 0 0,.slice none 0 0,.int .i64 r.mode,.int .i64 r.depth,.int .i64 r.bl,.int .i64 r.bu,.int .i64 r.qu,.int .u64 r.rew,.int .i64 r.win,.int .i64 r.fin,.int .u64 r.work,.slice none 0 0,.int .i64 (-1),.int .i64 (-1)],.int .i64 0]) ?_ rfl ⟨rfl,HB2.out⟩
 exact ret_cell_tmp Tryz.results9 rfl HZ2.out Tryz.underlying43 rfl (by kernel_rfl)
theorem rules48_any (w:World):Calls Tryz.prog 24 #[] w fun e w'=>e= .returned (.agg #[.int .i64 2,.int .i64 2,.int .i64 0,.int .i64 0,.int .i64 0,.int .u64 10,.int .i64 3,.int .i64 2,.int .u64 1])∧Below w.heap.size w w':=by
 go_enter Tryz.func24,Tryz.ntmps24
 go_wp2_with fail;have hbx:=box_new w (.cells #[.int .i64 2,.int .i64 2,.int .i64 0,.int .i64 0,.int .i64 0,.int .u64 10,.int .i64 3,.int .i64 2,.int .u64 1] 26)
 refine bodyPost_ret (results_cell_row Tryz.results24 _ _ w.heap.size _ _ _ _ rfl hbx Tryz.underlying26 rfl (by kernel_rfl)) rfl ⟨rfl,bnew (Below.refl _ _) _⟩
end Go.Proofs.YtjknlhiimmbilaaGreatDoor

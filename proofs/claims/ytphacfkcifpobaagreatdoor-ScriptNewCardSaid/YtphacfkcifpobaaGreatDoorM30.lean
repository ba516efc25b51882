/- Texts of scripts: the step of a line that begins with mine. -/
import Derived.Test.YtphacfkcifpobaaGreatDoorSxF
set_option maxRecDepth 100000
set_option maxHeartbeats 4000000
namespace Go.Proofs.YtphacfkcifpobaaGreatDoor
open Go.ChangeShapes Go.WideShapes Go.ChangeAt Go.RowKit Go.Sort
def ParseTo (line:ByteArray)(w:World)(e:Ending)(w':World):Prop:=
 (∃x bv,lineS line=some x∧e= .returned (.tuple #[.agg (stpC x bv),.bool true])∧bytesR.rel (fun k=>w.heap.size≤k) w' [bv] x.bytes∧Below w.heap.size w w')∨
 (lineS line=none∧e= .returned (.tuple #[.agg (stpC st0 (.slice none 0 0)),.bool false])∧Below w.heap.size w w')
theorem used1_any (w:World):Calls Tryz.prog 52 #[.int .i64 1] w fun e w'=>e= .returned (.tuple #[.agg (useC (useK 1)),.bool true])∧Below w.heap.size w w':=by
 have HX:=Lib.hid (box_new w (.cells useZ 129));have HB:=Lib.hid (bnew (Below.refl w.heap.size w) (.cells useZ 129));go_enter Tryz.func52,Tryz.ntmps52;have HF:=Lib.hid (setRow_heap _ _ _ (useC (useK 1)) _ _ HX.out);go_wp2_with (refine wpList_store_row rfl _ _ _ rfl w.heap.size _ rfl rfl _ _ HX.out (by kernel_rfl) rfl (by kernel_rfl) ?_)
 (try simp only [Exit.inBlock,Exit.then])
 refine bodyPost_ret (ret_ct Tryz.results52 rfl HF.out Tryz.underlying129 rfl (by kernel_rfl)) rfl ?_;exact⟨rfl,below_setRow (g:=w.heap.size) HB.out (Nat.le_refl _) _⟩
theorem parse_mine (w:World)(ht:TxtAt w)(line:ByteArray)(hl:line.size≤1000000)(hmn:(wordsOf line).headD ⟨#[]⟩=(useK 1).word):Calls Tryz.prog 34 #[.string line] w (ParseTo line w):=by
 have HT:=Lib.hid ht;have HF0:Hid (Fr (O:=fun _=>False) [] (fun _=>False) w w):=Fr.nil _ _ fun _ h=>h.elim;have HF1:=Lib.hid (HF0.out.alloc #[.int .i64 0,.int .i64 0,.int .i64 0,.int .i64 0,.int .u64 0,.int .u64 0,.slice none 0 0] 60);obtain⟨mx,hmx⟩:=(ht.on.2 _ (bnew (Below.refl w.heap.size w) (.cells #[.int .i64 0,.int .i64 0,.int .i64 0,.int .i64 0,.int .u64 0,.int .u64 0,.slice none 0 0] 60))).mx;have HM:=Lib.hid hmx;have HLN:=Lib.hid hl;have HMN:=Lib.hid hmn;clear ht hl hmx HF0 hmn;go_enter Tryz.func34,Tryz.ntmps34;go_wp2_with fail
 -- MARK0
 obtain⟨W,hW⟩: ∃z,w.alloc (.cells #[.int .i64 0,.int .i64 0,.int .i64 0,.int .i64 0,.int .u64 0,.int .u64 0,.slice none 0 0] 60)=z:=⟨_,rfl⟩;obtain⟨B,hB⟩: ∃z,w.heap.size=z:=⟨_,rfl⟩;rw [hW,hB]at HF1;rw [hW]at HM;have HBB:=Lib.hid hB;rw [hW,hB];refine(strings_Split line spB mx W (by have:=HLN.out;omega) HM.out (by decide)).mono ?_;rintro e W1 ⟨rfl,hw1⟩;have hlen:=wordsOf_len line;have hws:Lib.splitB spB 0 (Lib.countB line spB) line=wordsOf line:=rfl;have HWM:Hid (∀x∈wordsOf line,x.size≤1000000):=fun x hx=>Nat.le_trans (wordsOf_mem hx) HLN.out;rw [hws]at hw1;rw [←hlen];clear hws hB HM;obtain⟨l,hwl⟩: ∃l,wordsOf line=l:=⟨_,rfl⟩;have HWL:=Lib.hid hwl;rw [hwl]at hw1 hlen HWM⊢;have HB1:Hid (Below W.heap.size W W1):=by show Below _ _ _;rw [hw1];exact bnew (Below.refl _ _) _
 have HCE:Hid (CellsAt W1 W.heap.size 0 (l.map Value.string)):=by show CellsAt _ _ _ _;rw [hw1];exact CellsAt.new W (l.map Value.string) 9
 clear hw1 hwl;go_wp2_with fail;rw [←hlen];obtain⟨W2,hW2⟩: ∃z,W1.alloc (.cells #[.slice (some ⟨W.heap.size,0,none⟩) l.length l.length,.bool false] 126)=z:=⟨_,rfl⟩;obtain⟨p,hp⟩: ∃z,W1.heap.size=z:=⟨_,rfl⟩;rw [hW2,hp];have hb2:Below W.heap.size W W2:=by rw [←hW2];exact bnew HB1.out _
 have hk2:Below W1.heap.size W1 W2:=by rw [←hW2];exact bnew (Below.refl _ _) _
 have hle:l.length≤maxLen:=by
  have h1:Lib.countB line spB≤line.data.toList.length+1:=Lib.count_le _ _;have h2:=str_len line;have h3:=HLN.out;unfold maxLen;omega
 have hwd:WdAt (fun k=>k=W.heap.size) W2 p (l,false):=by
  refine⟨some ⟨W.heap.size,0,none⟩,by rw [←hW2,←hp];exact box_new _ _,_,_,_,rfl,rfl,Nat.le_refl _,hle,(fun h=>by cases h),fun i x hx=>⟨_,_,[.string x],rfl,rfl,rfl,?_,?_⟩⟩
  ·rintro(_|j) c hj
   ·have h0:=HCE.out i (.string x) (by rw [List.getElem?_map,hx];rfl)
    rw [show strR.n=1 from rfl,Nat.mul_one,Nat.add_zero];have h1:c= .string x:=(by simpa using hj.symm);rw [h1];exact(Kept.of_below (S:=fun _=>True) hk2).cell trivial h0
   ·simp at hj
  ·obtain⟨h1, -⟩:=List.getElem?_eq_some_iff.1 hx
   have h0:=HCE.out i (.string x) (by rw [List.getElem?_map,hx];rfl);exact Nat.lt_of_lt_of_le (cell_lt h0) hk2.size
 have hWp:W.heap.size<p:=by
  have h0:=HCE.out
  match l,hlen with
  |x::_,_=>rw [←hp];exact cell_lt (h0 0 (.string x) rfl)
 have HF2:=Lib.hid (HF1.out.new (A:=wdA p (l,false)) hb2 ⟨fun k=>k=W.heap.size,fun k h=>by rw [h];exact Nat.le_refl _,Nat.le_of_lt hWp,fun h=>by omega,hwd⟩);have hne:l≠ []:=fun h=>by rw [h]at hlen;simp at hlen
 obtain⟨word,T,rfl⟩: ∃word T,l=word::T:=by
  match l,hne with
  |a::b,_=>exact⟨a,b,rfl⟩
 have HWO:Hid ((wordsOf line).headD ⟨#[]⟩=word):=by show _=_;rw [HWL.out];rfl
 have HST:Hid (((wordsOf line).tail,false)=((T,false):WdM)):=by show _=_;rw [HWL.out];rfl
 have HS1:Hid (WdS (T,false)):=fun x hx=>HWM.out x (List.mem_cons_of_mem _ hx);clear hW hW2 hp hb2 hk2 hle hwd hWp hlen HCE HB1 HF1 HWL HWM hne;refine(next_fr HF2.out i0).mono ?_;rintro e W3 ⟨rfl,hf3⟩;have HF3:Hid (Fr (O:=fun _=>False) [wdA p (T,false),boxA B #[.int .i64 0,.int .i64 0,.int .i64 0,.int .i64 0,.int .u64 0,.int .u64 0,.slice none 0 0] 60] (fun _=>False) w W3):=hf3;clear hf3 HF2;rw [show hd1 (word::T,false)=word from rfl];obtain⟨st1,hs1⟩: ∃s:WdM,(T,false)=s:=⟨_,rfl⟩;rw [hs1]at HST HS1 HF3;clear hs1
 -- MARK1
 go_wp2_with fail;go_loopw [6] (fun v6 wr=>v6= .int .i64 1∧Hid (Fr (O:=fun _=>False) [wdA p st1,boxA B #[.int .i64 0,.int .i64 0,.int .i64 0,.int .i64 0,.int .u64 0,.int .u64 0,.slice none 0 0] 60] (fun _=>False) w wr)) (fun _ _=>0)
 case atStart=>exact⟨rfl,HF3⟩
 case round=>
  clear HF3;obtain⟨rfl,HFR⟩:=hrel;go_wp2_with fail;refine(used1_any _).mono ?_;rintro e w4 ⟨rfl,hb4⟩;have HF4:=Lib.hid (HFR.out.keepB hb4);clear hb4 HFR;have HF5:=Lib.hid (HF4.out.alloc (useC (useK 1)) 129);obtain⟨B7,hB7⟩: ∃z,w4.heap.size=z:=⟨_,rfl⟩;obtain⟨w5,hw5⟩: ∃z,w4.alloc (.cells (useC (useK 1)) 129)=z:=⟨_,rfl⟩;rw [hB7,hw5]at HF5;go_upto_region 7 with(fail);clear hw5 hB7 HF4;obtain⟨x0,x1⟩:=box_cells (HF5.out.box i0);have hwe:(useK 1).word=word:=HMN.out.symm.trans HWO.out;have e1:=str_eq hwe;have HWE:=Lib.hid hwe;have HKR:Hid (findK word 9 1=if (useK 1).word=word then some 1 else findK word 8 2):=rfl;go_upto_region 8 with(fail);clear hwe e1 x0 x1;have hu:useC (useK 1)= #[.string ⟨#[109,105,110,101]⟩,.bool true,.bool false,.bool false,.bool true,.bool false,.bool false]:=rfl;rw [hu]at HF5;clear hu;have HKK:Hid (findK word 9 1=some 1):=(by show _=_;rw [HKR.out];exact if_pos HWE.out);clear HKR HWE;have HF6:=Lib.hid (HF5.out.alloc #[.int .i64 1,.int .i64 0,.int .i64 0,.int .i64 0,.int .u64 0,.int .u64 0,.slice none 0 0] 60);obtain⟨x0,x1⟩:=box_cells (HF6.out.box i1);clear HF5;go_wp2_with fail;obtain⟨B9,hB9⟩: ∃z,w5.heap.size=z:=⟨_,rfl⟩;obtain⟨w6,hw6⟩: ∃z,w5.alloc (.cells #[.int .i64 1,.int .i64 0,.int .i64 0,.int .i64 0,.int .u64 0,.int .u64 0,.slice none 0 0] 60)=z:=⟨_,rfl⟩;rw [hw6,hB9]at HF6;rw [hw6,hB9];clear x0 x1 hw6 hB9;obtain⟨q1,hq1⟩: ∃q,takeNum st1=q:=⟨_,rfl⟩;have HQ1:=Lib.hid hq1;have HT1:Hid (WdS q1.2):=(by show WdS _;rw [←hq1];exact HS1.out.num);refine(number_fr HF6.out i2 HT.out HS1.out).mono ?_;rw [hq1];rintro e v1 ⟨rfl,hfn⟩;have HG1:=Lib.hid (hfn.set i0 1 (.int .i64 q1.1));obtain⟨s0,s1⟩:=box_cells (hfn.box i0);clear hfn hq1 HF6;obtain⟨z1,hz1⟩: ∃z,v1.setCell ⟨B9,1,none⟩ (.int .i64 q1.1)=z:=⟨_,rfl⟩;rw [hz1]at HG1;have HG1:Hid (Fr (O:=fun _=>False) (boxA B9 #[.int .i64 1,.int .i64 q1.1,.int .i64 0,.int .i64 0,.int .u64 0,.int .u64 0,.slice none 0 0] 60::boxA B7 #[.string ⟨#[109,105,110,101]⟩,.bool true,.bool false,.bool false,.bool true,.bool false,.bool false] 129::wdA p q1.2:: [boxA B #[.int .i64 0,.int .i64 0,.int .i64 0,.int .i64 0,.int .u64 0,.int .u64 0,.slice none 0 0] 60]) (fun _=>False) w z1):=HG1;obtain⟨x0,x1⟩:=box_cells (HG1.out.box i1);go_wp2_with fail;clear x0 x1 s0 s1;obtain⟨q2,hq2⟩: ∃q,takeAmt q1.2=q:=⟨_,rfl⟩;have HQ2:=Lib.hid hq2;have HT2:Hid (WdS q2.2):=(by show WdS _;rw [←hq2];exact HT1.out.amt);refine(amount_fr HG1.out i2 HT.out HT1.out).mono ?_;rw [hq2];rintro e v2 ⟨rfl,hfn⟩;have HG2:=Lib.hid (hfn.set i0 4 (.int .u64 q2.1));obtain⟨s0,s1⟩:=box_cells (hfn.box i0);clear hfn hq2 HG1;obtain⟨z2,hz2⟩: ∃z,v2.setCell ⟨B9,4,none⟩ (.int .u64 q2.1)=z:=⟨_,rfl⟩;rw [hz2]at HG2;have HG2:Hid (Fr (O:=fun _=>False) (boxA B9 #[.int .i64 1,.int .i64 q1.1,.int .i64 0,.int .i64 0,.int .u64 q2.1,.int .u64 0,.slice none 0 0] 60::boxA B7 #[.string ⟨#[109,105,110,101]⟩,.bool true,.bool false,.bool false,.bool true,.bool false,.bool false] 129::wdA p q2.2:: [boxA B #[.int .i64 0,.int .i64 0,.int .i64 0,.int .i64 0,.int .u64 0,.int .u64 0,.slice none 0 0] 60]) (fun _=>False) w z2):=HG2;obtain⟨x0,x1⟩:=box_cells (HG2.out.box i1);obtain⟨S9, -, -, -,hwd⟩:=HG2.out.get i2;obtain⟨aw,y0,y1,y2⟩:=hwd.cells;clear hwd;have HFS:Hid (fieldsK 1 st1=(⟨1,q1.1,0,0,q2.1,0,[]⟩,q2.2)):=by
   show _=_;simp only [fieldsK,ifU,useK,if_true,Bool.false_eq_true,if_false,HQ1.out,HQ2.out];rfl
  have HLS:Hid (lineS line=stepK 1 st1):=by
   show _=_;unfold lineS;rw [show(wordsOf line).headD ⟨#[]⟩=word from HWO.out,HKK.out];exact congrArg (stepK 1) HST.out
  obtain⟨⟨lw,bd⟩,hst⟩: ∃s:WdM,q2.2=s:=⟨_,rfl⟩;rw [hst]at HFS y0 y1;clear hst
  cases bd with
  |true=>
   have e3:lineS line=none:=(by rw [HLS.out];unfold stepK;rw [HFS.out];exact if_pos (.inl rfl));go_wp2_with (refine wpList_store_row rfl _ _ _ rfl B _ rfl rfl _ _ (HG2.out.box i3) (by kernel_rfl) rfl (by kernel_rfl) ?_)
   have HFE:=Lib.hid (HG2.out.setRow i3 #[.int .i64 0,.int .i64 0,.int .i64 0,.int .i64 0,.int .u64 0,.int .u64 0,.slice none 0 0])
   (try simp only [Exit.inBlock,Exit.then])
   refine bodyPost_ret (ret_ct Tryz.results34 rfl (HFE.out.box i3) Tryz.underlying60 rfl (by kernel_rfl)) rfl ?_;exact .inr ⟨e3,rfl,HFE.out.below⟩
  |false=>
   match lw with
   |c::r=>
    have l0:decide ((0:Int)<((r.length+1:Nat):Int))=true:=decide_eq_true (by omega);have l1:(0:Int)<(r.length:Int)+1:=(by omega);have e3:lineS line=none:=(by rw [HLS.out];unfold stepK;rw [HFS.out];exact if_pos (.inr (by simp)));go_wp2_with (refine wpList_store_row rfl _ _ _ rfl B _ rfl rfl _ _ (HG2.out.box i3) (by kernel_rfl) rfl (by kernel_rfl) ?_)
    have HFE:=Lib.hid (HG2.out.setRow i3 #[.int .i64 0,.int .i64 0,.int .i64 0,.int .i64 0,.int .u64 0,.int .u64 0,.slice none 0 0])
    (try simp only [Exit.inBlock,Exit.then])
    refine bodyPost_ret (ret_ct Tryz.results34 rfl (HFE.out.box i3) Tryz.underlying60 rfl (by kernel_rfl)) rfl ?_;exact .inr ⟨e3,rfl,HFE.out.below⟩
   | []=>
     have e3:lineS line=some ⟨1,q1.1,0,0,q2.1,0,[]⟩:=(by rw [HLS.out];unfold stepK;rw [HFS.out];exact if_neg (by simp));go_wp2_with (first|(refine wpList_load_row rfl _ _ rfl B9 rfl _ _ _ _ (HG2.out.box i0) Tryz.underlying60 rfl (by kernel_rfl) ?_)|(refine wpList_store_row rfl _ _ _ rfl B _ rfl rfl _ _ (HG2.out.box i3) (by kernel_rfl) rfl (by kernel_rfl) ?_))
     have HFE:=Lib.hid (HG2.out.setRow i3 #[.int .i64 1,.int .i64 q1.1,.int .i64 0,.int .i64 0,.int .u64 q2.1,.int .u64 0,.slice none 0 0])
     (try simp only [Exit.inBlock,Exit.then])
     refine bodyPost_ret (ret_ct Tryz.results34 rfl (HFE.out.box i3) Tryz.underlying60 rfl (by kernel_rfl)) rfl ?_;exact .inl ⟨⟨1,q1.1,0,0,q2.1,0,[]⟩,.slice none 0 0,e3,rfl,sliceR.nil,HFE.out.below⟩
/- Texts of scripts:the example's text. -/
theorem Tryz.etyStep:ElemTy Tryz.prog 54 60 7 72:=ElemTy.of Tryz.underlying54 (z:= .agg #[.int .i64 0,.int .i64 0,.int .i64 0,.int .i64 0,.int .u64 0,.int .u64 0,.slice none 0 0]) (by kernel_rfl) rfl (by omega)
def mine54:ByteArray:=⟨#[109,105,110,101,32,48,32,49,48,48]⟩
theorem cut54:Lib.cut line54.data.toList nlB.data.toList=(mine54.data.toList,[],true):=by kernel_rfl
theorem word54:(wordsOf mine54).headD ⟨#[]⟩=(useK 1).word:=by kernel_rfl
theorem line54_eq:lineS mine54=some step54:=by kernel_rfl
theorem parse54:Parse54:=fun w ht=>by
 have HT:=Lib.hid ht;have HF0:Hid (Fr (O:=fun _=>False) [ownA stR 0 60 (.slice none 0 0) []] (fun _=>False) w w):=(Fr.nil _ _ fun _ h=>h.elim).new (Below.refl _ _) (Own.nil _ _ _ _ _);clear ht;have hsz:line54.size=11:=rfl;have hne:line54.toList.isEmpty=false:=by rw [ByteArray.toList_eq];rfl
 have hms:mine54.size≤1000000:=by decide
 obtain⟨s,hs⟩: ∃s,line54=s:=⟨_,rfl⟩;have HS:=Lib.hid hs;rw [hs]at hsz hne⊢;clear hs;go_enter Tryz.func14,Tryz.ntmps14;go_wp2_with fail;obtain⟨m,hm⟩:=HT.out.mx;refine wp_loop_rounds 2 ?_;rw [rounds_succ]
 -- MARK1
 go_wp2_with fail;refine(strings_Cut s nlB m w (by omega) hm).mono ?_;rintro e w1 ⟨rfl,dn,hd⟩;rw [←HS.out,cut54];have hb1:Below w.heap.size w w1:=by rw [hd];exact bdrewN (Below.refl _ _) dn
 have HF1:=Lib.hid (HF0.out.keepB hb1);have HT1:=Lib.hid (HT.out.on.2 _ hb1);clear hd hb1 HF0 hm;rw [show(⟨mine54.data.toList.toArray⟩:ByteArray)=mine54 from rfl];go_wp2_with fail
 -- MARK2
 refine(parse_mine w1 HT1.out mine54 hms word54).mono ?_;rintro e w2 (⟨x,bv,hx,rfl,hbv,hb2⟩|⟨hx,rfl,hb2⟩)
 ·obtain rfl:step54=x:=Option.some.inj (line54_eq.symm.trans hx)
  obtain⟨ba,bc,rfl, -, -⟩:=sliceR.form hbv;have HF2:=Lib.hid (HF1.out.new (A:=repA bytesR [.slice ba step54.bytes.length bc] step54.bytes) hb2 hbv);have HF3:=Lib.hid (((HF2.out.map1 i0 (A':=repA stR (stpC step54 (.slice ba step54.bytes.length bc)).toList step54) fun F h=>⟨_,rfl,h⟩).alloc (stpC step54 (.slice ba step54.bytes.length bc)) 60).front i1);clear HF2 hx hbv hb2 HF1;go_upto_region 7 with(fail);obtain⟨B,hB⟩: ∃z,w2.heap.size=z:=⟨_,rfl⟩;obtain⟨w3,hw3⟩: ∃z,w2.alloc (.cells (stpC step54 (.slice ba step54.bytes.length bc)) 60)=z:=⟨_,rfl⟩;rw [hB,hw3]at HF3;rw [hB,hw3];clear hB hw3;have HF5:=Lib.hid (HF3.out.keepB (bnew (Below.refl w3.heap.size w3) (.cells (stpC step54 (.slice ba step54.bytes.length bc)) 60)));have HCU:Hid (CellsAt (w3.alloc (.cells (stpC step54 (.slice ba step54.bytes.length bc)) 60)) w3.heap.size 0 (stpC step54 (.slice ba step54.bytes.length bc)).toList):=CellsAt.new _ (stpC step54 (.slice ba step54.bytes.length bc)).toList 60
  -- MARK3
  go_wp2_with (first|(refine wpList_load_row rfl _ _ rfl B rfl _ _ _ _ (HF3.out.box i1) Tryz.underlying60 rfl (by kernel_rfl) ?_)|(at_builtin;refine wpList_appF rfl _ _ rfl Tryz.etyStep HF5.out i1 HCU.out rfl rfl rfl (by unfold maxLen;simp) (by simp) (Nat.zero_le _) ?_;intro a' c' w' hfa))
  have HFE:=Lib.hid (hfa.drop i0);clear hfa HF5 HF3 HCU
  -- MARK4
  go_wp2_with fail
  try rw [rounds_succ]
  go_wp2_with fail;go_ret3;exact⟨a',c',rfl,(sliceR stR).mono (Own.slice (HFE.out.get i0)) fun _ _ _=>trivial,HFE.out.below⟩
 ·rw [line54_eq]at hx
  cases hx
end Go.Proofs.YtphacfkcifpobaaGreatDoor

/- The ledger of the program: set. -/
import Derived.Test.YtjknlhiimmbilaaGreatDoorMLgA
import Derived.Test.YtjknlhiimmbilaaGreatDoorMRdR
set_option maxRecDepth 100000
set_option maxHeartbeats 2000000
namespace Go.Proofs.YtjknlhiimmbilaaGreatDoor
open Go.ChangeShapes Go.WideShapes Go.ChangeAt Go.RowKit Go.Sort
theorem cloneA_len (S:Nat→Prop)(w:World)(a:Option Addr)(cap len:Nat)(l:List AcM)(hlen:l.length=len)(h:accsR.rel S w [.slice a len cap] l)(hl:l.length≤1000000):
   Calls Tryz.prog 173 #[.slice a len cap] w fun e w'=> ∃v,e= .returned v∧Own acR w.heap.size 124 (fun x=>False∨w.heap.size≤x) w' v l∧Below w.heap.size w w':=by
 subst hlen;exact cloneA_any S w a cap l h hl
theorem dropA {S:Nat→Prop}{w:World}{ad:Addr}{cap:Nat}{l:List AcM}(h:accsR.rel S w [.slice (some ad) l.length cap] l)(q:Nat)(hq:q≤l.length):accsR.rel S w [.slice (some (ad.add (q*3))) (l.length-q) (cap-q)] (l.drop q):=by
 have hc:=sliceR.lens h
 rcases Nat.lt_or_ge q l.length with hlt|hge
 · obtain⟨b,off,e, -⟩:=acs_at h q hlt
   obtain rfl:=Option.some.inj e;have h2:=sliceR.dropN h q hq;rw [acR.n]at h2;rw [Addr.add_lit]
   exact h2
 · have e:l.length-q=0:=by omega
   rw [e,List.drop_of_length_le hge]
   exact⟨_,0,cap-q,rfl,rfl,Nat.zero_le _,by have:=hc.2.2.1;omega,fun h=>by simp at h,fun i x h=>by simp at h⟩
def setL (l:List AcM)(x:AcM):List AcM:=l.take (posL l x.id)++(if x.bal≠0∨x.nonce≠0 then [x]else [])++l.drop (if foundL l x.id=true then posL l x.id+1 else posL l x.id)
theorem lset_any (S:Nat→Prop)(w:World)(a:Option Addr)(cap:Nat)(l:List AcM)(h:accsR.rel S w [.slice a l.length cap] l)(hl:l.length≤100000)(hup:upL l)(x:AcM)(hx:AcOk x):
   Calls Tryz.prog 122 #[.agg #[.slice a l.length cap],.agg #[.int .u64 x.id,.int .u64 x.bal,.int .u64 x.nonce]] w fun e w'=> ∃(a':Option Addr) (c':Nat),e= .returned (.agg #[.slice a' (setL l x).length c'])∧accsR.rel (fun k=>w.heap.size≤k) w' [.slice a' (setL l x).length c'] (setL l x)∧Below w.heap.size w w':=by
 have hbA:=bnew (bnew (bnew (Below.refl w.heap.size w) (.cells #[.slice a l.length cap] 100)) (.cells #[.int .u64 x.id,.int .u64 x.bal,.int .u64 x.nonce] 124)) (.cells #[.slice none 0 0] 100);obtain⟨t1,t2,t3⟩:=three_new w (.cells #[.slice a l.length cap] 100) (.cells #[.int .u64 x.id,.int .u64 x.bal,.int .u64 x.nonce] 124) (.cells #[.slice none 0 0] 100);have HR:Hid (((((w.alloc (.cells #[.slice a l.length cap] 100)).alloc (.cells #[.int .u64 x.id,.int .u64 x.bal,.int .u64 x.nonce] 124)).alloc (.cells #[.slice none 0 0] 100)).heap[w.heap.size+1+1]? =some (.cells #[.slice none 0 0] 100 (0,0)))):=t1;have HXA:=Hd t2;have HX:=Hd t3;have H:=Hd ((accsR).keepB h hbA);have HB:=Hd hbA;have HOX:=Hd hx
 have HSZ:Hid ((((w.alloc (.cells #[.slice a l.length cap] 100)).alloc (.cells #[.int .u64 x.id,.int .u64 x.bal,.int .u64 x.nonce] 124)).alloc (.cells #[.slice none 0 0] 100)).heap.size=w.heap.size+3):=by show _=_;rw [World.size_alloc,World.size_alloc,World.size_alloc]
 clear hbA h hx t1 t2 t3
 go_enter Tryz.func122,Tryz.ntmps122
 go_upto_region 1 with(fail)
 generalize (((w.alloc (.cells #[.slice a l.length cap] 100)).alloc (.cells #[.int .u64 x.id,.int .u64 x.bal,.int .u64 x.nonce] 124)).alloc (.cells #[.slice none 0 0] 100))=W at*;obtain⟨x0,x1⟩:=box_cells HX.out;obtain⟨y0,y1⟩:=box_cells HXA.out;go_wp2_with fail
 refine(lfind_any S W a cap l H.out (by omega) hup x.id).mono ?_
 rintro e w1 ⟨rfl,hb1⟩;have hp:=posL_le l x.id
 have HP:Hid ((l.take (posL l x.id)).length=posL l x.id):=by show _=_;rw [List.length_take];omega
 have hcap:=(sliceR.lens H.out).2.1;have HS:Hid (setL l x=l.take (posL l x.id)++(if x.bal≠0∨x.nonce≠0 then [x]else [])++l.drop (if foundL l x.id=true then posL l x.id+1 else posL l x.id)):=rfl;have HFL:Hid (foundL l x.id=true→posL l x.id<l.length):=found_lt;generalize posL l x.id=p at*;generalize foundL l x.id=fd at*;clear x0 x1 y0 y1;obtain⟨x0,x1⟩:=box_cells (box_after hb1 HX.out);go_wp2_with fail
 refine(cloneA_len S w1 a cap p (l.take p) HP.out (sliceR.takeN ((accsR).keepB H.out hb1) p hp) (by have:=HP.out;omega)).mono ?_
 rintro e w2 ⟨v2,rfl,ho2,hb2⟩;have HO2:=Hd ho2;have HB1:=Hd hb1;have HB2:=Hd hb2;clear ho2 hb2 x0 x1;have HXA2:=Hd (box_after HB2.out (box_after hb1 HXA.out));have HBW:=Hd (bnext hb1 HB2.out);clear hb1;obtain⟨y0,y1⟩:=box_cells HXA2.out;obtain⟨L0,hL0⟩: ∃L,l.take p=L:=⟨_,rfl⟩;rw [hL0]at HO2 HS HP
 have HLL:Hid (L0.length≤100000):=by show _≤_;have:=HP.out;omega
 clear hL0
 by_cases hb0:x.bal=0
 · by_cases hn0:x.nonce=0
   · have z1:(x.bal != 0)=false:=by rw [bne_eq_false_iff_eq];exact hb0
     have z2:(x.nonce != 0)=false:=by rw [bne_eq_false_iff_eq];exact hn0
     have HS2:Hid (setL l x=L0++l.drop (if fd=true then p+1 else p)):=by show _=_;rw [HS.out,if_neg (by rintro(h|h);exact h hb0;exact h hn0),List.append_nil]
     clear hb0 hn0;have HOK:=HO2;have HBK:=HB2;have HBWK:=HBW;have HSK:=HS2;have HLK:=HLL;obtain⟨vk,hvk⟩: ∃v,v=v2:=⟨v2,rfl⟩;subst hvk;obtain⟨wk,hwk⟩: ∃v,v=w2:=⟨w2,rfl⟩;subst hwk;obtain⟨x0,x1⟩:=box_cells (box_after HBWK.out HX.out)
     cases fd with
     |false=>
      have HS3:Hid (setL l x=L0++l.drop p):=by show _=_;rw [HSK.out,if_neg (by simp)]
      cases a with
      |none=>
       have hcap0:=(sliceR.lens H.out).2.2.2 rfl
       have hl0:l.length=0:=by omega
       obtain rfl:=List.eq_nil_of_length_eq_zero hl0
       obtain rfl:p=0:=by simpa using hp
       subst hcap0;have DRR:Hid (accsR.rel S wk [.slice none 0 0] []):=sliceR.nil
       go_wp2_with (at_builtin;go_loud (refine wpList_catP (S:=S) (B:=w1.heap.size) (w0:=w1) (v:=vk) (u:= .slice none 0 0) (xs:=L0) (ys:= []) rfl _ _ rfl plainAc Tryz.etyAcc rfl rfl HBK.out HBK.out.size HOK.out DRR.out (by unfold maxLen;have:=HLK.out;simp;omega) (by have:=HLK.out;simp;omega) ?_))
       intro v3 w3 ho3 hb3
       have HL3:Hid (setL [] x=L0):=by show _=_;rw [HS3.out,List.drop_nil,List.append_nil]
       obtain⟨va,vc,rfl, -, -⟩:=sliceR.form ho3.slice
       have HO3:=Hd (Own.mono (F':=fun k=>w1.heap.size≤k) ho3 fun k _ h=>by first|exact h|(rcases h with h|h;exact h.elim;exact h))
       have HB3:=Hd (bnext HB.out (bnext HB1.out hb3));have HR3:=Hd (box_after hb3 (box_after HB1.out HR.out))
       have HW1:Hid (w.heap.size+3≤w1.heap.size):=by show _≤_;have:=HB1.out.size;have:=HSZ.out;omega
       obtain⟨L3,hL3⟩: ∃L,L0=L:=⟨_,rfl⟩;rw [hL3]at HO3 HL3⊢;have HOL:=Hd (HL3.out);clear ho3 hb3 hL3;obtain⟨r0,r1⟩:=box_cells HR3.out;clear x0 x1 y0 y1;have hR:=cells_box (old:= [.slice none 0 0]) HR3.out [.slice va L3.length vc] rfl
       have hK:=kept_cells w3 (q:=w.heap.size+1+1) (S:=fun k=>k≠w.heap.size+1+1) (fun h=>h rfl) [.slice va L3.length vc] 0
       obtain⟨wf,hwf⟩: ∃wf,wf=w3.setCells (w.heap.size+1+1) 0 [.slice va L3.length vc]:=⟨_,rfl⟩;rw [←hwf]at hR hK
       simp only [World.setCells]at hwf
       have HW:=Hd hwf;have HRF:=Hd hR;have HK:=Hd hK;clear hwf hR hK;go_wp2_with fail;rw [←HW.out];obtain⟨g0, -⟩:=box_cells HRF.out
       refine bodyPost_ret (v:= .agg #[.slice va L3.length vc]) (by simp [results,Tryz.results122,go_sem,g0]) rfl ?_
       rw [HOL.out]
       refine⟨va,vc,rfl,?_,?_⟩
       · have h1:=(accsR).keep HO3.out.slice (HK.out.mono fun k _ h=>by have h':w1.heap.size≤k:=h;have:=HW1.out;show k≠_;omega)
         exact(accsR).mono h1 fun k _ h=>by have h':w1.heap.size≤k:=h;have:=HW1.out;show _≤_;omega
       · have h0:Kept (fun i=>i<w.heap.size) w w3:=Kept.of_below HB3.out
         have h1:Kept (fun i=>i<w.heap.size) w wf:=h0.trans HK.out fun i _ h=>by have h':i<w.heap.size:=h;show i≠_;omega
         exact h1.below (Nat.le_refl _)
      |some ad=>
       by_cases hq:p=cap
       · have hlc:l.length=cap:=by omega
         have hdr:l.drop (p)= []:=List.drop_of_length_le (by omega)
         have DRR:Hid (accsR.rel S wk [.slice (some ad) 0 0] []):=⟨some ad,0,0,rfl,rfl,Nat.le_refl _,by unfold maxLen;omega,fun h=>by simp at h,fun i x h=>by simp at h⟩
         have HS4:Hid (setL l x=L0):=by show _=_;rw [HS3.out,hdr,List.append_nil]
         clear hdr
         go_wp2_with (at_builtin;go_loud (refine wpList_catP (S:=S) (B:=w1.heap.size) (w0:=w1) (v:=vk) (u:= .slice (some ad) 0 0) (xs:=L0) (ys:= []) rfl _ _ rfl plainAc Tryz.etyAcc rfl rfl HBK.out HBK.out.size HOK.out DRR.out (by unfold maxLen;have:=HLK.out;simp;omega) (by have:=HLK.out;simp;omega) ?_))
         intro v3 w3 ho3 hb3
         have HL3:=HS4;obtain⟨va,vc,rfl, -, -⟩:=sliceR.form ho3.slice
         have HO3:=Hd (Own.mono (F':=fun k=>w1.heap.size≤k) ho3 fun k _ h=>by first|exact h|(rcases h with h|h;exact h.elim;exact h))
         have HB3:=Hd (bnext HB.out (bnext HB1.out hb3));have HR3:=Hd (box_after hb3 (box_after HB1.out HR.out))
         have HW1:Hid (w.heap.size+3≤w1.heap.size):=by show _≤_;have:=HB1.out.size;have:=HSZ.out;omega
         obtain⟨L3,hL3⟩: ∃L,L0=L:=⟨_,rfl⟩;rw [hL3]at HO3 HL3⊢;have HOL:=Hd (HL3.out);clear ho3 hb3 hL3;obtain⟨r0,r1⟩:=box_cells HR3.out;clear x0 x1 y0 y1;have hR:=cells_box (old:= [.slice none 0 0]) HR3.out [.slice va L3.length vc] rfl
         have hK:=kept_cells w3 (q:=w.heap.size+1+1) (S:=fun k=>k≠w.heap.size+1+1) (fun h=>h rfl) [.slice va L3.length vc] 0
         obtain⟨wf,hwf⟩: ∃wf,wf=w3.setCells (w.heap.size+1+1) 0 [.slice va L3.length vc]:=⟨_,rfl⟩;rw [←hwf]at hR hK
         simp only [World.setCells]at hwf
         have HW:=Hd hwf;have HRF:=Hd hR;have HK:=Hd hK;clear hwf hR hK;go_wp2_with fail;rw [←HW.out];obtain⟨g0, -⟩:=box_cells HRF.out
         refine bodyPost_ret (v:= .agg #[.slice va L3.length vc]) (by simp [results,Tryz.results122,go_sem,g0]) rfl ?_
         rw [HOL.out]
         refine⟨va,vc,rfl,?_,?_⟩
         · have h1:=(accsR).keep HO3.out.slice (HK.out.mono fun k _ h=>by have h':w1.heap.size≤k:=h;have:=HW1.out;show k≠_;omega)
           exact(accsR).mono h1 fun k _ h=>by have h':w1.heap.size≤k:=h;have:=HW1.out;show _≤_;omega
         · have h0:Kept (fun i=>i<w.heap.size) w w3:=Kept.of_below HB3.out
           have h1:Kept (fun i=>i<w.heap.size) w wf:=h0.trans HK.out fun i _ h=>by have h':i<w.heap.size:=h;show i≠_;omega
           exact h1.below (Nat.le_refl _)
       · have DRR:=Hd (dropA ((accsR).keepB H.out HBWK.out) (p) (by omega))
         have hdl:(l.drop (p)).length=l.length-(p):=List.length_drop ..
         go_wp2_with (at_builtin;go_loud (refine wpList_catP (S:=S) (B:=w1.heap.size) (w0:=w1) (v:=vk) (u:= .slice (some (ad.add ((p)*3))) (l.length-(p)) (cap-(p))) (xs:=L0) (ys:=l.drop (p)) rfl _ _ rfl plainAc Tryz.etyAcc rfl rfl HBK.out HBK.out.size HOK.out DRR.out (by unfold maxLen;have:=HLK.out;simp;omega) (by have:=HLK.out;simp;omega) ?_))
         intro v3 w3 ho3 hb3
         have HL3:=HS3;obtain⟨va,vc,rfl, -, -⟩:=sliceR.form ho3.slice
         have HO3:=Hd (Own.mono (F':=fun k=>w1.heap.size≤k) ho3 fun k _ h=>by first|exact h|(rcases h with h|h;exact h.elim;exact h))
         have HB3:=Hd (bnext HB.out (bnext HB1.out hb3));have HR3:=Hd (box_after hb3 (box_after HB1.out HR.out))
         have HW1:Hid (w.heap.size+3≤w1.heap.size):=by show _≤_;have:=HB1.out.size;have:=HSZ.out;omega
         obtain⟨L3,hL3⟩: ∃L,L0++l.drop (p)=L:=⟨_,rfl⟩;rw [hL3]at HO3 HL3⊢;have HOL:=Hd (HL3.out);clear ho3 hb3 hL3;obtain⟨r0,r1⟩:=box_cells HR3.out;clear x0 x1 y0 y1;have hR:=cells_box (old:= [.slice none 0 0]) HR3.out [.slice va L3.length vc] rfl
         have hK:=kept_cells w3 (q:=w.heap.size+1+1) (S:=fun k=>k≠w.heap.size+1+1) (fun h=>h rfl) [.slice va L3.length vc] 0
         obtain⟨wf,hwf⟩: ∃wf,wf=w3.setCells (w.heap.size+1+1) 0 [.slice va L3.length vc]:=⟨_,rfl⟩;rw [←hwf]at hR hK
         simp only [World.setCells]at hwf
         have HW:=Hd hwf;have HRF:=Hd hR;have HK:=Hd hK;clear hwf hR hK;go_wp2_with fail;rw [←HW.out];obtain⟨g0, -⟩:=box_cells HRF.out
         refine bodyPost_ret (v:= .agg #[.slice va L3.length vc]) (by simp [results,Tryz.results122,go_sem,g0]) rfl ?_
         rw [HOL.out]
         refine⟨va,vc,rfl,?_,?_⟩
         · have h1:=(accsR).keep HO3.out.slice (HK.out.mono fun k _ h=>by have h':w1.heap.size≤k:=h;have:=HW1.out;show k≠_;omega)
           exact(accsR).mono h1 fun k _ h=>by have h':w1.heap.size≤k:=h;have:=HW1.out;show _≤_;omega
         · have h0:Kept (fun i=>i<w.heap.size) w w3:=Kept.of_below HB3.out
           have h1:Kept (fun i=>i<w.heap.size) w wf:=h0.trans HK.out fun i _ h=>by have h':i<w.heap.size:=h;show i≠_;omega
           exact h1.below (Nat.le_refl _)
     |true=>
      have HS3:Hid (setL l x=L0++l.drop (p+1)):=by show _=_;rw [HSK.out,if_pos rfl]
      have hpl:=HFL.out rfl
      have hwp:wrap64 ((p:Int)+1)=((p+1:Nat):Int):=by unfold wrap64;omega
      cases a with
      |none=>
       have hcap0:=(sliceR.lens H.out).2.2.2 rfl
       omega
      |some ad=>
       by_cases hq:p+1=cap
       · have hlc:l.length=cap:=by omega
         have hdr:l.drop (p+1)= []:=List.drop_of_length_le (by omega)
         have DRR:Hid (accsR.rel S wk [.slice (some ad) 0 0] []):=⟨some ad,0,0,rfl,rfl,Nat.le_refl _,by unfold maxLen;omega,fun h=>by simp at h,fun i x h=>by simp at h⟩
         have HS4:Hid (setL l x=L0):=by show _=_;rw [HS3.out,hdr,List.append_nil]
         clear hdr
         go_wp2_with (at_builtin;go_loud (refine wpList_catP (S:=S) (B:=w1.heap.size) (w0:=w1) (v:=vk) (u:= .slice (some ad) 0 0) (xs:=L0) (ys:= []) rfl _ _ rfl plainAc Tryz.etyAcc rfl rfl HBK.out HBK.out.size HOK.out DRR.out (by unfold maxLen;have:=HLK.out;simp;omega) (by have:=HLK.out;simp;omega) ?_))
         intro v3 w3 ho3 hb3
         have HL3:=HS4;obtain⟨va,vc,rfl, -, -⟩:=sliceR.form ho3.slice
         have HO3:=Hd (Own.mono (F':=fun k=>w1.heap.size≤k) ho3 fun k _ h=>by first|exact h|(rcases h with h|h;exact h.elim;exact h))
         have HB3:=Hd (bnext HB.out (bnext HB1.out hb3));have HR3:=Hd (box_after hb3 (box_after HB1.out HR.out))
         have HW1:Hid (w.heap.size+3≤w1.heap.size):=by show _≤_;have:=HB1.out.size;have:=HSZ.out;omega
         obtain⟨L3,hL3⟩: ∃L,L0=L:=⟨_,rfl⟩;rw [hL3]at HO3 HL3⊢;have HOL:=Hd (HL3.out);clear ho3 hb3 hL3;obtain⟨r0,r1⟩:=box_cells HR3.out;clear x0 x1 y0 y1;have hR:=cells_box (old:= [.slice none 0 0]) HR3.out [.slice va L3.length vc] rfl
         have hK:=kept_cells w3 (q:=w.heap.size+1+1) (S:=fun k=>k≠w.heap.size+1+1) (fun h=>h rfl) [.slice va L3.length vc] 0
         obtain⟨wf,hwf⟩: ∃wf,wf=w3.setCells (w.heap.size+1+1) 0 [.slice va L3.length vc]:=⟨_,rfl⟩;rw [←hwf]at hR hK
         simp only [World.setCells]at hwf
         have HW:=Hd hwf;have HRF:=Hd hR;have HK:=Hd hK;clear hwf hR hK;go_wp2_with fail;rw [←HW.out];obtain⟨g0, -⟩:=box_cells HRF.out
         refine bodyPost_ret (v:= .agg #[.slice va L3.length vc]) (by simp [results,Tryz.results122,go_sem,g0]) rfl ?_
         rw [HOL.out]
         refine⟨va,vc,rfl,?_,?_⟩
         · have h1:=(accsR).keep HO3.out.slice (HK.out.mono fun k _ h=>by have h':w1.heap.size≤k:=h;have:=HW1.out;show k≠_;omega)
           exact(accsR).mono h1 fun k _ h=>by have h':w1.heap.size≤k:=h;have:=HW1.out;show _≤_;omega
         · have h0:Kept (fun i=>i<w.heap.size) w w3:=Kept.of_below HB3.out
           have h1:Kept (fun i=>i<w.heap.size) w wf:=h0.trans HK.out fun i _ h=>by have h':i<w.heap.size:=h;show i≠_;omega
           exact h1.below (Nat.le_refl _)
       · have DRR:=Hd (dropA ((accsR).keepB H.out HBWK.out) (p+1) (by omega))
         have hdl:(l.drop (p+1)).length=l.length-(p+1):=List.length_drop ..
         go_wp2_with (at_builtin;go_loud (refine wpList_catP (S:=S) (B:=w1.heap.size) (w0:=w1) (v:=vk) (u:= .slice (some (ad.add ((p+1)*3))) (l.length-(p+1)) (cap-(p+1))) (xs:=L0) (ys:=l.drop (p+1)) rfl _ _ rfl plainAc Tryz.etyAcc rfl rfl HBK.out HBK.out.size HOK.out DRR.out (by unfold maxLen;have:=HLK.out;simp;omega) (by have:=HLK.out;simp;omega) ?_))
         intro v3 w3 ho3 hb3
         have HL3:=HS3;obtain⟨va,vc,rfl, -, -⟩:=sliceR.form ho3.slice
         have HO3:=Hd (Own.mono (F':=fun k=>w1.heap.size≤k) ho3 fun k _ h=>by first|exact h|(rcases h with h|h;exact h.elim;exact h))
         have HB3:=Hd (bnext HB.out (bnext HB1.out hb3));have HR3:=Hd (box_after hb3 (box_after HB1.out HR.out))
         have HW1:Hid (w.heap.size+3≤w1.heap.size):=by show _≤_;have:=HB1.out.size;have:=HSZ.out;omega
         obtain⟨L3,hL3⟩: ∃L,L0++l.drop (p+1)=L:=⟨_,rfl⟩;rw [hL3]at HO3 HL3⊢;have HOL:=Hd (HL3.out);clear ho3 hb3 hL3;obtain⟨r0,r1⟩:=box_cells HR3.out;clear x0 x1 y0 y1;have hR:=cells_box (old:= [.slice none 0 0]) HR3.out [.slice va L3.length vc] rfl
         have hK:=kept_cells w3 (q:=w.heap.size+1+1) (S:=fun k=>k≠w.heap.size+1+1) (fun h=>h rfl) [.slice va L3.length vc] 0
         obtain⟨wf,hwf⟩: ∃wf,wf=w3.setCells (w.heap.size+1+1) 0 [.slice va L3.length vc]:=⟨_,rfl⟩;rw [←hwf]at hR hK
         simp only [World.setCells]at hwf
         have HW:=Hd hwf;have HRF:=Hd hR;have HK:=Hd hK;clear hwf hR hK;go_wp2_with fail;rw [←HW.out];obtain⟨g0, -⟩:=box_cells HRF.out
         refine bodyPost_ret (v:= .agg #[.slice va L3.length vc]) (by simp [results,Tryz.results122,go_sem,g0]) rfl ?_
         rw [HOL.out]
         refine⟨va,vc,rfl,?_,?_⟩
         · have h1:=(accsR).keep HO3.out.slice (HK.out.mono fun k _ h=>by have h':w1.heap.size≤k:=h;have:=HW1.out;show k≠_;omega)
           exact(accsR).mono h1 fun k _ h=>by have h':w1.heap.size≤k:=h;have:=HW1.out;show _≤_;omega
         · have h0:Kept (fun i=>i<w.heap.size) w w3:=Kept.of_below HB3.out
           have h1:Kept (fun i=>i<w.heap.size) w wf:=h0.trans HK.out fun i _ h=>by have h':i<w.heap.size:=h;show i≠_;omega
           exact h1.below (Nat.le_refl _)
   · have z1:(x.bal != 0)=false:=by rw [bne_eq_false_iff_eq];exact hb0
     have z2:(x.nonce != 0)=true:=by rw [bne_iff_ne];exact hn0
     have HS2:Hid (setL l x=L0++ [x]++l.drop (if fd=true then p+1 else p)):=by show _=_;rw [HS.out,if_pos (.inr hn0)]
     clear hb0 hn0
     have HY:Hid (acR.rel (fun _=>False) w2 [.int .u64 x.id,.int .u64 x.bal,.int .u64 x.nonce] x):=acR.mk HOX.out
     go_wp2_with (at_builtin;go_loud (refine wpList_push (r:=acR) (v:=v2) (wr:=w2) (es:= [.int .u64 x.id,.int .u64 x.bal,.int .u64 x.nonce]) (w0:=w1) (B:=w1.heap.size) rfl _ _ rfl Tryz.etyAcc rfl rfl HB2.out HB2.out.size HO2.out HY.out (fun x hx=>hx.elim) (by unfold maxLen;have:=HLL.out;omega) (by have:=HLL.out;omega) ?_))
     intro vk wk hok hbk
     have HOK:Hid (Own acR w1.heap.size 124 (fun x=>False∨w1.heap.size≤x) wk vk (L0++ [x])):=Own.mono hok fun x _ h=>by first|exact h|exact .inr h
     have HBK:=Hd hbk;have HBWK:=Hd (bnext HB1.out hbk);have HSK:=HS2
     have HLK:Hid ((L0++ [x]).length≤100001):=by show _≤_;have:=HLL.out;rw [List.length_append];simp;omega
     obtain⟨LP,hLP⟩: ∃L,L0++ [x]=L:=⟨_,rfl⟩;rw [hLP]at HOK HSK HLK;clear hLP;clear hok hbk y0 y1;obtain⟨y0,y1⟩:=box_cells (box_after HBWK.out HXA.out);obtain⟨x0,x1⟩:=box_cells (box_after HBWK.out HX.out)
     cases fd with
     |false=>
      have HS3:Hid (setL l x=LP++l.drop p):=by show _=_;rw [HSK.out,if_neg (by simp)]
      cases a with
      |none=>
       have hcap0:=(sliceR.lens H.out).2.2.2 rfl
       have hl0:l.length=0:=by omega
       obtain rfl:=List.eq_nil_of_length_eq_zero hl0
       obtain rfl:p=0:=by simpa using hp
       subst hcap0;have DRR:Hid (accsR.rel S wk [.slice none 0 0] []):=sliceR.nil
       go_wp2_with (at_builtin;go_loud (refine wpList_catP (S:=S) (B:=w1.heap.size) (w0:=w1) (v:=vk) (u:= .slice none 0 0) (xs:=LP) (ys:= []) rfl _ _ rfl plainAc Tryz.etyAcc rfl rfl HBK.out HBK.out.size HOK.out DRR.out (by unfold maxLen;have:=HLK.out;simp;omega) (by have:=HLK.out;simp;omega) ?_))
       intro v3 w3 ho3 hb3
       have HL3:Hid (setL [] x=LP):=by show _=_;rw [HS3.out,List.drop_nil,List.append_nil]
       obtain⟨va,vc,rfl, -, -⟩:=sliceR.form ho3.slice
       have HO3:=Hd (Own.mono (F':=fun k=>w1.heap.size≤k) ho3 fun k _ h=>by first|exact h|(rcases h with h|h;exact h.elim;exact h))
       have HB3:=Hd (bnext HB.out (bnext HB1.out hb3));have HR3:=Hd (box_after hb3 (box_after HB1.out HR.out))
       have HW1:Hid (w.heap.size+3≤w1.heap.size):=by show _≤_;have:=HB1.out.size;have:=HSZ.out;omega
       obtain⟨L3,hL3⟩: ∃L,LP=L:=⟨_,rfl⟩;rw [hL3]at HO3 HL3⊢;have HOL:=Hd (HL3.out);clear ho3 hb3 hL3;obtain⟨r0,r1⟩:=box_cells HR3.out;clear x0 x1 y0 y1;have hR:=cells_box (old:= [.slice none 0 0]) HR3.out [.slice va L3.length vc] rfl
       have hK:=kept_cells w3 (q:=w.heap.size+1+1) (S:=fun k=>k≠w.heap.size+1+1) (fun h=>h rfl) [.slice va L3.length vc] 0
       obtain⟨wf,hwf⟩: ∃wf,wf=w3.setCells (w.heap.size+1+1) 0 [.slice va L3.length vc]:=⟨_,rfl⟩;rw [←hwf]at hR hK
       simp only [World.setCells]at hwf
       have HW:=Hd hwf;have HRF:=Hd hR;have HK:=Hd hK;clear hwf hR hK;go_wp2_with fail;rw [←HW.out];obtain⟨g0, -⟩:=box_cells HRF.out
       refine bodyPost_ret (v:= .agg #[.slice va L3.length vc]) (by simp [results,Tryz.results122,go_sem,g0]) rfl ?_
       rw [HOL.out]
       refine⟨va,vc,rfl,?_,?_⟩
       · have h1:=(accsR).keep HO3.out.slice (HK.out.mono fun k _ h=>by have h':w1.heap.size≤k:=h;have:=HW1.out;show k≠_;omega)
         exact(accsR).mono h1 fun k _ h=>by have h':w1.heap.size≤k:=h;have:=HW1.out;show _≤_;omega
       · have h0:Kept (fun i=>i<w.heap.size) w w3:=Kept.of_below HB3.out
         have h1:Kept (fun i=>i<w.heap.size) w wf:=h0.trans HK.out fun i _ h=>by have h':i<w.heap.size:=h;show i≠_;omega
         exact h1.below (Nat.le_refl _)
      |some ad=>
       by_cases hq:p=cap
       · have hlc:l.length=cap:=by omega
         have hdr:l.drop (p)= []:=List.drop_of_length_le (by omega)
         have DRR:Hid (accsR.rel S wk [.slice (some ad) 0 0] []):=⟨some ad,0,0,rfl,rfl,Nat.le_refl _,by unfold maxLen;omega,fun h=>by simp at h,fun i x h=>by simp at h⟩
         have HS4:Hid (setL l x=LP):=by show _=_;rw [HS3.out,hdr,List.append_nil]
         clear hdr
         go_wp2_with (at_builtin;go_loud (refine wpList_catP (S:=S) (B:=w1.heap.size) (w0:=w1) (v:=vk) (u:= .slice (some ad) 0 0) (xs:=LP) (ys:= []) rfl _ _ rfl plainAc Tryz.etyAcc rfl rfl HBK.out HBK.out.size HOK.out DRR.out (by unfold maxLen;have:=HLK.out;simp;omega) (by have:=HLK.out;simp;omega) ?_))
         intro v3 w3 ho3 hb3
         have HL3:=HS4;obtain⟨va,vc,rfl, -, -⟩:=sliceR.form ho3.slice
         have HO3:=Hd (Own.mono (F':=fun k=>w1.heap.size≤k) ho3 fun k _ h=>by first|exact h|(rcases h with h|h;exact h.elim;exact h))
         have HB3:=Hd (bnext HB.out (bnext HB1.out hb3));have HR3:=Hd (box_after hb3 (box_after HB1.out HR.out))
         have HW1:Hid (w.heap.size+3≤w1.heap.size):=by show _≤_;have:=HB1.out.size;have:=HSZ.out;omega
         obtain⟨L3,hL3⟩: ∃L,LP=L:=⟨_,rfl⟩;rw [hL3]at HO3 HL3⊢;have HOL:=Hd (HL3.out);clear ho3 hb3 hL3;obtain⟨r0,r1⟩:=box_cells HR3.out;clear x0 x1 y0 y1;have hR:=cells_box (old:= [.slice none 0 0]) HR3.out [.slice va L3.length vc] rfl
         have hK:=kept_cells w3 (q:=w.heap.size+1+1) (S:=fun k=>k≠w.heap.size+1+1) (fun h=>h rfl) [.slice va L3.length vc] 0
         obtain⟨wf,hwf⟩: ∃wf,wf=w3.setCells (w.heap.size+1+1) 0 [.slice va L3.length vc]:=⟨_,rfl⟩;rw [←hwf]at hR hK
         simp only [World.setCells]at hwf
         have HW:=Hd hwf;have HRF:=Hd hR;have HK:=Hd hK;clear hwf hR hK;go_wp2_with fail;rw [←HW.out];obtain⟨g0, -⟩:=box_cells HRF.out
         refine bodyPost_ret (v:= .agg #[.slice va L3.length vc]) (by simp [results,Tryz.results122,go_sem,g0]) rfl ?_
         rw [HOL.out]
         refine⟨va,vc,rfl,?_,?_⟩
         · have h1:=(accsR).keep HO3.out.slice (HK.out.mono fun k _ h=>by have h':w1.heap.size≤k:=h;have:=HW1.out;show k≠_;omega)
           exact(accsR).mono h1 fun k _ h=>by have h':w1.heap.size≤k:=h;have:=HW1.out;show _≤_;omega
         · have h0:Kept (fun i=>i<w.heap.size) w w3:=Kept.of_below HB3.out
           have h1:Kept (fun i=>i<w.heap.size) w wf:=h0.trans HK.out fun i _ h=>by have h':i<w.heap.size:=h;show i≠_;omega
           exact h1.below (Nat.le_refl _)
       · have DRR:=Hd (dropA ((accsR).keepB H.out HBWK.out) (p) (by omega))
         have hdl:(l.drop (p)).length=l.length-(p):=List.length_drop ..
         go_wp2_with (at_builtin;go_loud (refine wpList_catP (S:=S) (B:=w1.heap.size) (w0:=w1) (v:=vk) (u:= .slice (some (ad.add ((p)*3))) (l.length-(p)) (cap-(p))) (xs:=LP) (ys:=l.drop (p)) rfl _ _ rfl plainAc Tryz.etyAcc rfl rfl HBK.out HBK.out.size HOK.out DRR.out (by unfold maxLen;have:=HLK.out;simp;omega) (by have:=HLK.out;simp;omega) ?_))
         intro v3 w3 ho3 hb3
         have HL3:=HS3;obtain⟨va,vc,rfl, -, -⟩:=sliceR.form ho3.slice
         have HO3:=Hd (Own.mono (F':=fun k=>w1.heap.size≤k) ho3 fun k _ h=>by first|exact h|(rcases h with h|h;exact h.elim;exact h))
         have HB3:=Hd (bnext HB.out (bnext HB1.out hb3));have HR3:=Hd (box_after hb3 (box_after HB1.out HR.out))
         have HW1:Hid (w.heap.size+3≤w1.heap.size):=by show _≤_;have:=HB1.out.size;have:=HSZ.out;omega
         obtain⟨L3,hL3⟩: ∃L,LP++l.drop (p)=L:=⟨_,rfl⟩;rw [hL3]at HO3 HL3⊢;have HOL:=Hd (HL3.out);clear ho3 hb3 hL3;obtain⟨r0,r1⟩:=box_cells HR3.out;clear x0 x1 y0 y1;have hR:=cells_box (old:= [.slice none 0 0]) HR3.out [.slice va L3.length vc] rfl
         have hK:=kept_cells w3 (q:=w.heap.size+1+1) (S:=fun k=>k≠w.heap.size+1+1) (fun h=>h rfl) [.slice va L3.length vc] 0
         obtain⟨wf,hwf⟩: ∃wf,wf=w3.setCells (w.heap.size+1+1) 0 [.slice va L3.length vc]:=⟨_,rfl⟩;rw [←hwf]at hR hK
         simp only [World.setCells]at hwf
         have HW:=Hd hwf;have HRF:=Hd hR;have HK:=Hd hK;clear hwf hR hK;go_wp2_with fail;rw [←HW.out];obtain⟨g0, -⟩:=box_cells HRF.out
         refine bodyPost_ret (v:= .agg #[.slice va L3.length vc]) (by simp [results,Tryz.results122,go_sem,g0]) rfl ?_
         rw [HOL.out]
         refine⟨va,vc,rfl,?_,?_⟩
         · have h1:=(accsR).keep HO3.out.slice (HK.out.mono fun k _ h=>by have h':w1.heap.size≤k:=h;have:=HW1.out;show k≠_;omega)
           exact(accsR).mono h1 fun k _ h=>by have h':w1.heap.size≤k:=h;have:=HW1.out;show _≤_;omega
         · have h0:Kept (fun i=>i<w.heap.size) w w3:=Kept.of_below HB3.out
           have h1:Kept (fun i=>i<w.heap.size) w wf:=h0.trans HK.out fun i _ h=>by have h':i<w.heap.size:=h;show i≠_;omega
           exact h1.below (Nat.le_refl _)
     |true=>
      have HS3:Hid (setL l x=LP++l.drop (p+1)):=by show _=_;rw [HSK.out,if_pos rfl]
      have hpl:=HFL.out rfl
      have hwp:wrap64 ((p:Int)+1)=((p+1:Nat):Int):=by unfold wrap64;omega
      cases a with
      |none=>
       have hcap0:=(sliceR.lens H.out).2.2.2 rfl
       omega
      |some ad=>
       by_cases hq:p+1=cap
       · have hlc:l.length=cap:=by omega
         have hdr:l.drop (p+1)= []:=List.drop_of_length_le (by omega)
         have DRR:Hid (accsR.rel S wk [.slice (some ad) 0 0] []):=⟨some ad,0,0,rfl,rfl,Nat.le_refl _,by unfold maxLen;omega,fun h=>by simp at h,fun i x h=>by simp at h⟩
         have HS4:Hid (setL l x=LP):=by show _=_;rw [HS3.out,hdr,List.append_nil]
         clear hdr
         go_wp2_with (at_builtin;go_loud (refine wpList_catP (S:=S) (B:=w1.heap.size) (w0:=w1) (v:=vk) (u:= .slice (some ad) 0 0) (xs:=LP) (ys:= []) rfl _ _ rfl plainAc Tryz.etyAcc rfl rfl HBK.out HBK.out.size HOK.out DRR.out (by unfold maxLen;have:=HLK.out;simp;omega) (by have:=HLK.out;simp;omega) ?_))
         intro v3 w3 ho3 hb3
         have HL3:=HS4;obtain⟨va,vc,rfl, -, -⟩:=sliceR.form ho3.slice
         have HO3:=Hd (Own.mono (F':=fun k=>w1.heap.size≤k) ho3 fun k _ h=>by first|exact h|(rcases h with h|h;exact h.elim;exact h))
         have HB3:=Hd (bnext HB.out (bnext HB1.out hb3));have HR3:=Hd (box_after hb3 (box_after HB1.out HR.out))
         have HW1:Hid (w.heap.size+3≤w1.heap.size):=by show _≤_;have:=HB1.out.size;have:=HSZ.out;omega
         obtain⟨L3,hL3⟩: ∃L,LP=L:=⟨_,rfl⟩;rw [hL3]at HO3 HL3⊢;have HOL:=Hd (HL3.out);clear ho3 hb3 hL3;obtain⟨r0,r1⟩:=box_cells HR3.out;clear x0 x1 y0 y1;have hR:=cells_box (old:= [.slice none 0 0]) HR3.out [.slice va L3.length vc] rfl
         have hK:=kept_cells w3 (q:=w.heap.size+1+1) (S:=fun k=>k≠w.heap.size+1+1) (fun h=>h rfl) [.slice va L3.length vc] 0
         obtain⟨wf,hwf⟩: ∃wf,wf=w3.setCells (w.heap.size+1+1) 0 [.slice va L3.length vc]:=⟨_,rfl⟩;rw [←hwf]at hR hK
         simp only [World.setCells]at hwf
         have HW:=Hd hwf;have HRF:=Hd hR;have HK:=Hd hK;clear hwf hR hK;go_wp2_with fail;rw [←HW.out];obtain⟨g0, -⟩:=box_cells HRF.out
         refine bodyPost_ret (v:= .agg #[.slice va L3.length vc]) (by simp [results,Tryz.results122,go_sem,g0]) rfl ?_
         rw [HOL.out]
         refine⟨va,vc,rfl,?_,?_⟩
         · have h1:=(accsR).keep HO3.out.slice (HK.out.mono fun k _ h=>by have h':w1.heap.size≤k:=h;have:=HW1.out;show k≠_;omega)
           exact(accsR).mono h1 fun k _ h=>by have h':w1.heap.size≤k:=h;have:=HW1.out;show _≤_;omega
         · have h0:Kept (fun i=>i<w.heap.size) w w3:=Kept.of_below HB3.out
           have h1:Kept (fun i=>i<w.heap.size) w wf:=h0.trans HK.out fun i _ h=>by have h':i<w.heap.size:=h;show i≠_;omega
           exact h1.below (Nat.le_refl _)
       · have DRR:=Hd (dropA ((accsR).keepB H.out HBWK.out) (p+1) (by omega))
         have hdl:(l.drop (p+1)).length=l.length-(p+1):=List.length_drop ..
         go_wp2_with (at_builtin;go_loud (refine wpList_catP (S:=S) (B:=w1.heap.size) (w0:=w1) (v:=vk) (u:= .slice (some (ad.add ((p+1)*3))) (l.length-(p+1)) (cap-(p+1))) (xs:=LP) (ys:=l.drop (p+1)) rfl _ _ rfl plainAc Tryz.etyAcc rfl rfl HBK.out HBK.out.size HOK.out DRR.out (by unfold maxLen;have:=HLK.out;simp;omega) (by have:=HLK.out;simp;omega) ?_))
         intro v3 w3 ho3 hb3
         have HL3:=HS3;obtain⟨va,vc,rfl, -, -⟩:=sliceR.form ho3.slice
         have HO3:=Hd (Own.mono (F':=fun k=>w1.heap.size≤k) ho3 fun k _ h=>by first|exact h|(rcases h with h|h;exact h.elim;exact h))
         have HB3:=Hd (bnext HB.out (bnext HB1.out hb3));have HR3:=Hd (box_after hb3 (box_after HB1.out HR.out))
         have HW1:Hid (w.heap.size+3≤w1.heap.size):=by show _≤_;have:=HB1.out.size;have:=HSZ.out;omega
         obtain⟨L3,hL3⟩: ∃L,LP++l.drop (p+1)=L:=⟨_,rfl⟩;rw [hL3]at HO3 HL3⊢;have HOL:=Hd (HL3.out);clear ho3 hb3 hL3;obtain⟨r0,r1⟩:=box_cells HR3.out;clear x0 x1 y0 y1;have hR:=cells_box (old:= [.slice none 0 0]) HR3.out [.slice va L3.length vc] rfl
         have hK:=kept_cells w3 (q:=w.heap.size+1+1) (S:=fun k=>k≠w.heap.size+1+1) (fun h=>h rfl) [.slice va L3.length vc] 0
         obtain⟨wf,hwf⟩: ∃wf,wf=w3.setCells (w.heap.size+1+1) 0 [.slice va L3.length vc]:=⟨_,rfl⟩;rw [←hwf]at hR hK
         simp only [World.setCells]at hwf
         have HW:=Hd hwf;have HRF:=Hd hR;have HK:=Hd hK;clear hwf hR hK;go_wp2_with fail;rw [←HW.out];obtain⟨g0, -⟩:=box_cells HRF.out
         refine bodyPost_ret (v:= .agg #[.slice va L3.length vc]) (by simp [results,Tryz.results122,go_sem,g0]) rfl ?_
         rw [HOL.out]
         refine⟨va,vc,rfl,?_,?_⟩
         · have h1:=(accsR).keep HO3.out.slice (HK.out.mono fun k _ h=>by have h':w1.heap.size≤k:=h;have:=HW1.out;show k≠_;omega)
           exact(accsR).mono h1 fun k _ h=>by have h':w1.heap.size≤k:=h;have:=HW1.out;show _≤_;omega
         · have h0:Kept (fun i=>i<w.heap.size) w w3:=Kept.of_below HB3.out
           have h1:Kept (fun i=>i<w.heap.size) w wf:=h0.trans HK.out fun i _ h=>by have h':i<w.heap.size:=h;show i≠_;omega
           exact h1.below (Nat.le_refl _)
 · have z1:(x.bal != 0)=true:=by rw [bne_iff_ne];exact hb0
   have HS2:Hid (setL l x=L0++ [x]++l.drop (if fd=true then p+1 else p)):=by show _=_;rw [HS.out,if_pos (.inl hb0)]
   clear hb0
   have HY:Hid (acR.rel (fun _=>False) w2 [.int .u64 x.id,.int .u64 x.bal,.int .u64 x.nonce] x):=acR.mk HOX.out
   go_wp2_with (at_builtin;go_loud (refine wpList_push (r:=acR) (v:=v2) (wr:=w2) (es:= [.int .u64 x.id,.int .u64 x.bal,.int .u64 x.nonce]) (w0:=w1) (B:=w1.heap.size) rfl _ _ rfl Tryz.etyAcc rfl rfl HB2.out HB2.out.size HO2.out HY.out (fun x hx=>hx.elim) (by unfold maxLen;have:=HLL.out;omega) (by have:=HLL.out;omega) ?_))
   intro vk wk hok hbk
   have HOK:Hid (Own acR w1.heap.size 124 (fun x=>False∨w1.heap.size≤x) wk vk (L0++ [x])):=Own.mono hok fun x _ h=>by first|exact h|exact .inr h
   have HBK:=Hd hbk;have HBWK:=Hd (bnext HB1.out hbk);have HSK:=HS2
   have HLK:Hid ((L0++ [x]).length≤100001):=by show _≤_;have:=HLL.out;rw [List.length_append];simp;omega
   obtain⟨LP,hLP⟩: ∃L,L0++ [x]=L:=⟨_,rfl⟩;rw [hLP]at HOK HSK HLK;clear hLP;clear hok hbk y0 y1;obtain⟨y0,y1⟩:=box_cells (box_after HBWK.out HXA.out);obtain⟨x0,x1⟩:=box_cells (box_after HBWK.out HX.out)
   cases fd with
   |false=>
    have HS3:Hid (setL l x=LP++l.drop p):=by show _=_;rw [HSK.out,if_neg (by simp)]
    cases a with
    |none=>
     have hcap0:=(sliceR.lens H.out).2.2.2 rfl
     have hl0:l.length=0:=by omega
     obtain rfl:=List.eq_nil_of_length_eq_zero hl0
     obtain rfl:p=0:=by simpa using hp
     subst hcap0;have DRR:Hid (accsR.rel S wk [.slice none 0 0] []):=sliceR.nil
     go_wp2_with (at_builtin;go_loud (refine wpList_catP (S:=S) (B:=w1.heap.size) (w0:=w1) (v:=vk) (u:= .slice none 0 0) (xs:=LP) (ys:= []) rfl _ _ rfl plainAc Tryz.etyAcc rfl rfl HBK.out HBK.out.size HOK.out DRR.out (by unfold maxLen;have:=HLK.out;simp;omega) (by have:=HLK.out;simp;omega) ?_))
     intro v3 w3 ho3 hb3
     have HL3:Hid (setL [] x=LP):=by show _=_;rw [HS3.out,List.drop_nil,List.append_nil]
     obtain⟨va,vc,rfl, -, -⟩:=sliceR.form ho3.slice
     have HO3:=Hd (Own.mono (F':=fun k=>w1.heap.size≤k) ho3 fun k _ h=>by first|exact h|(rcases h with h|h;exact h.elim;exact h))
     have HB3:=Hd (bnext HB.out (bnext HB1.out hb3));have HR3:=Hd (box_after hb3 (box_after HB1.out HR.out))
     have HW1:Hid (w.heap.size+3≤w1.heap.size):=by show _≤_;have:=HB1.out.size;have:=HSZ.out;omega
     obtain⟨L3,hL3⟩: ∃L,LP=L:=⟨_,rfl⟩;rw [hL3]at HO3 HL3⊢;have HOL:=Hd (HL3.out);clear ho3 hb3 hL3;obtain⟨r0,r1⟩:=box_cells HR3.out;clear x0 x1 y0 y1;have hR:=cells_box (old:= [.slice none 0 0]) HR3.out [.slice va L3.length vc] rfl
     have hK:=kept_cells w3 (q:=w.heap.size+1+1) (S:=fun k=>k≠w.heap.size+1+1) (fun h=>h rfl) [.slice va L3.length vc] 0
     obtain⟨wf,hwf⟩: ∃wf,wf=w3.setCells (w.heap.size+1+1) 0 [.slice va L3.length vc]:=⟨_,rfl⟩;rw [←hwf]at hR hK
     simp only [World.setCells]at hwf
     have HW:=Hd hwf;have HRF:=Hd hR;have HK:=Hd hK;clear hwf hR hK;go_wp2_with fail;rw [←HW.out];obtain⟨g0, -⟩:=box_cells HRF.out
     refine bodyPost_ret (v:= .agg #[.slice va L3.length vc]) (by simp [results,Tryz.results122,go_sem,g0]) rfl ?_
     rw [HOL.out]
     refine⟨va,vc,rfl,?_,?_⟩
     · have h1:=(accsR).keep HO3.out.slice (HK.out.mono fun k _ h=>by have h':w1.heap.size≤k:=h;have:=HW1.out;show k≠_;omega)
       exact(accsR).mono h1 fun k _ h=>by have h':w1.heap.size≤k:=h;have:=HW1.out;show _≤_;omega
     · have h0:Kept (fun i=>i<w.heap.size) w w3:=Kept.of_below HB3.out
       have h1:Kept (fun i=>i<w.heap.size) w wf:=h0.trans HK.out fun i _ h=>by have h':i<w.heap.size:=h;show i≠_;omega
       exact h1.below (Nat.le_refl _)
    |some ad=>
     by_cases hq:p=cap
     · have hlc:l.length=cap:=by omega
       have hdr:l.drop (p)= []:=List.drop_of_length_le (by omega)
       have DRR:Hid (accsR.rel S wk [.slice (some ad) 0 0] []):=⟨some ad,0,0,rfl,rfl,Nat.le_refl _,by unfold maxLen;omega,fun h=>by simp at h,fun i x h=>by simp at h⟩
       have HS4:Hid (setL l x=LP):=by show _=_;rw [HS3.out,hdr,List.append_nil]
       clear hdr
       go_wp2_with (at_builtin;go_loud (refine wpList_catP (S:=S) (B:=w1.heap.size) (w0:=w1) (v:=vk) (u:= .slice (some ad) 0 0) (xs:=LP) (ys:= []) rfl _ _ rfl plainAc Tryz.etyAcc rfl rfl HBK.out HBK.out.size HOK.out DRR.out (by unfold maxLen;have:=HLK.out;simp;omega) (by have:=HLK.out;simp;omega) ?_))
       intro v3 w3 ho3 hb3
       have HL3:=HS4;obtain⟨va,vc,rfl, -, -⟩:=sliceR.form ho3.slice
       have HO3:=Hd (Own.mono (F':=fun k=>w1.heap.size≤k) ho3 fun k _ h=>by first|exact h|(rcases h with h|h;exact h.elim;exact h))
       have HB3:=Hd (bnext HB.out (bnext HB1.out hb3));have HR3:=Hd (box_after hb3 (box_after HB1.out HR.out))
       have HW1:Hid (w.heap.size+3≤w1.heap.size):=by show _≤_;have:=HB1.out.size;have:=HSZ.out;omega
       obtain⟨L3,hL3⟩: ∃L,LP=L:=⟨_,rfl⟩;rw [hL3]at HO3 HL3⊢;have HOL:=Hd (HL3.out);clear ho3 hb3 hL3;obtain⟨r0,r1⟩:=box_cells HR3.out;clear x0 x1 y0 y1;have hR:=cells_box (old:= [.slice none 0 0]) HR3.out [.slice va L3.length vc] rfl
       have hK:=kept_cells w3 (q:=w.heap.size+1+1) (S:=fun k=>k≠w.heap.size+1+1) (fun h=>h rfl) [.slice va L3.length vc] 0
       obtain⟨wf,hwf⟩: ∃wf,wf=w3.setCells (w.heap.size+1+1) 0 [.slice va L3.length vc]:=⟨_,rfl⟩;rw [←hwf]at hR hK
       simp only [World.setCells]at hwf
       have HW:=Hd hwf;have HRF:=Hd hR;have HK:=Hd hK;clear hwf hR hK;go_wp2_with fail;rw [←HW.out];obtain⟨g0, -⟩:=box_cells HRF.out
       refine bodyPost_ret (v:= .agg #[.slice va L3.length vc]) (by simp [results,Tryz.results122,go_sem,g0]) rfl ?_
       rw [HOL.out]
       refine⟨va,vc,rfl,?_,?_⟩
       · have h1:=(accsR).keep HO3.out.slice (HK.out.mono fun k _ h=>by have h':w1.heap.size≤k:=h;have:=HW1.out;show k≠_;omega)
         exact(accsR).mono h1 fun k _ h=>by have h':w1.heap.size≤k:=h;have:=HW1.out;show _≤_;omega
       · have h0:Kept (fun i=>i<w.heap.size) w w3:=Kept.of_below HB3.out
         have h1:Kept (fun i=>i<w.heap.size) w wf:=h0.trans HK.out fun i _ h=>by have h':i<w.heap.size:=h;show i≠_;omega
         exact h1.below (Nat.le_refl _)
     · have DRR:=Hd (dropA ((accsR).keepB H.out HBWK.out) (p) (by omega))
       have hdl:(l.drop (p)).length=l.length-(p):=List.length_drop ..
       go_wp2_with (at_builtin;go_loud (refine wpList_catP (S:=S) (B:=w1.heap.size) (w0:=w1) (v:=vk) (u:= .slice (some (ad.add ((p)*3))) (l.length-(p)) (cap-(p))) (xs:=LP) (ys:=l.drop (p)) rfl _ _ rfl plainAc Tryz.etyAcc rfl rfl HBK.out HBK.out.size HOK.out DRR.out (by unfold maxLen;have:=HLK.out;simp;omega) (by have:=HLK.out;simp;omega) ?_))
       intro v3 w3 ho3 hb3
       have HL3:=HS3;obtain⟨va,vc,rfl, -, -⟩:=sliceR.form ho3.slice
       have HO3:=Hd (Own.mono (F':=fun k=>w1.heap.size≤k) ho3 fun k _ h=>by first|exact h|(rcases h with h|h;exact h.elim;exact h))
       have HB3:=Hd (bnext HB.out (bnext HB1.out hb3));have HR3:=Hd (box_after hb3 (box_after HB1.out HR.out))
       have HW1:Hid (w.heap.size+3≤w1.heap.size):=by show _≤_;have:=HB1.out.size;have:=HSZ.out;omega
       obtain⟨L3,hL3⟩: ∃L,LP++l.drop (p)=L:=⟨_,rfl⟩;rw [hL3]at HO3 HL3⊢;have HOL:=Hd (HL3.out);clear ho3 hb3 hL3;obtain⟨r0,r1⟩:=box_cells HR3.out;clear x0 x1 y0 y1;have hR:=cells_box (old:= [.slice none 0 0]) HR3.out [.slice va L3.length vc] rfl
       have hK:=kept_cells w3 (q:=w.heap.size+1+1) (S:=fun k=>k≠w.heap.size+1+1) (fun h=>h rfl) [.slice va L3.length vc] 0
       obtain⟨wf,hwf⟩: ∃wf,wf=w3.setCells (w.heap.size+1+1) 0 [.slice va L3.length vc]:=⟨_,rfl⟩;rw [←hwf]at hR hK
       simp only [World.setCells]at hwf
       have HW:=Hd hwf;have HRF:=Hd hR;have HK:=Hd hK;clear hwf hR hK;go_wp2_with fail;rw [←HW.out];obtain⟨g0, -⟩:=box_cells HRF.out
       refine bodyPost_ret (v:= .agg #[.slice va L3.length vc]) (by simp [results,Tryz.results122,go_sem,g0]) rfl ?_
       rw [HOL.out]
       refine⟨va,vc,rfl,?_,?_⟩
       · have h1:=(accsR).keep HO3.out.slice (HK.out.mono fun k _ h=>by have h':w1.heap.size≤k:=h;have:=HW1.out;show k≠_;omega)
         exact(accsR).mono h1 fun k _ h=>by have h':w1.heap.size≤k:=h;have:=HW1.out;show _≤_;omega
       · have h0:Kept (fun i=>i<w.heap.size) w w3:=Kept.of_below HB3.out
         have h1:Kept (fun i=>i<w.heap.size) w wf:=h0.trans HK.out fun i _ h=>by have h':i<w.heap.size:=h;show i≠_;omega
         exact h1.below (Nat.le_refl _)
   |true=>
    have HS3:Hid (setL l x=LP++l.drop (p+1)):=by show _=_;rw [HSK.out,if_pos rfl]
    have hpl:=HFL.out rfl
    have hwp:wrap64 ((p:Int)+1)=((p+1:Nat):Int):=by unfold wrap64;omega
    cases a with
    |none=>
     have hcap0:=(sliceR.lens H.out).2.2.2 rfl
     omega
    |some ad=>
     by_cases hq:p+1=cap
     · have hlc:l.length=cap:=by omega
       have hdr:l.drop (p+1)= []:=List.drop_of_length_le (by omega)
       have DRR:Hid (accsR.rel S wk [.slice (some ad) 0 0] []):=⟨some ad,0,0,rfl,rfl,Nat.le_refl _,by unfold maxLen;omega,fun h=>by simp at h,fun i x h=>by simp at h⟩
       have HS4:Hid (setL l x=LP):=by show _=_;rw [HS3.out,hdr,List.append_nil]
       clear hdr
       go_wp2_with (at_builtin;go_loud (refine wpList_catP (S:=S) (B:=w1.heap.size) (w0:=w1) (v:=vk) (u:= .slice (some ad) 0 0) (xs:=LP) (ys:= []) rfl _ _ rfl plainAc Tryz.etyAcc rfl rfl HBK.out HBK.out.size HOK.out DRR.out (by unfold maxLen;have:=HLK.out;simp;omega) (by have:=HLK.out;simp;omega) ?_))
       intro v3 w3 ho3 hb3
       have HL3:=HS4;obtain⟨va,vc,rfl, -, -⟩:=sliceR.form ho3.slice
       have HO3:=Hd (Own.mono (F':=fun k=>w1.heap.size≤k) ho3 fun k _ h=>by first|exact h|(rcases h with h|h;exact h.elim;exact h))
       have HB3:=Hd (bnext HB.out (bnext HB1.out hb3));have HR3:=Hd (box_after hb3 (box_after HB1.out HR.out))
       have HW1:Hid (w.heap.size+3≤w1.heap.size):=by show _≤_;have:=HB1.out.size;have:=HSZ.out;omega
       obtain⟨L3,hL3⟩: ∃L,LP=L:=⟨_,rfl⟩;rw [hL3]at HO3 HL3⊢;have HOL:=Hd (HL3.out);clear ho3 hb3 hL3;obtain⟨r0,r1⟩:=box_cells HR3.out;clear x0 x1 y0 y1;have hR:=cells_box (old:= [.slice none 0 0]) HR3.out [.slice va L3.length vc] rfl
       have hK:=kept_cells w3 (q:=w.heap.size+1+1) (S:=fun k=>k≠w.heap.size+1+1) (fun h=>h rfl) [.slice va L3.length vc] 0
       obtain⟨wf,hwf⟩: ∃wf,wf=w3.setCells (w.heap.size+1+1) 0 [.slice va L3.length vc]:=⟨_,rfl⟩;rw [←hwf]at hR hK
       simp only [World.setCells]at hwf
       have HW:=Hd hwf;have HRF:=Hd hR;have HK:=Hd hK;clear hwf hR hK;go_wp2_with fail;rw [←HW.out];obtain⟨g0, -⟩:=box_cells HRF.out
       refine bodyPost_ret (v:= .agg #[.slice va L3.length vc]) (by simp [results,Tryz.results122,go_sem,g0]) rfl ?_
       rw [HOL.out]
       refine⟨va,vc,rfl,?_,?_⟩
       · have h1:=(accsR).keep HO3.out.slice (HK.out.mono fun k _ h=>by have h':w1.heap.size≤k:=h;have:=HW1.out;show k≠_;omega)
         exact(accsR).mono h1 fun k _ h=>by have h':w1.heap.size≤k:=h;have:=HW1.out;show _≤_;omega
       · have h0:Kept (fun i=>i<w.heap.size) w w3:=Kept.of_below HB3.out
         have h1:Kept (fun i=>i<w.heap.size) w wf:=h0.trans HK.out fun i _ h=>by have h':i<w.heap.size:=h;show i≠_;omega
         exact h1.below (Nat.le_refl _)
     · have DRR:=Hd (dropA ((accsR).keepB H.out HBWK.out) (p+1) (by omega))
       have hdl:(l.drop (p+1)).length=l.length-(p+1):=List.length_drop ..
       go_wp2_with (at_builtin;go_loud (refine wpList_catP (S:=S) (B:=w1.heap.size) (w0:=w1) (v:=vk) (u:= .slice (some (ad.add ((p+1)*3))) (l.length-(p+1)) (cap-(p+1))) (xs:=LP) (ys:=l.drop (p+1)) rfl _ _ rfl plainAc Tryz.etyAcc rfl rfl HBK.out HBK.out.size HOK.out DRR.out (by unfold maxLen;have:=HLK.out;simp;omega) (by have:=HLK.out;simp;omega) ?_))
       intro v3 w3 ho3 hb3
       have HL3:=HS3;obtain⟨va,vc,rfl, -, -⟩:=sliceR.form ho3.slice
       have HO3:=Hd (Own.mono (F':=fun k=>w1.heap.size≤k) ho3 fun k _ h=>by first|exact h|(rcases h with h|h;exact h.elim;exact h))
       have HB3:=Hd (bnext HB.out (bnext HB1.out hb3));have HR3:=Hd (box_after hb3 (box_after HB1.out HR.out))
       have HW1:Hid (w.heap.size+3≤w1.heap.size):=by show _≤_;have:=HB1.out.size;have:=HSZ.out;omega
       obtain⟨L3,hL3⟩: ∃L,LP++l.drop (p+1)=L:=⟨_,rfl⟩;rw [hL3]at HO3 HL3⊢;have HOL:=Hd (HL3.out);clear ho3 hb3 hL3;obtain⟨r0,r1⟩:=box_cells HR3.out;clear x0 x1 y0 y1;have hR:=cells_box (old:= [.slice none 0 0]) HR3.out [.slice va L3.length vc] rfl
       have hK:=kept_cells w3 (q:=w.heap.size+1+1) (S:=fun k=>k≠w.heap.size+1+1) (fun h=>h rfl) [.slice va L3.length vc] 0
       obtain⟨wf,hwf⟩: ∃wf,wf=w3.setCells (w.heap.size+1+1) 0 [.slice va L3.length vc]:=⟨_,rfl⟩;rw [←hwf]at hR hK
       simp only [World.setCells]at hwf
       have HW:=Hd hwf;have HRF:=Hd hR;have HK:=Hd hK;clear hwf hR hK;go_wp2_with fail;rw [←HW.out];obtain⟨g0, -⟩:=box_cells HRF.out
       refine bodyPost_ret (v:= .agg #[.slice va L3.length vc]) (by simp [results,Tryz.results122,go_sem,g0]) rfl ?_
       rw [HOL.out]
       refine⟨va,vc,rfl,?_,?_⟩
       · have h1:=(accsR).keep HO3.out.slice (HK.out.mono fun k _ h=>by have h':w1.heap.size≤k:=h;have:=HW1.out;show k≠_;omega)
         exact(accsR).mono h1 fun k _ h=>by have h':w1.heap.size≤k:=h;have:=HW1.out;show _≤_;omega
       · have h0:Kept (fun i=>i<w.heap.size) w w3:=Kept.of_below HB3.out
         have h1:Kept (fun i=>i<w.heap.size) w wf:=h0.trans HK.out fun i _ h=>by have h':i<w.heap.size:=h;show i≠_;omega
         exact h1.below (Nat.le_refl _)
end Go.Proofs.YtjknlhiimmbilaaGreatDoor

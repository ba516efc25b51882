/- slices.Sort of at most twelve numbers. -/
import Derived.Test.YtjknlhiimmbilaaGreatDoorMKit
import Derived.Test.YtjknlhiimmbilaaGreatDoorMMk
set_option maxRecDepth 100000
set_option maxHeartbeats 4000000
namespace Go.Proofs.YtjknlhiimmbilaaGreatDoor
open Go.ChangeShapes Go.WideShapes Go.ChangeAt Go.RowKit Go.Sort
theorem swap_perm: ∀(l:List Int) (j:Nat) (h:j+1<l.length),((l.set (j+1) (l[j]'(by omega))).set j (l[j+1]'h)).Perm l
 | [],j,h=>by simp at h
 | [x],j,h=>by simp at h
 |x::y::B,0,_=>List.Perm.swap x y B
 |a::b::l,j+1,h=>by
  have:=swap_perm (b::l) j (by simpa using h)
  exact this.cons a
def sortedTo (L:List Int)(n:Nat):Prop:= ∀p q,p<q→q<n→L.getD p 0≤L.getD q 0
def insQ (L:List Int)(i j:Nat):Prop:=(∀p q,p<q→q<i+1→p≠j→q≠j→L.getD p 0≤L.getD q 0)∧ ∀q,j<q→q<i+1→L.getD j 0≤L.getD q 0
theorem insQ_start {L:List Int}{i:Nat}(h:sortedTo L i):insQ L i i:=⟨fun p q h1 h2 _ h4=>h p q h1 (by omega),fun q h1 h2=>by omega⟩
theorem insQ_done {L:List Int}{i j:Nat}(h:insQ L i j)(hj:j=0∨L.getD (j-1) 0≤L.getD j 0):sortedTo L (i+1):=fun p q h1 h2=>by
 by_cases hp:p=j
 · subst hp;exact h.2 q h1 h2
 · by_cases hq:q=j
   · subst hq
     rcases hj with hj|hj
     · omega
     · by_cases h3:p=q-1
       · rw [h3];exact hj
       · exact Int.le_trans (h.1 p (q-1) (by omega) (by omega) hp (by omega)) hj
   · exact h.1 p q h1 h2 hp hq
def swapL (L:List Int)(j:Nat):List Int:=(L.set (j+1) (L.getD j 0)).set j (L.getD (j+1) 0)
theorem swapL_at (L:List Int)(j:Nat)(h:j+1<L.length)(q:Nat):(swapL L j).getD q 0=if q=j then L.getD (j+1) 0 else if q=j+1 then L.getD j 0 else L.getD q 0:=by
 unfold swapL;rw [List.getD_eq_getElem?_getD,List.getElem?_set,List.getElem?_set]
 by_cases h1:q=j
 · subst h1
   simp;rw [if_pos (by omega)];simp
 · by_cases h2:q=j+1
   · subst h2
     simp [h]
   · rw [if_neg (Ne.symm h1),if_neg (Ne.symm h2),if_neg h1,if_neg h2,←List.getD_eq_getElem?_getD]
theorem swapL_perm (L:List Int)(j:Nat)(h:j+1<L.length):(swapL L j).Perm L:=by
 have h1:=swap_perm L j h;unfold swapL
 rw [List.getD_eq_getElem?_getD,List.getElem?_eq_getElem (by omega),List.getD_eq_getElem?_getD,List.getElem?_eq_getElem h]
 exact h1
theorem insQ_swap {L:List Int}{i j:Nat}(hi:i<L.length)(hj:j+1≤i)(h:insQ L i (j+1))(hlt:L.getD (j+1) 0<L.getD j 0):insQ (swapL L j) i j:=by
 have hs:=swapL_at L j (by omega)
 refine⟨fun p q h1 h2 h3 h4=> ?_,fun q h1 h2=> ?_⟩
 · rw [hs p,hs q,if_neg h3,if_neg h4]
   by_cases hq:q=j+1
   · rw [if_pos hq,if_neg (by omega)]
     exact h.1 p j (by omega) (by omega) (by omega) (by omega)
   · rw [if_neg hq]
     by_cases hp:p=j+1
     · rw [if_pos hp];exact h.1 j q (by omega) h2 (by omega) (by omega)
     · rw [if_neg hp];exact h.1 p q h1 h2 hp hq
 · rw [hs j,hs q,if_pos rfl,if_neg (by omega)]
   by_cases hq:q=j+1
   · rw [if_pos hq];omega
   · rw [if_neg hq];exact h.2 q (by omega) h2
theorem sorted_pair {L:List Int}(h:sortedTo L L.length):L.Pairwise (· ≤ ·):=by
 rw [List.pairwise_iff_getElem]
 intro p q hp hq hpq
 have:=h p q hpq hq;rwa [List.getD_eq_getElem?_getD,List.getElem?_eq_getElem hp,List.getD_eq_getElem?_getD,List.getElem?_eq_getElem hq]at this
theorem own_ok {B:Nat}{e:TypeId}{F:Nat→Prop}{w:World}{v:Value}{L:List Int}(h:Own u64R B e F w v L)(k:Nat)(hk:k<L.length):(Lit.int .u64 L[k]).wf=true:=by
 obtain⟨S,css, -, -,hl,hr, -⟩:=h
 exact(hr k (css[k]'(by omega)) L[k] (List.getElem?_eq_getElem _) (List.getElem?_eq_getElem _)).2
theorem Own.swap {B:Nat}{e:TypeId}{F:Nat→Prop}{w:World}{v:Value}{L:List Int}(h:Own u64R B e F w v L)(k:Nat)(hk:k+1<L.length):
   ∃g cap,v= .slice (some ⟨g,0,none⟩) L.length cap∧w.cell? ⟨g,k+1,none⟩=some (.int .u64 (L.getD (k+1) 0))∧w.cell? ⟨g,k,none⟩=some (.int .u64 (L.getD k 0))∧w.frozen? ⟨g,k+1,none⟩=false∧w.frozen? ⟨g,k,none⟩=false∧(w.setCell ⟨g,k+1,none⟩ (.int .u64 (L.getD k 0))).cell? ⟨g,k,none⟩=some (.int .u64 (L.getD k 0))∧(w.setCell ⟨g,k+1,none⟩ (.int .u64 (L.getD k 0))).frozen? ⟨g,k,none⟩=false∧
    Own u64R B e F ((w.setCell ⟨g,k+1,none⟩ (.int .u64 (L.getD k 0))).setCell ⟨g,k,none⟩ (.int .u64 (L.getD (k+1) 0))) v (swapL L k)∧Kept (fun j=>j≠g) w ((w.setCell ⟨g,k+1,none⟩ (.int .u64 (L.getD k 0))).setCell ⟨g,k,none⟩ (.int .u64 (L.getD (k+1) 0))):=by
 have hd1:L.getD (k+1) 0=L[k+1]:=by rw [List.getD_eq_getElem?_getD,List.getElem?_eq_getElem hk];rfl
 have hd2:L.getD k 0=L[k]:=by rw [List.getD_eq_getElem?_getD,List.getElem?_eq_getElem (by omega)];rfl
 obtain⟨g,cap,hv, -, -, -, -,c1,f1,s1⟩:=h.setInt (k+1) hk
 obtain⟨g2,cap2,hv2, -, -, -, -,c2,f2, -⟩:=h.setInt k (by omega)
 have e2:g2=g:=by
   rw [hv]at hv2
   simp only [Value.slice.injEq,Option.some.injEq,Addr.mk.injEq]at hv2
   exact hv2.1.1.symm
 subst e2
 have ok1:(Lit.int .u64 L[k]).wf=true:=own_ok h k (by omega)
 have ok2:(Lit.int .u64 L[k+1]).wf=true:=own_ok h (k+1) hk;obtain⟨o1,k1⟩:=s1 L[k] ok1
 obtain⟨g3,cap3,hv3, -, -, -, -,c3,f3,s3⟩:=o1.setInt k (by rw [List.length_set];omega)
 have e3:g3=g2:=by
   rw [hv]at hv3
   simp only [Value.slice.injEq,Option.some.injEq,Addr.mk.injEq]at hv3
   exact hv3.1.1.symm
 subst e3;obtain⟨o2,k2⟩:=s3 L[k+1] ok2
 rw [List.getElem_set_ne (by omega)]at c3
 rw [hd1,hd2]
 refine⟨g3,cap,hv,c1,c2,f1,f2,c3,f3,?_,k1.trans k2 fun _ _ h=>h⟩
 unfold swapL;rw [hd1,hd2]
 exact o2
theorem nan_any (w:World)(x:Int):Calls Tryz.prog 183 #[.int .u64 x] w fun e w'=>e= .returned (.bool false)∧Below w.heap.size w w':=by
 go_enter Tryz.func183,Tryz.ntmps183
 go_wp2_with fail;go_ret
 exact⟨rfl,Below.refl _ _⟩
theorem less_any (w:World)(x y:Int):Calls Tryz.prog 138 #[.int .u64 x,.int .u64 y] w fun e w'=>e= .returned (.bool (decide (x<y)))∧Below w.heap.size w w':=by
 go_enter Tryz.func138,Tryz.ntmps138
 go_wp2_with fail
 refine(nan_any w x).mono ?_
 rintro e w1 ⟨rfl,hb1⟩;go_wp2_with fail;go_ret
 exact⟨rfl,hb1⟩
def lessB (L:List Int)(j:Nat):Bool:=decide (0<j∧L.getD j 0<L.getD (j-1) 0)
theorem insertion_any (B:Nat)(F:Nat→Prop)(w:World)(a:Option Addr)(cap:Nat)(l:List Int)(hn:l.length≤1000)(h:Own u64R B 24 F w (.slice a l.length cap) l)(n:Nat)(hl:l.length=n):
   Calls Tryz.prog 132 #[.slice a n cap,.int .i64 0,.int .i64 n] w fun e w'=>e= .returned (.tuple #[])∧ ∃L,L.Perm l∧sortedTo L L.length∧Own u64R B 24 F w' (.slice a n cap) L∧Kept (fun k=>(Value.slice a n cap).ownBlock≠some k) w w':=by
 rw [hl]at h;have HO:=Hd h;have HL:=Hd hl
 have hn':n≤1000:=by omega
 clear h hl hn
 go_enter Tryz.func132,Tryz.ntmps132
 go_wp2_with fail
 go_loopw [6] (fun vi wr=> ∃(i:Nat) (L:List Int),vi= .int .i64 i∧1≤i∧i≤n+1∧Hid (L.Perm l)∧Hid (sortedTo L i)∧Hid (Own u64R B 24 F wr (.slice a n cap) L)∧Hid (Kept (fun k=>(Value.slice a n cap).ownBlock≠some k) w wr)) (fun vi _=>n+1-(intOf vi).toNat)
 case atStart=>exact⟨1,l,rfl,by omega,by omega,List.Perm.refl _,(fun p q h1 h2=>by omega),HO,Kept.refl _ _⟩
 case round=>
   obtain⟨i,L,rfl,hi1,hi2,HP,HS,HO2,HK⟩:=hrel
   by_cases hlt:i<n
   · go_wp2_with fail
     obtain⟨wo,hwo⟩: ∃x,x=wr:=⟨_,rfl⟩;subst hwo
     go_loopw [7] (fun vj wr=> ∃(j:Nat) (L:List Int),vj= .int .i64 j∧j≤i∧Hid (L.Perm l)∧Hid (insQ L i j)∧Hid (Own u64R B 24 F wr (.slice a n cap) L)∧Hid (Kept (fun k=>(Value.slice a n cap).ownBlock≠some k) w wr)) (fun vj _=>(intOf vj).toNat)
     case atStart=>exact⟨i,L,rfl,Nat.le_refl _,HP,insQ_start HS.out,HO2,HK⟩
     case round=>
       clear HP HS HO2 HK;obtain⟨j,L,rfl,hj,HP,HI,HO2,HK⟩:=hrel;have hLl:L.length=n:=HP.out.length_eq.trans HL.out
       go_upto_region 4 with(fail)
       go_cut [30]from 16 to 30 (fun v30 wc=>v30= .bool (lessB L j)∧Hid (Below wr.heap.size wr wc))
       case first=>
         have HLB:Hid (lessB L j=decide (0<j∧L.getD j 0<L.getD (j-1) 0)):=rfl
         by_cases h0:0<j
         · obtain⟨g,cap2,hv,hc1,hc2,hg,hBg,c1,f1, -⟩:=HO2.out.setInt j (by omega)
           obtain⟨g',cap2',hv', -, -, -, -,c2,f2, -⟩:=HO2.out.setInt (j-1) (by omega)
           simp only [Value.slice.injEq]at hv hv'
           obtain⟨rfl, -, -⟩:=hv;obtain⟨e1, -, -⟩:=hv'
           have e2:g'=g:=by injection e1 with e1;injection e1 with e1;exact e1.symm
           subst e2
           have hd1:L.getD j 0=L[j]'(by omega):=by rw [List.getD_eq_getElem?_getD,List.getElem?_eq_getElem (by omega)];rfl
           have hd2:L.getD (j-1) 0=L[j-1]'(by omega):=by rw [List.getD_eq_getElem?_getD,List.getElem?_eq_getElem (by omega)];rfl
           have HF:Hid (lessB L j=decide (L[j]'(by omega)<L[j-1]'(by omega))):=by show _=_;rw [HLB.out,hd1,hd2];simp [h0]
           generalize L[j]=x at*;generalize L[j-1]=y at*
           have z1:decide ((0:Int)<(j:Int))=true:=decide_eq_true (by omega)
           have z2:wrap64 ((j:Int)-1)=((j-1:Nat):Int):=by unfold wrap64;omega
           have z3:(j:Int)<(n:Int):=by omega
           have z4:((j-1:Nat):Int)<(n:Int):=by omega
           have z5:(0:Int)≤(j:Int):=by omega
           have z6:(0:Int)<(j:Int):=by omega
           clear hd1 hd2 e1 f1 f2 hc1 hc2 HLB;have q1:=cell_in c1;have q2:=cell_in c2;clear c1 c2;go_wp2_with fail
           refine wp_region_quiet_below (by kernel_rfl) (by kernel_rfl) ?_
           repeat (first|go_big_quiet_step (exact Calls.regrown_of (less_any _ x y))|quiet_step (exact Calls.regrown_of (less_any _ x y)))
           refine wpQuiet_nil ?_
           intro wx hw'
           obtain⟨⟨dq,osq⟩,hw''⟩:=hw';have hbwx:=below_regrown wr dq osq;rw [←hw'']at hbwx;clear hw'' q1 q2;go_wp2_with fail
           go_meet
           case rel=>exact⟨by rw [HF.out],hbwx⟩
         · have HF:Hid (lessB L j=false):=by show _=_;rw [HLB.out,decide_eq_false_iff_not];exact fun h=>h0 h.1
           have z1:decide ((0:Int)<(j:Int))=false:=decide_eq_false (by omega)
           have z2: ¬(0:Int)<(j:Int):=by omega
           go_wp2_with fail
           refine wp_region_quiet_below (by kernel_rfl) (by kernel_rfl) ?_
           repeat (first|go_big_quiet_step (fail)|quiet_step (fail))
           refine wpQuiet_nil ?_
           intro wx hw'
           obtain⟨⟨dq,osq⟩,hw''⟩:=hw';have hbwx:=below_regrown wr dq osq;rw [←hw'']at hbwx;clear hw'';go_wp2_with fail
           go_meet
           case rel=>exact⟨by rw [HF.out],hbwx⟩
       case rest=>
         obtain⟨rfl,HBC⟩:=hcut;have HO3:=Hd (HO2.out.keepB HBC.out)
         have HK3:=Hd (HK.out.trans (Kept.of_below HBC.out) fun _ _ h=>h)
         clear HO2 HK HBC
         cases hb:lessB L j with
         |true=>
          have hb':0<j∧L.getD j 0<L.getD (j-1) 0:=by unfold lessB at hb;rwa [decide_eq_true_eq]at hb
          obtain⟨k,hk⟩: ∃k,j=k+1:=⟨j-1,by omega⟩
          subst hk;rw [Nat.add_sub_cancel]at hb'
          have HSW:=Hd (insQ_swap (by omega) (by omega) HI.out hb'.2)
          have HPW:=Hd ((swapL_perm L k (by omega)).trans HP.out)
          obtain⟨g,cap2,hv,c1,c2,f1,f2,c3,f3,ho5,hk5⟩:=HO3.out.swap k (by omega)
          have hva:a=some ⟨g,0,none⟩:=by simp only [Value.slice.injEq]at hv;exact hv.1
          have HO5:=Hd (ho5.keepB (Below.refl _ _).drew)
          have HK5:Hid (Kept (fun q=>(Value.slice a n cap).ownBlock≠some q) w _):=HK3.out.trans ((hk5.mono (S':=fun q=>(Value.slice a n cap).ownBlock≠some q) fun q _ hq e=>hq (by rw [e,hva];rfl)).drew) fun _ _ h=>h
          have d1:wc.drew.cell? ⟨g,k+1,none⟩=_:=c1;have d2:wc.drew.cell? ⟨g,k,none⟩=_:=c2;have d3:wc.drew.frozen? ⟨g,k+1,none⟩=false:=f1;have d4:wc.drew.frozen? ⟨g,k,none⟩=false:=f2;have d5:((wc.setCell ⟨g,k+1,none⟩ (.int .u64 (L.getD k 0))).drew).cell? ⟨g,k,none⟩=_:=c3;have d6:((wc.setCell ⟨g,k+1,none⟩ (.int .u64 (L.getD k 0))).drew).frozen? ⟨g,k,none⟩=false:=f3;generalize L.getD (k+1) 0=x at*;generalize L.getD k 0=y at*;subst hva
          have z1:wrap64 (((k+1:Nat):Int)-1)=(k:Int):=by unfold wrap64;omega
          have z2:wrap64 ((k:Int)+1-1)=(k:Int):=by unfold wrap64;omega
          have z3:((k+1:Nat):Int)<(n:Int):=by omega
          have z4:(k:Int)<(n:Int):=by omega
          have z5:(0:Int)≤(k:Int):=by omega
          have z6:(k:Int)+1<(n:Int):=by omega
          have z7:(0:Int)≤(k:Int)+1:=by omega
          clear ho5 hk5 hv hb';go_wp2_with fail
          go_region
          all_goals
            go_wp2_with fail
            go_roundw
            case rel=>exact⟨k,_,by go_num,by omega,HPW,HSW,HO5,HK5⟩
            case measure=>simp [intOf]
         |false=>
          have hdone:sortedTo L (i+1):=insQ_done HI.out (by
            unfold lessB at hb;rw [decide_eq_false_iff_not]at hb
            by_cases h0:j=0
            · exact .inl h0
            · exact .inr (by have: ¬(L.getD j 0<L.getD (j-1) 0):=fun h=>hb ⟨by omega,h⟩;omega))
          have HD:=Hd hdone;clear hb hdone;go_wp2_with fail
          go_roundw
          case rel=>exact⟨i+1,L,by go_num,by omega,by omega,HP,HD,HO3,HK3⟩
          case measure=>simp [intOf];omega
   · have hLl:L.length=n:=HP.out.length_eq.trans HL.out
     have hs:sortedTo L L.length:=fun p q h1 h2=>HS.out p q h1 (by omega)
     have HSS:=Hd hs;clear hs;go_wp2_with fail
     go_end0
     exact⟨rfl,L,HP.out,HSS.out,HO2.out,HK.out⟩
theorem len64_any (w:World)(n:Nat)(hn:n≤12):Calls Tryz.prog 142 #[.int .u64 n] w fun e w'=>(∃k:Int,e= .returned (.int .i64 k))∧Below w.heap.size w w':=by
 have hc:n=0∨n=1∨n=2∨n=3∨n=4∨n=5∨n=6∨n=7∨n=8∨n=9∨n=10∨n=11∨n=12:=by omega
 rcases hc with rfl|rfl|rfl|rfl|rfl|rfl|rfl|rfl|rfl|rfl|rfl|rfl|rfl
 all_goals
   go_enter Tryz.func142,Tryz.ntmps142
   go_wp2_with fail;go_ret
   exact⟨⟨_,rfl⟩,Below.refl _ _⟩
theorem len_any (w:World)(n:Nat)(hn:n≤12):Calls Tryz.prog 95 #[.int .u64 n] w fun e w'=>(∃k:Int,e= .returned (.int .i64 k))∧Below w.heap.size w w':=by
 go_enter Tryz.func95,Tryz.ntmps95
 go_wp2_with fail
 refine(len64_any w n hn).mono ?_
 rintro e w1 ⟨⟨k,rfl⟩,hb1⟩;go_wp2_with fail;go_ret
 exact⟨⟨_,rfl⟩,hb1⟩
theorem pdq12_any (B:Nat)(F:Nat→Prop)(w:World)(a:Option Addr)(cap:Nat)(l:List Int)(n:Nat)(hl:l.length=n)(hn:n≤12)(k:Int)(h:Own u64R B 24 F w (.slice a n cap) l):
   Calls Tryz.prog 94 #[.slice a n cap,.int .i64 0,.int .i64 n,.int .i64 k] w fun e w'=>e= .returned (.tuple #[])∧ ∃L,L.Perm l∧sortedTo L L.length∧Own u64R B 24 F w' (.slice a n cap) L∧Kept (fun k=>(Value.slice a n cap).ownBlock≠some k) w w':=by
 have HO:=Hd h;clear h
 have z1:(n:Int)≤12:=by omega
 go_enter Tryz.func94,Tryz.ntmps94
 go_wp2_with fail
 go_loopw [1,2] (fun v1 v2 wr=>v1= .int .i64 0∧v2= .int .i64 n∧Hid (Own u64R B 24 F wr (.slice a n cap) l)∧Hid (Kept (fun k=>(Value.slice a n cap).ownBlock≠some k) w wr)) (fun _ _ _=>0)
 case atStart=>exact⟨rfl,rfl,HO,Kept.refl _ _⟩
 case round=>
   obtain⟨rfl,rfl,HO1,HK1⟩:=hrel
   have z2:wrap64 (n:Int)=(n:Int):=by unfold wrap64;omega
   go_wp2_with fail
   refine(insertion_any B F wr a cap l (by omega) (by rw [hl];exact HO1.out) n hl).mono ?_
   rintro e w2 ⟨rfl,L,h1,h2,h3,h4⟩
   have HR:=Hd (And.intro h1 (And.intro h2 (And.intro h3 (HK1.out.trans h4 fun _ _ h=>h))))
   clear h1 h2 h3 h4;go_wp2_with fail
   (try simp only [Exit.inBlock,Exit.then])
   refine bodyPost_ret (results_none rfl _ _ _) rfl ?_
   exact⟨rfl,L,HR.out.1,HR.out.2.1,HR.out.2.2.1,HR.out.2.2.2⟩
theorem sort12_any (B:Nat)(F:Nat→Prop)(w:World)(a:Option Addr)(cap:Nat)(l:List Int)(hn:l.length≤12)(h:Own u64R B 24 F w (.slice a l.length cap) l):
   Calls Tryz.prog 66 #[.slice a l.length cap] w fun e w'=>e= .returned (.tuple #[])∧ ∃L,L.Perm l∧L.Pairwise (· ≤ ·)∧Own u64R B 24 F w' (.slice a l.length cap) L∧Kept (fun k=>(Value.slice a l.length cap).ownBlock≠some k) w w':=by
 obtain⟨n,hl⟩: ∃n,l.length=n:=⟨_,rfl⟩;rw [hl]at h⊢;have HO:=Hd h
 have hn':n≤12:=by omega
 have HL:=Hd hl;clear h hn hl
 go_enter Tryz.func66,Tryz.ntmps66
 go_wp2_with fail
 refine(len_any w n hn').mono ?_
 rintro e w1 ⟨⟨k,rfl⟩,hb1⟩;have HO1:=Hd (HO.out.keepB hb1);have HB1:=Hd hb1;clear hb1 HO;go_wp2_with fail
 refine(pdq12_any B F w1 a cap l n HL.out hn' k HO1.out).mono ?_
 rintro e w2 ⟨rfl,L,h1,h2,h3,h4⟩
 have HR:=Hd (And.intro h1 (And.intro (sorted_pair h2) (And.intro h3 ((Kept.of_below HB1.out).trans h4 fun _ _ h=>h))))
 clear h1 h2 h3 h4;go_wp2_with fail
 go_end0
 exact⟨rfl,L,HR.out.1,HR.out.2.1,HR.out.2.2.1,HR.out.2.2.2⟩
theorem Own.lower' {α:Type}{r:Rep α}{base base':Nat}{e:TypeId}{F:Nat→Prop}{w:World}{v:Value}{xs:List α}(h:Own r base e F w v xs)(hb:base'≤base):Own r base' e F w v xs:=by
 obtain⟨S,css,hS,hv,hl,hr,ho⟩:=h
 refine⟨S,css,hS,hv,hl,hr,ho.1,?_⟩
 rcases ho.2 with h0|⟨g,cap,cur,h1,h2,h3⟩
 · exact .inl h0
 · exact .inr ⟨g,cap,cur,h1,Nat.le_trans hb h2,h3⟩
end Go.Proofs.YtjknlhiimmbilaaGreatDoor
/- The reference's equality of lists of numbers (layer 04). -/
set_option maxRecDepth 100000
set_option maxHeartbeats 2000000
namespace Go.Proofs.YtjknlhiimmbilaaGreatDoor
open Go.ChangeShapes Go.WideShapes Go.ChangeAt Go.RowKit Go.Sort
theorem getD_at4 (l:List Int)(d:Int)(k:Nat)(h:k<l.length):l.getD k d=l[k]:=by rw [List.getD_eq_getElem?_getD,List.getElem?_eq_getElem h];rfl
theorem nums_cell4 {S:Nat→Prop}{w:World}{a:Option Addr}{len cap:Nat}{l:List Int}(h:numsR.rel S w [.slice a len cap] l)(k:Nat)(hk:k<l.length): ∃b off,a=some ⟨b,off,none⟩∧w.cell? ⟨b,off+k,none⟩=some (.int .u64 l[k]):=by
 obtain⟨b,off,h1, -, -, -,hc⟩:=nums_at h k hk
 exact⟨b,off,h1,hc⟩
def sameTo4 (l m:List Int)(k:Nat):Prop:= ∀j,j<k→l.getD j 0=m.getD j 0
theorem same_of4 {l m:List Int}(h:l.length=m.length)(hs:sameTo4 l m l.length):l=m:=by
 apply List.ext_getElem h
 intro j h1 h2
 have:=hs j h1;rwa [getD_at4 l 0 j h1,getD_at4 m 0 j h2]at this
theorem same04_any (S S':Nat→Prop)(w:World)(a b:Option Addr)(la lb ca cb:Nat)(l m:List Int)(hla:l.length=la)(hlb:m.length=lb)(h:numsR.rel S w [.slice a la ca] l)(h':numsR.rel S' w [.slice b lb cb] m)(hm:la≤1000000):
   Calls Tryz.prog 32 #[.slice a la ca,.slice b lb cb] w fun e w'=>e= .returned (.bool (decide (l=m)))∧Below w.heap.size w w':=by
 have H:=Hd h;have H':=Hd h';have HA:=Hd hla;have HB:=Hd hlb;clear h h'
 by_cases hll:la=lb
 · have z1:((la:Int)==(lb:Int))=true:=by rw [beq_iff_eq];omega
   have z2:((la:Int) != (lb:Int))=false:=by rw [bne_eq_false_iff_eq];omega
   have HLL:=Hd hll;clear hla hlb hll
   go_enter Tryz.func32,Tryz.ntmps32
   go_wp2_with fail
   go_loopw [5] (fun vi wr=> ∃k:Nat,k≤la∧vi= .int .i64 k∧Hid (sameTo4 l m k)∧Below w.heap.size w wr) (fun vi _=>la-(intOf vi).toNat)
   case atStart=>exact⟨0,Nat.zero_le _,rfl,fun j h=>absurd h (Nat.not_lt_zero _),Below.refl _ _⟩
   case round=>
     obtain⟨k,hk,rfl,hs,hbr⟩:=hrel
     by_cases hlt:k<la
     · obtain⟨b1,o1,rfl,c1⟩:=nums_cell4 (numsR.keepB H.out hbr) k (by have:=HA.out;omega)
       obtain⟨b2,o2,rfl,c2⟩:=nums_cell4 (numsR.keepB H'.out hbr) k (by have:=HB.out;have:=HLL.out;omega)
       have HX:Hid (l.getD k 0=l[k]'(by have:=HA.out;omega)):=getD_at4 l 0 k _
       have HY:Hid (m.getD k 0=m[k]'(by have:=HB.out;have:=HLL.out;omega)):=getD_at4 m 0 k _
       generalize l[k]'(by have:=HA.out;omega)=x at*
       generalize m[k]'(by have:=HB.out;have:=HLL.out;omega)=y at*
       have x0:=cell_in c1;have y0:=cell_in c2
       have hkb:k<lb:=by have:=HLL.out;omega
       have i0:(0:Int)≤(k:Int):=by omega
       have i1:(k:Int)<(la:Int):=by omega
       have i2:(k:Int)<(lb:Int):=by omega
       clear c1 c2;go_wp2_with fail
       refine wp_region_quiet_below (by kernel_rfl) (by kernel_rfl) ?_
       repeat (first|go_big_quiet_step (fail)|quiet_step (fail))
       refine wpQuiet_nil ?_
       intro wq hw'
       obtain⟨⟨dq,osq⟩,hw''⟩:=hw';have hbwq:=below_regrown wr dq osq;rw [←hw'']at hbwq;clear hw'' x0 y0
       by_cases hxy:x=y
       · have z1:(x==y)=true:=by simpa using hxy
         have z2:(x != y)=false:=by simpa using hxy
         have HS2:Hid (sameTo4 l m (k+1)):=fun j hj=>by
           rcases Nat.lt_or_ge j k with h|h
           · exact hs.out j h
           · obtain rfl:j=k:=by omega
             rw [HX.out,HY.out,hxy]
         clear hxy;go_wp2_with fail
         go_roundw
         case rel=>exact⟨k+1,by omega,by go_num,HS2,bnext hbr hbwq⟩
         case measure=>simp [intOf];omega
       · have z1:(x==y)=false:=by simpa using hxy
         have z2:(x != y)=true:=by simpa using hxy
         have HF:Hid (decide (l=m)=false):=decide_eq_false fun e=>hxy (by rw [←HX.out,←HY.out,e])
         clear hxy;go_wp2_with fail;go_ret
         exact⟨ret_bool HF.out.symm,bnext hbr hbwq⟩
     · obtain rfl:k=la:=by omega
       have HF:Hid (decide (l=m)=true):=decide_eq_true (same_of4 (by have:=HA.out;have:=HB.out;have:=HLL.out;omega) (by rw [HA.out];exact hs.out))
       go_wp2_with fail;go_ret
       exact⟨ret_bool HF.out.symm,hbr⟩
 · have z1:((la:Int)==(lb:Int))=false:=by rw [beq_eq_false_iff_ne];omega
   have z2:((la:Int) != (lb:Int))=true:=by rw [bne_iff_ne];omega
   have HF:Hid (decide (l=m)=false):=decide_eq_false fun e=>hll (by rw [←hla,←hlb,e])
   clear hla hlb hll
   go_enter Tryz.func32,Tryz.ntmps32
   go_wp2_with fail;go_ret
   exact⟨ret_bool HF.out.symm,Below.refl _ _⟩
end Go.Proofs.YtjknlhiimmbilaaGreatDoor

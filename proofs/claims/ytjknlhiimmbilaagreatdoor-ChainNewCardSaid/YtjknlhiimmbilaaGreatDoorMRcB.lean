/- The reference's chain: Tips. -/
import Derived.Test.YtjknlhiimmbilaaGreatDoorMRc
import Derived.Test.YtjknlhiimmbilaaGreatDoorMChB
import Derived.Test.YtjknlhiimmbilaaGreatDoorMMk
import Derived.Test.YtjknlhiimmbilaaGreatDoorMSrt
set_option maxRecDepth 100000
set_option maxHeartbeats 4000000
namespace Go.Proofs.YtjknlhiimmbilaaGreatDoor
open Go.ChangeShapes Go.WideShapes Go.ChangeAt Go.RowKit Go.Sort
def TipR (L:List RsB)(n:Nat)(x:Int):Prop:= ∃(i:Nat) (hi:i<L.length),i<n∧L[i].id=x∧ ∀(k:Nat) (hk:k<L.length),L[k].par≠(i:Int)
theorem tipR_succ {L:List RsB}{i:Nat}(hi:i<L.length)(x:Int):TipR L (i+1) x↔TipR L i x∨(L[i].id=x∧ ∀(k:Nat) (hk:k<L.length),L[k].par≠(i:Int)):=by
 constructor
 · rintro⟨j,hj,hlt,h1,h2⟩
   rcases Nat.lt_or_ge j i with h|h
   · exact .inl ⟨j,hj,h,h1,h2⟩
   · obtain rfl:j=i:=by omega
     exact .inr ⟨h1,h2⟩
 · rintro(⟨j,hj,hlt,h1,h2⟩|⟨h1,h2⟩)
   · exact⟨j,hj,by omega,h1,h2⟩
   · exact⟨i,hi,by omega,h1,h2⟩
theorem Own.lit1 (w:World)(y:Int)(hy:okU y)(base:Nat)(hb:base≤w.heap.size):Own u64R base 24 (fun k=>w.heap.size≤k) (w.alloc (.cells #[.int .u64 y] 24)) (.slice (some ⟨w.heap.size,0,none⟩) 1 1) [y]:=
 ⟨fun _=>False,[[.int .u64 y]],fun _ h=>h.elim,fun k h=>⟨fun h=>h,by simp [Value.ownBlock]at h;omega⟩,rfl,fun i cs x h1 h2=>by
   match i with
   |0=>simp at h1 h2;subst h1 h2;exact⟨rfl,hy⟩
   |i+1=>simp at h1,
  ⟨by simp [intR],.inr ⟨w.heap.size,1,#[.int .u64 y],rfl,hb,box_new w _,Nat.le_refl _,by unfold maxLen;omega,by simp [intR],rfl⟩⟩⟩
theorem ins_rising {T:List Int}{a:Nat}{x:Int}(h:T.Pairwise (· < ·))(h1: ∀y∈T.take a,y<x)(h2: ∀y∈T.drop a,x<y):(T.take a++([x]++T.drop a)).Pairwise (· < ·):=by
 refine List.pairwise_append.2 ⟨h.sublist (List.take_sublist _ _),List.pairwise_append.2 ⟨List.pairwise_singleton _ _,h.sublist (List.drop_sublist _ _),fun p hp q hq=> ?_⟩,fun p hp q hq=> ?_⟩
 · rw [List.mem_singleton]at hp;subst hp;exact h2 q hq
 · rcases List.mem_append.1 hq with h3|h3
   · rw [List.mem_singleton]at h3;subst h3;exact h1 p hp
   · have h4:=h1 p hp
     have h5:=h2 q h3
     omega
theorem ins_mem {T:List Int}{a:Nat}{x y:Int}:y∈T.take a++([x]++T.drop a)↔y∈T∨y=x:=by
 rw [List.mem_append,List.mem_append,List.mem_singleton]
 constructor
 · rintro(h|rfl|h)
   · exact .inl (List.mem_of_mem_take h)
   · exact .inr rfl
   · exact .inl (List.mem_of_mem_drop h)
 · rintro(h|rfl)
   · rw [←List.take_append_drop a T,List.mem_append]at h
     rcases h with h|h
     · exact .inl h
     · exact .inr (.inr h)
   · exact .inr (.inl rfl)
theorem ins_place {T:List Int}(h:T.Pairwise (· < ·)){a:Nat}{x:Int}(ha:a<T.length)(hx: ¬T[a]<x)(hn:x∉T): ∀y∈T.drop a,x<y:=by
 intro y hy
 obtain⟨j,hj,rfl⟩:=List.getElem_of_mem hy;rw [List.getElem_drop];rw [List.length_drop]at hj
 have h0:T[a]≠x:=fun e=>hn (e▸List.getElem_mem ha)
 rcases Nat.eq_zero_or_pos j with rfl|hp
 · simp only [Nat.add_zero];omega
 · have:=List.pairwise_iff_getElem.1 h a (a+j) ha (by omega) (by omega)
   omega
theorem rss_id {S:Nat→Prop}{w:World}{b off:Nat}{len cap:Nat}{l:List RsB}(h:rssR.rel S w [.slice (some ⟨b,off,none⟩) len cap] l)(k:Nat)(hk:k<l.length):w.cell? ⟨b,off+k*9+6,none⟩=some (.int .u64 l[k].id):=by
 obtain⟨b4,o4,xa,xc,e, -, -, -, -, -, -, -, -,c6, -⟩:=rss_at h k hk
 simp only [Option.some.injEq,Addr.mk.injEq]at e
 obtain⟨rfl,rfl, -⟩:=e
 exact c6
theorem getD_at4' (l:List Int)(k:Nat)(h:k<l.length):l.getD k 0=l[k]:=by rw [List.getD_eq_getElem?_getD,List.getElem?_eq_getElem h];rfl
def tipB (T:List Int)(a:Nat)(y:Int):Bool:=decide (a<T.length∧T.getD a 0<y)
theorem tips48_any (S:Nat→Prop)(w:World)(pi:Bool)(r:RuM)(m:RcM)(la:Option Addr)(lc:Nat)(h:rssR.rel S w [.slice la m.L.length lc] m.L)(hl:m.L.length≤10000)(hu: ∀(i j:Nat) (hi:i<m.L.length) (hj:j<m.L.length),m.L[i].id=m.L[j].id→i=j):
   Calls Tryz.prog 35 #[.agg #[.bool pi,.int .u64 0,.int .i64 0,.slice none 0 0,.slice none 0 0,.slice none 0 0,.int .i64 r.mode,.int .i64 r.depth,.int .i64 r.bl,.int .i64 r.bu,.int .i64 r.qu,.int .u64 r.rew,.int .i64 r.win,.int .i64 r.fin,.int .u64 r.work,.slice la m.L.length lc,.int .i64 m.tip,.int .i64 m.fin]] w fun e w'=> ∃v T,e= .returned v∧Own u64R w.heap.size 24 (fun k=>w.heap.size≤k) w' v T∧T.Pairwise (· < ·)∧(∀x,x∈T↔TipR m.L m.L.length x)∧T.length≤m.L.length∧Below w.heap.size w w':=by
 have g1:=(sliceR.lens h).2;unfold maxLen at g1;have hbA:=bnew (Below.refl w.heap.size w) (.cells #[.bool pi,.int .u64 0,.int .i64 0,.slice none 0 0,.slice none 0 0,.slice none 0 0,.int .i64 r.mode,.int .i64 r.depth,.int .i64 r.bl,.int .i64 r.bu,.int .i64 r.qu,.int .u64 r.rew,.int .i64 r.win,.int .i64 r.fin,.int .u64 r.work,.slice la m.L.length lc,.int .i64 m.tip,.int .i64 m.fin] 43);have HX:=Hd (box_new w (.cells #[.bool pi,.int .u64 0,.int .i64 0,.slice none 0 0,.slice none 0 0,.slice none 0 0,.int .i64 r.mode,.int .i64 r.depth,.int .i64 r.bl,.int .i64 r.bu,.int .i64 r.qu,.int .u64 r.rew,.int .i64 r.win,.int .i64 r.fin,.int .u64 r.work,.slice la m.L.length lc,.int .i64 m.tip,.int .i64 m.fin] 43));have H:=Hd (rssR.keepB h hbA);have HB:=Hd hbA;clear hbA h;have HU:=Hd hu;clear hu
 go_enter Tryz.func35,Tryz.ntmps35
 go_upto_region 1 with(fail)
 generalize w.alloc (.cells #[.bool pi,.int .u64 0,.int .i64 0,.slice none 0 0,.slice none 0 0,.slice none 0 0,.int .i64 r.mode,.int .i64 r.depth,.int .i64 r.bl,.int .i64 r.bu,.int .i64 r.qu,.int .u64 r.rew,.int .i64 r.win,.int .i64 r.fin,.int .u64 r.work,.slice la m.L.length lc,.int .i64 m.tip,.int .i64 m.fin] 43)=W at*;go_wp2_with fail
 go_loopw [3,4] (fun vo vi wr=> ∃(i:Nat) (T:List Int),i≤m.L.length∧vi= .int .i64 i∧Hid (Own u64R W.heap.size 24 (fun x=>W.heap.size≤x) wr vo T)∧Hid (T.Pairwise (· < ·))∧Hid (∀x,x∈T↔TipR m.L i x)∧T.length≤i∧Below W.heap.size W wr) (fun _ vi _=>m.L.length-(intOf vi).toNat)
 case atStart=>exact⟨0,[],Nat.zero_le _,rfl,Own.nil _ _ _ _ _,List.Pairwise.nil,fun x=>⟨fun h=>by simp at h,fun⟨_,_,h,_⟩=>absurd h (Nat.not_lt_zero _)⟩,Nat.le_refl _,Below.refl _ _⟩
 case round=>
   obtain⟨i,T,hi,rfl,HO,HP,HM,hTl,hbr⟩:=hrel;obtain⟨wo,hwo⟩: ∃x,x=wr:=⟨_,rfl⟩;subst hwo;obtain⟨oa,oc,rfl,hoc, -⟩:=own_form HO.out;have HBO:=Hd hbr;clear hbr;obtain⟨x0,x1⟩:=box_cells (box_after HBO.out HX.out)
   by_cases hil:i<m.L.length
   · go_wp2_with fail
     go_loopw [5,6] (fun vl vk wr=> ∃(k:Nat) (b:Bool),k≤m.L.length∧vk= .int .i64 k∧vl= .bool b∧Hid (b=true↔ ∀(j:Nat) (hj:j<m.L.length),j<k→m.L[j].par≠(i:Int))∧Below wo.heap.size wo wr) (fun _ vk _=>m.L.length-(intOf vk).toNat)
     case atStart=>exact⟨0,true,Nat.zero_le _,rfl,rfl,⟨fun _ j _ h=>absurd h (Nat.not_lt_zero _),fun _=>rfl⟩,Below.refl _ _⟩
     case round=>
       obtain⟨k,b,hk,rfl,rfl,HB2,hb2⟩:=hrel;obtain⟨wi,hwi⟩: ∃x,x=wr:=⟨_,rfl⟩;subst hwi;clear x0 x1;obtain⟨x0,x1⟩:=box_cells (box_after (bnext HBO.out hb2) HX.out)
       by_cases hkl:k<m.L.length
       · obtain⟨b3,o3,xa,xc,rfl, -,hb,d0,d1,d2,d3,d4,d5,d6,d7,d8⟩:=rss_at (rssR.keepB H.out (bnext HBO.out hb2)) k hkl
         have HY:Hid (m.L[k].par=i→ ¬ ∀(j:Nat) (hj:j<m.L.length),j<k+1→m.L[j].par≠(i:Int)):=fun e h=>h k hkl (by omega) e
         have HZ:Hid (m.L[k].par≠i→(b=true↔ ∀(j:Nat) (hj:j<m.L.length),j<k+1→m.L[j].par≠(i:Int))):=fun e=>by
           rw [HB2.out]
           constructor
           · intro h j hj hjk
             rcases Nat.lt_or_ge j k with h1|h1
             · exact h j hj h1
             · obtain rfl:j=k:=by omega
               exact e
           · intro h j hj hjk
             exact h j hj (by omega)
         generalize m.L[k].par=p at*
         have i0:(0:Int)≤(k:Int):=by omega
         have i1:(k:Int)<(m.L.length:Int):=by omega
         clear d0 d1 d2 d3 d4 d5 d6 d8 hb
         by_cases hp:p=(i:Int)
         · have z1:(p==(i:Int))=true:=by simpa using hp
           have HY1:=Hd (HY.out hp);clear hp HY HZ HB2;go_wp2_with fail
           go_roundw
           case rel=>exact⟨k+1,false,by omega,by go_num,rfl,⟨fun h=>(by simp at h),fun h=>absurd h HY1.out⟩,hb2⟩
           case measure=>simp [intOf];omega
         · have z1:(p==(i:Int))=false:=by simpa using hp
           have HZ1:=Hd (HZ.out hp);clear hp HY HZ HB2;go_wp2_with fail
           go_roundw
           case rel=>exact⟨k+1,b,by omega,by go_num,rfl,HZ1,hb2⟩
           case measure=>simp [intOf];omega
       · obtain rfl:k=m.L.length:=by omega
         have HBB:Hid (b=true↔ ∀(j:Nat) (hj:j<m.L.length),m.L[j].par≠(i:Int)):=by
           show _↔_
           rw [HB2.out]
           exact⟨fun h j hj=>h j hj hj,fun h j hj _=>h j hj⟩
         clear HB2;have HOi:=Hd (HO.out.keepB hb2);have HBi:=Hd (bnext HBO.out hb2);clear hb2 HO HBO
         cases b with
         |false=>
          have HM1:Hid (∀x,x∈T↔TipR m.L (i+1) x):=fun x=>by
            rw [HM.out x,tipR_succ hil]
            constructor
            · exact .inl
            · rintro(h|⟨-,h⟩)
              · exact h
              · exact absurd (HBB.out.2 h) (by simp)
          clear HBB HM;go_wp2_with fail
          go_roundw
          case rel=>exact⟨i+1,T,by omega,by go_num,HOi,HP,HM1,by omega,HBi.out⟩
          case measure=>simp [intOf];omega
         |true=>
          have HNC:=Hd (HBB.out.1 rfl);clear HBB;obtain⟨b3,o3,xa,xc,rfl, -,hb,d0,d1,d2,d3,d4,d5,d6,d7,d8⟩:=rss_at (rssR.keepB H.out HBi.out) i hil;have HIO:=Hd hb.id
          have HNI:Hid (m.L[i].id∉T):=fun hmem=>by
            obtain⟨j,hj,hji,he, -⟩:=(HM.out _).1 hmem;have:=HU.out j i hj hil he
            omega
          have HM1:Hid (∀x,x∈T∨x=m.L[i].id↔TipR m.L (i+1) x):=fun x=>by
            rw [HM.out x,tipR_succ hil]
            constructor
            · rintro(h|h)
              · exact .inl h
              · exact .inr ⟨h.symm,HNC.out⟩
            · rintro(h|⟨h, -⟩)
              · exact .inl h
              · exact .inr h.symm
          obtain⟨y,hyq⟩: ∃y,m.L[i].id=y:=⟨_,rfl⟩;rw [hyq]at HNI HM1 HIO;have HYQ:=Hd hyq;clear d0 d1 d2 d3 d4 d5 d6 d7 d8 hb HNC HM hyq
          have i0:(0:Int)≤(i:Int):=by omega
          have i1:(i:Int)<(m.L.length:Int):=by omega
          go_wp2_with fail
          go_loopw [7] (fun va wr=> ∃a:Nat,a≤T.length∧va= .int .i64 a∧Hid (∀z∈T.take a,z<y)∧Below wi.heap.size wi wr) (fun va _=>T.length-(intOf va).toNat)
          case atStart=>exact⟨0,Nat.zero_le _,rfl,fun z h=>by simp at h,Below.refl _ _⟩
          case round=>
            obtain⟨a,hat,rfl,HL,hb4⟩:=hrel;obtain⟨wj,hwj⟩: ∃x,x=wr:=⟨_,rfl⟩;subst hwj;have HBj:=Hd (bnext HBi.out hb4);have HOj:=Hd (HOi.out.keepB hb4);have hb4k:=Hd hb4;clear x0 x1 hb4
            go_upto_region 13 with(fail)
            go_cut [47]from 31 to 49 (fun v47 wc=>v47= .bool (tipB T a y)∧Hid (Below wj.heap.size wj wc))
            case first=>
              have d6:=rss_id (rssR.keepB H.out HBj.out) i hil;rw [HYQ.out]at d6;have x0:=box_regrown (box_after HBj.out HX.out);have y6:=cell_in d6;clear d6
              by_cases haT:a<T.length
              · obtain⟨bt,ot,rfl, -, -, -,hct⟩:=nums_at HOj.out.slice a haT
                have HTB:Hid (tipB T a y=decide (T[a]<y)):=by show _=_;unfold tipB;rw [getD_at4' T a haT];simp [haT]
                obtain⟨z,hz⟩: ∃z,T[a]=z:=⟨_,rfl⟩;rw [hz]at hct HTB;have z0:=cell_in hct
                have z1:decide ((a:Int)<(T.length:Int))=true:=decide_eq_true (by omega)
                have a0:(0:Int)≤(a:Int):=by omega
                have a1:(a:Int)<(T.length:Int):=by omega
                clear hct hz;go_wp2_with fail
                refine wp_region_quiet_below (by kernel_rfl) (by kernel_rfl) ?_
                repeat (first|go_big_quiet_step (fail)|quiet_step (fail))
                refine wpQuiet_nil ?_
                intro wq hw'
                obtain⟨⟨dq,osq⟩,hw''⟩:=hw';have hbwq:=below_regrown wj dq osq;rw [←hw'']at hbwq;clear hw'' x0 y6 z0;go_wp2_with fail
                go_meet
                case rel=>exact⟨by rw [HTB.out],hbwq⟩
              · have HTB:Hid (tipB T a y=false):=by show _=_;unfold tipB;exact decide_eq_false fun h=>haT h.1
                have z1:decide ((a:Int)<(T.length:Int))=false:=decide_eq_false (by omega)
                go_wp2_with fail
                refine wp_region_quiet_below (by kernel_rfl) (by kernel_rfl) ?_
                repeat (first|go_big_quiet_step (fail)|quiet_step (fail))
                refine wpQuiet_nil ?_
                intro wq hw'
                obtain⟨⟨dq,osq⟩,hw''⟩:=hw';have hbwq:=below_regrown wj dq osq;rw [←hw'']at hbwq;clear hw'' x0 y6;go_wp2_with fail
                go_meet
                case rel=>exact⟨by rw [HTB.out],hbwq⟩
            obtain⟨rfl,hbc⟩:=hcut;have HBk:=Hd (bnext HBj.out hbc.out);have HOk:=Hd (HOj.out.keepB hbc.out);have HBJ:Hid (Below wi.heap.size wi wc):=bnext hb4k.out hbc.out
            cases htb:tipB T a y with
            |true=>
             have h1:a<T.length∧T.getD a 0<y:=by unfold tipB at htb;rwa [decide_eq_true_eq]at htb
             have h2:=h1.2;rw [getD_at4' T a h1.1]at h2
             have HL1:Hid (∀z∈T.take (a+1),z<y):=fun z hz=>by
               rw [List.take_succ_eq_append_getElem h1.1,List.mem_append,List.mem_singleton]at hz
               rcases hz with h3|rfl
               · exact HL.out z h3
               · exact h2
             have ha1:=h1.1;clear h1 h2 htb hbc HL;go_wp2_with fail
             go_roundw
             case rel=>exact⟨a+1,by omega,by go_num,HL1,HBJ.out⟩
             case measure=>first|(simp [intOf];done)|(simp [intOf];omega)
            |false=>
             have HDR:Hid (∀z∈T.drop a,y<z):=by
               rcases Nat.lt_or_ge a T.length with h1|h1
               · exact ins_place HP.out h1 (fun h=>by
                   unfold tipB at htb;rw [decide_eq_false_iff_not]at htb
                   exact htb ⟨h1,by rw [getD_at4' T a h1];exact h⟩) HNI.out
               · intro z hz
                 rw [List.drop_of_length_le h1]at hz;simp at hz
             have HP1:=Hd (ins_rising HP.out HL.out HDR.out)
             have HM2:Hid (∀x,x∈T.take a++([y]++T.drop a)↔TipR m.L (i+1) x):=fun x=>by rw [ins_mem];exact HM1.out x
             have HTL:Hid ((T.take a).length=a∧(T.drop a).length=T.length-a):=⟨by rw [List.length_take];omega,by rw [List.length_drop]⟩
             have HLX:Hid ((T.take a++([y]++T.drop a)).length≤i+1):=by show _≤_;rw [List.length_append,List.length_append,HTL.out.1,HTL.out.2];simp;omega
             obtain⟨x0,x1⟩:=box_cells (box_after HBk.out HX.out);have d6:=rss_id (rssR.keepB H.out HBk.out) i hil;rw [HYQ.out]at d6;have HDRP:=Hd (rsA_rel HOk.out.slice a hat);have HCUT:=Hd (HOk.out.cut a hat);obtain⟨P,hP⟩: ∃P,T.take a=P:=⟨_,rfl⟩;obtain⟨R,hR⟩: ∃R,T.drop a=R:=⟨_,rfl⟩;rw [hP,hR]at HP1 HM2 HTL HLX;rw [hP]at HCUT;rw [hR]at HDRP
             have hrs:=fun w=>resl w oa T.length oc a hat
             have a0:(0:Int)≤(a:Int):=by omega
             have a1:(a:Int)≤(T.length:Int):=by omega
             have a2:a≤oc:=by omega
             have a3:(a:Int)≤(oc:Int):=by omega
             obtain⟨q,hq⟩: ∃q,rsA oa a oc=q:=⟨_,rfl⟩;rw [hq]at HDRP hrs;obtain⟨lr,hlr⟩: ∃n,T.length-a=n:=⟨_,rfl⟩;rw [hlr]at HDRP hrs HTL;obtain⟨Z,hZ⟩: ∃Z,[y]++R=Z:=⟨_,rfl⟩;rw [hZ]at HP1 HM2 HLX;have HZ:=Hd hZ;obtain⟨Y,hY⟩: ∃Y,P++Z=Y:=⟨_,rfl⟩;rw [hY]at HP1 HM2 HLX;have HY:=Hd hY
             have HZL:Hid (Z.length=lr+1):=by show _=_;rw [←hZ,List.length_append,HTL.out.2,List.length_singleton];omega
             have HCB:=Hd HCUT.out.bound
             have HLR:Hid (lr≤10000∧a≤10000):=by constructor<;>omega
             clear hP hR hq htb hbc HL HDR HM1 HP hlr hZ hY HCUT;have hWc:=HBk.out.size;go_wp2_with fail
             go_region_law (first
               |(refine step_append_rel (r:=u64R) (base:=wc.heap.size) (v:= .slice (some ⟨wc.heap.size,0,none⟩) 1 1) (u:= .slice q lr (oc-a)) (S:=fun _=>False) rfl _ _ rfl Tryz.etyNums rfl rfl ((Own.lit1 wc y HIO.out _ (Nat.le_refl _)).keepB (Below.refl _ _).drew) (Src.plain (Plain.int _) (Src.of_slice (numsR.keepB HDRP.out (bnew (Below.refl _ _) (.cells #[.int .u64 y] 24)).drew))) (fun _ _ h=>h.elim) (fun _ _ h=>h) (by have:=HTL.out.2;have:=HLR.out.1;unfold maxLen;simp only [List.length_singleton];omega) (by have:=HTL.out.2;have:=HLR.out.1;simp only [List.length_singleton];omega) (bnew (Below.refl _ _) _).drew.size ?_
                 intro v5 w5 ho5 hk5 hl5
                 rw [HZ.out]at ho5;obtain⟨a5,c5,rfl, -, -⟩:=own_form ho5;have HI5:=Hd ho5.slice
                 have HO5:Hid (Own u64R W.heap.size 24 (fun k=>W.heap.size≤k∧k<wc.heap.size) w5 (.slice oa a oc) P):=(HCB.out.keepB (bnew (Below.refl _ _) (.cells #[.int .u64 y] 24)).drew).keep (hk5.mono fun k _ hk e=>by have e2:=Option.some.inj e;have e3:wc.heap.size=k:=e2;have:=hk.2;omega)
                 have HB5:Hid (Below W.heap.size W w5):=Kept.behind (bnew HBk.out (.cells #[.int .u64 y] 24)).drew hk5 (Nat.le_trans hWc (bnew (Below.refl _ _) _).drew.size) (fun j hj e=>by have e2:=Option.some.inj e;have e3:wc.heap.size=j:=e2;omega)
                 have hW5:=HB5.out.size;clear ho5 hk5 hl5)
               |(refine step_append_rel (r:=u64R) (base:=W.heap.size) (v:= .slice oa a oc) (u:= .slice a5 Z.length c5) (S:=fun _=>False) rfl _ _ rfl Tryz.etyNums rfl rfl HO5.out (Src.plain (Plain.int _) (Src.of_slice HI5.out)) (fun _ _ h=>h.elim) (fun _ _ h=>h) (by have:=HTL.out.1;have:=HZL.out;have:=HLR.out;unfold maxLen;omega) (by have:=HTL.out.1;have:=HZL.out;have:=HLR.out;omega) hW5 ?_
                 intro v6 w6 ho6 hk6 hl6
                 rw [HY.out]at ho6;obtain⟨a6,c6,rfl, -, -⟩:=own_form ho6
                 have HO6:Hid (Own u64R W.heap.size 24 (fun k=>W.heap.size≤k) w6 (.slice a6 Y.length c6) Y):=ho6.mono fun k _ hk=>hk.elim (fun h=>h.1) fun h=>Nat.le_trans hW5 h
                 have HB6:Hid (Below W.heap.size W w6):=Kept.behind HB5.out hk6 hW5 (fun j hj e=>by have:=(HO5.out.lt e).2.2;omega)
                 clear ho6 hk6 hl6))
             all_goals
               go_wp2_with fail
               go_roundw
               case rel=>exact⟨i+1,Y,by omega,by go_num,HO6,HP1,HM2,HLX.out,HB6.out⟩
               case measure=>first|(simp [intOf];done)|(simp [intOf];omega)
   · obtain rfl:i=m.L.length:=by omega
     go_wp2_with fail;go_ret
     exact⟨_,T,rfl,(Own.low HO.out HB.out.size).mono fun j _ hj=>Nat.le_trans HB.out.size hj,HP.out,HM.out,hTl,bnext HB.out HBO.out⟩
end Go.Proofs.YtjknlhiimmbilaaGreatDoor
/- The chain of the program: Tips. -/
set_option maxRecDepth 100000
set_option maxHeartbeats 4000000
namespace Go.Proofs.YtjknlhiimmbilaaGreatDoor
open Go.ChangeShapes Go.WideShapes Go.ChangeAt Go.RowKit Go.Sort Go.Maps
def isTip (m:ChM)(x:Int):Prop:=(∃e,findS m.L x=some e)∧ ∀y e,findS m.L y=some e→ ¬(1<e.b.height∧e.b.parent=x)
def TipOut (m:ChM)(w:World)(e:Ending)(w':World):Prop:=
 ∃(a:Option Addr) (cap:Nat) (L:List Int),e= .returned (.slice a L.length cap)∧Own u64R w.heap.size 24 (fun k=>w.heap.size≤k) w' (.slice a L.length cap) L∧L.Pairwise (· < ·)∧(∀x,x∈L↔isTip m x)∧Below w.heap.size w w'
structure ParI (m:ChM)(left:Int→Bool)(pm:NMap):Prop where
 val: ∀x v,getM pm x=some v→v= .bool true∧ ∃y e,findS m.L y=some e∧1<e.b.height∧e.b.parent=x
 all: ∀y e,findS m.L y=some e→left y=false→1<e.b.height→getM pm e.b.parent=some (.bool true)
theorem ParI.skip {m:ChM}{left:Int→Bool}{pm:NMap}(h:ParI m left pm){x:Int}{e:StB}(hx:findS m.L x=some e)(hh: ¬1<e.b.height):ParI m (fun y=>left y&& !(y==x)) pm:=
 ⟨h.val,fun y e' hy hl h1=>by
   by_cases hyx:y=x
   · subst hyx
     rw [hx]at hy;obtain rfl:=Option.some.inj hy
     exact absurd h1 hh
   · refine h.all y e' hy ?_ h1
     simpa [hyx]using hl⟩
theorem ParI.put {m:ChM}{left:Int→Bool}{pm:NMap}(h:ParI m left pm){x:Int}{e:StB}(hx:findS m.L x=some e)(hh:1<e.b.height):ParI m (fun y=>left y&& !(y==x)) (putM pm e.b.parent (.bool true)):=
 ⟨fun z v hz=>by
   by_cases hze:z=e.b.parent
   · subst hze
     rw [get_put_same]at hz
     exact⟨(Option.some.inj hz).symm,x,e,hx,hh,rfl⟩
   · rw [get_put_other _ _ _ _ hze]at hz
     exact h.val z v hz,
  fun y e' hy hl h1=>by
   by_cases hp:e'.b.parent=e.b.parent
   · rw [hp,get_put_same]
   · rw [get_put_other _ _ _ _ hp]
     refine h.all y e' hy ?_ h1
     have hyx:y≠x:=fun hyx=>by
       subst hyx;rw [hx]at hy
       exact hp (by rw [Option.some.inj hy])
     simpa [hyx]using hl⟩
structure TipI (m:ChM)(pm:NMap)(left:Int→Bool)(L:List Int):Prop where
 nd:L.Nodup
 mem: ∀x,x∈L↔(∃e,findS m.L x=some e)∧left x=false∧getM pm x=none
theorem TipI.start (m:ChM)(pm:NMap){left:Int→Bool}(h: ∀x,left x=(findS m.L x).isSome):TipI m pm left []:=
 ⟨List.nodup_nil,fun x=>⟨fun hx=>by simp at hx,fun hx=>by
   obtain⟨⟨e,he⟩,hl, -⟩:=hx;rw [h,he]at hl
   simp at hl⟩⟩
theorem TipI.skip {m:ChM}{pm:NMap}{left:Int→Bool}{L:List Int}(h:TipI m pm left L){x:Int}(hg:getM pm x≠none):TipI m pm (fun y=>left y&& !(y==x)) L:=
 ⟨h.nd,fun y=>by
   rw [h.mem y]
   by_cases hyx:y=x
   · subst hyx
     exact⟨fun a=>absurd a.2.2 hg,fun a=>absurd a.2.2 hg⟩
   · simp [hyx]⟩
theorem TipI.put {m:ChM}{pm:NMap}{left:Int→Bool}{L:List Int}(h:TipI m pm left L){x:Int}{e:StB}(hx:findS m.L x=some e)(hl:left x=true)(hg:getM pm x=none):TipI m pm (fun y=>left y&& !(y==x)) (L++ [x]):=
 ⟨by
   rw [List.nodup_append]
   refine⟨h.nd,by simp,fun a ha b hb=> ?_⟩
   rw [List.mem_singleton]at hb;subst hb
   intro e
   subst e;have:=((h.mem a).1 ha).2.1;rw [hl]at this
   simp at this,
  fun y=>by
   rw [List.mem_append,List.mem_singleton,h.mem y]
   by_cases hyx:y=x
   · subst hyx
     exact⟨fun _=>⟨⟨e,hx⟩,by simp,hg⟩,fun _=> .inr rfl⟩
   · simp [hyx]⟩
theorem tips_done {m:ChM}{pm:NMap}{left left':Int→Bool}{L L':List Int}(hp:ParI m left' pm)(hl': ∀x,left' x=false)(h:TipI m pm left L)(hl: ∀x,left x=false)(hperm:L'.Perm L)(hs:L'.Pairwise (· ≤ ·)):L'.Pairwise (· < ·)∧ ∀x,x∈L'↔isTip m x:=by
 refine⟨?_,fun x=> ?_⟩
 · have hn:L'.Nodup:=hperm.nodup_iff.2 h.nd
   have:=hs.and hn
   exact this.imp fun⟨h1,h2⟩=>by omega
 · rw [hperm.mem_iff,h.mem x]
   constructor
   · rintro⟨h1, -,h3⟩
     refine⟨h1,fun y e hy hc=> ?_⟩
     have:=hp.all y e hy (hl' y) hc.1;rw [hc.2,h3]at this
     simp at this
   · rintro⟨h1,h2⟩
     refine⟨h1,hl x,?_⟩
     cases hg:getM pm x with
     |none=>rfl
     |some v=>
      obtain⟨-,y,e,hy,ha,hb⟩:=hp.val x v hg
      exact absurd ⟨ha,hb⟩ (h2 y e hy)
theorem rising_eq: ∀ {l m:List Int},l.Pairwise (· < ·)→m.Pairwise (· < ·)→(∀x,x∈l↔x∈m)→l=m
 | [],[],_,_,_=>rfl
 | [],b::m,_,_,h=>by have:=(h b).2 (by simp);simp at this
 |a::l,[],_,_,h=>by have:=(h a).1 (by simp);simp at this
 |a::l,b::m,hl,hm,h=>by
  obtain⟨hl1,hl2⟩:=List.pairwise_cons.1 hl;obtain⟨hm1,hm2⟩:=List.pairwise_cons.1 hm
  have hab:a=b:=by
    have h1:=(h a).1 (by simp)
    have h2:=(h b).2 (by simp)
    rcases List.mem_cons.1 h1 with e|h1
    · exact e
    · rcases List.mem_cons.1 h2 with e|h2
      · exact e.symm
      · have:=hl1 b h2
        have:=hm1 a h1
        omega
  subst hab
  rw [rising_eq hl2 hm2 fun x=> ?_]
  constructor
  · intro hx
    rcases List.mem_cons.1 ((h x).1 (List.mem_cons_of_mem _ hx))with e|h1
    · subst e;have:=hl1 x hx;omega
    · exact h1
  · intro hx
    rcases List.mem_cons.1 ((h x).2 (List.mem_cons_of_mem _ hx))with e|h1
    · subst e;have:=hm1 x hx;omega
    · exact h1
theorem tips_any (c:Nat)(SB PI:Nat→Prop)(w:World)(r:RuM)(m:ChM)(bs:List BlkM)(v:ChV)(h:ChAt c SB PI w r m bs v)(hl:m.L.length≤12):
   Calls Tryz.prog 34 #[.pointer (some ⟨c,0,none⟩)] w (TipOut m w):=by
 obtain⟨nm,hm1,hm2,hm3⟩:=h.map
 have HBE:Hid (∀x e,findS m.L x=some e→okU e.b.parent):=fun x e he=>(h.blocks e (findS_some he).1).1.parent
 have hbA:=bnew (Below.refl w.heap.size w) (.map #[] 0);have HC:=Hd (box_after hbA h.cell);have HM:=Hd (hm1.keepB hbA);have HG:=Hd hm2
 have HN:Hid (nm.length≤12):=by show _≤_;omega
 have HP:=Hd (mapAt_made w);have HB:=Hd hbA;have HLT:Hid (v.mb<w.heap.size):=hm1.lt;have H0:=Hd h.cell;have hmm:= @run_makeMap Tryz.prog;clear hbA h hm1 hm2 hm3 hl
 go_enter Tryz.func34,Tryz.ntmps34
 go_upto_region 2 with(fail)
 generalize w.alloc (.map #[] 0)=W at*;obtain⟨B0,hB0⟩: ∃x,w.heap.size=x:=⟨_,rfl⟩;have HB00:=Hd hB0;rw [hB0]at HP HLT⊢;have HW0:Hid (B0<W.heap.size):=HP.out.lt;obtain⟨x0,x1⟩:=box_cells HC.out
 simp only [chCells]at x0
 go_wp2_with (first
   |(at_range;refine wpList_rangeM rfl _ rfl _ 82 rfl 86 Tryz.underlying82 v.mb nm rfl HM.out ?_;intro w1 hrg1 hb1 hs1)
   |go_in)
 go_frame
 have HRG:=Hd hrg1;have HB1:=Hd hb1;have HP1:=Hd (HP.out.keepB hb1);clear x0 x1 hrg1 hb1 hs1;obtain⟨R,hR⟩: ∃x,W.heap.size=x:=⟨_,rfl⟩;rw [hR]at HRG HW0⊢
 have HBW:Hid (Below B0 w w1):=by rw [←hB0];exact bnext HB.out HB1.out
 have HCW:=Hd (box_after HB1.out HC.out);clear hR HB HB1
 go_loopw [14] (fun _ wr=> ∃(pm:NMap) (left:Int→Bool) (cnt:Nat),Hid (RngAt wr v.mb R nm left cnt)∧Hid (MapAt wr B0 pm)∧Hid (ParI m left pm)∧pm.length+cnt≤nm.length∧Hid (Below B0 w wr)) (fun _ wr=>wr.rangeLeft v.mb R)
 case atStart=>exact⟨[],_,_,HRG,HP1,⟨fun x v hv=>by simp [getM]at hv,fun y e hy hl _=>by rw [HG.out,hy]at hl;simp at hl⟩,by simp,HBW⟩
 case round=>
   clear HRG HP1 HBW HCW;obtain⟨pm,left,cnt,HRG,HPM,HPI,hcn,HBR⟩:=hrel;obtain⟨wo,hwo⟩: ∃x,x=wr:=⟨_,rfl⟩;subst hwo
   go_wp2_with (first
     |(at_next;refine wpList_nextM rfl _ rfl _ rfl v.mb R nm left cnt rfl HRG.out ?_ ?_)
     |go_in)
   · intro hc0 hl0
     have HL0:=Hd hl0
     have HC9:=Hd (box_after (by rw [HB00.out];exact HBR.out) H0.out)
     have HM9:=Hd HRG.out.map;have HR9:Hid (R<wo.heap.size∧B0<R∧v.mb<B0):=⟨HRG.out.lt.2.1,HW0.out,HLT.out⟩;clear hc0 hl0 HRG
     go_upto_region 8 with(fail)
     obtain⟨x0,x1⟩:=box_cells HC9.out
     simp only [chCells]at x0
     go_wp2_with (first
       |(at_range;refine wpList_rangeM rfl _ rfl _ 82 rfl 86 Tryz.underlying82 v.mb nm rfl HM9.out ?_;intro w1 hrg1 hb1 hs1)
       |go_in)
     go_frame
     have HRG:=Hd hrg1;have HP1:=Hd (HPM.out.keepB hb1)
     have HBW:Hid (Below B0 w w1):=HBR.out.trans (hb1.mono (by have:=HR9.out;omega))
     obtain⟨R2,hR2⟩: ∃x,wo.heap.size=x:=⟨_,rfl⟩;rw [hR2]at HRG HR9 hs1⊢;clear hrg1 hb1 x0 x1 HPM HBR HM9 HC9 hR2
     go_loopw [6] (fun v6 wr=> ∃(L:List Int) (left2:Int→Bool) (cnt2:Nat),Hid (RngAt wr v.mb R2 nm left2 cnt2)∧Hid (MapAt wr B0 pm)∧Hid (TipI m pm left2 L)∧Hid (Own u64R (R2+1) 24 (fun k=>R2+1≤k) wr v6 L)∧L.length+cnt2≤nm.length∧Hid (Below B0 w wr)∧Hid (R2+1≤wr.heap.size)) (fun _ wr=>wr.rangeLeft v.mb R2)
     case atStart=>exact⟨[],_,_,HRG,HP1,TipI.start m pm (fun x=>by rw [HG.out,Option.isSome_map]),Own.nil _ _ _ _ _,by simp,HBW,by show _≤_;omega⟩
     case round=>
       clear HRG HP1 HBW hs1;obtain⟨L,left2,cnt2,HRG,HPM,HTI,HOW,hcn2,HBR,HSZ⟩:=hrel;obtain⟨wq,hwq⟩: ∃x,x=wr:=⟨_,rfl⟩;subst hwq;obtain⟨ua,uc,rfl, -, -⟩:=own_form HOW.out
       go_wp2_with (first
         |(at_next;refine wpList_nextM rfl _ rfl _ rfl v.mb R2 nm left2 cnt2 rfl HRG.out ?_ ?_)
         |go_in)
       · intro hc1 hl1
         have HL1:=Hd hl1
         have HN12:L.length≤12:=by have:=HN.out;omega
         clear hc1 hl1;go_wp2_with fail
         refine(sort12_any (R2+1) _ wq ua uc L HN12 HOW.out).mono ?_
         rintro e w5 ⟨rfl,L',hperm,hsort,ho5,hk5⟩;have hlen:=hperm.length_eq;obtain⟨hlt',hmem⟩:=tips_done HPI.out HL0.out HTI.out HL1.out hperm hsort;have HLT2:=Hd hlt';have HME:=Hd hmem;have HR99:=HR9.out
         have HO5:Hid (Own u64R w.heap.size 24 (fun k=>w.heap.size≤k) w5 (.slice ua L'.length uc) L'):=by
           rw [←hlen]at ho5
           exact(ho5.lower' (base':=w.heap.size) (by have:=HB00.out;omega)).mono fun k _ hk=>by have:=HB00.out;have hk':R2+1≤k:=hk;omega
         have HB5:Hid (Below w.heap.size w w5):=by
           show Below _ _ _
           rw [HB00.out]
           exact Kept.behind HBR.out hk5 (by have:=HSZ.out;omega) fun k hk h=>by
             have:=(HOW.out.lt h).2.1;have h2:R2+1≤k:=this
             omega
         rw [←hlen];clear hperm hsort ho5 hk5 hlt' hmem hlen;go_wp2_with fail;go_ret
         exact⟨ua,uc,L',rfl,HO5.out,HLT2.out,HME.out,HB5.out⟩
       · intro x cv w2 cnt3 hwx hlx hgx hrg2 hlt hk2 hs2 hen
         have HR99:=HR9.out;have HRG2:=Hd hrg2
         have HPM2:=Hd (HPM.out.keep hk2 (by show B0≠R2;omega))
         have HOW2:=Hd (HOW.out.keep (hk2.mono fun k _ hk=>by have h2:R2+1≤k:=hk;show k≠R2;omega))
         have HBR2:Hid (Below B0 w w2):=Kept.behind HBR.out hk2 (by have:=HSZ.out;omega) fun k hk=>by show k≠R2;omega
         have HSZ2:Hid (R2+1≤w2.heap.size):=by show _≤_;rw [hs2];exact HSZ.out
         have hgx':=hgx;rw [HG.out]at hgx';obtain⟨e,he,hce⟩:=Option.map_eq_some_iff.1 hgx';have HE:=Hd he;have HLX:=Hd hlx;have hlt2:=hlt
         have HLEFT:Hid (w2.rangeLeft v.mb R2<wq.rangeLeft v.mb R2):=by show _<_;rw [HRG2.out.left,HRG.out.left];exact hlt
         clear hrg2 hk2 hs2 hgx hgx' HPM HOW HBR HSZ HRG hce he hlx;have hlk:=HPM2.out.look Tryz.underlying138 (zero_bool w2) x hwx
         cases hgp:getM pm x with
         |some u=>
          have hut:=(HPI.out.val x u hgp).1;subst hut;rw [hgp]at hlk;have hlk':(Instr.lookup 138 (.map (some B0)) (.int .u64 x) false).run Tryz.prog w2= .ok (.bool true) w2:=hlk
          have HTI2:=Hd (HTI.out.skip (x:=x) (by rw [hgp];simp))
          clear hlk hgp HTI;go_wp2_with fail
          go_roundw
          case rel=>exact⟨L,_,_,HRG2,HPM2,HTI2,HOW2,by omega,HBR2,HSZ2⟩
          case measure=>exact HLEFT.out
         |none=>
          rw [hgp]at hlk;have hlk':(Instr.lookup 138 (.map (some B0)) (.int .u64 x) false).run Tryz.prog w2= .ok (.bool false) w2:=hlk;have HTI2:=Hd (HTI.out.put HE.out HLX.out hgp);clear hlk hgp HTI
          have hL12:L.length≤12:=by have:=HN.out;omega
          obtain⟨L2,hL2⟩: ∃l,L++ [x]=l:=⟨_,rfl⟩;have HL2:=Hd hL2
          have hlen2:L2.length=L.length+1:=by rw [←hL2];simp
          rw [hL2]at HTI2;clear hL2;have hsz2:=HSZ2.out
          go_wp2_with (at_builtin;refine wpList_append_rel (r:=u64R) (base:=R2+1) (v:= .slice ua L.length uc) (u:= .slice (some ⟨w2.heap.size,0,none⟩) 1 1) (S:=fun _=>False) rfl _ _ rfl Tryz.etyNums rfl rfl (HOW2.out.keepB (bnew (Below.refl _ _) (.cells #[.int .u64 x] 24))) (Src.one (r:=u64R) (y:=x) ⟨rfl,hwx⟩ (CellsAt.new w2 [.int .u64 x] 24)) (fun _ _ h=>h.elim) (fun _ _ h=>h) (by unfold maxLen;simp;omega) (by simp;omega) (by rw [World.size_alloc];omega) ?_)
          intro v9 w9 ho9 hk9 hl9
          rw [HL2.out]at ho9;have hbp:=bnew (Below.refl w2.heap.size w2) (.cells #[.int .u64 x] 24)
          have HNO:Hid (∀k,k<R2+1→(Value.slice ua L.length uc).ownBlock≠some k):=fun k hk e=>by
            have:=(HOW2.out.lt e).2.1;have h2:R2+1≤k:=this
            omega
          have HRG9:=Hd ((HRG2.out.keepB hbp).keep hk9 (HNO.out _ (by omega)) (HNO.out _ (by omega)))
          have HPM9:=Hd ((HPM2.out.keepB hbp).keep hk9 (HNO.out _ (by omega)))
          have HOW9:Hid (Own u64R (R2+1) 24 (fun k=>R2+1≤k) w9 v9 L2):=ho9.mono fun k _ hk=>by
            rcases hk with h1|h1
            · exact h1
            · have h1':w2.heap.size+1≤k:=by first|exact h1|(rw [World.size_alloc]at h1;exact h1)
              show R2+1≤k;omega
          have HBR9:Hid (Below B0 w w9):=Kept.behind (HBR2.out.trans (hbp.mono (by omega))) hk9 (by rw [World.size_alloc];omega) fun k hk=>HNO.out k (by omega)
          have HSZ9:Hid (R2+1≤w9.heap.size):=by show _≤_;have:=hk9.size;rw [World.size_alloc]at this;omega
          have HLEFT9:Hid (w9.rangeLeft v.mb R2<wq.rangeLeft v.mb R2):=by show _<_;rw [HRG9.out.left];have:=HLEFT.out;rw [HRG2.out.left]at this;exact this
          clear hbp ho9 hk9 hl9;go_wp2_with fail
          go_roundw
          case rel=>exact⟨L2,_,_,HRG9,HPM9,HTI2,HOW9,by omega,HBR9,HSZ9⟩
          case measure=>exact HLEFT9.out
   · intro x cv w2 cnt2 hwx hlx hgx hrg2 hlt hk2 hs2 hen
     have hR0:=HW0.out;have hL0:=HLT.out;have hgx':=hgx;rw [HG.out]at hgx';obtain⟨e,he,rfl⟩:=Option.map_eq_some_iff.1 hgx';have HE:=Hd he;have hRlt:=HRG.out.lt.2.1;have hbn:=bnew (Below.refl w2.heap.size w2) (.cells #[.int .u64 e.b.parent,.int .i64 e.b.height,.int .u64 e.b.miner,.int .u64 e.b.work,.int .u64 e.b.nonce,.slice e.xa e.b.txs.length e.xc,.int .u64 e.tot] 86);have HX:=Hd (box_new w2 (.cells #[.int .u64 e.b.parent,.int .i64 e.b.height,.int .u64 e.b.miner,.int .u64 e.b.work,.int .u64 e.b.nonce,.slice e.xa e.b.txs.length e.xc,.int .u64 e.tot] 86));have HRG2:=Hd (hrg2.keepB hbn)
     have HPM2:=Hd ((HPM.out.keep hk2 (by show B0≠R;omega)).keepB hbn)
     have HBR2:Hid (Below B0 w (w2.alloc (.cells #[.int .u64 e.b.parent,.int .i64 e.b.height,.int .u64 e.b.miner,.int .u64 e.b.work,.int .u64 e.b.nonce,.slice e.xa e.b.txs.length e.xc,.int .u64 e.tot] 86))):=(Kept.behind HBR.out hk2 (by omega) fun k hk=>by show k≠R;omega).trans (hbn.mono (by omega))
     have HLT2:=Hd hlt;have HOKP:=HBE.out x e he;have HCL:Hid (wo.rangeLeft v.mb R=cnt):=HRG.out.left
     have HXR:Hid (B0<w2.heap.size):=by show _<_;omega
     clear hgx hgx' hrg2 hk2 hbn he HPM HBR HRG hs2
     go_upto_region 5 with(fail)
     clear hen;obtain⟨X,hX⟩: ∃X,w2.heap.size=X:=⟨_,rfl⟩;rw [hX]at HX HXR⊢;clear hX;generalize w2.alloc (.cells #[.int .u64 e.b.parent,.int .i64 e.b.height,.int .u64 e.b.miner,.int .u64 e.b.work,.int .u64 e.b.nonce,.slice e.xa e.b.txs.length e.xc,.int .u64 e.tot] 86)=w3 at*;obtain⟨x0,x1⟩:=box_cells HX.out
     by_cases hh:1<e.b.height
     · have HPI2:=Hd (HPI.out.put HE.out hh)
       have hpl:=putM_len pm e.b.parent (.bool true)
       go_wp2_with (first
         |(at_mapUpdate;refine wpList_putM rfl _ rfl _ _ _ 138 rfl 4 Tryz.underlying138 B0 pm rfl HPM2.out (by have:=HN.out;unfold maxLen;omega) e.b.parent (.bool true) rfl HOKP rfl ?_;intro w5 hp5 ho5 hs5)
         |go_in)
       have HPM5:=Hd hp5
       have HRG5:=Hd (HRG2.out.keep ho5 (by show v.mb≠B0;omega) (by show R≠B0;omega))
       have HBR5:Hid (Below B0 w w5):=Kept.behind HBR2.out ho5 (by have:=HPM2.out.lt;omega) fun k hk=>by show k≠B0;omega
       have HLEFT5:Hid (w5.rangeLeft v.mb R<wo.rangeLeft v.mb R):=by show _<_;rw [HRG5.out.left,HCL.out];exact HLT2.out
       have hlt2:=HLT2.out;clear hp5 ho5 hs5 HRG2 HPM2 HBR2 x0 x1
       go_frame
       go_wp2_with fail
       go_roundw
       case rel=>exact⟨_,_,_,HRG5,HPM5,HPI2,by omega,HBR5⟩
       case measure=>exact HLEFT5.out
     · have HPI2:=Hd (HPI.out.skip HE.out hh)
       have HLEFT5:Hid (w3.rangeLeft v.mb R<wo.rangeLeft v.mb R):=by show _<_;rw [HRG2.out.left,HCL.out];exact HLT2.out
       have hlt2:=HLT2.out;go_wp2_with fail
       go_roundw
       case rel=>exact⟨pm,_,_,HRG2,HPM2,HPI2,by omega,HBR2⟩
       case measure=>exact HLEFT5.out
end Go.Proofs.YtjknlhiimmbilaaGreatDoor
/- A chain of the program and one of the reference, in plain Lean: when they are the same, and what follows. -/
set_option maxRecDepth 100000
namespace Go.Proofs.YtjknlhiimmbilaaGreatDoor
open Go.ChangeShapes Go.WideShapes Go.ChangeAt Go.RowKit Go.Sort
structure SimC (m:ChM)(rc:RcM):Prop where
 len:rc.L.length=m.L.length
 elem: ∀(k:Nat) (h:k<rc.L.length) (h2:k<m.L.length),rc.L[k].b=m.L[k].b∧rc.L[k].id=m.L[k].id∧rc.L[k].tot=m.L[k].tot
 ids: ∀(i j:Nat) (hi:i<rc.L.length) (hj:j<rc.L.length),rc.L[i].id=rc.L[j].id→i=j
 par: ∀(k:Nat) (h:k<rc.L.length),(rc.L[k].b.height=1∧rc.L[k].par= -1)∨(rc.L[k].b.height≠1∧ ∃(j:Nat) (hj:j<rc.L.length),j<k∧rc.L[k].par=j∧rc.L[j].id=rc.L[k].b.parent∧rc.L[j].b.height=rc.L[k].b.height-1)
 tip:(rc.tip= -1∧m.best= [])∨ ∃(j:Nat) (hj:j<rc.L.length),rc.tip=j∧m.best≠ []∧rc.L[j].id=m.best.getD (m.best.length-1) 0
 fin:(rc.fin= -1∧m.hgt=0∧m.final=0)∨ ∃(j:Nat) (hj:j<rc.L.length),rc.fin=j∧0<m.hgt∧rc.L[j].id=m.final∧rc.L[j].b.height=m.hgt
section
variable {r:RuM} {m:ChM} {rc:RcM}
theorem SimC.parOK (s:SimC m rc):ParOK rc.L:=fun k hk=>by
 rcases s.par k hk with⟨-,h⟩|⟨-,j,hj,hjk,h, -⟩
 · omega
 · omega
theorem SimC.at (s:SimC m rc)(ok:ChOK r m)(k:Nat)(h:k<rc.L.length): ∃e,findS m.L rc.L[k].id=some e∧e.b=rc.L[k].b∧e.id=rc.L[k].id∧e.tot=rc.L[k].tot:=by
 have h2:k<m.L.length:=by have:=s.len;omega
 obtain⟨h3,h4,h5⟩:=s.elem k h h2
 refine⟨m.L[k],?_,h3.symm,h4.symm,h5.symm⟩
 rw [h4]
 exact ok.uniq _ (List.getElem_mem h2)
theorem SimC.get (s:SimC m rc){x:Int}{e:StB}(h:findS m.L x=some e): ∃(k:Nat) (hk:k<rc.L.length),rc.L[k].id=x∧rc.L[k].b=e.b∧rc.L[k].tot=e.tot:=by
 obtain⟨hm,rfl⟩:=findS_some h;obtain⟨k,hk,rfl⟩:=List.getElem_of_mem hm
 have h2:k<rc.L.length:=by have:=s.len;omega
 obtain⟨h3,h4,h5⟩:=s.elem k h2 hk
 exact⟨k,h2,h4,h3,h5⟩
theorem SimC.find (s:SimC m rc)(ok:ChOK r m)(x:Int):(findS m.L x=none∧findR rc.L x= -1)∨ ∃(e:StB) (k:Nat) (hk:k<rc.L.length),findS m.L x=some e∧findR rc.L x=k∧rc.L[k].id=x∧rc.L[k].b=e.b∧rc.L[k].tot=e.tot:=by
 cases hf:findS m.L x with
 |none=>
  refine .inl ⟨rfl,findR_none fun j hj _ he=> ?_⟩
  obtain⟨e,h1, -⟩:=s.at ok j hj;rw [he,hf]at h1
  simp at h1
 |some e=>
  obtain⟨k,hk,h1,h2,h3⟩:=s.get hf
  exact .inr ⟨e,k,hk,rfl,findR_at hk (fun j hj hjk he=>by have:=s.ids j k hj hk (by rw [he,h1]);omega) h1,h1,h2,h3⟩
theorem way_sim (s:SimC m rc)(ok:ChOK r m): ∀(n k:Nat) (hk:k<rc.L.length),k<n→(wayR rc.L n k).map (idAt rc.L)=wayF m.L rc.L[k].b.height.toNat rc.L[k].id∧(wayR rc.L n k).length=rc.L[k].b.height.toNat
 |0,k,hk,h=>absurd h (Nat.not_lt_zero _)
 |n+1,k,hk,hkn=>by
  obtain⟨e,he,heb, -⟩:=s.at ok k hk
  have hid:idAt rc.L (k:Int)=rc.L[k].id:=by unfold idAt;rw [Int.toNat_natCast,getD_rs _ _ hk]
  have hw:wayR rc.L (n+1) k=wayR rc.L n rc.L[k].par++ [(k:Int)]:=by rw [wayR,if_neg (by omega),Int.toNat_natCast,getD_rs _ _ hk]
  have hh:=(ok.high e (findS_some he).1).1;rw [heb]at hh
  obtain⟨q,hq⟩: ∃q:Nat,rc.L[k].b.height.toNat=q+1:=⟨rc.L[k].b.height.toNat-1,by omega⟩
  have hf:wayF m.L (q+1) rc.L[k].id=wayF m.L q rc.L[k].b.parent++ [rc.L[k].id]:=by
    show(match findS m.L rc.L[k].id with|some e=>wayF m.L q e.b.parent++ [rc.L[k].id]|none=> [])=_
    rw [he,←heb]
  rw [hw,hq,hf,List.map_append,List.length_append]
  rcases s.par k hk with⟨h1,h2⟩|⟨h1,j,hj,hjk,h2,h3,h4⟩
  · have hq0:q=0:=by omega
    subst hq0
    have:wayR rc.L n (-1)= []:=by cases n<;>simp [wayR]
    rw [h2,this]
    exact⟨by simp [hid,wayF],rfl⟩
  · obtain⟨i1,i2⟩:=way_sim s ok n j hj (by omega)
    have hqj:rc.L[j].b.height.toNat=q:=by omega
    rw [h2,i1,hqj,h3,i2,hqj]
    exact⟨by simp [hid],rfl⟩
theorem way_of: ∀(n:Nat) (l:List Int),l.length=n+1→ ∀ {L:List StB},IsWay L l→wayF L (n+1) (l.getD n 0)=l
 |n,l,hl,L,h=>by
  obtain⟨l',p,rfl⟩: ∃l' p,l=l'++ [p]:=⟨l.dropLast,l.getLast (by intro e;rw [e]at hl;simp at hl),(List.dropLast_concat_getLast _).symm⟩
  have hl':l'.length=n:=by simpa using hl
  obtain⟨e,h1,h2,h3⟩:=h n (by omega)
  have e1:(l'++ [p])[n]'(by omega)=p:=by rw [List.getElem_append_right (by omega)];simp
  rw [e1]at h1
  have e2:(l'++ [p]).getD n 0=p:=by rw [List.getD_eq_getElem?_getD,List.getElem?_eq_getElem (by omega),e1];rfl
  rw [e2]
  show(match findS L p with|some e=>wayF L n e.b.parent++ [p]|none=> [])=_
  rw [h1]
  show wayF L n e.b.parent++ [p]=_
  cases n with
  |zero=>
   obtain rfl:=List.eq_nil_of_length_eq_zero hl'
   rfl
  |succ q=>
   have h4:=h3 (by omega)
   rw [Nat.add_sub_cancel,List.getD_eq_getElem?_getD,List.getElem?_append_left (by omega),←List.getD_eq_getElem?_getD]at h4
   have hw:IsWay L l':=by
     have:=h.take (q+1);rwa [List.take_left' hl']at this
   rw [h4,way_of q l' hl' hw]
theorem SimC.best (s:SimC m rc)(ok:ChOK r m):bestR rc.L rc.tip=m.best:=by
 unfold bestR
 rcases s.tip with⟨h1,h2⟩|⟨j,hj,h1,h2,h3⟩
 · rw [h1,h2]
   cases rc.L.length<;>simp [wayR]
 · obtain⟨n,hn⟩: ∃n,m.best.length=n+1:=⟨m.best.length-1,by have:=List.length_pos_iff.2 h2;omega⟩
   rw [hn,Nat.add_sub_cancel]at h3
   obtain⟨e,g1,g2, -⟩:=ok.best n (by omega)
   obtain⟨e',f1,f2, -⟩:=s.at ok j hj
   have e1:m.best.getD n 0=m.best[n]:=by rw [List.getD_eq_getElem?_getD,List.getElem?_eq_getElem (by omega)];rfl
   rw [h3,e1,g1]at f1;obtain rfl:=Option.some.inj f1
   have hh:rc.L[j].b.height.toNat=n+1:=by rw [←f2,g2];omega
   rw [h1,(way_sim s ok _ j hj hj).1,hh,h3,way_of n m.best hn ok.best]
theorem getLast_getD (l:List Int):l.getLast?.getD 0=l.getD (l.length-1) 0:=by
 rw [List.getLast?_eq_getElem?,List.getD_eq_getElem?_getD]
theorem SimC.tipN (s:SimC m rc)(ok:ChOK r m):nameI rc.L rc.tip=tipS m∧nameH rc.L rc.tip=m.best.length:=by
 unfold nameI nameH tipS
 rcases s.tip with⟨h1,h2⟩|⟨j,hj,h1,h2,h3⟩
 · rw [h1,h2];exact⟨rfl,rfl⟩
 · obtain⟨n,hn⟩: ∃n,m.best.length=n+1:=⟨m.best.length-1,by have:=List.length_pos_iff.2 h2;omega⟩
   rw [h1,if_neg (by omega),if_neg (by omega),Int.toNat_natCast,getD_rs _ _ hj,getLast_getD,h3]
   refine⟨rfl,?_⟩
   rw [hn,Nat.add_sub_cancel]at h3
   obtain⟨e,g1,g2, -⟩:=ok.best n (by omega)
   obtain⟨e',f1,f2, -⟩:=s.at ok j hj
   have e1:m.best.getD n 0=m.best[n]:=by rw [List.getD_eq_getElem?_getD,List.getElem?_eq_getElem (by omega)];rfl
   rw [h3,e1,g1]at f1;obtain rfl:=Option.some.inj f1
   rw [←f2,g2,hn];rfl
theorem SimC.finN (s:SimC m rc):nameI rc.L rc.fin=m.final∧nameH rc.L rc.fin=m.hgt:=by
 unfold nameI nameH
 rcases s.fin with⟨h1,h2,h3⟩|⟨j,hj,h1,h2,h3,h4⟩
 · rw [h1,h2,h3];exact⟨rfl,rfl⟩
 · rw [h1,if_neg (by omega),if_neg (by omega),Int.toNat_natCast,getD_rs _ _ hj,h3,h4]
   exact⟨rfl,rfl⟩
theorem SimC.bounds (s:SimC m rc): -1≤rc.tip∧rc.tip<rc.L.length∧ -1≤rc.fin∧rc.fin<rc.L.length:=by
 rcases s.tip with⟨h1, -⟩|⟨j,hj,h1, -⟩<;>rcases s.fin with⟨h2, -⟩|⟨i,hi,h2, -⟩<;>omega
theorem SimC.tips (s:SimC m rc)(ok:ChOK r m)(x:Int):TipR rc.L rc.L.length x↔isTip m x:=by
 constructor
 · rintro⟨i,hi, -,rfl,hn⟩
   obtain⟨e,he, -⟩:=s.at ok i hi
   refine⟨⟨e,he⟩,fun y f hf hc=> ?_⟩
   obtain⟨k,hk,h1,h2, -⟩:=s.get hf
   rcases s.par k hk with⟨h3, -⟩|⟨h3,j,hj,hjk,h4,h5, -⟩
   · rw [h2]at h3;omega
   · rw [h2,hc.2]at h5
     have:=s.ids j i hj hi h5;subst this
     exact hn k hk h4
 · rintro⟨⟨e,he⟩,hn⟩
   obtain⟨i,hi,h1,h2, -⟩:=s.get he
   refine⟨i,hi,hi,h1,fun k hk hp=> ?_⟩
   rcases s.par k hk with⟨-,h3⟩|⟨h3,j,hj,hjk,h4,h5, -⟩
   · omega
   · obtain⟨f,hf,hfb, -⟩:=s.at ok k hk
     have hji:j=i:=by omega
     subst hji;have h6:=(ok.high f (findS_some hf).1).1
     refine hn _ f hf ⟨?_,?_⟩
     · rw [hfb]at h6⊢;omega
     · rw [hfb,←h5,h1]
end
end Go.Proofs.YtjknlhiimmbilaaGreatDoor

/- The state of a chain of the program: Undo, Height. -/
import Derived.Test.YtjknlhiimmbilaaGreatDoorMPoB
set_option maxRecDepth 100000
set_option maxHeartbeats 4000000
namespace Go.Proofs.YtjknlhiimmbilaaGreatDoor
open Go.ChangeShapes Go.WideShapes Go.ChangeAt Go.RowKit Go.Sort
theorem poHeight_any (p:Nat)(I:Nat→Prop)(w:World)(r:RuM)(s:PoM)(v:PoV)(h:PoAt p I w r s v):
   Calls Tryz.prog 14 #[.pointer (some ⟨p,0,none⟩)] w fun e w'=>e= .returned (.int .i64 s.past.length)∧Below w.heap.size w w':=by
 obtain⟨x0,x1⟩:=box_cells h.cell
 simp only [poCells]at x0
 go_enter Tryz.func14,Tryz.ntmps14
 go_wp2_with fail;go_ret
 exact⟨rfl,Below.refl _ _⟩
def undoW (s:PoM)(pl:List BefM)(bf:BefM)(rl:List Int):PoM:=⟨bf.tree,s.leaves.take bf.leaves.toNat,remW s.marks bf.marks,bf.book,bf.hidden,rl,pl⟩
theorem undo_any (p:Nat)(I:Nat→Prop)(w:World)(r:RuM)(s:PoM)(v:PoV)(h:PoAt p I w r s v)(pl:List BefM)(bf:BefM)(hp:s.past=pl++ [bf])(hpl:pl.length≤10000)(ln:Nat)(hln:bf.leaves=ln)(hll:ln≤s.leaves.length)(hs1:s.leaves.length≤1000000)(hs2:s.marks.length≤1000000000)(hs3:bf.marks.length≤1000000)(rl:List Int)(rt:Int)(hr:s.roots=rl++ [rt])(hrl:rl.length≤100000):
   Calls Tryz.prog 78 #[.pointer (some ⟨p,0,none⟩)] w fun e w'=>e= .returned (.bool true)∧PoTo p I v w r (undoW s pl bf rl) w':=by
 have hn:s.past.length=pl.length+1:=by rw [hp];simp
 have hrn:s.roots.length=rl.length+1:=by rw [hr];simp
 obtain⟨g,cap,css,S,hv, -,hFg,hcm,hrow,hcl,hSI,hrel⟩:=h.data.past.rowC (by omega)
 simp only [Value.slice.injEq]at hv
 obtain⟨hpa, -,hpc⟩:=hv
 have hi:pl.length<css.length:=by omega
 have hbr:=hrel pl.length css[pl.length] bf (by simp [hi]) (by rw [hp];simp)
 obtain⟨ta,na,ba,tc,nc,bc,hcs,hin⟩:=befR.inv hbr
 have hSI': ∀k,S k→I k:=fun k hk=>by
   obtain⟨h1,h2,h3⟩:=hSI k hk
   rcases h1 with h1|h1
   · exact h1
   · rw [hpa]at h1;exact absurd (Option.some.inj h1).symm h3
 have hgp:blkO v.pa=some g:=by rw [hpa];rfl
 have hcell: ∀j (hj:j<7),w.cell? ⟨g,pl.length*7+j,none⟩=(#[.int .i64 bf.tree.depth,.int .i64 bf.tree.count,.slice ta bf.tree.left.length tc,.int .i64 (ln:Nat),.slice na bf.marks.length nc,.slice ba bf.book.length bc,.int .u64 bf.hidden]:Array Value)[j]? :=fun j hj=>by
   have hrow7:RowC 117 7 w g cap css:=hrow;have h1:=hrow7.get pl.length j hi hj
   have h2:css[pl.length][j]? =some (css[pl.length][j]'(by rw [hrow7.lens _ (List.getElem_mem hi)];exact hj)):=List.getElem?_eq_getElem _
   rw [h1,←h2,hcs,hln]
   simp only [List.getElem?_toArray]
 have c0:w.cell? ⟨g,pl.length*7,none⟩=some (.int .i64 bf.tree.depth):=hcell 0 (by omega)
 have c1:w.cell? ⟨g,pl.length*7+1,none⟩=some (.int .i64 bf.tree.count):=hcell 1 (by omega)
 have c2:w.cell? ⟨g,pl.length*7+2,none⟩=some (.slice ta bf.tree.left.length tc):=hcell 2 (by omega)
 have c3:w.cell? ⟨g,pl.length*7+3,none⟩=some (.int .i64 (ln:Nat)):=hcell 3 (by omega)
 have c4:w.cell? ⟨g,pl.length*7+4,none⟩=some (.slice na bf.marks.length nc):=hcell 4 (by omega)
 have c5:w.cell? ⟨g,pl.length*7+5,none⟩=some (.slice ba bf.book.length bc):=hcell 5 (by omega)
 have c6:w.cell? ⟨g,pl.length*7+6,none⟩=some (.int .u64 bf.hidden):=hcell 6 (by omega)
 obtain⟨x0,x1⟩:=box_cells h.cell
 simp only [poCells,hn,hpa]at x0
 have hTR:=numsR.mono hin.tree fun k _ hk=>hSI' k hk
 have hBK:=(accsR).mono hin.book fun k _ hk=>hSI' k hk
 have HMK:=Hd hin.marks;have HHD:=Hd hin.hidden;have HTR:=Hd hTR;have HBK:=Hd hBK;have HP:=Hd h
 have HSM:Hid (∀k,S k→ ¬PoMut p v k):=fun k hk hm=>h.free k hm (hSI' k hk)
 have HGP:=Hd hgp
 have hge:pl.length+1≤v.pc:=by rw [hpc];have:=hrow.le;omega
 have HROW:=Hd hrow
 have HRW:Hid (restW s bf=⟨bf.tree,s.leaves.take ln,remW s.marks bf.marks,bf.book,bf.hidden,s.roots,s.past⟩):=by show PoM.mk _ _ _ _ _ _ _=_;rw [hln,Int.toNat_natCast]
 have HUW:Hid (undoW s pl bf rl=⟨bf.tree,s.leaves.take ln,remW s.marks bf.marks,bf.book,bf.hidden,rl,pl⟩):=by show PoM.mk _ _ _ _ _ _ _=_;rw [hln,Int.toNat_natCast]
 have HLN:=Hd hln;have HN:=Hd hn;have HRN:=Hd hrn;have HPP:=Hd hp;have HRR:=Hd hr;clear h hrel hbr hcs hin hSI hSI' hcell hTR hBK hgp hrow hFg hi hcl hln hn hrn hp hr hpa hpc hcm
 have i0:(0:Int)≤(pl.length:Int):=by omega
 go_enter Tryz.func78,Tryz.ntmps78
 go_wp2_with fail
 refine(restore_any p I w r s v HP.out bf ln HLN.out hll hs1 hs2 hs3 ta na ba tc nc bc HTR.out HBK.out S HMK.out HSM.out HHD.out).mono ?_
 rintro e w2 ⟨rfl,hp2,hk2⟩;rw [HRW.out]at hp2;have HP2:=Hd hp2;have HK2:=Hd hk2;clear hp2 hk2 c0 c1 c2 c3 c4 c5 c6 x0 x1 HTR HBK HMK HHD
 obtain⟨g',hpa2,hat3,hgne⟩:=HP2.out.clearPast pl.length (by show pl.length<s.past.length;rw [HN.out];omega)
 have hgg:g'=g:=by
   have h1:v.pa=some ⟨g',0,none⟩:=hpa2;have h2:=HGP.out;rw [h1]at h2
   exact Option.some.inj h2
 subst hgg;obtain⟨x0,x1⟩:=box_cells HP2.out.cell;have hpa3:v.pa=some ⟨g',0,none⟩:=hpa2
 simp only [poCells,HN.out,hpa3]at x0
 have hpl2:(⟨bf.tree,s.leaves.take ln,remW s.marks bf.marks,bf.book,bf.hidden,s.roots,s.past⟩:PoM).past.length=pl.length+1:=HN.out
 obtain⟨g2,cap2,css2,S2,hv2, -, -, -,hrow2,hcl2, -, -⟩:=HP2.out.data.past.rowC (by omega)
 simp only [Value.slice.injEq]at hv2
 have hg2:g'=g2:=by
   have h1:=hv2.1;rw [hpa3]at h1
   simpa using h1
 subst hg2;have hrow7:RowC 117 7 w2 g' cap2 css2:=hrow2
 have hi2:pl.length<css2.length:=by omega
 have hfz: ∀j,w2.frozen? ⟨g',j,none⟩=false:=fun j=>hrow7.froz j
 obtain⟨u0,d0⟩: ∃u,w2.cell? ⟨g',pl.length*7,none⟩=some u:=⟨_,hrow7.get pl.length 0 hi2 (by omega)⟩
 obtain⟨u1,d1⟩: ∃u,w2.cell? ⟨g',pl.length*7+1,none⟩=some u:=⟨_,hrow7.get pl.length 1 hi2 (by omega)⟩
 obtain⟨u2,d2⟩: ∃u,w2.cell? ⟨g',pl.length*7+2,none⟩=some u:=⟨_,hrow7.get pl.length 2 hi2 (by omega)⟩
 obtain⟨u3,d3⟩: ∃u,w2.cell? ⟨g',pl.length*7+3,none⟩=some u:=⟨_,hrow7.get pl.length 3 hi2 (by omega)⟩
 obtain⟨u4,d4⟩: ∃u,w2.cell? ⟨g',pl.length*7+4,none⟩=some u:=⟨_,hrow7.get pl.length 4 hi2 (by omega)⟩
 obtain⟨u5,d5⟩: ∃u,w2.cell? ⟨g',pl.length*7+5,none⟩=some u:=⟨_,hrow7.get pl.length 5 hi2 (by omega)⟩
 obtain⟨u6,d6⟩: ∃u,w2.cell? ⟨g',pl.length*7+6,none⟩=some u:=⟨_,hrow7.get pl.length 6 hi2 (by omega)⟩
 have HAT3:=Hd hat3;have HNE:=Hd hgne;clear hrow2 hrow7 hi2 hcl2 hv2 hpl2 hat3 hgne hpa2
 go_upto_region 6 with(fail)
 have hk3:Kept (fun k=> ¬PoMut p v k) w (w2.setCells g' (pl.length*7) [.int .i64 0,.int .i64 0,.slice none 0 0,.int .i64 0,.slice none 0 0,.slice none 0 0,.int .u64 0]):=HK2.out.trans (kept_cells w2 (q:=g') (S:=fun k=> ¬PoMut p v k) (fun h=>h (.inr (.inr (.inr (.inr (.inr HGP.out)))))) _ _) fun _ _ h=>h
 obtain⟨w3,hwf⟩: ∃wf,wf=w2.setCells g' (pl.length*7) [.int .i64 0,.int .i64 0,.slice none 0 0,.int .i64 0,.slice none 0 0,.slice none 0 0,.int .u64 0]:=⟨_,rfl⟩;rw [←hwf]at HAT3 hk3
 simp only [World.setCells]at hwf
 rw [←hwf];have HK3:=Hd hk3;clear hwf hk3 x0 x1 d0 d1 d2 d3 d4 d5 d6 hfz HP2 HROW
 have hsl:(s.past.set pl.length zeroBef).length=pl.length+1:=by rw [List.length_set,HN.out]
 obtain⟨x0,x1⟩:=box_cells HAT3.out.cell
 simp only [poCells,hsl,hpa3]at x0
 have i1:(pl.length:Int)≤(v.pc:Int):=by omega
 have i2:pl.length≤v.pc:=by omega
 have HAT4:=Hd (HAT3.out.cutPast pl.length (by show pl.length≤(s.past.set pl.length zeroBef).length;omega))
 have HK4:Hid (Kept (fun k=> ¬PoMut p v k) w (w3.setCell ⟨p,17,none⟩ (.slice v.pa pl.length v.pc))):=HK3.out.trans (kept_one w3 p 17 _) fun k _ h e=>h (.inl e)
 have HPQ:Hid ((s.past.set pl.length zeroBef).take pl.length=pl):=by
   show _=_
   rw [HPP.out];simp
 go_upto_region 7 with(fail)
 rw [←hpa3]
 have HAT4':Hid (PoAt p I (w3.setCell ⟨p,17,none⟩ (.slice v.pa pl.length v.pc)) r ⟨bf.tree,s.leaves.take ln,remW s.marks bf.marks,bf.book,bf.hidden,s.roots,pl⟩ { v with ta:=ta,tc:=tc,ba:=ba,bc:=bc }):=by
   have:=HAT4.out
   simp only [HPQ.out]at this
   exact this
 clear HAT4 x0 x1 hsl i1 i2 HAT3 HK3;generalize w3.setCell ⟨p,17,none⟩ (.slice v.pa pl.length v.pc)=w4 at*
 have hrl2:0<s.roots.length:=by rw [HRN.out];omega
 obtain⟨gr,hra⟩:=own_at HAT4'.out.data.roots hrl2;have hra':v.ra=some ⟨gr,0,none⟩:=hra;have hcr:s.roots.length≤v.rc:=(sliceR.lens HAT4'.out.data.roots.slice).2.1
 have j1:rl.length≤v.rc:=by have:=HRN.out;omega
 have j2:(rl.length:Int)≤(v.rc:Int):=by omega
 have y0:=box_regrown HAT4'.out.cell
 simp only [poCells,HRN.out,hra']at y0
 clear hcr hra hrl2
 refine wp_region_quiet_tail 12 (by kernel_rfl) (by kernel_rfl) ?_
 simp only [List.take_succ_cons,List.take_zero,List.drop_succ_cons,List.drop_zero]
 repeat (first|go_big_quiet_step (fail)|quiet_step (fail))
 refine wpQuiet_nil ?_
 intro w5 hw'
 obtain⟨⟨dq,osq⟩,hw''⟩:=hw';have hbw5:=below_regrown w4 dq osq;rw [←hw'']at hbw5;clear hw'' y0;have HP5:=Hd (HAT4'.out.keepB hbw5)
 have HK5:Hid (Kept (fun k=> ¬PoMut p v k) w w5):=HK4.out.trans (Kept.of_below (S:=fun k=> ¬PoMut p v k) hbw5) fun _ _ h=>h
 obtain⟨y0,y1⟩:=box_cells HP5.out.cell
 have HP6:=Hd (HP5.out.cutRoots rl.length (by show rl.length≤s.roots.length;rw [HRN.out];omega))
 have HK6:Hid (Kept (fun k=> ¬PoMut p v k) w (w5.setCell ⟨p,16,none⟩ (.slice v.ra rl.length v.rc))):=HK5.out.trans (kept_one w5 p 16 _) fun k _ h e=>h (.inl e)
 have HRQ:Hid (s.roots.take rl.length=rl):=by show _=_;rw [HRR.out];simp
 have HP7:Hid (PoAt p I (w5.setCell ⟨p,16,none⟩ (.slice v.ra rl.length v.rc)) r ⟨bf.tree,s.leaves.take ln,remW s.marks bf.marks,bf.book,bf.hidden,rl,pl⟩ { v with ta:=ta,tc:=tc,ba:=ba,bc:=bc }):=by
   have:=HP6.out
   simp only [HRQ.out]at this
   exact this
 clear HP6;go_wp2_with fail;go_ret;rw [←hra',HUW.out]
 exact⟨rfl,I,_,HP7.out,HK6.out,fun _ h=> .inl h,fun _ h=> .inl h⟩
end Go.Proofs.YtjknlhiimmbilaaGreatDoor
/- The state of a chain of the program: New. -/
set_option maxRecDepth 100000
set_option maxHeartbeats 4000000
namespace Go.Proofs.YtjknlhiimmbilaaGreatDoor
open Go.ChangeShapes Go.WideShapes Go.ChangeAt Go.RowKit Go.Sort
abbrev ruleE (r:RuM):Int:=rulesE r.mode r.depth r.bl r.bu r.qu r.rew r.win r.fin r.work
theorem ruleE_ok {r:RuM}(h:ruleE r=0)(hr:okU r.rew):RuOK r:=by
 rcases Classical.em (1≤r.mode∧r.mode≤3∧1≤r.depth∧r.depth≤12∧1≤r.win∧r.win≤100∧1≤r.fin∧r.fin≤1048576∧r.rew≤4294967296∧1≤r.work∧r.work≤65536)with hh|hh
 · exact⟨hh.2.2.1,hh.2.2.2.1,hh.2.2.2.2.1,hh.2.2.2.2.2.1,hh.2.2.2.2.2.2.1,hh.2.2.2.2.2.2.2.1,hh.2.2.2.2.2.2.2.2.1,hr,hh.2.2.2.2.2.2.2.2.2.1,hh.2.2.2.2.2.2.2.2.2.2⟩
 · have:=rulesE_one (bl:=r.bl) (bu:=r.bu) (q:=r.qu) hh
   rw [show ruleE r=1 from this.symm]at h
   omega
def PoNew (r:RuM)(w:World)(e:Ending)(w':World):Prop:=
 ∃(p:Nat) (I:Nat→Prop) (v:PoV),e= .returned (.tuple #[.pointer (some ⟨p,0,none⟩),.int .i64 0])∧PoAt p I w' r (newP r) v∧(∀k,PoMut p v k→w.heap.size≤k)∧(∀k,I k→w.heap.size≤k)∧Below w.heap.size w w'
theorem poNew_mk {r:RuM} {D:Nat} (hD:r.depth=D) {n0 B:Nat} {w3 E:World} (hB:B=w3.heap.size) (hb:Below B w3 E) {p sb mb rb:Nat} {ta:Option Addr} {tc:Nat} {rt:Int} (hrt:rootF (newF D) D=rt) (ho:okU rt)
   (hc:E.heap[p]? =some (.cells #[.int .i64 r.mode,.int .i64 D,.int .i64 r.bl,.int .i64 r.bu,.int .i64 r.qu,.int .u64 r.rew,.int .i64 r.win,.int .i64 r.fin,.int .u64 r.work,.int .i64 D,.int .i64 0,.slice ta (newF D).left.length tc,.slice none 0 0,.pointer (some ⟨sb,0,none⟩),.slice none 0 0,.int .u64 0,.slice (some ⟨rb,0,none⟩) 1 1,.slice none 0 0] 103 (0,0)))
   (htr:numsR.rel (fun k=>n0≤k) w3 [.slice ta (newF D).left.length tc] (newF D).left) (hmk:MkAt sb mb E []) (hrow:E.heap[rb]? =some (.cells #[.int .u64 rt] 24 (0,0)))
   (h1:B≤p) (h2:B≤sb) (h3:B≤mb) (h4:B≤rb):PoAt p (fun k=>n0≤k∧k<B) E r (newP r) ⟨ta,tc,none,0,sb,mb,none,0,some ⟨rb,0,none⟩,1,none,0⟩:=by
 subst hB
 have hdn:r.depth.toNat=D:=by rw [hD,Int.toNat_natCast]
 have hnp:newP r=⟨newF D,[],[],[],0,[rt],[]⟩:=by unfold newP;rw [hdn,hrt]
 rw [hnp]
 refine⟨?_,⟨numsR.keepB (numsR.bound htr) hb,Own.nil _ _ _ _ _,hmk,sliceR.nil,okU_of (by show(0:Int)≤0;omega) (by show(0:Int)<_;omega),?_,Own.nil _ _ _ _ _⟩,fun k e=>by simp at e,fun k hm hi=> ?_,fun k hi=>Nat.lt_of_lt_of_le hi.2 hb.size⟩
 · rw [hc]
   show some (Obj.cells #[_,.int .i64 (D:Int),_,_,_,_,_,_,_,_,_,_,_,_,_,_,_,_] _ _)=some (Obj.cells #[_,.int .i64 r.depth,_,_,_,_,_,_,_,_,_,_,_,_,_,_,_,_] _ _)
   rw [hD];rfl
 · have:=own_ints (k:= .u64) (base:=0) (cap:=1) (xs:= [rt]) (cur:= [.int .u64 rt]) hrow rfl rfl (by intro x hx;simp at hx;subst hx;exact ho) (by simp) (by unfold maxLen;omega) (Nat.zero_le _)
   exact this.tight
 · obtain⟨h5,h6⟩:=hi
   rcases hm with e|e|e|e|e|e
   · omega
   · have e':k=sb:=e;omega
   · have e':k=mb:=e;omega
   · simp at e
   · have e':rb=k:=by simpa using e
     omega
   · simp at e
theorem poNew_any (w:World)(r:RuM)(h:ruleE r=0)(hr:okU r.rew):
   Calls Tryz.prog 17 #[.agg #[.int .i64 r.mode,.int .i64 r.depth,.int .i64 r.bl,.int .i64 r.bu,.int .i64 r.qu,.int .u64 r.rew,.int .i64 r.win,.int .i64 r.fin,.int .u64 r.work]] w (PoNew r w):=by
 have HR:=Hd (ruleE_ok h hr);have HB:=Hd (bnew (Below.refl w.heap.size w) (.cells #[.int .i64 r.mode,.int .i64 r.depth,.int .i64 r.bl,.int .i64 r.bu,.int .i64 r.qu,.int .u64 r.rew,.int .i64 r.win,.int .i64 r.fin,.int .u64 r.work] 26));have HX:=Hd (box_new w (.cells #[.int .i64 r.mode,.int .i64 r.depth,.int .i64 r.bl,.int .i64 r.bu,.int .i64 r.qu,.int .u64 r.rew,.int .i64 r.win,.int .i64 r.fin,.int .u64 r.work] 26));have HE:=Hd h;clear h hr
 go_enter Tryz.func17,Tryz.ntmps17
 go_upto_region 1 with(fail)
 generalize w.alloc (.cells #[.int .i64 r.mode,.int .i64 r.depth,.int .i64 r.bl,.int .i64 r.bu,.int .i64 r.qu,.int .u64 r.rew,.int .i64 r.win,.int .i64 r.fin,.int .u64 r.work] 26)=W at*;obtain⟨x0,x1⟩:=box_cells HX.out;go_wp2_with fail
 refine(rules_any r.mode r.depth r.bl r.bu r.qu r.rew r.win r.fin r.work W).mono ?_
 rintro e w1 ⟨rfl,hb1⟩;rw [show rulesE r.mode r.depth r.bl r.bu r.qu r.rew r.win r.fin r.work=0 from HE.out];have HX1:=Hd (box_after hb1 HX.out);clear x0 x1;obtain⟨x0,x1⟩:=box_cells HX1.out
 obtain⟨D,hD⟩:=Int.eq_ofNat_of_zero_le (show 0≤r.depth by have:=HR.out.d0;omega)
 have HD:=Hd hD
 have hd0:1≤D:=by have:=HR.out.d0;omega
 have hd1:D≤12:=by have:=HR.out.d1;omega
 rw [hD]at x0
 have HXE:Hid ((#[.int .i64 r.mode,.int .i64 r.depth,.int .i64 r.bl,.int .i64 r.bu,.int .i64 r.qu,.int .u64 r.rew,.int .i64 r.win,.int .i64 r.fin,.int .u64 r.work]:Array Value)= #[.int .i64 r.mode,.int .i64 D,.int .i64 r.bl,.int .i64 r.bu,.int .i64 r.qu,.int .u64 r.rew,.int .i64 r.win,.int .i64 r.fin,.int .u64 r.work]):=by show _=_;rw [hD]
 clear hD;go_wp2_with fail
 refine(frNew_any w1 D hd0 hd1).mono ?_
 rintro e w2 ⟨ta,tc,rfl,hrel2,hb2⟩;have HX2:=Hd (box_after hb2 HX1.out);clear x0 x1
 go_upto_region 5 with(fail)
 have hbT:=bnew (Below.refl w2.heap.size w2) (.cells #[.int .i64 D,.int .i64 0,.slice ta (newF D).left.length tc] 96);have HTB:=Hd (box_new w2 (.cells #[.int .i64 D,.int .i64 0,.slice ta (newF D).left.length tc] 96));have HX3:=Hd (box_after hbT HX2.out);have HTR:=Hd (numsR.keepB hrel2 hbT);have HB3:=Hd (bnext HB.out (bnext hb1 (bnext hb2 hbT)));have HZ:Hid (w.heap.size≤w1.heap.size):=(bnext HB.out hb1).size;clear hb1 hb2 hbT hrel2 HX1 HX2;generalize w2.alloc (.cells #[.int .i64 D,.int .i64 0,.slice ta (newF D).left.length tc] 96)=w3 at*;generalize w2.heap.size=B2 at*;have HXD:=HX3;rw [HXE.out]at HXD;have HRT:=Hd (okP (rootF_in (newF_ok D hd0 hd1)))
 have hroot: ∀(X:World),Below w3.heap.size w3 X→Calls Tryz.prog 40 #[.agg #[.int .i64 D,.int .i64 0,.slice ta (newF D).left.length tc]] X fun e w'=>e= .returned (.int .u64 (rootF (newF D) D))∧Below X.heap.size X w':=fun X hX=>
   frRoot_any _ X (newF D) D (newF_ok D hd0 hd1) ta tc (numsR.keepB HTR.out hX)
 have HRC:=Hd hroot;obtain⟨rt,hrt⟩: ∃x,rootF (newF D) D=x:=⟨_,rfl⟩;have HRE:=Hd hrt;rw [hrt]at HRT;clear hroot hrt
 go_region_held3 (fun w'=>Below w3.heap.size w3 w'∧(∀o,w'.cell? ⟨w.heap.size,o,none⟩=(#[.int .i64 r.mode,.int .i64 D,.int .i64 r.bl,.int .i64 r.bu,.int .i64 r.qu,.int .u64 r.rew,.int .i64 r.win,.int .i64 r.fin,.int .u64 r.work]:Array Value)[o]?)∧(∀o,w'.cell? ⟨B2,o,none⟩=(#[.int .i64 D,.int .i64 0,.slice ta (newF D).left.length tc]:Array Value)[o]?))
   (first
     |with_reducible exact BkK2.drew (BkK2.of HXD.out HTB.out (Below.refl _ _))
     |with_reducible exact HKN.out
     |with_reducible exact HKR.out
     |with_reducible exact BkK2.of HXD.out HTB.out (bnew HKN.out.1 _)
     |with_reducible exact BkK2.of HXD.out HTB.out (bnew HKR.out.1 _)
     |with_reducible exact BkK2.of HXD.out HTB.out (bnew (bnew HKN.out.1 _) _)
     |with_reducible exact BkK2.of HXD.out HTB.out (bnew (bnew HKR.out.1 _) _))
   (first
     |(go_at_call 39
       have HBp:=Hd (‹Below w3.heap.size w3 _∧_› :BkK2 #[.int .i64 r.mode,.int .i64 D,.int .i64 r.bl,.int .i64 r.bu,.int .i64 r.qu,.int .u64 r.rew,.int .i64 r.win,.int .i64 r.fin,.int .u64 r.work] #[.int .i64 D,.int .i64 0,.slice ta (newF D).left.length tc] w.heap.size B2 w3 _)
       refine(mkNew_any _).mono ?_
       rintro e wn ⟨sb,mb,rfl,hmk,l1,l2,hbn⟩;have HMK:=Hd hmk;have HL1:=Hd (Nat.le_trans HBp.out.1.size l1);have HL2:=Hd (Nat.le_trans HBp.out.1.size l2);have HKN:=Hd (BkK2.of HXD.out HTB.out (bnext HBp.out.1 hbn));have HBN:=Hd hbn;clear hmk l1 l2)
     |(go_at_call 40
       have HBp:=Hd (‹Below w3.heap.size w3 _∧_› :BkK2 #[.int .i64 r.mode,.int .i64 D,.int .i64 r.bl,.int .i64 r.bu,.int .i64 r.qu,.int .u64 r.rew,.int .i64 r.win,.int .i64 r.fin,.int .u64 r.work] #[.int .i64 D,.int .i64 0,.slice ta (newF D).left.length tc] w.heap.size B2 w3 _)
       refine(HRC.out _ HBp.out.1).mono ?_
       rw [HRE.out];rintro e wr ⟨rfl,hbr⟩;have HKR:=Hd (BkK2.of HXD.out HTB.out (bnext HBp.out.1 hbr));have HBR:=Hd hbr))
 have hbR:Below wr.heap.size wr ((wr.alloc (.cells #[.int .u64 rt] 24)).alloc (.cells #[.int .i64 r.mode,.int .i64 D,.int .i64 r.bl,.int .i64 r.bu,.int .i64 r.qu,.int .u64 r.rew,.int .i64 r.win,.int .i64 r.fin,.int .u64 r.work,.int .i64 D,.int .i64 0,.slice ta (newF D).left.length tc,.slice none 0 0,.pointer (some ⟨sb,0,none⟩),.slice none 0 0,.int .u64 0,.slice (some ⟨wr.heap.size,0,none⟩) 1 1,.slice none 0 0] 103)):=bnew (bnew (Below.refl _ _) _) _;have hbE:Below w3.heap.size w3 ((wr.alloc (.cells #[.int .u64 rt] 24)).alloc (.cells #[.int .i64 r.mode,.int .i64 D,.int .i64 r.bl,.int .i64 r.bu,.int .i64 r.qu,.int .u64 r.rew,.int .i64 r.win,.int .i64 r.fin,.int .u64 r.work,.int .i64 D,.int .i64 0,.slice ta (newF D).left.length tc,.slice none 0 0,.pointer (some ⟨sb,0,none⟩),.slice none 0 0,.int .u64 0,.slice (some ⟨wr.heap.size,0,none⟩) 1 1,.slice none 0 0] 103)):=bnext HKR.out.1 hbR;have hz:=HKR.out.1.size
 have hat:=poNew_mk HD.out rfl hbE HRE.out HRT.out (two_new wr (.cells #[.int .u64 rt] 24) (.cells #[.int .i64 r.mode,.int .i64 D,.int .i64 r.bl,.int .i64 r.bu,.int .i64 r.qu,.int .u64 r.rew,.int .i64 r.win,.int .i64 r.fin,.int .u64 r.work,.int .i64 D,.int .i64 0,.slice ta (newF D).left.length tc,.slice none 0 0,.pointer (some ⟨sb,0,none⟩),.slice none 0 0,.int .u64 0,.slice (some ⟨wr.heap.size,0,none⟩) 1 1,.slice none 0 0] 103)).1 HTR.out (HMK.out.keepB (bnext HBR.out hbR)) (two_new wr (.cells #[.int .u64 rt] 24) (.cells #[.int .i64 r.mode,.int .i64 D,.int .i64 r.bl,.int .i64 r.bu,.int .i64 r.qu,.int .u64 r.rew,.int .i64 r.win,.int .i64 r.fin,.int .u64 r.work,.int .i64 D,.int .i64 0,.slice ta (newF D).left.length tc,.slice none 0 0,.pointer (some ⟨sb,0,none⟩),.slice none 0 0,.int .u64 0,.slice (some ⟨wr.heap.size,0,none⟩) 1 1,.slice none 0 0] 103)).2 (by omega) HL1.out HL2.out hz
 have HAT:=Hd hat;have HBF:=Hd (bnext HB3.out hbE);have hz3:=HB3.out.size;have hl1:=HL1.out;have hl2:=HL2.out;clear hbE hbR hat;go_wp2_with fail;go_ret2
 refine⟨wr.heap.size+1,_,_,rfl,HAT.out,fun k hm=> ?_,fun k hi=>by have:=hi.1;have:=HZ.out;omega,HBF.out⟩
 rcases hm with e|e|e|e|e|e
 · omega
 · have e':k=sb:=e;omega
 · have e':k=mb:=e;omega
 · simp at e
 · have e':wr.heap.size=k:=by simpa using e
   omega
 · simp at e
end Go.Proofs.YtjknlhiimmbilaaGreatDoor
/- The state of a chain of the program: the state behind a list of blocks; Apply and Undo of such states. -/
set_option maxRecDepth 100000
namespace Go.Proofs.YtjknlhiimmbilaaGreatDoor
open Go.ChangeShapes Go.WideShapes Go.ChangeAt Go.RowKit Go.Sort
def posB (b:BlkM):Prop:= ∀t∈b.txs,∀o∈t.outs,0≤o.commit
theorem BlkIn.pos {S:Nat→Prop}{w:World}{b:BlkM}{xa:Option Addr}{xc:Nat}(h:BlkIn S w b xa xc):posB b:=by
 intro t ht
 obtain⟨j,hj,rfl⟩:=List.getElem_of_mem ht;obtain⟨_,_,_,_,_,_,_,_,_,_,hin,_⟩:=txs_at h.txs j hj
 exact outs_pos hin
theorem txs_ok {r:RuM}{N:Nat}: ∀(l:List TxM) (s0:PoM) (k:List TxM) (s:PoM) (m:List Int),TxsK r N s0 k s m→txsE r s l=0→(∀t∈l,∀o∈t.outs,0≤o.commit)→ ∃m',TxsK r N s0 (k++l) (txsW s l) m'
 | [],s0,k,s,m,h,_,_=>⟨m,by rw [List.append_nil];exact h⟩
 |t::l,s0,k,s,m,h,he,hp=>by
  have he':(if poCheckE r s t=0 then (if perfE s t=0 then txsE r (perfW s t) l else perfE s t)else poCheckE r s t)=0:=he
  split at he'
  · rename_i h1
    split at he'
    · rename_i h2
      obtain⟨m',h3⟩:=txs_ok l s0 (k++ [t]) (perfW s t) (m++t.marks) (h.next h1 h2 (hp t (by simp))) he' fun t' ht'=>hp t' (by simp [ht'])
      refine⟨m',?_⟩
      rw [List.append_assoc]at h3
      exact h3
    · rename_i h2;exact absurd he' h2
  · rename_i h1;exact absurd he' h1
theorem apply_block {r:RuM}{s:PoM}{b:BlkM}(h:applyE r s b=0):b.height=s.past.length+1∧b.miner<18446744069414584321∧blockE r s b=0:=by
 unfold applyE at h
 split at h
 · split at h
   · exact⟨by assumption,by assumption,h⟩
   · simp at h
 · simp at h
theorem block_txs {r:RuM}{s:PoM}{b:BlkM}(h:blockE r s b=0):txsE r s b.txs=0:=by
 unfold blockE at h
 split at h
 · assumption
 · rename_i h1;exact absurd h h1
theorem block_part {r:RuM}{N:Nat}{s:PoM}{b:BlkM}(ok:PoOK r s N)(h:applyE r s b=0)(hp:posB b)(hl:b.txs.length≤64):PoOK r (blockW r s b) (N+400)∧Part s (blockW r s b) (marksL b.txs):=by
 obtain⟨m',hk⟩:=txs_ok b.txs s [] s [] (TxsK.zero ok) (block_txs (apply_block h).2.2) hp;rw [List.nil_append]at hk;have hm:=hk.mks;subst hm;have h1:=hk.ok
 have hN:N+4*b.txs.length≤N+400:=by omega
 refine⟨⟨h1.tree,h1.count,h1.leaves,Nat.le_trans h1.marks hN,creditL_up h1.up _ _,?_,h1.hidden,h1.roots⟩,⟨hk.part.leaves,hk.part.marks,hk.part.nodup,hk.part.fresh,hk.part.roots,hk.part.past⟩⟩
 have h2:=creditL_len (txsW s b.txs).book b.miner (wrapU (r.rew+feesL 0 b.txs));have h3:=h1.book
 show(creditL _ _ _).length≤_
 omega
theorem apply_ok {r:RuM}{N:Nat}{s:PoM}{b:BlkM}(ok:PoOK r s N)(h:applyE r s b=0)(hp:posB b)(hl:b.txs.length≤64):PoOK r (applyW r s b) (N+400):=by
 obtain⟨h1,h2⟩:=block_part ok h hp hl
 refine⟨h1.tree,h1.count,h1.leaves,h1.marks,h1.up,h1.book,h1.hidden,?_⟩
 show(s.roots++ [_]).length=(s.past++ [_]).length+1
 rw [List.length_append,List.length_append,ok.roots];simp
theorem undo_apply {r:RuM}{N:Nat}{s:PoM}{b:BlkM}(ok:PoOK r s N)(h:applyE r s b=0)(hp:posB b)(hl:b.txs.length≤64)(hup:s.marks.Pairwise (· < ·)):undoW (applyW r s b) s.past (befM s b) s.roots=s:=by
 obtain⟨h1,h2⟩:=block_part ok h hp hl;have h3:=rest_part h2 hup;have e1:=congrArg PoM.leaves h3;have e2:=congrArg PoM.marks h3
 show PoM.mk s.tree ((blockW r s b).leaves.take (s.leaves.length:Int).toNat) (remW (blockW r s b).marks (marksL b.txs)) s.book s.hidden s.roots s.past=s
 rw [show(blockW r s b).leaves.take (s.leaves.length:Int).toNat=s.leaves from e1,show remW (blockW r s b).marks (marksL b.txs)=s.marks from e2]
def runW (r:RuM)(bs:List BlkM):PoM:=bs.foldl (applyW r) (newP r)
theorem runW_snoc (r:RuM)(bs:List BlkM)(b:BlkM):runW r (bs++ [b])=applyW r (runW r bs) b:=by unfold runW;rw [List.foldl_append];rfl
structure BlkOK (b:BlkM):Prop where
 valid:blkE b=0
 pos:posB b
theorem BlkOK.txs {b:BlkM}(h:BlkOK b):b.txs.length≤64:=(blkE_head h.valid).2.2.2.2.2.2
def RunOK (r:RuM)(bs:List BlkM):Prop:= ∀k (h:k<bs.length),BlkOK bs[k]∧applyE r (runW r (bs.take k)) bs[k]=0
theorem RunOK.nil (r:RuM):RunOK r []:=fun k h=>by simp at h
theorem RunOK.snoc {r:RuM}{bs:List BlkM}(h:RunOK r bs){b:BlkM}(hb:BlkOK b)(he:applyE r (runW r bs) b=0):RunOK r (bs++ [b]):=by
 intro k hk
 rcases Nat.lt_or_ge k bs.length with hlt|hge
 · rw [List.getElem_append_left hlt,List.take_append_of_le_length (by omega)]
   exact h k hlt
 · have hk':k=bs.length:=by simp at hk;omega
   subst hk'
   rw [List.getElem_append_right (by omega),List.take_left']
   · simpa using⟨hb,he⟩
   · rfl
theorem RunOK.take {r:RuM}{bs:List BlkM}(h:RunOK r bs)(n:Nat):RunOK r (bs.take n):=by
 intro k hk
 rw [List.length_take]at hk
 rw [List.getElem_take,List.take_take,Nat.min_eq_left (by omega)]
 exact h k (by omega)
theorem RunOK.last {r:RuM}{bs:List BlkM}{b:BlkM}(h:RunOK r (bs++ [b])):RunOK r bs∧BlkOK b∧applyE r (runW r bs) b=0:=by
 have h1:=h.take bs.length;rw [List.take_left' rfl]at h1
 have h2:=h bs.length (by simp)
 rw [List.getElem_append_right (by omega),List.take_left' rfl]at h2
 simp at h2
 exact⟨h1,h2⟩
theorem newP_ok {r:RuM}(h:RuOK r):PoOK r (newP r) 0:=
 ⟨newF_ok _ (by have:=h.d0;omega) (by have:=h.d1;omega),rfl,by intro x hx;simp [newP]at hx,Nat.le_refl _,List.Pairwise.nil,Nat.le_refl _,okU_of (by show(0:Int)≤0;omega) (by show(0:Int)<_;omega),rfl⟩
theorem addS_sorted_apply {r:RuM}{N:Nat}{s:PoM}{b:BlkM}(ok:PoOK r s N)(h:applyE r s b=0)(hp:posB b)(hl:b.txs.length≤64)(hup:s.marks.Pairwise (· < ·)):(applyW r s b).marks.Pairwise (· < ·):=by
 obtain⟨h1,h2⟩:=block_part ok h hp hl
 show(blockW r s b).marks.Pairwise _
 rw [h2.marks]
 exact sorted_addS _ _ hup
structure RunFacts (r:RuM)(bs:List BlkM):Prop where
 ok:PoOK r (runW r bs) (400*bs.length)
 up:(runW r bs).marks.Pairwise (· < ·)
 past:(runW r bs).past.length=bs.length
theorem RunFacts.snoc {r:RuM}{bs:List BlkM}{b:BlkM}(h:RunFacts r bs)(hb:BlkOK b)(he:applyE r (runW r bs) b=0):RunFacts r (bs++ [b]):=by
 refine⟨?_,?_,?_⟩
 · rw [runW_snoc,List.length_append,List.length_singleton,Nat.mul_add]
   exact apply_ok h.ok he hb.pos hb.txs
 · rw [runW_snoc];exact addS_sorted_apply h.ok he hb.pos hb.txs h.up
 · rw [runW_snoc,List.length_append,List.length_singleton,←h.past]
   show((runW r bs).past++ [_]).length=_
   rw [List.length_append];rfl
theorem run_facts {r:RuM}(hr:RuOK r): ∀(n:Nat) (bs:List BlkM),bs.length=n→RunOK r bs→RunFacts r bs
 |0,bs,h,_=>by
  obtain rfl:=List.eq_nil_of_length_eq_zero h
  exact⟨newP_ok hr,List.Pairwise.nil,rfl⟩
 |n+1,bs,h,ho=>by
  have hne:bs≠ []:=by intro e;rw [e]at h;simp at h
  have e1:=List.dropLast_concat_getLast hne;rw [←e1]at ho⊢;obtain⟨h1,h2,h3⟩:=ho.last
  exact(run_facts hr n bs.dropLast (by rw [List.length_dropLast];omega) h1).snoc h2 h3
theorem runW_undo {r:RuM}(hr:RuOK r){bs:List BlkM}{b:BlkM}(ho:RunOK r (bs++ [b])):undoW (runW r (bs++ [b])) (runW r bs).past (befM (runW r bs) b) (runW r bs).roots=runW r bs:=by
 obtain⟨h1,h2,h3⟩:=ho.last;have hf:=run_facts hr _ bs rfl h1;rw [runW_snoc]
 exact undo_apply hf.ok h3 h2.pos h2.txs hf.up
theorem undo_run (p:Nat)(I:Nat→Prop)(w:World)(r:RuM)(hr:RuOK r)(bs:List BlkM)(b:BlkM)(ho:RunOK r (bs++ [b]))(hl:bs.length≤200)(v:PoV)(h:PoAt p I w r (runW r (bs++ [b])) v):
   Calls Tryz.prog 78 #[.pointer (some ⟨p,0,none⟩)] w fun e w'=>e= .returned (.bool true)∧PoTo p I v w r (runW r bs) w':=by
 obtain⟨h1,h2,h3⟩:=ho.last;have hf:=run_facts hr _ bs rfl h1;have hf2:=run_facts hr _ _ rfl ho
 have hlen:(bs++ [b]).length≤201:=by simp;omega
 obtain⟨hb1,hb2⟩:=block_part hf.ok h3 h2.pos h2.txs
 have e1:(runW r (bs++ [b])).past=(runW r bs).past++ [befM (runW r bs) b]:=by rw [runW_snoc];rfl
 have e2:(runW r (bs++ [b])).roots=(runW r bs).roots++ [rootF (blockW r (runW r bs) b).tree r.depth.toNat]:=by rw [runW_snoc];rfl
 have e3:(runW r bs).leaves.length≤(runW r (bs++ [b])).leaves.length:=by
   rw [runW_snoc]
   show _≤(blockW r (runW r bs) b).leaves.length
   have:=congrArg List.length hb2.leaves
   rw [List.length_take]at this;omega
 have hmk:(befM (runW r bs) b).marks.length≤1000000:=by
   obtain⟨m',hk⟩:=txs_ok b.txs (runW r bs) [] (runW r bs) [] (TxsK.zero hf.ok) (block_txs (apply_block h3).2.2) h2.pos;have h4:=hk.len;have h5:=hk.mks;subst h5;have h6:=h2.txs
   show(marksL b.txs).length≤_
   rw [List.nil_append]at h4
   omega
 have hu:=undo_any p I w r (runW r (bs++ [b])) v h (runW r bs).past (befM (runW r bs) b) e1 (by rw [hf.past];omega) (runW r bs).leaves.length rfl e3 (leaves_len hf2.ok) (by have:=hf2.ok.marks;omega) hmk (runW r bs).roots _ e2 (by rw [hf.ok.roots,hf.past];omega)
 rw [runW_undo hr ho]at hu
 exact hu
theorem apply_run (p:Nat)(I:Nat→Prop)(w:World)(r:RuM)(hr:RuOK r)(bs:List BlkM)(ho:RunOK r bs)(hl:bs.length≤200)(v:PoV)(h:PoAt p I w r (runW r bs) v)(S:Nat→Prop)(b:BlkM)(xa:Option Addr)(xc:Nat)(hb:BlkIn S w b xa xc)(hbl:b.txs.length≤64)(hS: ∀k,S k→ ¬PoMut p v k):
   Calls Tryz.prog 20 #[.pointer (some ⟨p,0,none⟩),.agg #[.int .u64 b.parent,.int .i64 b.height,.int .u64 b.miner,.int .u64 b.work,.int .u64 b.nonce,.slice xa b.txs.length xc]] w fun e w'=>e= .returned (.int .i64 (applyE r (runW r bs) b))∧PoTo p I v w r (apW r (runW r bs) b) w':=by
 have hf:=run_facts hr _ bs rfl ho
 exact apply_any p I w r hr (runW r bs) v h (400*bs.length) hf.ok (by omega) (by rw [hf.past];omega) S b xa xc hb hbl hS
end Go.Proofs.YtjknlhiimmbilaaGreatDoor

/- The reference's New chain for all rules; the law ChainNew. -/
import Derived.Test.YtjknlhiimmbilaaGreatDoorAgr
import Derived.Test.YtjknlhiimmbilaaGreatDoorMFld
import Derived.Test.YtjknlhiimmbilaaGreatDoorLwC
set_option maxRecDepth 100000
set_option maxHeartbeats 4000000
namespace Go.Proofs.YtjknlhiimmbilaaGreatDoor
open Go.ChangeShapes Go.WideShapes Go.ChangeAt Go.RowKit Go.Sort
def rnE (r:RuM)(pi:Bool):Int:=if ruleE r=0∧pi=(r.mode==3)then 0 else 1
theorem ruleE_one (r:RuM):ruleE r=0∨ruleE r=1:=by
 unfold ruleE rulesE
 split
 · exact .inl rfl
 · exact .inr rfl
theorem refNew48g_any (w:World)(pi:Bool)(r:RuM):
   Calls Tryz.prog 9 #[.agg #[.bool pi,.int .u64 0,.int .i64 0,.slice none 0 0,.slice none 0 0,.slice none 0 0],.agg #[.int .i64 r.mode,.int .i64 r.depth,.int .i64 r.bl,.int .i64 r.bu,.int .i64 r.qu,.int .u64 r.rew,.int .i64 r.win,.int .i64 r.fin,.int .u64 r.work]] w fun e w'=>((rnE r pi=0∧e= .returned (.tuple #[.agg #[.bool pi,.int .u64 0,.int .i64 0,.slice none 0 0,.slice none 0 0,.slice none 0 0,.int .i64 r.mode,.int .i64 r.depth,.int .i64 r.bl,.int .i64 r.bu,.int .i64 r.qu,.int .u64 r.rew,.int .i64 r.win,.int .i64 r.fin,.int .u64 r.work,.slice none 0 0,.int .i64 (-1),.int .i64 (-1)],.int .i64 0]))∨(rnE r pi=1∧e= .returned (.tuple #[.agg #[.bool false,.int .u64 0,.int .i64 0,.slice none 0 0,.slice none 0 0,.slice none 0 0,.int .i64 0,.int .i64 0,.int .i64 0,.int .i64 0,.int .i64 0,.int .u64 0,.int .i64 0,.int .i64 0,.int .u64 0,.slice none 0 0,.int .i64 0,.int .i64 0],.int .i64 1])))∧Below w.heap.size w w':=by
 have hbA:=bnew (bnew (bnew (Below.refl w.heap.size w) (.cells #[.bool pi,.int .u64 0,.int .i64 0,.slice none 0 0,.slice none 0 0,.slice none 0 0] 34)) (.cells #[.int .i64 r.mode,.int .i64 r.depth,.int .i64 r.bl,.int .i64 r.bu,.int .i64 r.qu,.int .u64 r.rew,.int .i64 r.win,.int .i64 r.fin,.int .u64 r.work] 26)) (.cells #[.bool false,.int .u64 0,.int .i64 0,.slice none 0 0,.slice none 0 0,.slice none 0 0,.int .i64 0,.int .i64 0,.int .i64 0,.int .i64 0,.int .i64 0,.int .u64 0,.int .i64 0,.int .i64 0,.int .u64 0,.slice none 0 0,.int .i64 0,.int .i64 0] 43);have HX:=Hd (three_new w (.cells #[.bool pi,.int .u64 0,.int .i64 0,.slice none 0 0,.slice none 0 0,.slice none 0 0] 34) (.cells #[.int .i64 r.mode,.int .i64 r.depth,.int .i64 r.bl,.int .i64 r.bu,.int .i64 r.qu,.int .u64 r.rew,.int .i64 r.win,.int .i64 r.fin,.int .u64 r.work] 26) (.cells #[.bool false,.int .u64 0,.int .i64 0,.slice none 0 0,.slice none 0 0,.slice none 0 0,.int .i64 0,.int .i64 0,.int .i64 0,.int .i64 0,.int .i64 0,.int .u64 0,.int .i64 0,.int .i64 0,.int .u64 0,.slice none 0 0,.int .i64 0,.int .i64 0] 43));have HB:=Hd hbA;clear hbA
 go_enter Tryz.func9,Tryz.ntmps9
 go_upto_region 1 with(fail)
 generalize ((w.alloc (.cells #[.bool pi,.int .u64 0,.int .i64 0,.slice none 0 0,.slice none 0 0,.slice none 0 0] 34)).alloc (.cells #[.int .i64 r.mode,.int .i64 r.depth,.int .i64 r.bl,.int .i64 r.bu,.int .i64 r.qu,.int .u64 r.rew,.int .i64 r.win,.int .i64 r.fin,.int .u64 r.work] 26)).alloc (.cells #[.bool false,.int .u64 0,.int .i64 0,.slice none 0 0,.slice none 0 0,.slice none 0 0,.int .i64 0,.int .i64 0,.int .i64 0,.int .i64 0,.int .i64 0,.int .u64 0,.int .i64 0,.int .i64 0,.int .u64 0,.slice none 0 0,.int .i64 0,.int .i64 0] 43)=W at*;have hX1:Hid (W.heap[w.heap.size+1]? =some (Obj.cells #[.int .i64 r.mode,.int .i64 r.depth,.int .i64 r.bl,.int .i64 r.bu,.int .i64 r.qu,.int .u64 r.rew,.int .i64 r.win,.int .i64 r.fin,.int .u64 r.work] 26 (0,0))):=HX.out.2.1;have hX2:Hid (W.heap[w.heap.size+1+1]? =some (Obj.cells #[.bool false,.int .u64 0,.int .i64 0,.slice none 0 0,.slice none 0 0,.slice none 0 0,.int .i64 0,.int .i64 0,.int .i64 0,.int .i64 0,.int .i64 0,.int .u64 0,.int .i64 0,.int .i64 0,.int .u64 0,.slice none 0 0,.int .i64 0,.int .i64 0] 43 (0,0))):=HX.out.1;have hX0:=Hd HX.out.2.2;obtain⟨B2,hB2⟩: ∃x,w.heap.size+1+1=x:=⟨_,rfl⟩;rw [hB2]at hX2⊢;obtain⟨B1,hB1⟩: ∃x,w.heap.size+1=x:=⟨_,rfl⟩;rw [hB1]at hX1⊢
 have HBZ:Hid (w.heap.size≤B2):=by show _≤_;omega
 clear hB1 hB2 HX;obtain⟨x0,x1⟩:=box_cells hX0.out;obtain⟨y0,y1⟩:=box_cells hX1.out;go_wp2_with fail
 refine(refRules_any r.mode r.depth r.bl r.bu r.qu r.rew r.win r.fin r.work W).mono ?_
 rintro e w1 ⟨rfl,hb1⟩;have HX1:=Hd (box_after hb1 hX0.out);have HY1:=Hd (box_after hb1 hX1.out);have HZ1:=Hd (box_after hb1 hX2.out);have HB1:=Hd (bnext HB.out hb1);have hru:rulesE r.mode r.depth r.bl r.bu r.qu r.rew r.win r.fin r.work=ruleE r:=rfl;rw [hru];clear x0 x1 y0 y1 hb1 hru;obtain⟨x0,x1⟩:=box_cells HX1.out;obtain⟨y0,y1⟩:=box_cells HY1.out
 rcases ruleE_one r with he|he
 · have HM:Hid (rnE r pi=if pi=(r.mode==3)then 0 else 1):=by
     show rnE r pi=_
     unfold rnE;rw [he]
     simp
   rw [he];clear he;obtain⟨mb,hmb⟩: ∃x,(r.mode==3)=x:=⟨_,rfl⟩;rw [hmb]at HM
   cases pi<;>cases mb
   · have HF:Hid (rnE r false=0):=HM.out
     go_wp2_with (refine wpList_store_row rfl _ _ _ rfl B2 _ rfl rfl _ _ HZ1.out (by kernel_rfl) rfl (by kernel_rfl) ?_)
     have HZ2:Hid ((w1.setRow B2 #[.bool false,.int .u64 0,.int .i64 0,.slice none 0 0,.slice none 0 0,.slice none 0 0,.int .i64 r.mode,.int .i64 r.depth,.int .i64 r.bl,.int .i64 r.bu,.int .i64 r.qu,.int .u64 r.rew,.int .i64 r.win,.int .i64 r.fin,.int .u64 r.work,.slice none 0 0,.int .i64 (-1),.int .i64 (-1)]).heap[B2]? =some (Obj.cells #[.bool false,.int .u64 0,.int .i64 0,.slice none 0 0,.slice none 0 0,.slice none 0 0,.int .i64 r.mode,.int .i64 r.depth,.int .i64 r.bl,.int .i64 r.bu,.int .i64 r.qu,.int .u64 r.rew,.int .i64 r.win,.int .i64 r.fin,.int .u64 r.work,.slice none 0 0,.int .i64 (-1),.int .i64 (-1)] 43 (0,0))):=setRow_heap _ _ _ _ _ _ HZ1.out;have HB2:=Hd (below_setRow (g:=B2) HB1.out HBZ.out #[.bool false,.int .u64 0,.int .i64 0,.slice none 0 0,.slice none 0 0,.slice none 0 0,.int .i64 r.mode,.int .i64 r.depth,.int .i64 r.bl,.int .i64 r.bu,.int .i64 r.qu,.int .u64 r.rew,.int .i64 r.win,.int .i64 r.fin,.int .u64 r.work,.slice none 0 0,.int .i64 (-1),.int .i64 (-1)])
     (try simp only [Exit.inBlock,Exit.then])
     refine bodyPost_ret (v:= .tuple #[.agg #[.bool false,.int .u64 0,.int .i64 0,.slice none 0 0,.slice none 0 0,.slice none 0 0,.int .i64 r.mode,.int .i64 r.depth,.int .i64 r.bl,.int .i64 r.bu,.int .i64 r.qu,.int .u64 r.rew,.int .i64 r.win,.int .i64 r.fin,.int .u64 r.work,.slice none 0 0,.int .i64 (-1),.int .i64 (-1)],.int .i64 0]) ?_ rfl ⟨.inl ⟨HF.out,rfl⟩,HB2.out⟩
     exact ret_cell_tmp Tryz.results9 rfl HZ2.out Tryz.underlying43 rfl (by kernel_rfl)
   · have HF:Hid (rnE r false=1):=HM.out
     go_wp2_with (refine wpList_store_row rfl _ _ _ rfl B2 _ rfl rfl _ _ HZ1.out (by kernel_rfl) rfl (by kernel_rfl) ?_)
     have HZ2:Hid ((w1.setRow B2 #[.bool false,.int .u64 0,.int .i64 0,.slice none 0 0,.slice none 0 0,.slice none 0 0,.int .i64 0,.int .i64 0,.int .i64 0,.int .i64 0,.int .i64 0,.int .u64 0,.int .i64 0,.int .i64 0,.int .u64 0,.slice none 0 0,.int .i64 0,.int .i64 0]).heap[B2]? =some (Obj.cells #[.bool false,.int .u64 0,.int .i64 0,.slice none 0 0,.slice none 0 0,.slice none 0 0,.int .i64 0,.int .i64 0,.int .i64 0,.int .i64 0,.int .i64 0,.int .u64 0,.int .i64 0,.int .i64 0,.int .u64 0,.slice none 0 0,.int .i64 0,.int .i64 0] 43 (0,0))):=setRow_heap _ _ _ _ _ _ HZ1.out;have HB2:=Hd (below_setRow (g:=B2) HB1.out HBZ.out #[.bool false,.int .u64 0,.int .i64 0,.slice none 0 0,.slice none 0 0,.slice none 0 0,.int .i64 0,.int .i64 0,.int .i64 0,.int .i64 0,.int .i64 0,.int .u64 0,.int .i64 0,.int .i64 0,.int .u64 0,.slice none 0 0,.int .i64 0,.int .i64 0])
     (try simp only [Exit.inBlock,Exit.then])
     refine bodyPost_ret (v:= .tuple #[.agg #[.bool false,.int .u64 0,.int .i64 0,.slice none 0 0,.slice none 0 0,.slice none 0 0,.int .i64 0,.int .i64 0,.int .i64 0,.int .i64 0,.int .i64 0,.int .u64 0,.int .i64 0,.int .i64 0,.int .u64 0,.slice none 0 0,.int .i64 0,.int .i64 0],.int .i64 1]) ?_ rfl ⟨.inr ⟨HF.out,rfl⟩,HB2.out⟩
     exact ret_cell_tmp Tryz.results9 rfl HZ2.out Tryz.underlying43 rfl (by kernel_rfl)
   · have HF:Hid (rnE r true=1):=HM.out
     go_wp2_with (refine wpList_store_row rfl _ _ _ rfl B2 _ rfl rfl _ _ HZ1.out (by kernel_rfl) rfl (by kernel_rfl) ?_)
     have HZ2:Hid ((w1.setRow B2 #[.bool false,.int .u64 0,.int .i64 0,.slice none 0 0,.slice none 0 0,.slice none 0 0,.int .i64 0,.int .i64 0,.int .i64 0,.int .i64 0,.int .i64 0,.int .u64 0,.int .i64 0,.int .i64 0,.int .u64 0,.slice none 0 0,.int .i64 0,.int .i64 0]).heap[B2]? =some (Obj.cells #[.bool false,.int .u64 0,.int .i64 0,.slice none 0 0,.slice none 0 0,.slice none 0 0,.int .i64 0,.int .i64 0,.int .i64 0,.int .i64 0,.int .i64 0,.int .u64 0,.int .i64 0,.int .i64 0,.int .u64 0,.slice none 0 0,.int .i64 0,.int .i64 0] 43 (0,0))):=setRow_heap _ _ _ _ _ _ HZ1.out;have HB2:=Hd (below_setRow (g:=B2) HB1.out HBZ.out #[.bool false,.int .u64 0,.int .i64 0,.slice none 0 0,.slice none 0 0,.slice none 0 0,.int .i64 0,.int .i64 0,.int .i64 0,.int .i64 0,.int .i64 0,.int .u64 0,.int .i64 0,.int .i64 0,.int .u64 0,.slice none 0 0,.int .i64 0,.int .i64 0])
     (try simp only [Exit.inBlock,Exit.then])
     refine bodyPost_ret (v:= .tuple #[.agg #[.bool false,.int .u64 0,.int .i64 0,.slice none 0 0,.slice none 0 0,.slice none 0 0,.int .i64 0,.int .i64 0,.int .i64 0,.int .i64 0,.int .i64 0,.int .u64 0,.int .i64 0,.int .i64 0,.int .u64 0,.slice none 0 0,.int .i64 0,.int .i64 0],.int .i64 1]) ?_ rfl ⟨.inr ⟨HF.out,rfl⟩,HB2.out⟩
     exact ret_cell_tmp Tryz.results9 rfl HZ2.out Tryz.underlying43 rfl (by kernel_rfl)
   · have HF:Hid (rnE r true=0):=HM.out
     go_wp2_with (refine wpList_store_row rfl _ _ _ rfl B2 _ rfl rfl _ _ HZ1.out (by kernel_rfl) rfl (by kernel_rfl) ?_)
     have HZ2:Hid ((w1.setRow B2 #[.bool true,.int .u64 0,.int .i64 0,.slice none 0 0,.slice none 0 0,.slice none 0 0,.int .i64 r.mode,.int .i64 r.depth,.int .i64 r.bl,.int .i64 r.bu,.int .i64 r.qu,.int .u64 r.rew,.int .i64 r.win,.int .i64 r.fin,.int .u64 r.work,.slice none 0 0,.int .i64 (-1),.int .i64 (-1)]).heap[B2]? =some (Obj.cells #[.bool true,.int .u64 0,.int .i64 0,.slice none 0 0,.slice none 0 0,.slice none 0 0,.int .i64 r.mode,.int .i64 r.depth,.int .i64 r.bl,.int .i64 r.bu,.int .i64 r.qu,.int .u64 r.rew,.int .i64 r.win,.int .i64 r.fin,.int .u64 r.work,.slice none 0 0,.int .i64 (-1),.int .i64 (-1)] 43 (0,0))):=setRow_heap _ _ _ _ _ _ HZ1.out;have HB2:=Hd (below_setRow (g:=B2) HB1.out HBZ.out #[.bool true,.int .u64 0,.int .i64 0,.slice none 0 0,.slice none 0 0,.slice none 0 0,.int .i64 r.mode,.int .i64 r.depth,.int .i64 r.bl,.int .i64 r.bu,.int .i64 r.qu,.int .u64 r.rew,.int .i64 r.win,.int .i64 r.fin,.int .u64 r.work,.slice none 0 0,.int .i64 (-1),.int .i64 (-1)])
     (try simp only [Exit.inBlock,Exit.then])
     refine bodyPost_ret (v:= .tuple #[.agg #[.bool true,.int .u64 0,.int .i64 0,.slice none 0 0,.slice none 0 0,.slice none 0 0,.int .i64 r.mode,.int .i64 r.depth,.int .i64 r.bl,.int .i64 r.bu,.int .i64 r.qu,.int .u64 r.rew,.int .i64 r.win,.int .i64 r.fin,.int .u64 r.work,.slice none 0 0,.int .i64 (-1),.int .i64 (-1)],.int .i64 0]) ?_ rfl ⟨.inl ⟨HF.out,rfl⟩,HB2.out⟩
     exact ret_cell_tmp Tryz.results9 rfl HZ2.out Tryz.underlying43 rfl (by kernel_rfl)
 · have HF:Hid (rnE r pi=1):=if_neg fun h=>by rw [he]at h;simp at h
   rw [he];clear he
   go_wp2_with (refine wpList_store_row rfl _ _ _ rfl B2 _ rfl rfl _ _ HZ1.out (by kernel_rfl) rfl (by kernel_rfl) ?_)
   have HZ2:Hid ((w1.setRow B2 #[.bool false,.int .u64 0,.int .i64 0,.slice none 0 0,.slice none 0 0,.slice none 0 0,.int .i64 0,.int .i64 0,.int .i64 0,.int .i64 0,.int .i64 0,.int .u64 0,.int .i64 0,.int .i64 0,.int .u64 0,.slice none 0 0,.int .i64 0,.int .i64 0]).heap[B2]? =some (Obj.cells #[.bool false,.int .u64 0,.int .i64 0,.slice none 0 0,.slice none 0 0,.slice none 0 0,.int .i64 0,.int .i64 0,.int .i64 0,.int .i64 0,.int .i64 0,.int .u64 0,.int .i64 0,.int .i64 0,.int .u64 0,.slice none 0 0,.int .i64 0,.int .i64 0] 43 (0,0))):=setRow_heap _ _ _ _ _ _ HZ1.out;have HB2:=Hd (below_setRow (g:=B2) HB1.out HBZ.out #[.bool false,.int .u64 0,.int .i64 0,.slice none 0 0,.slice none 0 0,.slice none 0 0,.int .i64 0,.int .i64 0,.int .i64 0,.int .i64 0,.int .i64 0,.int .u64 0,.int .i64 0,.int .i64 0,.int .u64 0,.slice none 0 0,.int .i64 0,.int .i64 0])
   (try simp only [Exit.inBlock,Exit.then])
   refine bodyPost_ret (v:= .tuple #[.agg #[.bool false,.int .u64 0,.int .i64 0,.slice none 0 0,.slice none 0 0,.slice none 0 0,.int .i64 0,.int .i64 0,.int .i64 0,.int .i64 0,.int .i64 0,.int .u64 0,.int .i64 0,.int .i64 0,.int .u64 0,.slice none 0 0,.int .i64 0,.int .i64 0],.int .i64 1]) ?_ rfl ⟨.inr ⟨HF.out,rfl⟩,HB2.out⟩
   exact ret_cell_tmp Tryz.results9 rfl HZ2.out Tryz.underlying43 rfl (by kernel_rfl)
theorem newE_zero {r:RuM}{id:Bool}(h:newE r id=0):rnE r id=0:=by
 unfold newE at h
 split at h
 · rename_i h1
   split at h
   · simp at h
   · rename_i h2
     exact if_pos ⟨h1,by simpa using h2⟩
 · rename_i h1;exact absurd h h1
theorem newE_one {r:RuM}{id:Bool}(h:newE r id≠0):newE r id=1∧rnE r id=1:=by
 unfold newE at h⊢
 split at h
 · rename_i h1
   split at h
   · rename_i h2
     rw [if_pos h1,if_pos h2]
     refine⟨rfl,if_neg fun h=> ?_⟩
     rw [h.2]at h2;simp at h2
   · simp at h
 · rename_i h1
   rcases ruleE_one r with h2|h2
   · exact absurd h2 h1
   · rw [if_neg h1,h2]
     exact⟨rfl,if_neg fun h=>h1 h.1⟩
theorem chOK_new (r:RuM):ChOK r ⟨[],[],0,0⟩:=
 ⟨fun e he=>by simp at he,fun e he=>by simp at he,fun e he=>by simp at he,fun e he=>by simp at he,fun e he=>by simp at he,IsWay.nil _,RunOK.nil r,Nat.le_refl _,fun h=>by simp at h⟩
theorem simC_new:SimC ⟨[],[],0,0⟩ ⟨[], -1, -1⟩:=
 ⟨rfl,fun k h=>by simp at h,fun i j h=>by simp at h,fun k h=>by simp at h,.inl ⟨rfl,rfl⟩,.inl ⟨rfl,rfl,rfl⟩⟩
theorem new_law (w:World)(r:RuM)(hrw:okU r.rew)(pi:Bool)(x:Int)(hx:okU x):
   Calls Tryz.prog 3 #[.agg #[.int .i64 r.mode,.int .i64 r.depth,.int .i64 r.bl,.int .i64 r.bu,.int .i64 r.qu,.int .u64 r.rew,.int .i64 r.win,.int .i64 r.fin,.int .u64 r.work],.bool pi,.int .u64 x] w fun e w'=>e= .returned (.bool true)∧Below w.heap.size w w':=by
 have hbA:=bnew (Below.refl w.heap.size w) (.cells #[.int .i64 r.mode,.int .i64 r.depth,.int .i64 r.bl,.int .i64 r.bu,.int .i64 r.qu,.int .u64 r.rew,.int .i64 r.win,.int .i64 r.fin,.int .u64 r.work] 26);have HX:=Hd (box_new w (.cells #[.int .i64 r.mode,.int .i64 r.depth,.int .i64 r.bl,.int .i64 r.bu,.int .i64 r.qu,.int .u64 r.rew,.int .i64 r.win,.int .i64 r.fin,.int .u64 r.work] 26));have HB:=Hd hbA;clear hbA
 go_enter Tryz.func3,Tryz.ntmps3
 go_upto_region 1 with(fail)
 generalize w.alloc (.cells #[.int .i64 r.mode,.int .i64 r.depth,.int .i64 r.bl,.int .i64 r.bu,.int .i64 r.qu,.int .u64 r.rew,.int .i64 r.win,.int .i64 r.fin,.int .u64 r.work] 26)=W at*;go_wp2_with fail
 refine(real_any W).mono ?_
 rintro e w1 ⟨p,rfl, -,hor,hb1⟩
 go_upto_region 2 with(refine wpList_store_row rfl _ _ _ rfl w1.heap.size _ rfl rfl _ _ (box_new w1 (.cells #[.bool false,.int .u64 0,.int .i64 0,.slice none 0 0,.slice none 0 0,.slice none 0 0] 34)) (by kernel_rfl) rfl (by kernel_rfl) ?_)
 obtain⟨w2,hw2,HB2,HP2,HO2⟩: ∃y,_=y∧Hid (Below W.heap.size W y)∧Hid (y.heap[w1.heap.size]? =some (.cells #[.bool pi,.int .u64 0,.int .i64 0,.slice none 0 0,.slice none 0 0,.slice none 0 0] 34 (0,0)))∧Hid (OrAt false 0 p y):=
   ⟨_,rfl,bnext hb1 (below_setRow (g:=w1.heap.size) (bnew (Below.refl _ _) (.cells #[.bool false,.int .u64 0,.int .i64 0,.slice none 0 0,.slice none 0 0,.slice none 0 0] 34)) (Nat.le_refl _) #[.bool pi,.int .u64 0,.int .i64 0,.slice none 0 0,.slice none 0 0,.slice none 0 0]),setRow_heap _ _ _ _ _ _ (box_new w1 (.cells #[.bool false,.int .u64 0,.int .i64 0,.slice none 0 0,.slice none 0 0,.slice none 0 0] 34)),OrAt.keepB hor (below_setRow (g:=w1.heap.size) (bnew (Below.refl _ _) (.cells #[.bool false,.int .u64 0,.int .i64 0,.slice none 0 0,.slice none 0 0,.slice none 0 0] 34)) (Nat.le_refl _) #[.bool pi,.int .u64 0,.int .i64 0,.slice none 0 0,.slice none 0 0,.slice none 0 0])⟩
 rw [hw2];clear hw2 hb1
 go_upto_if 20 with fail
 go_cut [7]from 21 (fun v7 wc=> ∃(q:Nat) (st:Int),v7= .pointer (some ⟨q,0,none⟩)∧(pi=false→st=0)∧Hid (OrAt pi st q wc)∧Hid (Below w2.heap.size w2 wc))
 case first=>
   cases pi with
   |false=>
    go_wp2_with fail
    go_meet
    case rel=>exact⟨p,0,rfl,fun _=>rfl,HO2,Below.refl _ _⟩
   |true=>
    go_wp2_with fail
    refine(ideal_any _ 1).mono ?_
    rintro e w3 ⟨q,rfl, -,ho,hb3⟩;go_wp2_with fail
    go_meet
    case rel=>exact⟨q,1,rfl,fun h=>by simp at h,ho,hb3⟩
 obtain⟨q,st,rfl,hst,HO3,HB3⟩:=hcut;go_wp2_with fail
 refine(awake48_any wc).mono ?_
 rintro e w4 ⟨rfl,hb4⟩;have HB4:=Hd (bnext HB2.out (bnext HB3.out hb4));have HX4:=Hd (box_after HB4.out HX.out);have HP4:=Hd (box_after (bnext HB3.out hb4) HP2.out);have HO4:=Hd (HO3.out.keepB hb4);clear hb4 HX HP2 HO3 HO2 HB3 HB2;obtain⟨x0,x1⟩:=box_cells HX4.out;go_wp2_with fail
 refine(chNew_any w4 q pi st HO4.out hst r hrw).mono ?_
 rintro e w5 ⟨hok,herr⟩;clear x0 x1
 by_cases hne:newE r pi=0
 · obtain⟨c,PI,v,rfl,hat, -, -,hb5⟩:=hok hne
   have HRN:=Hd (newE_zero hne);have HAT5:=Hd hat;have HX5:=Hd (box_after hb5 HX4.out);have HP5:=Hd (box_after hb5 HP4.out);have HB5:=Hd (bnext HB4.out hb5);clear hok herr hne hat hb5 HX4 HP4 HB4 HO4;obtain⟨x0,x1⟩:=box_cells HX5.out;obtain⟨p0,p1⟩:=box_cells HP5.out;go_wp2_with fail
   refine(refNew48g_any w5 pi r).mono ?_
   rintro e w6 ⟨(⟨-,rfl⟩|⟨h1, -⟩),hb6⟩
   rotate_left
   · rw [HRN.out]at h1;simp at h1
   have HAT6:=Hd (HAT5.out.keepB hb6);have HB6:=Hd (bnext HB5.out hb6);clear x0 x1 p0 p1 hb6 HAT5 HB5 HX5 HP5
   go_upto_region 8 with(refine wpList_store_row rfl _ _ _ rfl w6.heap.size _ rfl rfl _ _ (box_new w6 (.cells #[.bool false,.int .u64 0,.int .i64 0,.slice none 0 0,.slice none 0 0,.slice none 0 0,.int .i64 0,.int .i64 0,.int .i64 0,.int .i64 0,.int .i64 0,.int .u64 0,.int .i64 0,.int .i64 0,.int .u64 0,.slice none 0 0,.int .i64 0,.int .i64 0] 43)) (by kernel_rfl) rfl (by kernel_rfl) ?_)
   obtain⟨w7,hw7,HB7,HC7,HAT7⟩: ∃y,_=y∧Hid (Below W.heap.size W y)∧Hid (y.heap[w6.heap.size]? =some (.cells #[.bool pi,.int .u64 0,.int .i64 0,.slice none 0 0,.slice none 0 0,.slice none 0 0,.int .i64 r.mode,.int .i64 r.depth,.int .i64 r.bl,.int .i64 r.bu,.int .i64 r.qu,.int .u64 r.rew,.int .i64 r.win,.int .i64 r.fin,.int .u64 r.work,.slice none 0 0,.int .i64 (-1),.int .i64 (-1)] 43 (0,0)))∧Hid (ChAt c (fun k=>k<w4.heap.size) PI y r ⟨[],[],0,0⟩ [] v):=
     ⟨_,rfl,bnext HB6.out (below_setRow (g:=w6.heap.size) (bnew (Below.refl _ _) (.cells #[.bool false,.int .u64 0,.int .i64 0,.slice none 0 0,.slice none 0 0,.slice none 0 0,.int .i64 0,.int .i64 0,.int .i64 0,.int .i64 0,.int .i64 0,.int .u64 0,.int .i64 0,.int .i64 0,.int .u64 0,.slice none 0 0,.int .i64 0,.int .i64 0] 43)) (Nat.le_refl _) #[.bool pi,.int .u64 0,.int .i64 0,.slice none 0 0,.slice none 0 0,.slice none 0 0,.int .i64 r.mode,.int .i64 r.depth,.int .i64 r.bl,.int .i64 r.bu,.int .i64 r.qu,.int .u64 r.rew,.int .i64 r.win,.int .i64 r.fin,.int .u64 r.work,.slice none 0 0,.int .i64 (-1),.int .i64 (-1)]),setRow_heap _ _ _ _ _ _ (box_new w6 (.cells #[.bool false,.int .u64 0,.int .i64 0,.slice none 0 0,.slice none 0 0,.slice none 0 0,.int .i64 0,.int .i64 0,.int .i64 0,.int .i64 0,.int .i64 0,.int .u64 0,.int .i64 0,.int .i64 0,.int .u64 0,.slice none 0 0,.int .i64 0,.int .i64 0] 43)),HAT6.out.keepB (below_setRow (g:=w6.heap.size) (bnew (Below.refl _ _) (.cells #[.bool false,.int .u64 0,.int .i64 0,.slice none 0 0,.slice none 0 0,.slice none 0 0,.int .i64 0,.int .i64 0,.int .i64 0,.int .i64 0,.int .i64 0,.int .u64 0,.int .i64 0,.int .i64 0,.int .u64 0,.slice none 0 0,.int .i64 0,.int .i64 0] 43)) (Nat.le_refl _) #[.bool pi,.int .u64 0,.int .i64 0,.slice none 0 0,.slice none 0 0,.slice none 0 0,.int .i64 r.mode,.int .i64 r.depth,.int .i64 r.bl,.int .i64 r.bu,.int .i64 r.qu,.int .u64 r.rew,.int .i64 r.win,.int .i64 r.fin,.int .u64 r.work,.slice none 0 0,.int .i64 (-1),.int .i64 (-1)])⟩
   rw [hw7];clear hw7 HB6 HAT6;go_wp2_with fail
   refine(block_any c _ PI w7 r ⟨[],[],0,0⟩ [] v HAT7.out (fun e he=>by simp at he) x hx).mono ?_
   rintro e w8 (⟨-,rfl,hb8⟩|⟨s,_,_,hf, -⟩)
   rotate_left
   · simp [findS]at hf
   have HC8:=Hd (box_after hb8 HC7.out);have HAT8:=Hd (HAT7.out.keepB hb8);have HB8:=Hd (bnext HB7.out hb8);clear hb8 HC7 HAT7 HB7
   go_upto_region 11 with(refine wpList_store_row rfl _ _ _ rfl w8.heap.size _ rfl rfl _ _ (box_new w8 (.cells #[.int .u64 0,.int .i64 0,.int .u64 0,.int .u64 0,.int .u64 0,.slice none 0 0] 48)) (by kernel_rfl) rfl (by kernel_rfl) ?_)
   obtain⟨w9,hw9,HB9,HC9,HAT9⟩: ∃y,_=y∧Hid (Below W.heap.size W y)∧Hid (y.heap[w6.heap.size]? =some (.cells #[.bool pi,.int .u64 0,.int .i64 0,.slice none 0 0,.slice none 0 0,.slice none 0 0,.int .i64 r.mode,.int .i64 r.depth,.int .i64 r.bl,.int .i64 r.bu,.int .i64 r.qu,.int .u64 r.rew,.int .i64 r.win,.int .i64 r.fin,.int .u64 r.work,.slice none 0 0,.int .i64 (-1),.int .i64 (-1)] 43 (0,0)))∧Hid (ChAt c (fun k=>k<w4.heap.size) PI y r ⟨[],[],0,0⟩ [] v):=
     ⟨_,rfl,bnext HB8.out (below_setRow (g:=w8.heap.size) (bnew (Below.refl _ _) (.cells #[.int .u64 0,.int .i64 0,.int .u64 0,.int .u64 0,.int .u64 0,.slice none 0 0] 48)) (Nat.le_refl _) #[.int .u64 0,.int .i64 0,.int .u64 0,.int .u64 0,.int .u64 0,.slice none 0 0]),box_after (below_setRow (g:=w8.heap.size) (bnew (Below.refl _ _) (.cells #[.int .u64 0,.int .i64 0,.int .u64 0,.int .u64 0,.int .u64 0,.slice none 0 0] 48)) (Nat.le_refl _) #[.int .u64 0,.int .i64 0,.int .u64 0,.int .u64 0,.int .u64 0,.slice none 0 0]) HC8.out,HAT8.out.keepB (below_setRow (g:=w8.heap.size) (bnew (Below.refl _ _) (.cells #[.int .u64 0,.int .i64 0,.int .u64 0,.int .u64 0,.int .u64 0,.slice none 0 0] 48)) (Nat.le_refl _) #[.int .u64 0,.int .i64 0,.int .u64 0,.int .u64 0,.int .u64 0,.slice none 0 0])⟩
   rw [hw9];clear hw9 HB8 HAT8 HC8;go_wp2_with fail
   refine(work_any c _ PI w9 r ⟨[],[],0,0⟩ [] v HAT9.out x hx).mono ?_
   rintro e wA ⟨rfl,hbA⟩;rw [show(findS (⟨[],[],0,0⟩:ChM).L x).isSome=false from rfl];have HCA:=Hd (box_after hbA HC9.out);have HATA:=Hd (HAT9.out.keepB hbA);have HBA:=Hd (bnext HB9.out hbA);clear hbA HC9 HAT9 HB9
   go_wp2_with (refine wpList_load_row rfl _ _ rfl w6.heap.size rfl _ _ _ _ HCA.out Tryz.underlying43 rfl (by kernel_rfl) ?_)
   refine(agree_any c _ PI wA r ⟨[],[],0,0⟩ [] v HATA.out (chOK_new r) ⟨[], -1, -1⟩ simC_new (fun _=>False) pi none 0 sliceR.nil (Nat.zero_le _) (fun e he=>by simp at he)).mono ?_
   rintro e wB ⟨rfl,hbB⟩;have HATB:=Hd (HATA.out.keepB hbB);have HBB:=Hd (bnext HBA.out hbB);clear hbB HATA HBA HCA;go_wp2_with fail
   refine(state_any c _ PI wB r ⟨[],[],0,0⟩ [] v HATB.out).mono ?_
   rintro e wC ⟨rfl,hbC⟩;have HATC:=Hd (HATB.out.keepB hbC);have HBC:=Hd (bnext HBB.out hbC);clear hbC HATB HBB;go_wp2_with fail
   refine(state_any c _ PI wC r ⟨[],[],0,0⟩ [] v HATC.out).mono ?_
   rintro e wD ⟨rfl,hbD⟩;have HATD:=Hd (HATC.out.keepB hbD);have HBD:=Hd (bnext HBC.out hbD);clear hbD HATC HBC;go_wp2_with fail
   refine(poHeight_any v.p PI wD r _ v.pv HATD.out.state).mono ?_
   rintro e wE ⟨rfl,hbE⟩;rw [show((runW r []).past.length:Int)=0 from rfl];have HBE:=Hd (bnext HBD.out hbE);go_wp2_with fail;go_ret
   exact⟨rfl,bnext HB.out HBE.out⟩
 · obtain⟨rfl,hb5⟩:=herr hne
   obtain⟨h1,h2⟩:=newE_one hne;rw [h1];have HRN:=Hd h2;have HX5:=Hd (box_after hb5 HX4.out);have HP5:=Hd (box_after hb5 HP4.out);have HB5:=Hd (bnext HB4.out hb5);clear hok herr hne hb5 h1 h2 HX4 HP4 HB4 HO4;obtain⟨x0,x1⟩:=box_cells HX5.out;obtain⟨p0,p1⟩:=box_cells HP5.out;go_wp2_with fail
   refine(refNew48g_any w5 pi r).mono ?_
   rintro e w6 ⟨(⟨h1, -⟩|⟨-,rfl⟩),hb6⟩
   · rw [HRN.out]at h1;simp at h1
   have HB6:=Hd (bnext HB5.out hb6);clear x0 x1 p0 p1 hb6 HB5 HX5 HP5
   go_upto_region 8 with(refine wpList_store_row rfl _ _ _ rfl w6.heap.size _ rfl rfl _ _ (box_new w6 (.cells #[.bool false,.int .u64 0,.int .i64 0,.slice none 0 0,.slice none 0 0,.slice none 0 0,.int .i64 0,.int .i64 0,.int .i64 0,.int .i64 0,.int .i64 0,.int .u64 0,.int .i64 0,.int .i64 0,.int .u64 0,.slice none 0 0,.int .i64 0,.int .i64 0] 43)) (by kernel_rfl) rfl (by kernel_rfl) ?_)
   obtain⟨w7,hw7,HB7⟩: ∃y,_=y∧Hid (Below W.heap.size W y):=
     ⟨_,rfl,bnext HB6.out (below_setRow (g:=w6.heap.size) (bnew (Below.refl _ _) (.cells #[.bool false,.int .u64 0,.int .i64 0,.slice none 0 0,.slice none 0 0,.slice none 0 0,.int .i64 0,.int .i64 0,.int .i64 0,.int .i64 0,.int .i64 0,.int .u64 0,.int .i64 0,.int .i64 0,.int .u64 0,.slice none 0 0,.int .i64 0,.int .i64 0] 43)) (Nat.le_refl _) #[.bool false,.int .u64 0,.int .i64 0,.slice none 0 0,.slice none 0 0,.slice none 0 0,.int .i64 0,.int .i64 0,.int .i64 0,.int .i64 0,.int .i64 0,.int .u64 0,.int .i64 0,.int .i64 0,.int .u64 0,.slice none 0 0,.int .i64 0,.int .i64 0])⟩
   rw [hw7];clear hw7 HB6;go_wp2_with fail;go_ret
   exact⟨rfl,bnext HB.out HB7.out⟩
end Go.Proofs.YtjknlhiimmbilaaGreatDoor

/- The chain of the program: Block and Work. -/
import Derived.Test.YtjknlhiimmbilaaGreatDoorMLw
import Derived.Test.YtjknlhiimmbilaaGreatDoorMChB
import Derived.Test.YtjknlhiimmbilaaGreatDoorMTxR
set_option maxRecDepth 100000
set_option maxHeartbeats 4000000
namespace Go.Proofs.YtjknlhiimmbilaaGreatDoor
open Go.ChangeShapes Go.WideShapes Go.ChangeAt Go.RowKit Go.Sort
section
variable (c:Nat) (SB PI:Nat→Prop) (w:World) (r:RuM) (m:ChM) (bs:List BlkM) (v:ChV)
def workI (m:ChM)(x:Int):Int:=((findS m.L x).map (·.tot)).getD 0
theorem work_any (h:ChAt c SB PI w r m bs v)(x:Int)(hx:okU x):
   Calls Tryz.prog 11 #[.pointer (some ⟨c,0,none⟩),.int .u64 x] w fun e w'=>e= .returned (.tuple #[.int .u64 (workI m x),.bool (findS m.L x).isSome])∧Below w.heap.size w w':=by
 obtain⟨x0,x1⟩:=box_cells h.cell
 simp only [chCells]at x0
 have hl:=h.map.look_ok x hx
 cases hf:findS m.L x with
 |none=>
  have HI:Hid (workI m x=0):=by show _=_;unfold workI;rw [hf];rfl
  rw [hf]at hl;have hl':(Instr.lookup 82 (.map (some v.mb)) (.int .u64 x) true).run Tryz.prog w= .ok (.tuple #[.agg #[.int .u64 0,.int .i64 0,.int .u64 0,.int .u64 0,.int .u64 0,.slice none 0 0,.int .u64 0],.bool false]) w:=hl;have HY:=Hd (box_new w (.cells #[.int .u64 0,.int .i64 0,.int .u64 0,.int .u64 0,.int .u64 0,.slice none 0 0,.int .u64 0] 86));clear hl h hf
  go_enter Tryz.func11,Tryz.ntmps11
  go_upto_region 2 with(refine wpList_store_row rfl _ _ _ rfl w.heap.size _ rfl rfl _ _ HY.out (by kernel_rfl) rfl (by kernel_rfl) ?_)
  obtain⟨w2,hw2,HB2,HY2⟩: ∃y,_=y∧Hid (Below w.heap.size w y)∧Hid (y.heap[w.heap.size]? =some (.cells #[.int .u64 0,.int .i64 0,.int .u64 0,.int .u64 0,.int .u64 0,.slice none 0 0,.int .u64 0] 86 (0,0))):=
    ⟨_,rfl,below_setRow (g:=w.heap.size) (bnew (Below.refl _ _) (.cells #[.int .u64 0,.int .i64 0,.int .u64 0,.int .u64 0,.int .u64 0,.slice none 0 0,.int .u64 0] 86)) (Nat.le_refl _) #[.int .u64 0,.int .i64 0,.int .u64 0,.int .u64 0,.int .u64 0,.slice none 0 0,.int .u64 0],setRow_heap _ _ _ _ _ _ HY.out⟩
  rw [hw2];clear hw2;obtain⟨y0,y1⟩:=box_cells HY2.out;go_wp2_with fail;go_ret2
  exact⟨by rw [HI.out];rfl,HB2.out⟩
 |some s=>
  have HI:Hid (workI m x=s.tot):=by show _=_;unfold workI;rw [hf];rfl
  rw [hf]at hl;have hl':(Instr.lookup 82 (.map (some v.mb)) (.int .u64 x) true).run Tryz.prog w= .ok (.tuple #[.agg #[.int .u64 s.b.parent,.int .i64 s.b.height,.int .u64 s.b.miner,.int .u64 s.b.work,.int .u64 s.b.nonce,.slice s.xa s.b.txs.length s.xc,.int .u64 s.tot],.bool true]) w:=hl;have HZ:=Hd (box_new w (.cells #[.int .u64 0,.int .i64 0,.int .u64 0,.int .u64 0,.int .u64 0,.slice none 0 0,.int .u64 0] 86));clear hl h hf
  go_enter Tryz.func11,Tryz.ntmps11
  go_upto_region 2 with(refine wpList_store_row rfl _ _ _ rfl w.heap.size _ rfl rfl _ _ HZ.out (by kernel_rfl) rfl (by kernel_rfl) ?_)
  obtain⟨w2,hw2,HB2,HY2⟩: ∃y,_=y∧Hid (Below w.heap.size w y)∧Hid (y.heap[w.heap.size]? =some (.cells #[.int .u64 s.b.parent,.int .i64 s.b.height,.int .u64 s.b.miner,.int .u64 s.b.work,.int .u64 s.b.nonce,.slice s.xa s.b.txs.length s.xc,.int .u64 s.tot] 86 (0,0))):=
    ⟨_,rfl,below_setRow (g:=w.heap.size) (bnew (Below.refl _ _) (.cells #[.int .u64 0,.int .i64 0,.int .u64 0,.int .u64 0,.int .u64 0,.slice none 0 0,.int .u64 0] 86)) (Nat.le_refl _) #[.int .u64 s.b.parent,.int .i64 s.b.height,.int .u64 s.b.miner,.int .u64 s.b.work,.int .u64 s.b.nonce,.slice s.xa s.b.txs.length s.xc,.int .u64 s.tot],setRow_heap _ _ _ _ _ _ HZ.out⟩
  rw [hw2];clear hw2;obtain⟨y0,y1⟩:=box_cells HY2.out;go_wp2_with fail;go_ret2
  exact⟨by rw [HI.out];rfl,HB2.out⟩
def BkOut (m:ChM)(x:Int)(w:World)(e:Ending)(w':World):Prop:=
 (findS m.L x=none∧e= .returned (.tuple #[.agg #[.int .u64 0,.int .i64 0,.int .u64 0,.int .u64 0,.int .u64 0,.slice none 0 0],.bool false])∧Below w.heap.size w w')∨
 ∃(s:StB) (ya:Option Addr) (yc:Nat),findS m.L x=some s∧e= .returned (.tuple #[.agg #[.int .u64 s.b.parent,.int .i64 s.b.height,.int .u64 s.b.miner,.int .u64 s.b.work,.int .u64 s.b.nonce,.slice ya s.b.txs.length yc],.bool true])∧BlkIn (fun k=>w.heap.size≤k) w' s.b ya yc∧Below w.heap.size w w'
theorem block_any (h:ChAt c SB PI w r m bs v)(hv: ∀e∈m.L,blkE e.b=0)(x:Int)(hx:okU x):
   Calls Tryz.prog 10 #[.pointer (some ⟨c,0,none⟩),.int .u64 x] w (BkOut m x w):=by
 have hbA:=bnew (Below.refl w.heap.size w) (.cells #[.int .u64 0,.int .i64 0,.int .u64 0,.int .u64 0,.int .u64 0,.slice none 0 0] 48);have HX:=Hd (box_new w (.cells #[.int .u64 0,.int .i64 0,.int .u64 0,.int .u64 0,.int .u64 0,.slice none 0 0] 48));have H:=Hd (h.keepB hbA);have HB:=Hd hbA;clear hbA h
 go_enter Tryz.func10,Tryz.ntmps10
 go_upto_region 1 with(fail)
 generalize w.alloc (.cells #[.int .u64 0,.int .i64 0,.int .u64 0,.int .u64 0,.int .u64 0,.slice none 0 0] 48)=W at*;obtain⟨x0,x1⟩:=box_cells H.out.cell
 simp only [chCells]at x0
 have hl:=H.out.map.look_ok x hx
 cases hf:findS m.L x with
 |none=>
  rw [hf]at hl;have hl':(Instr.lookup 82 (.map (some v.mb)) (.int .u64 x) true).run Tryz.prog W= .ok (.tuple #[.agg #[.int .u64 0,.int .i64 0,.int .u64 0,.int .u64 0,.int .u64 0,.slice none 0 0,.int .u64 0],.bool false]) W:=hl;have HY:=Hd (box_new W (.cells #[.int .u64 0,.int .i64 0,.int .u64 0,.int .u64 0,.int .u64 0,.slice none 0 0,.int .u64 0] 86));have HF:=Hd hf;clear hl hf
  go_upto_region 2 with(refine wpList_store_row rfl _ _ _ rfl W.heap.size _ rfl rfl _ _ HY.out (by kernel_rfl) rfl (by kernel_rfl) ?_)
  obtain⟨w2,hw2,HB2⟩: ∃y,_=y∧Hid (Below W.heap.size W y):=
    ⟨_,rfl,below_setRow (g:=W.heap.size) (bnew (Below.refl _ _) (.cells #[.int .u64 0,.int .i64 0,.int .u64 0,.int .u64 0,.int .u64 0,.slice none 0 0,.int .u64 0] 86)) (Nat.le_refl _) #[.int .u64 0,.int .i64 0,.int .u64 0,.int .u64 0,.int .u64 0,.slice none 0 0,.int .u64 0]⟩
  rw [hw2];have HX2:=Hd (box_after HB2.out HX.out);clear hw2
  go_wp2_with (refine wpList_store_row rfl _ _ _ rfl w.heap.size _ rfl rfl _ _ HX2.out (by kernel_rfl) rfl (by kernel_rfl) ?_)
  have HX3:Hid ((w2.setRow w.heap.size #[.int .u64 0,.int .i64 0,.int .u64 0,.int .u64 0,.int .u64 0,.slice none 0 0]).heap[w.heap.size]? =some (Obj.cells #[.int .u64 0,.int .i64 0,.int .u64 0,.int .u64 0,.int .u64 0,.slice none 0 0] 48 (0,0))):=setRow_heap _ _ _ _ _ _ HX2.out;have HB3:=Hd (below_setRow (g:=w.heap.size) (bnext HB.out HB2.out) (Nat.le_refl _) #[.int .u64 0,.int .i64 0,.int .u64 0,.int .u64 0,.int .u64 0,.slice none 0 0])
  (try simp only [Exit.inBlock,Exit.then])
  refine bodyPost_ret (v:= .tuple #[.agg #[.int .u64 0,.int .i64 0,.int .u64 0,.int .u64 0,.int .u64 0,.slice none 0 0],.bool false]) ?_ rfl (.inl ⟨HF.out,rfl,HB3.out⟩)
  exact ret_cell_tmp Tryz.results10 rfl HX3.out Tryz.underlying48 rfl (by kernel_rfl)
 |some s=>
  have hsv:=hv s (findS_some hf).1;have hbk:=(H.out.blocks s (findS_some hf).1).1;rw [hf]at hl;have hl':(Instr.lookup 82 (.map (some v.mb)) (.int .u64 x) true).run Tryz.prog W= .ok (.tuple #[.agg #[.int .u64 s.b.parent,.int .i64 s.b.height,.int .u64 s.b.miner,.int .u64 s.b.work,.int .u64 s.b.nonce,.slice s.xa s.b.txs.length s.xc,.int .u64 s.tot],.bool true]) W:=hl;have HZ:=Hd (box_new W (.cells #[.int .u64 0,.int .i64 0,.int .u64 0,.int .u64 0,.int .u64 0,.slice none 0 0,.int .u64 0] 86));have HF:=Hd hf;have HBK:=Hd hbk;have HSV:=Hd hsv;clear hl hf hbk hsv
  go_upto_region 2 with(refine wpList_store_row rfl _ _ _ rfl W.heap.size _ rfl rfl _ _ HZ.out (by kernel_rfl) rfl (by kernel_rfl) ?_)
  obtain⟨w2,hw2,HB2,HY2⟩: ∃y,_=y∧Hid (Below W.heap.size W y)∧Hid (y.heap[W.heap.size]? =some (.cells #[.int .u64 s.b.parent,.int .i64 s.b.height,.int .u64 s.b.miner,.int .u64 s.b.work,.int .u64 s.b.nonce,.slice s.xa s.b.txs.length s.xc,.int .u64 s.tot] 86 (0,0))):=
    ⟨_,rfl,below_setRow (g:=W.heap.size) (bnew (Below.refl _ _) (.cells #[.int .u64 0,.int .i64 0,.int .u64 0,.int .u64 0,.int .u64 0,.slice none 0 0,.int .u64 0] 86)) (Nat.le_refl _) #[.int .u64 s.b.parent,.int .i64 s.b.height,.int .u64 s.b.miner,.int .u64 s.b.work,.int .u64 s.b.nonce,.slice s.xa s.b.txs.length s.xc,.int .u64 s.tot],setRow_heap _ _ _ _ _ _ HZ.out⟩
  rw [hw2];have HX2:=Hd (box_after HB2.out HX.out);have HK2:=Hd (HBK.out.keepB HB2.out);clear hw2 x0 x1;obtain⟨y0,y1⟩:=box_cells HY2.out;go_wp2_with fail
  refine(chClone_any _ w2 s.b s.xa s.xc HK2.out (blkE_head HSV.out).2.2.2.2.2.2 (fun t ht=>by
    have h1:=blkE_all HSV.out;rw [List.all_eq_true]at h1;have h2:=h1 t ht;rw [beq_iff_eq]at h2;obtain⟨a1,a2,a3, -, -,a6⟩:=validE_sizes h2
    exact⟨by omega,by omega,a6,fun o ho=>by rw [a3 o ho];omega⟩)).mono ?_
  rintro e w3 ⟨ya,yc,rfl,hbi,hb3⟩;have HX3:=Hd (box_after hb3 HX2.out);have HN3:=Hd hbi;have HB3:=Hd (bnext HB.out (bnext HB2.out hb3));have HWS:Hid (w.heap.size<w2.heap.size):=box_lt HX2.out;clear y0 y1 hbi hb3
  go_wp2_with (refine wpList_store_row rfl _ _ _ rfl w.heap.size _ rfl rfl _ _ HX3.out (by kernel_rfl) rfl (by kernel_rfl) ?_)
  have HX4:Hid ((w3.setRow w.heap.size #[.int .u64 s.b.parent,.int .i64 s.b.height,.int .u64 s.b.miner,.int .u64 s.b.work,.int .u64 s.b.nonce,.slice ya s.b.txs.length yc]).heap[w.heap.size]? =some (Obj.cells #[.int .u64 s.b.parent,.int .i64 s.b.height,.int .u64 s.b.miner,.int .u64 s.b.work,.int .u64 s.b.nonce,.slice ya s.b.txs.length yc] 48 (0,0))):=setRow_heap _ _ _ _ _ _ HX3.out;have HB4:=Hd (below_setRow (g:=w.heap.size) HB3.out (Nat.le_refl _) #[.int .u64 s.b.parent,.int .i64 s.b.height,.int .u64 s.b.miner,.int .u64 s.b.work,.int .u64 s.b.nonce,.slice ya s.b.txs.length yc])
  have HN4:Hid (BlkIn (fun k=>w.heap.size≤k) (w3.setRow w.heap.size #[.int .u64 s.b.parent,.int .i64 s.b.height,.int .u64 s.b.miner,.int .u64 s.b.work,.int .u64 s.b.nonce,.slice ya s.b.txs.length yc]) s.b ya yc):=(HN3.out.keep ((kept_setRow w3 w.heap.size #[.int .u64 s.b.parent,.int .i64 s.b.height,.int .u64 s.b.miner,.int .u64 s.b.work,.int .u64 s.b.nonce,.slice ya s.b.txs.length yc]).mono fun k _ (h:w2.heap.size≤k)=>by show k≠_;have:=HWS.out;omega)).mono fun k _ (h:w2.heap.size≤k)=>by have:=HWS.out;omega
  (try simp only [Exit.inBlock,Exit.then])
  refine bodyPost_ret (v:= .tuple #[.agg #[.int .u64 s.b.parent,.int .i64 s.b.height,.int .u64 s.b.miner,.int .u64 s.b.work,.int .u64 s.b.nonce,.slice ya s.b.txs.length yc],.bool true]) ?_ rfl (.inr ⟨s,ya,yc,HF.out,rfl,HN4.out,HB4.out⟩)
  exact ret_cell_tmp Tryz.results10 rfl HX4.out Tryz.underlying48 rfl (by kernel_rfl)
end
end Go.Proofs.YtjknlhiimmbilaaGreatDoor

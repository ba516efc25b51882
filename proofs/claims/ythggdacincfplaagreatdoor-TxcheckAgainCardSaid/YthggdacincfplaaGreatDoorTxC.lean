/- txcheck: what is accepted in the open mode. -/
import Derived.Test.YthggdacincfplaaGreatDoorRelC
import Derived.Test.YthggdacincfplaaGreatDoorDecode
import Derived.Test.YthggdacincfplaaGreatDoorTxT
namespace Go.Proofs.YthggdacincfplaaGreatDoor
open Go.ChangeShapes Go.WideShapes Go.ChangeAt Go.RowKit

def accB (D : Nat) (s : StM) (proof : List Int) : Bool :=
  match decodeS proof with
  | none => false
  | some t => relE D s t == 0
theorem relE_bind (D : Nat) (t : TxM) (bd : Int) (h0 : bd < 18446744069414584321) (x : WitM) : relE D (stOf D t bd) x = relE D (stOf D t 0) x := by
  have hv : validB D (stOf D t bd) x = validB D (stOf D t 0) x := by
    have he : elemsB [(stOf D t bd).anchor, (stOf D t bd).acc, (stOf D t bd).bind, x.secret] = elemsB [(stOf D t 0).anchor, (stOf D t 0).acc, (stOf D t 0).bind, x.secret] := by
      simp [elemsB, allUp, elemB, stOf, h0]
    unfold validB
    rw [he]; rfl
  unfold relE
  rw [hv]; rfl
theorem accB_bind (D : Nat) (t : TxM) (bd : Int) (h0 : bd < 18446744069414584321) (proof : List Int) : accB D (stOf D t bd) proof = accB D (stOf D t 0) proof := by
  unfold accB
  split
  · rfl
  · rw [relE_bind D t bd h0]
set_option maxRecDepth 100000 in
set_option maxHeartbeats 4000000 in
theorem accepted_open (S S' : Nat → Prop) (w : World) (p : Nat) (st : Int) (ho : OrAt false st p w) (m : Int) (hm : m = 2) (D : Nat) (bl bu qu rew win fin work : Int) (s : StM) (ma ca ra : Option Addr) (mc cc rc : Nat) (hs : StIn S w s ma ca ra mc cc rc) (pa : Option Addr) (pc : Nat) (proof : List Int) (hp : bytesR.rel S' w [.slice pa proof.length pc] proof) (hpl : proof.length ≤ 1000000) (hD0 : 1 ≤ D) (hD1 : D ≤ 12) :
    Calls Tryz.prog 14 #[.pointer (some ⟨p, 0, none⟩), .agg #[.int .i64 m, .int .i64 D, .int .i64 bl, .int .i64 bu, .int .i64 qu, .int .u64 rew, .int .i64 win, .int .i64 fin, .int .u64 work], .agg #[.int .i64 D, .int .u64 s.anchor, .slice ma s.marks.length mc, .slice ca s.commits.length cc, .slice ra s.rhos.length rc, .int .u64 s.dep, .int .u64 s.wd, .int .u64 s.fee, .int .u64 s.acc, .int .u64 s.bind], .slice pa proof.length pc] w fun e w' => e = .returned (.bool (accB D s proof)) ∧ Below w.heap.size w w' := by
  subst hm
  have hbA := bnew (Below.refl w.heap.size w) (.cells #[.int .i64 2, .int .i64 D, .int .i64 bl, .int .i64 bu, .int .i64 qu, .int .u64 rew, .int .i64 win, .int .i64 fin, .int .u64 work] 26)
  have hbB := bnew hbA (.cells #[.int .i64 D, .int .u64 s.anchor, .slice ma s.marks.length mc, .slice ca s.commits.length cc, .slice ra s.rhos.length rc, .int .u64 s.dep, .int .u64 s.wd, .int .u64 s.fee, .int .u64 s.acc, .int .u64 s.bind] 44)
  have qB := box_new (w.alloc (.cells #[.int .i64 2, .int .i64 D, .int .i64 bl, .int .i64 bu, .int .i64 qu, .int .u64 rew, .int .i64 win, .int .i64 fin, .int .u64 work] 26)) (.cells #[.int .i64 D, .int .u64 s.anchor, .slice ma s.marks.length mc, .slice ca s.commits.length cc, .slice ra s.rhos.length rc, .int .u64 s.dep, .int .u64 s.wd, .int .u64 s.fee, .int .u64 s.acc, .int .u64 s.bind] 44)
  have eA : (w.alloc (.cells #[.int .i64 2, .int .i64 D, .int .i64 bl, .int .i64 bu, .int .i64 qu, .int .u64 rew, .int .i64 win, .int .i64 fin, .int .u64 work] 26)).heap.size = w.heap.size + 1 := World.size_alloc ..
  rw [eA] at qB
  have HS := Lib.hid (hs.keepB hbB)
  have HP := Lib.hid (bytesR.keepB hp hbB)
  have HO := Lib.hid (ho.keepB hbB)
  have HBx := Lib.hid qB
  have HBel := Lib.hid hbB
  clear hbA hbB qB eA hs hp ho
  go_enter Tryz.func14, Tryz.ntmps14
  go_wp2_with fail
  generalize (w.alloc (.cells #[.int .i64 2, .int .i64 D, .int .i64 bl, .int .i64 bu, .int .i64 qu, .int .u64 rew, .int .i64 win, .int .i64 fin, .int .u64 work] 26)).alloc (.cells #[.int .i64 D, .int .u64 s.anchor, .slice ma s.marks.length mc, .slice ca s.commits.length cc, .slice ra s.rhos.length rc, .int .u64 s.dep, .int .u64 s.wd, .int .u64 s.fee, .int .u64 s.acc, .int .u64 s.bind] 44) = W at *
  refine (decode_any W pa pc proof S' HP.out hpl).mono ?_
  intro e w1 hd
  unfold DecOut at hd
  have HU : Hid (accB D s proof = match decodeS proof with | none => false | some t => relE D s t == 0) := rfl
  revert hd
  cases hdc : decodeS proof with
  | none =>
    rintro ⟨rfl, hb1⟩
    have HF : Hid (accB D s proof = false) := by show _ = _; rw [HU.out, hdc]
    go_wp2_with fail
    go_ret
    exact ⟨ret_bool HF.out.symm, bnext HBel.out (hb1.new _)⟩
  | some t =>
    rintro ⟨a1, c1, a2, c2, rfl, h1, h2, h3, hb1⟩
    have HF : Hid (accB D s proof = (relE D s t == 0)) := by show _ = _; rw [HU.out, hdc]
    have hbn := bnew (Below.refl w1.heap.size w1) (.cells #[.slice a1 t.ins.length c1, .slice a2 t.outs.length c2, .int .u64 t.secret] 78)
    have hbk := bnext hb1 hbn
    have HWT : Hid (WtIn (fun _ => True) w1 t a1 a2 c1 c2) := ⟨h1, h2, h3⟩
    obtain ⟨x0, x1⟩ := box_cells (box_after hbk HBx.out)
    clear h1 h2 HU
    go_wp2_with fail
    refine (relCheck_any S (fun _ => True) _ p st (HO.out.keepB hbk) D s ma ca ra mc cc rc (HS.out.keepB hbk) t a1 a2 c1 c2 (HWT.out.keepB hbn) hD0 hD1).mono ?_
    rintro e w2 ⟨rfl, hb2⟩
    generalize relE D s t = r at *
    go_wp2_with fail
    go_ret
    exact ⟨ret_bool HF.out.symm, bnext HBel.out (bnext hbk hb2)⟩
end Go.Proofs.YthggdacincfplaaGreatDoor

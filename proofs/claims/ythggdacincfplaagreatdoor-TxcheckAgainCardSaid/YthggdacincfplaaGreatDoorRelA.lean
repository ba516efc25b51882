/- The relation: sums, what is valid. -/
import Derived.Test.YthggdacincfplaaGreatDoorClimb
import Derived.Test.YthggdacincfplaaGreatDoorKitQ
namespace Go.Proofs.YthggdacincfplaaGreatDoor
open Go.ChangeShapes Go.WideShapes Go.ChangeAt Go.RowKit Go.Sort

structure StIn (S : Nat → Prop) (w : World) (s : StM) (ma ca ra : Option Addr) (mc cc rc : Nat) : Prop where
  anchor : okU s.anchor
  dep : okU s.dep
  wd : okU s.wd
  fee : okU s.fee
  acc : okU s.acc
  bind : okU s.bind
  marks : numsR.rel S w [.slice ma s.marks.length mc] s.marks
  commits : numsR.rel S w [.slice ca s.commits.length cc] s.commits
  rhos : numsR.rel S w [.slice ra s.rhos.length rc] s.rhos
theorem StIn.keepB {S : Nat → Prop} {w w' : World} {s : StM} {ma ca ra : Option Addr} {mc cc rc : Nat} (h : StIn S w s ma ca ra mc cc rc) (hb : Below w.heap.size w w') : StIn S w' s ma ca ra mc cc rc :=
  ⟨h.anchor, h.dep, h.wd, h.fee, h.acc, h.bind, numsR.keepB h.marks hb, numsR.keepB h.commits hb, numsR.keepB h.rhos hb⟩
structure WtIn (S : Nat → Prop) (w : World) (t : WitM) (ia oa : Option Addr) (ic oc : Nat) : Prop where
  ins : spentsR.rel S w [.slice ia t.ins.length ic] t.ins
  outs : notesR.rel S w [.slice oa t.outs.length oc] t.outs
  secret : okU t.secret
theorem WtIn.keepB {S : Nat → Prop} {w w' : World} {t : WitM} {ia oa : Option Addr} {ic oc : Nat} (h : WtIn S w t ia oa ic oc) (hb : Below w.heap.size w w') : WtIn S w' t ia oa ic oc :=
  ⟨spentsR.keepB h.ins hb, notesR.keepB h.outs hb, h.secret⟩

def insSum (l : List SpentM) : Nat → Int
  | 0 => 0
  | k + 1 => IntKind.u64.wrap (insSum l k + ((l.map (fun i => i.note.value)).getD k 0))
def outsSum (l : List NoteM) : Nat → Int
  | 0 => 0
  | k + 1 => IntKind.u64.wrap (outsSum l k + ((l.map (fun n => n.value)).getD k 0))
theorem insSum_step (l : List SpentM) (k : Nat) (h : k < l.length) : insSum l (k + 1) = IntKind.u64.wrap (insSum l k + l[k].note.value) := by
  show IntKind.u64.wrap (insSum l k + _) = _
  rw [getD_at _ _ k (by simpa using h)]; simp
theorem outsSum_step (l : List NoteM) (k : Nat) (h : k < l.length) : outsSum l (k + 1) = IntKind.u64.wrap (outsSum l k + l[k].value) := by
  show IntKind.u64.wrap (outsSum l k + _) = _
  rw [getD_at _ _ k (by simpa using h)]; simp
set_option maxRecDepth 100000 in
set_option maxHeartbeats 1000000 in
theorem inputs_any (S : Nat → Prop) (w : World) (t : WitM) (ia oa : Option Addr) (ic oc : Nat) (h : WtIn S w t ia oa ic oc) :
    Calls Tryz.prog 49 #[.agg #[.slice ia t.ins.length ic, .slice oa t.outs.length oc, .int .u64 t.secret]] w fun e w' => e = .returned (.int .u64 (insSum t.ins t.ins.length)) ∧ Below w.heap.size w w' := by
  have g1 := (sliceR.lens h.ins).2
  unfold maxLen at g1
  have hb0 := bnew (Below.refl w.heap.size w) (.cells #[.slice ia t.ins.length ic, .slice oa t.outs.length oc, .int .u64 t.secret] 78)
  have H := Lib.hid (h.keepB hb0)
  clear h
  go_enter Tryz.func49, Tryz.ntmps49
  go_wp2_with fail
  go_loopw [3, 9] (fun vs vi wr => ∃ k : Nat, k ≤ t.ins.length ∧ vi = .int .i64 k ∧ vs = .int .u64 (insSum t.ins k) ∧ Below (w.alloc (.cells #[.slice ia t.ins.length ic, .slice oa t.outs.length oc, .int .u64 t.secret] 78)).heap.size (w.alloc (.cells #[.slice ia t.ins.length ic, .slice oa t.outs.length oc, .int .u64 t.secret] 78)) wr) (fun _ vi _ => t.ins.length - (intOf vi).toNat)
  case atStart => exact ⟨0, Nat.zero_le _, rfl, rfl, Below.refl _ _⟩
  case round =>
    obtain ⟨k, hk, rfl, rfl, hbr⟩ := hrel
    by_cases hlt : k < t.ins.length
    · obtain ⟨b, off, pa, pc, rfl, hbl, hok, hpa, c0, c1, c2, c3, c4, c5, c6, c7, c8⟩ := spents_at (spentsR.keepB H.out.ins hbr) k hlt
      have HS : Hid (insSum t.ins (k + 1) = IntKind.u64.wrap (insSum t.ins k + t.ins[k].note.value)) := insSum_step t.ins k hlt
      clear hpa
      generalize t.ins[k] = i at *
      generalize insSum t.ins k = m at *
      have hbn := bnew (Below.refl wr.heap.size wr) (.cells #[.int .u64 i.note.value, .int .u64 i.note.owner, .int .u64 i.note.rho, .int .u64 i.note.blind, .int .u64 i.key, .int .i64 i.number, .int .i64 i.position, .slice pa i.path.length pc, .bool i.dummy] 118)
      go_wp2_with fail
      go_roundw
      case rel => exact ⟨k + 1, by omega, by go_num, by rw [HS.out], bnext hbr hbn⟩
      case measure => simp [intOf]; omega
    · obtain rfl : k = t.ins.length := by omega
      go_wp2_with fail
      go_ret
      exact ⟨rfl, bnext hb0 hbr⟩
set_option maxRecDepth 100000 in
set_option maxHeartbeats 1000000 in
theorem outputs_any (S : Nat → Prop) (w : World) (t : WitM) (ia oa : Option Addr) (ic oc : Nat) (h : WtIn S w t ia oa ic oc) :
    Calls Tryz.prog 50 #[.agg #[.slice ia t.ins.length ic, .slice oa t.outs.length oc, .int .u64 t.secret]] w fun e w' => e = .returned (.int .u64 (outsSum t.outs t.outs.length)) ∧ Below w.heap.size w w' := by
  have g1 := (sliceR.lens h.outs).2
  unfold maxLen at g1
  have hb0 := bnew (Below.refl w.heap.size w) (.cells #[.slice ia t.ins.length ic, .slice oa t.outs.length oc, .int .u64 t.secret] 78)
  have H := Lib.hid (h.keepB hb0)
  clear h
  go_enter Tryz.func50, Tryz.ntmps50
  go_wp2_with fail
  go_loopw [3, 9] (fun vs vi wr => ∃ k : Nat, k ≤ t.outs.length ∧ vi = .int .i64 k ∧ vs = .int .u64 (outsSum t.outs k) ∧ Below (w.alloc (.cells #[.slice ia t.ins.length ic, .slice oa t.outs.length oc, .int .u64 t.secret] 78)).heap.size (w.alloc (.cells #[.slice ia t.ins.length ic, .slice oa t.outs.length oc, .int .u64 t.secret] 78)) wr) (fun _ vi _ => t.outs.length - (intOf vi).toNat)
  case atStart => exact ⟨0, Nat.zero_le _, rfl, rfl, Below.refl _ _⟩
  case round =>
    obtain ⟨k, hk, rfl, rfl, hbr⟩ := hrel
    by_cases hlt : k < t.outs.length
    · obtain ⟨b, off, rfl, hbl, hok, c0, c1, c2, c3⟩ := notes_at (notesR.keepB H.out.outs hbr) k hlt
      have HS : Hid (outsSum t.outs (k + 1) = IntKind.u64.wrap (outsSum t.outs k + t.outs[k].value)) := outsSum_step t.outs k hlt
      generalize t.outs[k] = n at *
      generalize outsSum t.outs k = m at *
      have hbn := bnew (Below.refl wr.heap.size wr) (.cells #[.int .u64 n.value, .int .u64 n.owner, .int .u64 n.rho, .int .u64 n.blind] 113)
      go_wp2_with fail
      go_roundw
      case rel => exact ⟨k + 1, by omega, by go_num, by rw [HS.out], bnext hbr hbn⟩
      case measure => simp [intOf]; omega
    · obtain rfl : k = t.outs.length := by omega
      go_wp2_with fail
      go_ret
      exact ⟨rfl, bnext hb0 hbr⟩

end Go.Proofs.YthggdacincfplaaGreatDoor

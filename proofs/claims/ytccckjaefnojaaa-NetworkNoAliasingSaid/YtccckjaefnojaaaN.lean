/- The law's message and cp. -/
import Derived.Test.YtccckjaefnojaaaM
namespace Go.Proofs.Ytccckjaefnojaaa
open Go.ChangeShapes Go.WideShapes Go.ChangeAt Go.RowKit

theorem below_bytes (w : World) (e : TypeId) (s : ByteArray) : Below w.heap.size w (Lib.bytesWorld w e s) :=
  ⟨rfl, rfl, rfl, by rw [Lib.bytesWorld_size]; omega, fun k hk => Lib.bytesWorld_at_old w e s k hk⟩
def strNums (s : ByteArray) : List Int := s.data.toList.map fun b => (b.toNat : Int)
theorem strNums_len (s : ByteArray) : (strNums s).length = s.size := by unfold strNums; rw [List.length_map, Array.length_toList]; rfl
theorem wf_u8 {n : Int} (h0 : 0 ≤ n) (h1 : n ≤ 255) : (Lit.int .u8 n).wf = true := by
  simp [Lit.wf, IntKind.min, IntKind.max, IntKind.signed, IntKind.bits]; omega
theorem bytes_world (w : World) (e : TypeId) (s : ByteArray) (c : Nat) (hc : s.size ≤ c) (hm : c ≤ maxLen) : bytesR.rel (fun k => w.heap.size ≤ k) (Lib.bytesWorld w e s) [.slice (some ⟨w.heap.size, 0, none⟩) s.size c] (strNums s) := by
  refine ⟨_, _, _, rfl, (strNums_len s).symm, hc, hm, fun h => by simp at h, fun i x hx => ?_⟩
  have hi : i < s.size := by rw [← strNums_len]; exact (List.getElem?_eq_some_iff.1 hx).1
  refine ⟨w.heap.size, 0, [.int .u8 x], rfl, Nat.le_refl _, ⟨rfl, ?_⟩, fun j c hj => ?_, by rw [Lib.bytesWorld_size]; omega⟩
  · simp [strNums] at hx
    obtain ⟨b, -, rfl⟩ := hx
    exact wf_u8 (by omega) (by have := b.toNat_lt; omega)
  · match j with
    | 0 =>
      simp at hj; subst hj
      have hcell := Lib.bytesWorld_cell w e s i hi
      show (Lib.bytesWorld w e s).cell? ⟨w.heap.size, 0 + i * 1 + 0, none⟩ = _
      rw [show 0 + i * 1 + 0 = i by omega, hcell]
      have hx2 : s.data.toList[i]?.map (fun b => (b.toNat : Int)) = some x := by
        rw [← List.getElem?_map]; exact hx
      have hg : s.data.toList[i]? = some (s.data.toList[i]'(by rw [Array.length_toList]; exact hi)) := List.getElem?_eq_getElem _
      rw [hg] at hx2
      simp only [Option.map_some, Option.some.injEq] at hx2
      rw [← hx2]
      simp only [List.getD]
      rw [hg]
      rfl
    | j + 1 => simp at hj

set_option maxRecDepth 100000 in
set_option maxHeartbeats 1000000 in
theorem message_any (w : World) (fr to : Int) (s : ByteArray) (h1 : (Lit.int .i64 fr).wf = true) (h2 : (Lit.int .i64 to).wf = true) (hs : s.size ≤ 1000) :
    Calls Try.prog 13 #[.int .i64 fr, .int .i64 to, .string s] w (GivesA msgR (fun k => w.heap.size ≤ k) ⟨1, fr, to, strNums s⟩ w) := by
  have hb0 := bnew (Below.refl w.heap.size w) (.cells #[.int .i64 0, .int .i64 0, .int .i64 0, .slice none 0 0] 24)
  have kc := Lib.run_convert_string_bytes (P := Try.prog) (w.alloc (.cells #[.int .i64 0, .int .i64 0, .int .i64 0, .slice none 0 0] 24)) 9 22 5 s Try.underlying9 Try.underlying22 Try.underlying5
  have hb1 := below_bytes (w.alloc (.cells #[.int .i64 0, .int .i64 0, .int .i64 0, .slice none 0 0] 24)) 5 s
  have hgc := grownCap_ge (w.alloc (.cells #[.int .i64 0, .int .i64 0, .int .i64 0, .slice none 0 0] 24)) s.size 0 5
  have hgm := grownCap_le_maxLen (w.alloc (.cells #[.int .i64 0, .int .i64 0, .int .i64 0, .slice none 0 0] 24)) s.size 0 5 (by unfold maxLen; omega)
  have hrel := bytes_world (w.alloc (.cells #[.int .i64 0, .int .i64 0, .int .i64 0, .slice none 0 0] 24)) 5 s _ hgc hgm
  have b0 := box_after hb1 (box_new w _)
  obtain ⟨d0, e0⟩ := box_cells b0
  generalize grownCap (w.alloc (.cells #[.int .i64 0, .int .i64 0, .int .i64 0, .slice none 0 0] 24)) s.size 0 5 = c at *
  generalize Lib.bytesWorld (w.alloc (.cells #[.int .i64 0, .int .i64 0, .int .i64 0, .slice none 0 0] 24)) 5 s = W at *
  clear b0
  go_enter Try.func13, Try.ntmps13
  go_wp2
  refine bodyPost_ret (v := .agg #[.int .i64 1, .int .i64 fr, .int .i64 to, .slice (some ⟨w.heap.size + 1, 0, none⟩) s.size c]) (by simp [results, Try.results13, go_sem, d0]) rfl ⟨[.int .i64 1, .int .i64 fr, .int .i64 to, .slice (some ⟨w.heap.size + 1, 0, none⟩) s.size c], rfl, msgR.mk (m := ⟨1, fr, to, strNums s⟩) rfl h1 h2 ?_, ?_⟩
  · have hr2 : bytesR.rel (fun k => w.heap.size + 1 ≤ k) W [.slice (some ⟨w.heap.size + 1, 0, none⟩) s.size c] (strNums s) := by simpa using hrel
    refine bytesR.mono (bytesR.keep hr2 ((((Kept.refl _ _).setCell ?_ _).setCell ?_ _).setCell ?_ _ |>.setCell ?_ _)) fun k _ h => ?_
    all_goals first | (intro _ h; simp at h; done) | (intro _ h; simp at h; omega) | omega
  · exact ((((bnext hb0 hb1).setCell (by simp) _).setCell (by simp) _).setCell (by simp) _).setCell (by simp) _
end Go.Proofs.Ytccckjaefnojaaa

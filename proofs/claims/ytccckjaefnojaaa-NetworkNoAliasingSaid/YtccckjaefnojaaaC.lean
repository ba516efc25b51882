/- The network's own functions, continued: New, Len, Send, Copy, Pending. -/
import Derived.Test.YtccckjaefnojaaaB
namespace Go.Proofs.Ytccckjaefnojaaa
open Go.ChangeShapes Go.WideShapes Go.ChangeAt Go.RowKit

/-- Message number k of a slice of messages: its four cells. -/
theorem msgs_at {S : Nat → Prop} {w : World} {a : Option Addr} {len cap : Nat} {l : List Msg} (h : (sliceR msgR).rel S w [.slice a len cap] l) (k : Nat) (hk : k < l.length) :
    ∃ b off va vc, a = some ⟨b, off, none⟩ ∧ S b ∧ b < w.heap.size ∧ msgR.rel S w [.int .i64 l[k].kind, .int .i64 l[k].frm, .int .i64 l[k].to, .slice va l[k].bytes.length vc] l[k] ∧
      w.cell? ⟨b, off + k * 4, none⟩ = some (.int .i64 l[k].kind) ∧ w.cell? ⟨b, off + k * 4 + 1, none⟩ = some (.int .i64 l[k].frm) ∧ w.cell? ⟨b, off + k * 4 + 2, none⟩ = some (.int .i64 l[k].to) ∧
      w.cell? ⟨b, off + k * 4 + 3, none⟩ = some (.slice va l[k].bytes.length vc) := by
  obtain ⟨b, off, es, rfl, hb, hbl, hrel, hca⟩ := sliceR.at h k hk
  obtain ⟨v, rfl, h1, h2, h3, h4⟩ := msgR.inv hrel
  obtain ⟨va, vc, rfl, -⟩ := sliceR.form h4
  rw [msgR.n] at hca
  exact ⟨b, off, va, vc, rfl, hb, hbl, hrel, hca 0 _ rfl, hca 1 _ rfl, hca 2 _ rfl, hca 3 _ rfl⟩

def sendStep (nodes : Int) (acc : List Msg × Nat) (m : Msg) : List Msg × Nat := (addL nodes acc.1 m, acc.2 + (fitsB nodes acc.1.length m).toNat)
def sendL (nodes : Int) (ms l : List Msg) : List Msg × Nat := l.foldl (sendStep nodes) (ms, 0)
theorem sendL_snoc (nodes : Int) (ms l : List Msg) (k : Nat) (h : k < l.length) : sendL nodes ms (l.take (k + 1)) = sendStep nodes (sendL nodes ms (l.take k)) l[k] := by
  unfold sendL
  rw [List.take_succ_eq_append_getElem h, List.foldl_append]; rfl
theorem sendL_cnt (nodes : Int) (ms l : List Msg) : ∀ k, k ≤ l.length → (sendL nodes ms (l.take k)).2 ≤ k
  | 0, _ => by simp [sendL]
  | k + 1, h => by
    rw [sendL_snoc nodes ms l k (by omega)]
    have := sendL_cnt nodes ms l k (by omega)
    simp only [sendStep]
    cases fitsB nodes (sendL nodes ms (l.take k)).1.length l[k] <;> simp <;> omega

set_option maxHeartbeats 1000000 in
theorem len_any (O : Nat → Prop) (w : World) (p : Nat) (nodes : Int) (ms : List Msg) (hn : NetAt O w p nodes ms) :
    Calls Try.prog 16 #[.pointer (some ⟨p, 0, none⟩)] w fun e w' => e = .returned (.int .i64 ms.length) ∧ w = w' := by
  obtain ⟨n1, n2, n3, n4, n5, nv, n6, n7⟩ := id hn
  obtain ⟨na, ncap, rfl, g3, g4⟩ := sliceR.form n7.slice
  obtain ⟨kc, kf⟩ := box_cells n6
  clear n5
  go_enter Try.func16, Try.ntmps16
  go_wp2
  go_ret
  exact ⟨rfl, rfl⟩

set_option maxHeartbeats 1000000 in
theorem new_ok (nodes : Int) (w : World) (h1 : 1 ≤ nodes) (h2 : nodes ≤ 64) :
    Calls Try.prog 11 #[.int .i64 nodes] w fun e w' => e = .returned (.tuple #[.pointer (some ⟨w.heap.size, 0, none⟩), .int .i64 0]) ∧ w' = w.alloc (.cells #[.int .i64 nodes, .slice none 0 0] 58) := by
  go_enter Try.func11, Try.ntmps11
  go_wp2
  go_ret2
  exact ⟨rfl, rfl⟩
set_option maxHeartbeats 1000000 in
theorem new_bad (nodes : Int) (w : World) (h : nodes < 1 ∨ 64 < nodes) :
    Calls Try.prog 11 #[.int .i64 nodes] w fun e w' => e = .returned (.tuple #[.pointer none, .int .i64 1]) ∧ w = w' := by
  rcases h with h | h
  · go_enter Try.func11, Try.ntmps11
    go_wp2
    go_ret2
    exact ⟨rfl, rfl⟩
  · have h' : ¬ nodes < 1 := by omega
    go_enter Try.func11, Try.ntmps11
    go_wp2
    go_ret2
    exact ⟨rfl, rfl⟩
theorem NetAt.new {nodes : Int} {w : World} (h1 : 1 ≤ nodes) (h2 : nodes ≤ 64) : NetAt (fun k => w.heap.size ≤ k) (w.alloc (.cells #[.int .i64 nodes, .slice none 0 0] 58)) w.heap.size nodes [] :=
  ⟨Nat.le_refl _, h1, h2, by simp, fun m hm => by simp at hm, _, box_new w _, Own.nil _ _ _ _ _⟩

set_option maxRecDepth 100000 in
set_option maxHeartbeats 1000000 in
theorem send_any (O S : Nat → Prop) (w : World) (p : Nat) (nodes : Int) (ms : List Msg) (a : Option Addr) (cap : Nat) (l : List Msg) (hn : NetAt O w p nodes ms)
    (hl : (sliceR msgR).rel S w [.slice a l.length cap] l) (hS : ∀ k, S k → ¬ O k) :
    Calls Try.prog 12 #[.pointer (some ⟨p, 0, none⟩), .slice a l.length cap] w (NetRet O p nodes (.int .i64 (sendL nodes ms l).2) (sendL nodes ms l).1 w) := by
  obtain ⟨-, g1, g2, -⟩ := sliceR.lens hl
  unfold maxLen at g2
  have hcnt := Lib.hid (sendL_cnt nodes ms l)
  have hsn := Lib.hid (sendL_snoc nodes ms l)
  have HS := Lib.hid hS
  clear hS
  go_enter Try.func12, Try.ntmps12
  go_wp2_with fail
  go_loopw [5, 10] (fun c i wr => ∃ k : Nat, k ≤ l.length ∧ i = .int .i64 k ∧ c = .int .i64 (sendL nodes ms (l.take k)).2 ∧ NetAt (fun x => O x ∨ w.heap.size ≤ x) wr p nodes (sendL nodes ms (l.take k)).1 ∧ Kept (fun x => ¬ O x) w wr) (fun _ i _ => l.length - (intOf i).toNat)
  case atStart => exact ⟨0, Nat.zero_le _, rfl, rfl, hn.mono fun _ _ h => .inl h, Kept.refl _ _⟩
  case round =>
    obtain ⟨k, hk, rfl, rfl, hnr, hkr⟩ := hrel
    have hck := hcnt.out k hk
    by_cases hlt : k < l.length
    · have hlr := (sliceR msgR).keep hl (hkr.mono fun x _ hx => HS.out x hx)
      obtain ⟨b, off, va, vc, rfl, hb, hbl, hrel, c0, c1, c2, c3⟩ := msgs_at hlr k hlt
      have hbn := bnew (Below.refl wr.heap.size wr) (.cells #[.int .i64 l[k].kind, .int .i64 l[k].frm, .int .i64 l[k].to, .slice va l[k].bytes.length vc] 24)
      have hs1 := Lib.hid (hsn.out k hlt)
      go_wp2_with fail
      refine (add_any _ S _ p nodes _ _ l[k] (hnr.keep (Kept.of_below hbn)) (msgR.keepB hrel hbn)).mono ?_
      rintro e w1 ⟨⟨rfl, hn1, hk1⟩, -⟩
      have hkk : Kept (fun x => ¬ O x) w w1 := hkr.trans ((Kept.of_below hbn).trans hk1 (fun _ _ h => h)) fun x hx h => by rintro (h' | h'); exact h h'; omega
      have hnn : NetAt (fun x => O x ∨ w.heap.size ≤ x) w1 p nodes (sendL nodes ms (List.take (k + 1) l)).1 := by
        rw [hs1.out]
        refine hn1.mono fun x _ h => ?_
        have := hkr.size
        rcases h with h | h
        · exact h
        · simp at h; exact .inr (by omega)
      have hcc : Hid ((sendL nodes ms (List.take (k + 1) l)).2 = (sendL nodes ms (List.take k l)).2 + (fitsB nodes (sendL nodes ms (List.take k l)).1.length l[k]).toNat) := by
        show _ = _
        rw [hs1.out]; rfl
      generalize hfit : fitsB nodes (sendL nodes ms (List.take k l)).1.length l[k] = ft at *
      clear hn1 hk1 hnr c0 c1 c2 c3 hrel hlr hbn
      have HFIT := Lib.hid hfit
      clear hfit
      cases ft with
      | true =>
        go_wp2_with fail
        go_roundw
        case rel => exact ⟨k + 1, by omega, by go_num, by rw [hcc.out]; go_num, hnn, hkk⟩
        case measure => simp [intOf]; omega
      | false =>
        go_wp2_with fail
        go_roundw
        case rel => exact ⟨k + 1, by omega, by go_num, by rw [hcc.out]; go_num, hnn, hkk⟩
        case measure => simp [intOf]; omega
    · have he : k = l.length := by omega
      subst he
      rw [List.take_length] at *
      go_wp2_with fail
      go_ret
      exact ⟨rfl, hnr, hkr⟩
end Go.Proofs.Ytccckjaefnojaaa

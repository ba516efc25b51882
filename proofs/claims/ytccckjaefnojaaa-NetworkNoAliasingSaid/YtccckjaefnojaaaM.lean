/- The reference's Without and Send; the law's cp. -/
import Derived.Test.YtccckjaefnojaaaL
namespace Go.Proofs.Ytccckjaefnojaaa
open Go.ChangeShapes Go.WideShapes Go.ChangeAt Go.RowKit

theorem sliceR.take {α : Type} {r : Rep α} {S : Nat → Prop} {w : World} {a : Option Addr} {len cap : Nat} {xs : List α} (h : (sliceR r).rel S w [.slice a len cap] xs) (k : Nat) (hk : k ≤ len) : (sliceR r).rel S w [.slice a k cap] (xs.take k) := by
  obtain ⟨a', len', cap', hv, h1, h2, h3, h4, h5⟩ := h
  simp at hv
  obtain ⟨rfl, rfl, rfl⟩ := hv
  refine ⟨a, k, cap, rfl, by simp; omega, by omega, h3, h4, fun i x hx => ?_⟩
  rw [List.getElem?_take] at hx
  split at hx
  · exact h5 i x hx
  · simp at hx
theorem sliceR.drop {α : Type} {r : Rep α} {S : Nat → Prop} {w : World} {b off len cap : Nat} {xs : List α} (h : (sliceR r).rel S w [.slice (some ⟨b, off, none⟩) len cap] xs) (k : Nat) (hk : k ≤ len) (ad : Addr) (had : k < cap → ad = ⟨b, off + k * r.n, none⟩) :
    (sliceR r).rel S w [.slice (some ad) (len - k) (cap - k)] (xs.drop k) := by
  obtain ⟨a', len', cap', hv, h1, h2, h3, h4, h5⟩ := h
  simp at hv
  obtain ⟨rfl, rfl, rfl⟩ := hv
  refine ⟨some ad, len - k, cap - k, rfl, by simp; omega, by omega, by omega, fun h => by simp at h, fun i x hx => ?_⟩
  rw [List.getElem?_drop] at hx
  have hi : k + i < xs.length := (List.getElem?_eq_some_iff.1 hx).1
  obtain ⟨b', off', es, ha, hb, hr, hc, hlt⟩ := h5 _ x hx
  simp at ha
  obtain ⟨rfl, rfl⟩ := ha
  refine ⟨b, off + k * r.n, es, by rw [had (by omega)], hb, hr, ?_, hlt⟩
  rw [Nat.add_mul, ← Nat.add_assoc] at hc
  exact hc
theorem erase_eq (l : List Msg) (k : Nat) : l.take k ++ l.drop (k + 1) = l.eraseIdx k := (eraseIdx_get l k).symm

set_option maxRecDepth 100000 in
set_option maxHeartbeats 1000000 in
theorem without_out (S : Nat → Prop) (w : World) (l : List Msg) (i : Int) (la : Option Addr) (lc : Nat) (hl : (sliceR msgR).rel S w [.slice la l.length lc] l) (hi : inB l i = false) :
    Calls Try.prog 27 #[.slice la l.length lc, .int .i64 i] w (Gives2 (fun k => S k ∨ w.heap.size ≤ k) (withoutL l i) (.bool (inB l i)) w) := by
  obtain ⟨-, g1, g2, -⟩ := sliceR.lens hl
  unfold maxLen at g2
  have hnot : ¬ (0 ≤ i ∧ i < l.length) := by unfold inB at hi; exact of_decide_eq_false hi
  have hw : Hid (withoutL l i = l) := by show _ = _; unfold withoutL; rw [hi, if_neg (by simp)]
  have HI := Lib.hid hi
  have hlS := (sliceR msgR).mono hl (S' := fun k => S k ∨ w.heap.size ≤ k) fun _ _ h => .inl h
  clear hi
  by_cases h0 : i < 0
  · clear hnot
    go_enter Try.func27, Try.ntmps27
    go_wp2
    go_ret2
    rw [hw.out, HI.out]
    exact Gives2.mk hlS (Below.refl _ _)
  · have h1 : (l.length : Int) ≤ i := by omega
    clear hnot
    go_enter Try.func27, Try.ntmps27
    go_wp2
    go_ret2
    rw [hw.out, HI.out]
    exact Gives2.mk hlS (Below.refl _ _)

set_option maxRecDepth 100000 in
set_option maxHeartbeats 1000000 in
theorem without_in (S : Nat → Prop) (w : World) (l : List Msg) (k : Nat) (b off lc : Nat) (hl : (sliceR msgR).rel S w [.slice (some ⟨b, off, none⟩) l.length lc] l) (hk : k < l.length) (hs : l.length ≤ 100000) :
    Calls Try.prog 27 #[.slice (some ⟨b, off, none⟩) l.length lc, .int .i64 k] w (Gives2 (fun k => S k ∨ w.heap.size ≤ k) (l.eraseIdx k) (.bool true) w) := by
  obtain ⟨-, g1, g2, -⟩ := sliceR.lens hl
  unfold maxLen at g2
  obtain ⟨T, hT, hlT⟩ : ∃ T : Nat → Prop, (∀ k, T k → S k ∧ k < w.heap.size) ∧ (sliceR msgR).rel T w [.slice (some ⟨b, off, none⟩) l.length lc] l := ⟨_, fun _ h => h, (sliceR msgR).bound hl⟩
  have r1 := sliceR.take hlT k (by omega)
  have r2 : (sliceR msgR).rel T w [.slice (if lc = k + 1 then some ⟨b, off, none⟩ else some ⟨b, off + (k + 1) * 4, none⟩) (l.length - (k + 1)) (lc - (k + 1))] (l.drop (k + 1)) := by
    split
    · exact sliceR.drop hlT (k + 1) (by omega) ⟨b, off, none⟩ (fun h => by omega)
    · exact sliceR.drop hlT (k + 1) (by omega) ⟨b, off + (k + 1) * 4, none⟩ (fun h => rfl)
  have k1 : (0 : Int) ≤ (k : Int) := by omega
  have k2 : (k : Int) ≤ (lc : Int) := by omega
  have k6 : (0 : Int) ≤ (k : Int) + 1 := by omega
  have k7 : (k : Int) + 1 ≤ (l.length : Int) := by omega
  have k8 : ¬ (l.length : Int) ≤ (k : Int) := by omega
  have hw1 : IntKind.i64.wrap ((k : Int) + 1) = (k : Int) + 1 := IntWalk.i64_in _ (by omega)
  have hb0 := bnew ((Below.refl w.heap.size w).drew) (.cells #[] 24)
  have ho0 := (Own.empty msgR w.heap.size 24 (box_new w.drew (.cells #[] 24)) (Nat.le_refl _)).mono (F' := fun k => T k ∨ w.heap.size ≤ k) fun k _ h => .inr (by rw [h]; exact Nat.le_refl _)
  have HT := Lib.hid hT
  have hle : (l.take k).length = k := by simp; omega
  have hle2 : (l.drop (k + 1)).length = l.length - (k + 1) := by simp
  have R1 := Lib.hid r1
  have R2 := Lib.hid r2
  have HE := Lib.hid (erase_eq l k)
  have H1 := Lib.hid hle
  have H2 := Lib.hid hle2
  clear hT r1 r2 hle hle2
  go_enter Try.func27, Try.ntmps27
  go_wp2_with fail
  go_region_law (first
    | (refine step_append_rel (r := msgR) (v := .slice (some ⟨w.heap.size, 0, none⟩) 0 0) (u := .slice (some ⟨b, off, none⟩) k lc) rfl _ _ rfl Try.ety30 rfl rfl ho0 (Src.of_slice ((sliceR msgR).keepB R1.out hb0)) (fun x _ h => .inl h) (fun x hx h => by have := (HT.out x h).2; simp [Value.ownBlock] at hx; omega) (by rw [H1.out]; unfold maxLen; simp; omega) (by rw [H1.out]; simp; omega) hb0.size ?_; intro v1 w1 ho1 hk1 hl1; have hb1 : Below w.heap.size w w1 := Kept.behind hb0 hk1 hb0.size (fun x hx h => by simp [Value.ownBlock] at h; omega); have HO1 := Lib.hid ho1)
    | (refine step_append_rel (r := msgR) (v := v1) (u := .slice (if lc = k + 1 then some ⟨b, off, none⟩ else some ⟨b, off + (k + 1) * 4, none⟩) (l.length - (k + 1)) (lc - (k + 1))) rfl _ _ rfl Try.ety30 rfl rfl ho1 (Src.of_slice ((sliceR msgR).keepB R2.out hb1)) (fun x _ h => .inl (.inl h)) (fun x hx h => by have := (HT.out x h).2; have := (HO1.out.lt hx).2.2; omega) (by rw [H2.out, List.nil_append, H1.out]; unfold maxLen; omega) (by rw [H2.out, List.nil_append, H1.out]; omega) hb1.size ?_; intro v2 w2 ho2 hk2 hl2))
  have hfin : Gives2 (fun k => S k ∨ w.heap.size ≤ k) (l.eraseIdx k) (.bool true) w (.returned (.tuple #[v2, .bool true])) w2 := by
    rw [← HE.out]
    refine Gives2.mk ((sliceR msgR).mono ho2.slice ?_) ?_
    · have hz := hb1.size
      rintro x - (((h | h) | h) | h)
      · exact .inl (HT.out x h).1
      · exact .inr h
      · simp at h; exact .inr (by omega)
      · exact .inr (by omega)
    · exact Kept.behind hb1 hk2 hb1.size fun x hx h => by have := (HO1.out.lt h).2.2; omega
  have HFIN := Lib.hid hfin
  clear hfin ho1 ho2 hk1 hk2 hl1 hl2
  go_wp2_with fail
  all_goals go_ret2
  all_goals exact HFIN.out

theorem without_any (S : Nat → Prop) (w : World) (l : List Msg) (i : Int) (la : Option Addr) (lc : Nat) (hl : (sliceR msgR).rel S w [.slice la l.length lc] l) (hs : l.length ≤ 100000) :
    Calls Try.prog 27 #[.slice la l.length lc, .int .i64 i] w (Gives2 (fun k => S k ∨ w.heap.size ≤ k) (withoutL l i) (.bool (inB l i)) w) := by
  by_cases h : 0 ≤ i ∧ i < l.length
  · obtain ⟨k, rfl⟩ := Int.eq_ofNat_of_zero_le h.1
    have hk : k < l.length := by omega
    obtain ⟨b, off, es, rfl, -⟩ := sliceR.at hl k hk
    have hi : inB l k = true := decide_eq_true h
    unfold withoutL
    rw [hi, if_pos rfl, Int.toNat_natCast]
    exact without_in S w l k b off lc hl hk hs
  · exact without_out S w l i la lc hl (decide_eq_false h)

theorem box_new2 (w : World) (o1 o2 : Obj) : ((w.alloc o1).alloc o2).heap[w.heap.size + 1]? = some o2 := by
  rw [← World.size_alloc w o1]; exact box_new _ _
theorem cellsAt_box {w : World} {b : Nat} {es : List Value} {t : TypeId} (h : w.heap[b]? = some (.cells es.toArray t (0, 0))) : CellsAt w b 0 es := fun j c hj => by
  rw [(box_cells h).1]; simpa using hj
theorem addL_len {nodes : Int} {ms : List Msg} {m : Msg} (h : ms.length ≤ 4096) : (addL nodes ms m).length ≤ 4096 := by
  unfold addL
  split
  · rename_i hf
    unfold fitsB at hf
    have := (of_decide_eq_true hf).2.2.2.2.2
    simp; omega
  · exact h

set_option maxRecDepth 100000 in
set_option maxHeartbeats 1000000 in
theorem refSend_any (S : Nat → Prop) (w : World) (nodes : Int) (l more : List Msg) (la ma : Option Addr) (lc mc : Nat) (hl : (sliceR msgR).rel S w [.slice la l.length lc] l) (hm : (sliceR msgR).rel S w [.slice ma more.length mc] more) (hs : l.length ≤ 4096) :
    Calls Try.prog 25 #[.int .i64 nodes, .slice la l.length lc, .slice ma more.length mc] w (Gives2 (fun k => S k ∨ w.heap.size ≤ k) (sendL nodes l more).1 (.int .i64 (sendL nodes l more).2) w) := by
  obtain ⟨-, g1, g2, -⟩ := sliceR.lens hm
  unfold maxLen at g2
  obtain ⟨T, hT, hl, hm⟩ : ∃ T : Nat → Prop, (∀ k, T k → S k ∧ k < w.heap.size) ∧ (sliceR msgR).rel T w [.slice la l.length lc] l ∧ (sliceR msgR).rel T w [.slice ma more.length mc] more := ⟨_, fun _ h => h, (sliceR msgR).bound hl, (sliceR msgR).bound hm⟩
  have hcnt := Lib.hid (sendL_cnt nodes l more)
  have hsn := Lib.hid (sendL_snoc nodes l more)
  have HT := Lib.hid hT
  clear hT
  go_enter Try.func25, Try.ntmps25
  go_wp2_with fail
  go_loopw [1, 8, 9] (fun v c i wr => ∃ k : Nat, k ≤ more.length ∧ i = .int .i64 k ∧ c = .int .i64 (sendL nodes l (more.take k)).2 ∧ (sendL nodes l (more.take k)).1.length ≤ 4096 ∧ (sliceR msgR).rel (fun x => T x ∨ w.heap.size ≤ x) wr [v] (sendL nodes l (more.take k)).1 ∧ Below w.heap.size w wr) (fun _ _ i _ => more.length - (intOf i).toNat)
  case atStart => exact ⟨0, Nat.zero_le _, rfl, rfl, hs, (sliceR msgR).mono hl fun _ _ h => .inl h, Below.refl _ _⟩
  case round =>
    obtain ⟨k, hk, rfl, rfl, h4, hlr, hbr⟩ := hrel
    have hck := hcnt.out k hk
    obtain ⟨ca, cc, rfl, g5, g6⟩ := sliceR.form hlr
    unfold maxLen at g6
    by_cases hlt : k < more.length
    · obtain ⟨b, off, va, vc, rfl, hTb, hbl, hr1, c0, c1, c2, c3⟩ := msgs_at ((sliceR msgR).keepB hm hbr) k hlt
      have hvl := (sliceR.lens (msgR.bytes hr1)).2
      unfold maxLen at hvl
      have hs1 := Lib.hid (hsn.out k hlt)
      have n0 : (0 : Int) ≤ (k : Int) := by omega
      have n1 : (k : Int) < (more.length : Int) := by omega
      go_wp2_with fail
      refine (fits_any wr nodes _ _ _ more[k] va vc (by omega) (by omega)).mono ?_
      rintro e w1 ⟨rfl, hb1⟩
      generalize hd : fitsB nodes (sendL nodes l (List.take k more)).1.length more[k] = d
      have HD := Lib.hid hd
      clear hd
      have hlen := Lib.hid (addL_len (nodes := nodes) (m := more[k]) h4)
      have hb2 := bnext hbr hb1
      cases d with
      | false =>
        have e1 : Hid (sendL nodes l (List.take (k + 1) more) = sendL nodes l (List.take k more)) := by
          show _ = _
          rw [hs1.out]; unfold sendStep addL; rw [HD.out]; simp
        go_wp2_with fail
        go_roundw
        case rel => exact ⟨k + 1, by omega, by go_num, by rw [e1.out], by rw [e1.out]; exact h4, by rw [e1.out]; exact (sliceR msgR).keepB hlr hb1, hb2⟩
        case measure => simp [intOf]; omega
      | true =>
        have e1 : Hid ((sendL nodes l (List.take (k + 1) more)).1 = (sendL nodes l (List.take k more)).1 ++ [more[k]]) := by
          show _ = _
          rw [hs1.out]; unfold sendStep addL; rw [HD.out]; simp
        have e2 : Hid ((sendL nodes l (List.take (k + 1) more)).2 = (sendL nodes l (List.take k more)).2 + 1) := by
          show _ = _
          rw [hs1.out]; unfold sendStep; rw [HD.out]; simp
        have e3 : Hid ((sendL nodes l (List.take (k + 1) more)).1.length ≤ 4096) := by
          show _ ≤ _
          rw [hs1.out]; exact hlen.out
        obtain ⟨U, hU, hlU, hrU⟩ : ∃ U : Nat → Prop, (∀ x, U x → (T x ∨ w.heap.size ≤ x) ∧ x < w1.heap.size) ∧ (sliceR msgR).rel U w1 [.slice ca (sendL nodes l (List.take k more)).1.length cc] (sendL nodes l (List.take k more)).1 ∧ msgR.rel U w1 [.int .i64 more[k].kind, .int .i64 more[k].frm, .int .i64 more[k].to, .slice va more[k].bytes.length vc] more[k] :=
          ⟨_, fun _ h => h, (sliceR msgR).bound ((sliceR msgR).keepB hlr hb1), msgR.bound (msgR.mono (msgR.keepB hr1 hb1) fun _ _ h => .inl h)⟩
        have HU := Lib.hid hU
        have hbl1 : b < w1.heap.size := Nat.lt_of_lt_of_le hbl hb1.size
        have a0 := (hb1.cell (p := ⟨b, off + k * 4, none⟩) hbl).trans c0
        have a1 := (hb1.cell (p := ⟨b, off + k * 4 + 1, none⟩) hbl).trans c1
        have a2 := (hb1.cell (p := ⟨b, off + k * 4 + 2, none⟩) hbl).trans c2
        have a3 := (hb1.cell (p := ⟨b, off + k * 4 + 3, none⟩) hbl).trans c3
        clear c0 c1 c2 c3 hU hlr hr1 hb1 hs1 hlen
        generalize hms : (sendL nodes l (List.take k more)).1 = ls at *
        generalize hmc : (sendL nodes l (List.take k more)).2 = lcnt at *
        generalize more[k] = m at *
        clear hms hmc
        go_wp2_with fail
        go_region_held3 (fun w' => Below w1.heap.size w1 w' ∧ w'.cell? ⟨b, off + k * 4, none⟩ = some (.int .i64 m.kind) ∧ w'.cell? ⟨b, off + k * 4 + 1, none⟩ = some (.int .i64 m.frm) ∧ w'.cell? ⟨b, off + k * 4 + 2, none⟩ = some (.int .i64 m.to) ∧ w'.cell? ⟨b, off + k * 4 + 3, none⟩ = some (.slice va m.bytes.length vc))
          (first
            | exact ⟨(Below.refl _ _).drew, a0, a1, a2, a3⟩
            | exact ⟨hB3, (hB3.cell (p := ⟨_, _, _⟩) hbl1).trans a0, (hB3.cell (p := ⟨_, _, _⟩) hbl1).trans a1, (hB3.cell (p := ⟨_, _, _⟩) hbl1).trans a2, (hB3.cell (p := ⟨_, _, _⟩) hbl1).trans a3⟩
            | exact ⟨hB2, (hB2.cell (p := ⟨_, _, _⟩) hbl1).trans a0, (hB2.cell (p := ⟨_, _, _⟩) hbl1).trans a1, (hB2.cell (p := ⟨_, _, _⟩) hbl1).trans a2, (hB2.cell (p := ⟨_, _, _⟩) hbl1).trans a3⟩
            | (have hh := (‹Below w1.heap.size w1 _ ∧ _› : Below w1.heap.size w1 _ ∧ _).1; have h2 := bnew hh (.cells #[] 24); exact ⟨h2, (h2.cell (p := ⟨_, _, _⟩) hbl1).trans a0, (h2.cell (p := ⟨_, _, _⟩) hbl1).trans a1, (h2.cell (p := ⟨_, _, _⟩) hbl1).trans a2, (h2.cell (p := ⟨_, _, _⟩) hbl1).trans a3⟩)
            | (have hh := (‹Below w1.heap.size w1 _ ∧ _› : Below w1.heap.size w1 _ ∧ _).1; have h2 := bnew hh (.cells #[.int .i64 m.kind, .int .i64 m.frm, .int .i64 m.to, .slice va m.bytes.length vc] 24); exact ⟨h2, (h2.cell (p := ⟨_, _, _⟩) hbl1).trans a0, (h2.cell (p := ⟨_, _, _⟩) hbl1).trans a1, (h2.cell (p := ⟨_, _, _⟩) hbl1).trans a2, (h2.cell (p := ⟨_, _, _⟩) hbl1).trans a3⟩))
          (first
            | (have hh := (‹Below w1.heap.size w1 _ ∧ _› : Below w1.heap.size w1 _ ∧ _).1
               refine step_append_rel (r := msgR) (v := .slice (some ⟨w1.heap.size, 0, none⟩) 0 0) (u := .slice ca ls.length cc) (F := fun x => U x ∨ w1.heap.size ≤ x) rfl _ _ rfl Try.ety30 rfl rfl ((Own.empty msgR w1.heap.size 24 (b := w1.heap.size) (by first | exact box_new w1 _ | exact box_old (box_new w1 _)) (Nat.le_refl _)).mono fun x _ h => .inr (by omega)) (Src.of_slice ((sliceR msgR).keepB hlU hh)) (fun x _ h => .inl h) (fun x hx h => by have := (HU.out x h).2; simp [Value.ownBlock] at hx; omega) (by unfold maxLen; simp; omega) (by simp; omega) hh.size ?_
               intro v2 w2 ho2 hk2 hl2
               have hB2 := Kept.behind hh hk2 hh.size (fun x hx h => by simp [Value.ownBlock] at h; omega)
               have hm2 := msgR.keepB hrU hB2
               have HO2 := Lib.hid ho2
               have hX := fun n h hne => box_kept (b := n) (o := .cells (List.toArray [.int .i64 m.kind, .int .i64 m.frm, .int .i64 m.to, .slice va m.bytes.length vc]) 24) hk2 h hne)
            | (have hh := (‹Below w1.heap.size w1 _ ∧ _› : Below w1.heap.size w1 _ ∧ _).1
               refine step_append_rel (r := msgR) (v := .slice (some ⟨w1.heap.size + 1, 0, none⟩) 0 0) (u := .slice ca ls.length cc) (F := fun x => U x ∨ w1.heap.size ≤ x) rfl _ _ rfl Try.ety30 rfl rfl ((Own.empty msgR w1.heap.size 24 (b := w1.heap.size + 1) (by exact box_new2 w1 _ _) (by omega)).mono fun x _ h => .inr (by omega)) (Src.of_slice ((sliceR msgR).keepB hlU hh)) (fun x _ h => .inl h) (fun x hx h => by have := (HU.out x h).2; simp [Value.ownBlock] at hx; omega) (by unfold maxLen; simp; omega) (by simp; omega) hh.size ?_
               intro v2 w2 ho2 hk2 hl2
               have hB2 := Kept.behind hh hk2 hh.size (fun x hx h => by simp [Value.ownBlock] at h; omega)
               have hm2 := msgR.keepB hrU hB2
               have HO2 := Lib.hid ho2
               have hX := fun n h hne => box_kept (b := n) (o := .cells (List.toArray [.int .i64 m.kind, .int .i64 m.frm, .int .i64 m.to, .slice va m.bytes.length vc]) 24) hk2 h hne)
            | (have hh := (‹Below w1.heap.size w1 _ ∧ _› : Below w1.heap.size w1 _ ∧ _).1
               refine step_append_rel (r := msgR) (v := v2) (u := .slice (some ⟨w2.heap.size, 0, none⟩) 1 1) (ys := [m]) rfl _ _ rfl Try.ety30 rfl rfl (ho2.keepB (bnew (Below.refl _ _) _)) (Src.one (msgR.keepB hm2 (bnew (Below.refl _ _) _)) (CellsAt.new w2 _ 24)) (fun x _ h => .inl (.inl h)) (fun x hx h => by have := (HU.out x h).2; have := (HO2.out.lt hx).2.2; omega) (by unfold maxLen; simp; omega) (by simp; omega) hh.size ?_
               intro v3 w3 ho3 hk3 hl3
               have hB3 := Kept.behind hh hk3 hh.size (fun x hx h => by have := (HO2.out.lt h).2.2; omega))
            | (have hh := (‹Below w1.heap.size w1 _ ∧ _› : Below w1.heap.size w1 _ ∧ _).1
               refine step_append_rel (r := msgR) (v := v2) (u := .slice (some ⟨w1.heap.size + 1, 0, none⟩) 1 1) (ys := [m]) rfl _ _ rfl Try.ety30 rfl rfl ho2 (Src.one hm2 (cellsAt_box (hX _ (by exact box_new2 w1 _ _) (by simp [Value.ownBlock])))) (fun x _ h => .inl (.inl h)) (fun x hx h => by have := (HU.out x h).2; have := (HO2.out.lt hx).2.2; omega) (by unfold maxLen; simp; omega) (by simp; omega) hh.size ?_
               intro v3 w3 ho3 hk3 hl3
               have hB3 := Kept.behind hh hk3 hh.size (fun x hx h => by have := (HO2.out.lt h).2.2; omega))
            | (have hh := (‹Below w1.heap.size w1 _ ∧ _› : Below w1.heap.size w1 _ ∧ _).1
               refine step_append_rel (r := msgR) (v := v2) (u := .slice (some ⟨w1.heap.size, 0, none⟩) 1 1) (ys := [m]) rfl _ _ rfl Try.ety30 rfl rfl ho2 (Src.one hm2 (cellsAt_box (hX _ (by exact box_old (box_new w1 _)) (by simp [Value.ownBlock])))) (fun x _ h => .inl (.inl h)) (fun x hx h => by have := (HU.out x h).2; have := (HO2.out.lt hx).2.2; omega) (by unfold maxLen; simp; omega) (by simp; omega) hh.size ?_
               intro v3 w3 ho3 hk3 hl3
               have hB3 := Kept.behind hh hk3 hh.size (fun x hx h => by have := (HO2.out.lt h).2.2; omega)))
        all_goals
          have hrel3 : Hid ((sliceR msgR).rel (fun x => T x ∨ w.heap.size ≤ x) w3 [v3] (sendL nodes l (List.take (k + 1) more)).1) := by
            show (sliceR msgR).rel _ _ _ _
            rw [e1.out]
            have z1 := hB2.size
            have z2 := hb2.size
            refine (sliceR msgR).mono ho3.slice (fun x _ h => ?_)
            rcases h with ((h | h) | h) | h
            · exact (HU.out x h).1
            · exact .inr (by omega)
            · simp at h; exact .inr (by omega)
            · first
              | exact .inr (by omega)
              | (simp at h; exact .inr (by omega))
          have hb3 := bnext hb2 hB3
          clear ho2 ho3 hk2 hk3 hl2 hl3 hX HO2 hm2
          go_wp2_with fail
          go_roundw
          case rel => exact ⟨k + 1, by omega, by go_num, by rw [e2.out]; go_num, e3.out, hrel3.out, hb3⟩
          case measure => simp [intOf]; omega
    · obtain rfl : k = more.length := by omega
      rw [List.take_length] at *
      have hfin : Hid ((sliceR msgR).rel (fun x => S x ∨ w.heap.size ≤ x) wr [.slice ca (sendL nodes l more).1.length cc] (sendL nodes l more).1) := (sliceR msgR).mono hlr fun x _ h => h.imp (fun h => (HT.out x h).1) (fun h => h)
      go_wp2_with fail
      go_ret2
      exact Gives2.mk hfin.out hbr
end Go.Proofs.Ytccckjaefnojaaa

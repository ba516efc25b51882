/- The walk of NetworkNothingNew. -/
import Derived.Test.YtccckjaefnojaaaV
namespace Go.Proofs.Ytccckjaefnojaaa
open Go.ChangeShapes Go.WideShapes Go.ChangeAt Go.RowKit

theorem copy_sub {net ms : List Msg} (i : Int) (h : ∀ m ∈ net, m ∈ ms) : ∀ m ∈ copyL net i, m ∈ ms := by
  intro m hm
  unfold copyL at hm
  split at hm
  · rcases List.mem_append.1 hm with q | q
    · exact h m q
    · exact h m (List.mem_of_mem_drop (List.mem_of_mem_take q))
  · exact h m hm
theorem cut_sub {net ms : List Msg} (g : List Int) (h : ∀ m ∈ net, m ∈ ms) : ∀ m ∈ cutL g net, m ∈ ms := by
  intro m hm
  unfold cutL at hm
  exact h m (List.mem_filter.1 hm).1
theorem any_take_succ {α : Type} (p : α → Bool) (l : List α) (k : Nat) (h : k < l.length) : (l.take (k + 1)).any p = ((l.take k).any p || p l[k]) := by
  rw [List.take_succ_eq_append_getElem h, List.any_append]; simp

set_option maxRecDepth 100000 in
set_option maxHeartbeats 4000000 in
theorem nothingNew_any (w : World) (nodes : Int) (a a' : Option Addr) (cap cap' : Nat) (ops more : List OpM) (hops : (sliceR opR).rel (fun k => k < w.heap.size) w [.slice a ops.length cap] ops)
    (hmore : (sliceR opR).rel (fun k => k < w.heap.size) w [.slice a' more.length cap'] more) :
    Calls Try.prog 8 #[.int .i64 nodes, .slice a ops.length cap, .slice a' more.length cap'] w fun e w' => e = .returned (.bool true) ∧ Below w.heap.size w w' := by
  obtain ⟨-, g1, g2, -⟩ := sliceR.lens hmore
  unfold maxLen at g2
  go_enter Try.func8, Try.ntmps8
  go_wp2_with fail
  refine (awake_any w).mono ?_
  rintro e w1 ⟨rfl, hb1⟩
  go_wp2_with fail
  refine (fair_any _ w1 a cap ops ((sliceR opR).keepB hops hb1)).mono ?_
  rintro e w2 ⟨rfl, hb2⟩
  have hb02 := bnext hb1 hb2
  generalize hf : fairB ops = f
  cases f with
  | false =>
    go_wp2_with fail
    refine (awake_any w2).mono ?_
    rintro e w3 ⟨rfl, hb3⟩
    go_wp2_with fail
    go_ret
    exact ⟨rfl, bnext hb02 hb3⟩
  | true =>
    have HF := Lib.hid hf
    clear hf
    go_wp2_with fail
    refine (fair_any _ w2 a' cap' more ((sliceR opR).keepB hmore hb02)).mono ?_
    rintro e w2a ⟨rfl, hb2a⟩
    replace hb02 := bnext hb02 hb2a
    clear hb2 hb2a
    generalize fairB more = f2
    cases f2 with
    | false =>
      go_wp2_with fail
      refine (awake_any w2a).mono ?_
      rintro e w3 ⟨rfl, hb3⟩
      go_wp2_with fail
      go_ret
      exact ⟨rfl, bnext hb02 hb3⟩
    | true =>
      by_cases hv : 1 ≤ nodes ∧ nodes ≤ 64
      · have hplay := play_any w2a nodes a cap ops hv.1 hv.2 (opsIn hops hb02) HF.out
        generalize playL nodes ops = ms at hplay
        have HP := Lib.hid hplay
        have hmo := (sliceR opR).keepB hmore hb02
        have hz0 := hb02.size
        clear hplay
        go_wp2_with fail
        refine HP.out.mono ?_
        rintro e w3 ⟨p, lv, rfl, hpl⟩
        have hp0 : ∃ net : List Msg, (∀ m ∈ net, m ∈ ms) ∧ TwoAt w2a p nodes net ms lv w3 := by
          obtain ⟨O, R, q⟩ := hpl
          exact ⟨ms, fun _ h => h, O, R, q⟩
        obtain ⟨lva, lvc, rfl, g5, g6⟩ : ∃ lva lvc, lv = .slice lva ms.length lvc ∧ ms.length ≤ lvc ∧ lvc ≤ maxLen := by
          obtain ⟨O, R, -, -, q, -⟩ := hpl
          exact sliceR.form q
        unfold maxLen at g6
        clear hpl
        go_wp2_with fail
        go_loopw [46] (fun i wr => ∃ k : Nat, k ≤ more.length ∧ i = .int .i64 k ∧ ∃ net : List Msg, (∀ m ∈ net, m ∈ ms) ∧ TwoAt w2a p nodes net ms (.slice lva ms.length lvc) wr) (fun i _ => more.length - (intOf i).toNat)
        case atStart => exact ⟨0, Nat.zero_le _, rfl, hp0⟩
        case round =>
          obtain ⟨k, hk, rfl, net, hsub, O, R, hn, hO, hlr, hR, hbr⟩ := hrel
          clear hp0
          have HO := Lib.hid hO
          have HR := Lib.hid hR
          have HS := Lib.hid hsub
          clear hO hR hsub
          by_cases hlt : k < more.length
          · obtain ⟨b, off, la, lc, ga, gc, rfl, -, hbl, wf1, wf2, hL, hG, c0, c1, c2, c3⟩ := ops_at ((sliceR opR).keepB hmo hbr) k hlt
            generalize more[k] = o at *
            have hbx := bnew (Below.refl wr.heap.size wr) (.cells #[.int .u8 o.kind, .slice la o.l.length lc, .int .i64 o.n, .slice ga o.g.length gc] 50)
            have hkd : 0 ≤ o.kind ∧ o.kind ≤ 255 := by simpa [Lit.wf, IntKind.min, IntKind.max, IntKind.signed, IntKind.bits] using wf1
            by_cases q0 : o.kind % 2 = 0
            · have e0 : (o.kind % 2 == 0) = true := by simpa using q0
              clear q0
              go_wp2_with fail
              refine (copy_any O _ p nodes net o.n (hn.keep (Kept.of_below hbx))).mono ?_
              rintro e w4 ⟨⟨rfl, hn3, hk3⟩, -⟩
              have hp : ∃ net : List Msg, (∀ m ∈ net, m ∈ ms) ∧ TwoAt w2a p nodes net ms (.slice lva ms.length lvc) w4 :=
                ⟨_, copy_sub o.n HS.out, TwoAt.mk (fun x h => (HO.out x h).1) hn3 hk3 (msgsR.keepB hlr hbx) (fun x h _ => (HR.out x h).1) (bnext hbr hbx)⟩
              go_wp2_with fail
              go_roundw
              case rel => exact ⟨k + 1, by omega, by go_num, hp⟩
              case measure => simp [intOf]; omega
            · have e0 : (o.kind % 2 == 0) = false := by simpa using q0
              clear q0
              go_wp2_with fail
              refine (cut_any O _ _ p nodes net ga gc o.g (hn.keep (Kept.of_below hbx)) (intsR.keepB hG hbx)).mono ?_
              rintro e w4 ⟨rfl, hn3, hk3⟩
              have hp : ∃ net : List Msg, (∀ m ∈ net, m ∈ ms) ∧ TwoAt w2a p nodes net ms (.slice lva ms.length lvc) w4 :=
                ⟨_, cut_sub o.g HS.out, TwoAt.mk (fun x h => (HO.out x h).1) hn3 hk3 (msgsR.keepB hlr hbx) (fun x h _ => (HR.out x h).1) (bnext hbr hbx)⟩
              go_wp2_with fail
              go_roundw
              case rel => exact ⟨k + 1, by omega, by go_num, hp⟩
              case measure => simp [intOf]; omega
          · obtain rfl : k = more.length := by omega
            go_wp2_with fail
            refine (pending_any O _ p nodes net hn).mono ?_
            rintro e w4 ⟨pa, pc, rfl, hr4, hb4⟩
            have hbw4 := bnext (bnext hb02 hbr) hb4
            have hlr4 := msgsR.keepB hlr hb4
            obtain ⟨-, g7, g8, -⟩ := sliceR.lens hr4
            unfold maxLen at g8
            clear hn hlr hb4 hbr hmo
            go_wp2_with fail
            go_loopw [66] (fun i wr => ∃ j : Nat, j ≤ net.length ∧ i = .int .i64 j ∧ Below w4.heap.size w4 wr) (fun i _ => net.length - (intOf i).toNat)
            case atStart => exact ⟨0, Nat.zero_le _, rfl, Below.refl _ _⟩
            case round =>
              obtain ⟨j, hj, rfl, hbj⟩ := hrel
              by_cases hjl : j < net.length
              · obtain ⟨b, off, va, vc, rfl, -, hbl, hr1, d0, d1, d2, d3⟩ := msgs_at (msgsR.keepB hr4 hbj) j hjl
                have HIn : Hid (ms.any (eqB net[j]) = true) := by
                  show _ = _
                  rw [List.any_eq_true]
                  exact ⟨net[j], HS.out _ (by simp), eqB_refl _⟩
                have HBY := Lib.hid (msgR.bytes hr1)
                clear hr1
                generalize net[j] = m at *
                obtain ⟨wo, hwo⟩ : ∃ wo : World, wo = wr := ⟨_, rfl⟩
                have hb5 := bnew hbj (.cells #[.int .i64 m.kind, .int .i64 m.frm, .int .i64 m.to, .slice va m.bytes.length vc] 24)
                have HBX := Lib.hid (box_new wr (.cells #[.int .i64 m.kind, .int .i64 m.frm, .int .i64 m.to, .slice va m.bytes.length vc] 24))
                have HBY5 := Lib.hid (bytesR.keepB HBY.out (bnew (Below.refl wr.heap.size wr) (.cells #[.int .i64 m.kind, .int .i64 m.frm, .int .i64 m.to, .slice va m.bytes.length vc] 24)))
                rw [← hwo] at hb5 HBX HBY5
                go_wp2_with fail
                rw [← hwo]
                clear hwo hbj HBY d0 d1 d2 d3 hbl
                go_loopw [14, 72] (fun f i w' => ∃ t : Nat, t ≤ ms.length ∧ i = .int .i64 t ∧ f = .bool ((ms.take t).any (eqB m)) ∧ Below (wo.alloc (.cells #[.int .i64 m.kind, .int .i64 m.frm, .int .i64 m.to, .slice va m.bytes.length vc] 24)).heap.size (wo.alloc (.cells #[.int .i64 m.kind, .int .i64 m.frm, .int .i64 m.to, .slice va m.bytes.length vc] 24)) w') (fun _ i _ => ms.length - (intOf i).toNat)
                case atStart => exact ⟨0, Nat.zero_le _, rfl, rfl, Below.refl _ _⟩
                case round =>
                  obtain ⟨t, ht, rfl, rfl, hbt⟩ := hrel
                  have hb6 := bnext hb5 hbt
                  by_cases htl : t < ms.length
                  · obtain ⟨lb, loff, va', vc', rfl, -, hlb, hr2, f0, f1, f2, f3⟩ := msgs_at (msgsR.keepB hlr4 hb6) t htl
                    have HSC := Lib.hid (any_take_succ (eqB m) ms t htl)
                    obtain ⟨x0, x1⟩ := box_cells (box_after hbt HBX.out)
                    have hbol := box_lt (box_after hbt HBX.out)
                    have z1 : ¬ wo.heap.size = wr.heap.size := by omega
                    have HBYt := Lib.hid (bytesR.keepB HBY5.out hbt)
                    have HBY2 := Lib.hid (msgR.bytes hr2)
                    clear hr2
                    generalize ms[t] = m' at *
                    have hbA := bnew (Below.refl wr.heap.size wr) (.cells #[.int .i64 m'.kind, .int .i64 m'.frm, .int .i64 m'.to, .slice va' m'.bytes.length vc'] 24)
                    generalize hfl : (ms.take t).any (eqB m) = fl
                    rw [hfl] at HSC
                    cases fl with
                    | true =>
                      have hbn := bnext hbt hbA
                      clear hfl
                      go_wp2_with fail
                      go_roundw
                      case rel => exact ⟨t + 1, by omega, by go_num, by rw [HSC.out]; rfl, hbn⟩
                      case measure => simp [intOf]; omega
                    | false =>
                      clear hfl
                      go_wp2_with fail
                      refine (equal_any _ _ _ m m' va va' vc vc' (bytesR.keepB HBYt.out hbA) (bytesR.keepB HBY2.out hbA)).mono ?_
                      rintro e w5 ⟨rfl, hb7⟩
                      have hbn := bnext (bnext hbt hbA) hb7
                      go_wp2_with fail
                      go_roundw
                      case rel => exact ⟨t + 1, by omega, by go_num, by rw [HSC.out]; rfl, hbn⟩
                      case measure => simp [intOf]; omega
                  · obtain rfl : t = ms.length := by omega
                    rw [List.take_length, HIn.out]
                    go_wp2_with fail
                    go_roundw
                    case rel => exact ⟨j + 1, by omega, by go_num, hb6⟩
                    case measure => simp [intOf]; omega
              · go_wp2_with fail
                go_ret
                exact ⟨rfl, bnext hbw4 hbj⟩
      · have hbad := play_bad w2a nodes a ops.length cap (by omega)
        have HP := Lib.hid hbad
        clear hbad
        go_wp2_with fail
        refine HP.out.mono ?_
        rintro e w3 ⟨rfl, rfl⟩
        go_wp2_with fail
        go_ret
        exact ⟨rfl, hb02⟩
end Go.Proofs.Ytccckjaefnojaaa

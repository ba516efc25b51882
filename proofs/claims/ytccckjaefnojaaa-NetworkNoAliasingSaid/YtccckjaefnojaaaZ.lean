/- The walk of NetworkNoAliasing. -/
import Derived.Test.YtccckjaefnojaaaYb
namespace Go.Proofs.Ytccckjaefnojaaa
open Go.ChangeShapes Go.WideShapes Go.ChangeAt Go.RowKit

/-- A network, a list that reads as its messages, and a row of messages that may be written; all apart in memory. -/
def CalmN (w : World) (O R S : Nat → Prop) (p : Nat) (nodes : Int) (L : List Msg) (lv v : Value) (n z : Nat) (wr : World) : Prop :=
  (∀ k, S k → ¬ O k ∧ ¬ R k ∧ w.heap.size ≤ k) ∧ NetAt O wr p nodes L ∧ msgsR.rel R wr [lv] L ∧ OwnW S wr v n ∧ Below w.heap.size w wr ∧ z ≤ wr.heap.size
section
variable {w : World} {O R S : Nat → Prop} {p : Nat} {nodes : Int} {L : List Msg} {lv v : Value} {n z : Nat} {wr : World}
theorem CalmN.poke (h : CalmN w O R S p nodes L lv v n z wr) {b : Nat} (j : Nat) (hb : S b) {y : Int} (hy : (Lit.int .u8 y).wf = true) : CalmN w O R S p nodes L lv v n z (wr.setCell ⟨b, j, none⟩ (.int .u8 y)) := by
  obtain ⟨h1, h2, h3, h4, h5, h6⟩ := h
  obtain ⟨q1, q2, q3⟩ := h1 b hb
  exact ⟨h1, h2.keep ((kept_poke wr b j _).mono fun k _ h e => q1 (e ▸ h)), msgsR.keep h3 ((kept_poke wr b j _).mono fun k _ h e => q2 (e ▸ h)), h4.poke b j hb hy, h5.setCell q3 _, by rw [World.size_setCell]; exact h6⟩
theorem CalmN.below {w' : World} (h : CalmN w O R S p nodes L lv v n z wr) (hb : Below wr.heap.size wr w') : CalmN w O R S p nodes L lv v n z w' := by
  obtain ⟨h1, h2, h3, h4, h5, h6⟩ := h
  exact ⟨h1, h2.keep (Kept.of_below hb), msgsR.keepB h3 hb, h4.keepB hb, bnext h5 hb, Nat.le_trans h6 hb.size⟩
/-- The same, with the bytes of one of the messages at hand, and a copy of that message at block B. -/
def CalmX (w : World) (O R S : Nat → Prop) (p : Nat) (nodes : Int) (L : List Msg) (lv v : Value) (n z : Nat) (va : Option Addr) (len vc : Nat) (B : Nat) (box : Array Value) (wr : World) : Prop :=
  CalmN w O R S p nodes L lv v n z wr ∧ (∃ xs : List Int, xs.length = len ∧ Own (intR .u8) 0 5 S wr (.slice va len vc) xs) ∧ ¬ S B ∧ wr.heap[B]? = some (.cells box 24 (0, 0))
theorem CalmX.poke {va : Option Addr} {len vc B : Nat} {box : Array Value} (h : CalmX w O R S p nodes L lv v n z va len vc B box wr) {b : Nat} (j : Nat) (hb : S b) {y : Int} (hy : (Lit.int .u8 y).wf = true) :
    CalmX w O R S p nodes L lv v n z va len vc B box (wr.setCell ⟨b, j, none⟩ (.int .u8 y)) := by
  obtain ⟨h1, ⟨xs, h2, h3⟩, h4, h5⟩ := h
  obtain ⟨xs', q1, q2⟩ := h3.poke b j hy
  exact ⟨h1.poke j hb hy, ⟨xs', q1.trans h2, q2⟩, h4, box_set_far h5 fun e => h4 (by rw [e]; exact hb)⟩
theorem CalmX.start {va : Option Addr} {len vc : Nat} {box : Array Value} {xs : List Int} (h : CalmN w O R S p nodes L lv v n z wr) (hl : xs.length = len) (ho : Own (intR .u8) 0 5 S wr (.slice va len vc) xs) :
    CalmX w O R S p nodes L lv v n z va len vc wr.heap.size box (wr.alloc (.cells box 24)) := by
  have hb := bnew (Below.refl wr.heap.size wr) (.cells box 24)
  refine ⟨h.below hb, ⟨xs, hl, ho.keepB hb⟩, fun hS => ?_, box_new _ _⟩
  have := h.2.2.2.1.lt _ hS
  omega
theorem CalmX.byte {va : Option Addr} {len vc B : Nat} {box : Array Value} (h : CalmX w O R S p nodes L lv v n z va len vc B box wr) (j : Nat) (hj : j < len) :
    ∃ b x, va = some ⟨b, 0, none⟩ ∧ S b ∧ b < wr.heap.size ∧ wr.cell? ⟨b, j, none⟩ = some (.int .u8 x) ∧ (∀ o, wr.frozen? ⟨b, o, none⟩ = false) ∧ 0 ≤ x ∧ x ≤ 255 := by
  obtain ⟨-, ⟨xs, h2, h3⟩, -, -⟩ := h
  exact h3.byte j (by omega)
end
theorem sendL_len {nodes : Int} {ms l : List Msg} (h : ms.length ≤ 4096) : (sendL nodes ms l).1.length ≤ 4096 := by
  unfold sendL
  have : ∀ (l ms : List Msg) (c : Nat), ms.length ≤ 4096 → (l.foldl (sendStep nodes) (ms, c)).1.length ≤ 4096 := by
    intro l
    induction l with
    | nil => intro ms c h; exact h
    | cons m l ih => intro ms c h; exact ih _ _ (addL_len h)
  exact this l ms 0 h
theorem one_op {F : Nat → Prop} {w : World} {a : Option Addr} {cap : Nat} {l : List Msg} (hl : msgsR.rel F w [.slice a l.length cap] l) :
    (sliceR opR).rel (fun k => F k ∨ k = w.heap.size) (w.alloc (.cells #[.int .u8 0, .slice a l.length cap, .int .i64 0, .slice none 0 0] 50)) [.slice (some ⟨w.heap.size, 0, none⟩) 1 1] [(⟨0, l, 0, []⟩ : OpM)] := by
  have hb := bnew (Below.refl w.heap.size w) (.cells #[.int .u8 0, .slice a l.length cap, .int .i64 0, .slice none 0 0] 50)
  have hr : opR.rel (fun k => F k ∨ k = w.heap.size) (w.alloc (.cells #[.int .u8 0, .slice a l.length cap, .int .i64 0, .slice none 0 0] 50)) [.int .u8 0, .slice a l.length cap, .int .i64 0, .slice none 0 0] ⟨0, l, 0, []⟩ :=
    ⟨[.int .u8 0], _, rfl, ⟨rfl, rfl⟩, [.slice a l.length cap], _, rfl, msgsR.mono (msgsR.keepB hl hb) fun k _ h => .inl h, [.int .i64 0], [.slice none 0 0], rfl, ⟨rfl, rfl⟩, sliceR.nil⟩
  have hbx := box_new w (.cells #[.int .u8 0, .slice a l.length cap, .int .i64 0, .slice none 0 0] 50)
  refine slice_box (r := opR) (css := [[.int .u8 0, .slice a l.length cap, .int .i64 0, .slice none 0 0]]) (xs := [(⟨0, l, 0, []⟩ : OpM)]) hbx (.inr rfl) rfl (by unfold maxLen; simp) fun i cs x hc hx => ?_
  match i with
  | 0 =>
    simp at hc hx
    rw [← hc, ← hx]; exact hr
  | i + 1 => simp at hx
theorem fair_one {l : List Msg} (h : fairB [⟨0, l, 0, []⟩] = true) : l.length ≤ 20 ∧ ∀ m ∈ l, m.bytes.length ≤ 100 := by
  simp [fairB, okOp, okMsgs] at h
  exact h

set_option maxRecDepth 100000 in
set_option maxHeartbeats 4000000 in
theorem noAliasing_any (w : World) (nodes : Int) (a a' : Option Addr) (cap cap' : Nat) (ops : List OpM) (l : List Msg) (hops : (sliceR opR).rel (fun k => k < w.heap.size) w [.slice a ops.length cap] ops)
    (hl : msgsR.rel (fun k => k < w.heap.size) w [.slice a' l.length cap'] l) :
    Calls Try.prog 9 #[.int .i64 nodes, .slice a ops.length cap, .slice a' l.length cap'] w fun e w' => e = .returned (.bool true) ∧ Below w.heap.size w w' := by
  obtain ⟨-, g1, g2, -⟩ := sliceR.lens hl
  unfold maxLen at g2
  go_enter Try.func9, Try.ntmps9
  go_wp2_with fail
  refine (awake_any w).mono ?_
  rintro e w1 ⟨rfl, hb1⟩
  go_wp2_with fail
  refine (fair_any _ w1 a cap ops ((sliceR opR).keepB hops hb1)).mono ?_
  rintro e w2 ⟨rfl, hb2⟩
  have hb02 := bnext hb1 hb2
  generalize hf : fairB ops = f
  cases f with
  | false =>
    go_wp2_with fail
    refine (awake_any w2).mono ?_
    rintro e w3 ⟨rfl, hb3⟩
    go_wp2_with fail
    go_ret
    exact ⟨rfl, bnext hb02 hb3⟩
  | true =>
    have HF := Lib.hid hf
    clear hf
    have hl2 := msgsR.keepB hl hb02
    have hone := one_op hl2
    have HONE := Lib.hid hone
    have hbo := bnew hb02 (.cells #[.int .u8 0, .slice a' l.length cap', .int .i64 0, .slice none 0 0] 50)
    clear hone
    go_wp2_with fail
    refine (fair_any _ _ _ 1 [⟨0, l, 0, []⟩] HONE.out).mono ?_
    rintro e w2a ⟨rfl, hb2a⟩
    replace hb02 := bnext hbo hb2a
    clear hb2 hb2a hl2 HONE
    generalize hf2 : fairB [⟨0, l, 0, []⟩] = f2
    cases f2 with
    | false =>
      clear hf2
      go_wp2_with fail
      refine (awake_any w2a).mono ?_
      rintro e w3 ⟨rfl, hb3⟩
      go_wp2_with fail
      go_ret
      exact ⟨rfl, bnext hb02 hb3⟩
    | true =>
      have HF2 := Lib.hid (fair_one hf2)
      clear hf2
      by_cases hv : 1 ≤ nodes ∧ nodes ≤ 64
      · have hplay := play_any w2a nodes a cap ops hv.1 hv.2 (opsIn hops hb02) HF.out
        generalize playL nodes ops = ms at hplay
        have HP := Lib.hid hplay
        clear hplay
        go_wp2_with fail
        refine HP.out.mono ?_
        rintro e w3 ⟨p, lv, rfl, O, R, hn, hO, hlr, hR, hbr⟩
        obtain ⟨lva, lvc, rfl, -, -⟩ := sliceR.form hlr
        have hms : ms.length ≤ 4096 := hn.2.2.2.1
        have HO := Lib.hid hO
        have HR := Lib.hid hR
        have HN := Lib.hid hn
        clear hO hR hn HP
        have hbw3 := bnext hb02 hbr
        have hl3 := msgsR.keepB hl hbw3
        have zw3 := hbw3.size
        have z23 := hbr.size
        have zw2 := hb02.size
        clear hb1 hb02 hbr hbo
        go_wp2_with fail
        refine (cpO _ w3 a' cap' l hl3 (by have := HF2.out.1; omega) (fun m hm => by have := HF2.out.2 m hm; omega)).mono ?_
        rintro e w4 ⟨v, rfl, ho4, hb4⟩
        have z34 := hb4.size
        obtain ⟨S, hS, how4⟩ := OwnW.of ho4.bound
        have HS := Lib.hid hS
        have howB := Lib.hid fun k (hk : v.ownBlock = some k) => (ho4.lt hk).2.1
        clear hS
        go_wp2_with fail
        refine (refSend_any (fun k => (R k ∧ k < w3.heap.size) ∨ k < w.heap.size) w4 nodes ms l lva a' lvc cap' (msgsR.mono (msgsR.keepB (msgsR.bound hlr) hb4) fun k _ h => .inl h) (msgsR.mono (msgsR.keepB hl3 hb4) fun k _ h => .inr h) hms).mono ?_
        rintro e w5 ⟨xa, xc, rfl, hr5, hb5⟩
        have z45 := hb5.size
        have hL := sendL_len (nodes := nodes) (l := l) hms
        have ho5 := ho4.keepB hb5
        obtain ⟨oa, oc, rfl, o1, o2⟩ := sliceR.form ho5.slice
        unfold maxLen at o2
        have hb35 := bnext hb4 hb5
        have hsend := send_any O _ w5 p nodes ms oa oc l (HN.out.keep (Kept.of_below hb35)) ho5.toR.slice (fun k hk h => by have := (HO.out k h).2; omega)
        have HSD := Lib.hid hsend
        clear hsend hlr hl3
        generalize hLe : (sendL nodes ms l).1 = L at *
        clear hLe
        have HR5 := Lib.hid (msgsR.bound hr5)
        clear hr5
        have HO5 := Lib.hid ho5
        clear ho5 ho4
        go_wp2_with fail
        refine HSD.out.mono ?_
        rintro e w6 ⟨rfl, hn6, hk6⟩
        have z56 := hk6.size
        have hbw6 : Below w.heap.size w w6 := Kept.behind (bnext hbw3 hb35) hk6 (by omega) fun k hk h => by have := HO.out k h; omega
        obtain ⟨lO, hO6, hn6'⟩ : ∃ O6 : Nat → Prop, (∀ k, O6 k → (O k ∨ w5.heap.size ≤ k) ∧ k < w6.heap.size) ∧ NetAt O6 w6 p nodes L := ⟨_, fun _ h => h, hn6.mono fun k hk h => ⟨h, hk⟩⟩
        obtain ⟨lR, hR6, hr6⟩ : ∃ R6 : Nat → Prop, (∀ k, R6 k → (((R k ∧ k < w3.heap.size) ∨ k < w.heap.size) ∨ w4.heap.size ≤ k) ∧ k < w5.heap.size) ∧ msgsR.rel R6 w6 [.slice xa L.length xc] L :=
          ⟨_, fun _ h => h, msgsR.keep HR5.out (hk6.mono fun k _ h hok => by
            have q := HO.out k hok
            rcases h.1 with (⟨h1, h2⟩ | h2) | h2
            · exact (HR.out k h1).1 hok
            · omega
            · omega)⟩
        have how6 : OwnW S w6 (.slice oa l.length oc) l.length := (how4.keepB hb5).keep hk6 (fun k hk h => by have := (HS.out k hk).1; have := HO.out k h; omega) (fun k hk h => by have := howB.out k hk; have := HO.out k h; omega)
        have hcalm : CalmN w lO lR S p nodes L (.slice xa L.length xc) (.slice oa l.length oc) l.length w6.heap.size w6 := by
          refine ⟨fun k hk => ?_, hn6', hr6, how6, hbw6, Nat.le_refl _⟩
          have q := HS.out k hk
          refine ⟨fun h => ?_, fun h => ?_, by omega⟩
          · rcases (hO6 k h).1 with h1 | h1
            · have := HO.out k h1; omega
            · omega
          · rcases (hR6 k h).1 with (⟨h1, h2⟩ | h2) | h2 <;> omega
        have HO6 := Lib.hid fun k h => (hO6 k h).2
        have HR6 := Lib.hid fun k h => (hR6 k h).2
        clear hn6 hk6 hn6' hr6 how6 hO6 hR6 how4 howB HS HO5 HR5 HSD HN HO HR hb4 hb5 hb35 hbw3 HF2
        go_wp2_with fail
        go_loopw [60] (fun i wr => ∃ k : Nat, k ≤ l.length ∧ i = .int .i64 k ∧ CalmN w lO lR S p nodes L (.slice xa L.length xc) (.slice oa l.length oc) l.length w6.heap.size wr) (fun i _ => l.length - (intOf i).toNat)
        case atStart => exact ⟨0, Nat.zero_le _, rfl, hcalm⟩
        case round =>
          obtain ⟨k, hk, rfl, hc⟩ := hrel
          clear hcalm
          by_cases hlt : k < l.length
          · obtain ⟨g, m, va, vc, rfl, hg, c0, c1, c2, c3, hby⟩ := hc.2.2.2.1.at k hlt
            have m1 := (sliceR.lens hby.slice).2.1
            have m2 := (sliceR.lens hby.slice).2.2.1
            unfold maxLen at m2
            have hx := CalmX.start (box := #[.int .i64 m.kind, .int .i64 m.frm, .int .i64 m.to, .slice va m.bytes.length vc]) hc rfl hby
            have HX := Lib.hid hx
            clear hx hby hc
            obtain ⟨B, hB⟩ : ∃ B : Nat, B = wr.heap.size := ⟨_, rfl⟩
            rw [← hB] at HX
            go_wp2_with fail
            rw [← hB]
            clear hB
            go_loopw [67] (fun i w' => ∃ j : Nat, j ≤ m.bytes.length ∧ i = .int .i64 j ∧ CalmX w lO lR S p nodes L (.slice xa L.length xc) (.slice (some ⟨g, 0, none⟩) l.length oc) l.length w6.heap.size va m.bytes.length vc B #[.int .i64 m.kind, .int .i64 m.frm, .int .i64 m.to, .slice va m.bytes.length vc] w') (fun i _ => m.bytes.length - (intOf i).toNat)
            case atStart => exact ⟨0, Nat.zero_le _, rfl, HX.out⟩
            case round =>
              obtain ⟨j, hj, rfl, hcx⟩ := hrel
              clear HX c0 c1 c2 c3 hg
              by_cases hjl : j < m.bytes.length
              · obtain ⟨b, x, rfl, hSb, hbl, e0, e1, x0, x1⟩ := hcx.byte j hjl
                obtain ⟨f0, f1⟩ := box_cells hcx.2.2.2
                have HPK := Lib.hid fun (y : Int) (hy : (Lit.int .u8 y).wf = true) => hcx.poke j hSb hy
                clear hcx
                by_cases hx255 : x = 255
                · subst hx255
                  go_wp2_with fail
                  go_roundw
                  case rel => exact ⟨j + 1, by omega, by go_num, HPK.out _ rfl⟩
                  case measure => simp [intOf]; omega
                · have x2 : x + 1 ≤ 255 := by omega
                  have hwf : Hid ((Lit.int .u8 (x + 1)).wf = true) := by
                    show _ = _
                    simp [Lit.wf, IntKind.min, IntKind.max, IntKind.signed, IntKind.bits]; omega
                  clear hx255
                  go_wp2_with fail
                  go_roundw
                  case rel => exact ⟨j + 1, by omega, by go_num, HPK.out _ hwf.out⟩
                  case measure => simp [intOf]; omega
              · have hcc := hcx.1
                clear hcx
                go_wp2_with fail
                go_roundw
                case rel => exact ⟨k + 1, by omega, by go_num, hcc⟩
                case measure => simp [intOf]; omega
          · obtain rfl : k = l.length := by omega
            obtain ⟨-, hnr, hlr, -, hbr, hz⟩ := hc
            go_wp2_with fail
            refine (pendingO lO _ p nodes L hnr).mono ?_
            rintro e w7 ⟨v2, rfl, ho7, hb7⟩
            obtain ⟨S2, hS2, how7⟩ := OwnW.of ho7
            obtain ⟨qa, qc, rfl, q1, q2⟩ := sliceR.form ho7.slice
            unfold maxLen at q2
            have z7 := hb7.size
            have zbr := hbr.size
            have hcalm : CalmN w lO lR S2 p nodes L (.slice xa L.length xc) (.slice qa L.length qc) L.length w6.heap.size w7 := by
              refine ⟨fun k hk => ?_, hnr.keep (Kept.of_below hb7), msgsR.keepB hlr hb7, how7, bnext hbr hb7, by omega⟩
              have q := hS2 k hk
              exact ⟨fun h => by have := HO6.out k h; omega, fun h => by have := HR6.out k h; omega, by omega⟩
            clear hnr hlr hbr hz ho7 hb7 hS2 how7 hlt hk
            go_wp2_with fail
            go_loopw [82] (fun i wr => ∃ k : Nat, k ≤ L.length ∧ i = .int .i64 k ∧ CalmN w lO lR S2 p nodes L (.slice xa L.length xc) (.slice qa L.length qc) L.length w6.heap.size wr) (fun i _ => L.length - (intOf i).toNat)
            case atStart => exact ⟨0, Nat.zero_le _, rfl, hcalm⟩
            case round =>
              obtain ⟨k, hk, rfl, hc⟩ := hrel
              clear hcalm
              by_cases hlt : k < L.length
              · obtain ⟨g, m, va, vc, rfl, hg, c0, c1, c2, c3, hby⟩ := hc.2.2.2.1.at k hlt
                have m1 := (sliceR.lens hby.slice).2.1
                have m2 := (sliceR.lens hby.slice).2.2.1
                unfold maxLen at m2
                have hx := CalmX.start (box := #[.int .i64 m.kind, .int .i64 m.frm, .int .i64 m.to, .slice va m.bytes.length vc]) hc rfl hby
                have HX := Lib.hid hx
                clear hx hby hc
                obtain ⟨B, hB⟩ : ∃ B : Nat, B = wr.heap.size := ⟨_, rfl⟩
                rw [← hB] at HX
                go_wp2_with fail
                rw [← hB]
                clear hB
                go_loopw [89] (fun i w' => ∃ j : Nat, j ≤ m.bytes.length ∧ i = .int .i64 j ∧ CalmX w lO lR S2 p nodes L (.slice xa L.length xc) (.slice (some ⟨g, 0, none⟩) L.length qc) L.length w6.heap.size va m.bytes.length vc B #[.int .i64 m.kind, .int .i64 m.frm, .int .i64 m.to, .slice va m.bytes.length vc] w') (fun i _ => m.bytes.length - (intOf i).toNat)
                case atStart => exact ⟨0, Nat.zero_le _, rfl, HX.out⟩
                case round =>
                  obtain ⟨j, hj, rfl, hcx⟩ := hrel
                  clear HX c0 c1 c2 c3 hg
                  by_cases hjl : j < m.bytes.length
                  · obtain ⟨b, x, rfl, hSb, hbl, e0, e1, x0, x1⟩ := hcx.byte j hjl
                    obtain ⟨f0, f1⟩ := box_cells hcx.2.2.2
                    have HPK := Lib.hid fun (y : Int) (hy : (Lit.int .u8 y).wf = true) => hcx.poke j hSb hy
                    clear hcx
                    by_cases hx255 : x = 255
                    · subst hx255
                      go_wp2_with fail
                      go_roundw
                      case rel => exact ⟨j + 1, by omega, by go_num, HPK.out _ rfl⟩
                      case measure => simp [intOf]; omega
                    · have x2 : x + 1 ≤ 255 := by omega
                      have hwf : Hid ((Lit.int .u8 (x + 1)).wf = true) := by
                        show _ = _
                        simp [Lit.wf, IntKind.min, IntKind.max, IntKind.signed, IntKind.bits]; omega
                      clear hx255
                      go_wp2_with fail
                      go_roundw
                      case rel => exact ⟨j + 1, by omega, by go_num, HPK.out _ hwf.out⟩
                      case measure => simp [intOf]; omega
                  · have hcc := hcx.1
                    clear hcx
                    go_wp2_with fail
                    go_roundw
                    case rel => exact ⟨k + 1, by omega, by go_num, hcc⟩
                    case measure => simp [intOf]; omega
              · obtain rfl : k = L.length := by omega
                obtain ⟨-, hnr, hlr, -, hbr, -⟩ := hc
                go_wp2_with fail
                refine (pending_any lO _ p nodes L hnr).mono ?_
                rintro e w8 ⟨pa, pc, rfl, hr8, hb8⟩
                go_wp2_with fail
                refine (same_any _ _ w8 L L pa xa pc xc hr8 (msgsR.keepB hlr hb8)).mono ?_
                rintro e w9 ⟨rfl, hb9⟩
                rw [sameB_refl]
                go_wp2_with fail
                go_ret
                exact ⟨rfl, bnext (bnext hbr hb8) hb9⟩
      · have hbad := play_bad w2a nodes a ops.length cap (by omega)
        have HP := Lib.hid hbad
        clear hbad
        go_wp2_with fail
        refine HP.out.mono ?_
        rintro e w3 ⟨rfl, rfl⟩
        go_wp2_with fail
        go_ret
        exact ⟨rfl, hb02⟩
end Go.Proofs.Ytccckjaefnojaaa

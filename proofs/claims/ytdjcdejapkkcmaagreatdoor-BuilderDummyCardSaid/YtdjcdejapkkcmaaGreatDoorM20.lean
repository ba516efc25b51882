/- The builder: Build's frame, its rows in memory; what it computes. -/
import Derived.Test.YtdjcdejapkkcmaaGreatDoorM19
import Derived.Test.YtdjcdejapkkcmaaGreatDoorM09
import Derived.Test.YtdjcdejapkkcmaaGreatDoorM04
import Derived.Test.YtdjcdejapkkcmaaGreatDoorM12
namespace Go.Proofs.YtdjcdejapkkcmaaGreatDoor
open Go.ChangeShapes Go.WideShapes Go.ChangeAt Go.RowKit Go.Sort

/-- The marks of the notes: the marks, whether they differ, the oracle. -/
def markL (m : OrM) (l : List SpentM) : Nat → List Int × Bool × OrM
  | 0 => ([], true, m)
  | k + 1 => match l[k]? with
    | some i => ((markL m l k).1 ++ [((markL m l k).2.2.mark i.key i.note.rho).1], (markL m l k).2.1 && !hasB (markL m l k).1 ((markL m l k).2.2.mark i.key i.note.rho).1, ((markL m l k).2.2.mark i.key i.note.rho).2)
    | none => markL m l k
theorem markL_step {m : OrM} {l : List SpentM} {k : Nat} {ms : List Int} {d : Bool} {m1 m2 : OrM} {v : Int} (h : markL m l k = (ms, d, m1)) (hk : k < l.length) (hm : m1.mark l[k].key l[k].note.rho = (v, m2)) : markL m l (k + 1) = (ms ++ [v], d && !hasB ms v, m2) := by
  rw [markL, List.getElem?_eq_getElem hk, h]
  simp only [hm]
/-- The outputs: the outputs, their notes, the oracle. -/
def outL (m : OrM) (og sd : Int) (l : List PayM) : Nat → List OutM × List NoteM × OrM
  | 0 => ([], [], m)
  | k + 1 => match l[k]? with
    | some y => ((outL m og sd l k).1 ++ [((outL m og sd l k).2.2.make y og sd k).1], (outL m og sd l k).2.1 ++ [outN y og sd k], ((outL m og sd l k).2.2.make y og sd k).2)
    | none => outL m og sd l k
theorem outL_step {m : OrM} {og sd : Int} {l : List PayM} {k : Nat} {os : List OutM} {ns : List NoteM} {m1 m2 : OrM} {o : OutM} (h : outL m og sd l k = (os, ns, m1)) (hk : k < l.length) (hm : m1.make l[k] og sd k = (o, m2)) : outL m og sd l (k + 1) = (os ++ [o], ns ++ [outN l[k] og sd k], m2) := by
  rw [outL, List.getElem?_eq_getElem hk, h]
  simp only [hm]
def tx0 : TxM := ⟨0, [], [], 0, 0, 0, 0, 0, 0, []⟩
def wit0 : WitM := ⟨[], [], 0⟩
/-- What Build gives: the error, the transaction, the witness, the oracle. -/
def buildG (m : OrM) (r : RuM) (D : Nat) (q : ReqM) : Int × TxM × WitM × OrM :=
  let e := examE m (settE m.ideal r.mode r.depth r.bl r.bu r.qu r.rew r.win r.fin r.work) D q
  if e = 0 then
    let a := markL m q.ins q.ins.length
    if a.2.1 = true then
      let b := outL a.2.2 (originS a.1 q.acc q.nonce) q.seed q.outs q.outs.length
      let t : TxM := ⟨q.anchor, a.1, b.1, q.dep, q.wd, q.fee, q.acc, q.nonce, q.exp, []⟩
      let x : WitM := ⟨q.ins, b.2.1, q.secret⟩
      if validE t = 0 then
        let g := proveG b.2.2 r.mode D (stOf D t (bindS t)) x
        if g.1 = 0 then (0, { t with proof := g.2.1 }, x, g.2.2) else (g.1, tx0, wit0, g.2.2)
      else (1, tx0, wit0, b.2.2)
    else (1, tx0, wit0, a.2.2)
  else (e, tx0, wit0, m)
/-- Which block belongs to what: 1 the oracle, 2 the marks, 3 the notes to be spent, 4 the outputs, 5 their notes. -/
structure Cols (P : Nat → Nat → Prop) (C : Nat) (F : Nat → Prop) (wr : World) : Prop where
  lt : ∀ i k, P i k → k < wr.heap.size
  one : ∀ i j k, P i k → P j k → i = j
  low : ∀ i k, P i k → C ≤ k ∨ (i = 1 ∧ F k)
def colAdd (P : Nat → Nat → Prop) (i0 : Nat) (R : Nat → Prop) : Nat → Nat → Prop := fun i k => P i k ∨ (i = i0 ∧ R k)
theorem Cols.size {P : Nat → Nat → Prop} {C : Nat} {F : Nat → Prop} {w1 w2 : World} (h : Cols P C F w1) (hs : w1.heap.size ≤ w2.heap.size) : Cols P C F w2 := ⟨fun i k hp => Nat.lt_of_lt_of_le (h.lt i k hp) hs, h.one, h.low⟩
theorem Cols.add {P : Nat → Nat → Prop} {C : Nat} {F : Nat → Prop} {w1 w2 : World} (h : Cols P C F w1) (hs : w1.heap.size ≤ w2.heap.size) (hC : C ≤ w1.heap.size) (i0 : Nat) (R : Nat → Prop) (hR : ∀ k, R k → w1.heap.size ≤ k ∧ k < w2.heap.size) : Cols (colAdd P i0 R) C F w2 := by
  refine ⟨fun i k hp => ?_, fun i j k hp hq => ?_, fun i k hp => ?_⟩
  · rcases hp with hp | ⟨-, hp⟩
    · exact Nat.lt_of_lt_of_le (h.lt i k hp) hs
    · exact (hR k hp).2
  · rcases hp with hp | ⟨rfl, hp⟩ <;> rcases hq with hq | ⟨rfl, hq⟩
    · exact h.one i j k hp hq
    · exact absurd (h.lt i k hp) (Nat.not_lt.2 (hR k hq).1)
    · exact absurd (h.lt j k hq) (Nat.not_lt.2 (hR k hp).1)
    · rfl
  · rcases hp with hp | ⟨-, hp⟩
    · exact h.low i k hp
    · exact .inl (Nat.le_trans hC (hR k hp).1)
/-- Build's frame: T its transaction, T + 1 its witness. -/
structure BuAt (F S : Nat → Prop) (w : World) (p : Nat) (r : RuM) (q : ReqM) (ia oa : Option Addr) (ic oc : Nat) (T : Nat) (P : Nat → Nat → Prop) (m1 : OrM) (ms : List Int) (is : List SpentM) (os : List OutM) (ns : List NoteM) (am ai ao an : Option Addr) (cm ci co cn : Nat) (wr : World) : Prop where
  hF : ∀ k, F k → k < w.heap.size
  hS : ∀ k, S k → k < w.heap.size ∧ ¬ F k
  lay : w.heap.size + 1 + 1 + 1 < T
  rules : wr.heap[w.heap.size]? = some (.cells (ruC r) 26 (0, 0))
  req : wr.heap[w.heap.size + 1]? = some (.cells (reqC q ia ic oa oc) 39 (0, 0))
  rt : wr.heap[w.heap.size + 1 + 1]? = some (.cells #[.int .u64 0, .slice none 0 0, .slice none 0 0, .int .u64 0, .int .u64 0, .int .u64 0, .int .u64 0, .int .u64 0, .int .i64 0, .slice none 0 0] 45 (0, 0))
  rw : wr.heap[w.heap.size + 1 + 1 + 1]? = some (.cells #[.slice none 0 0, .slice none 0 0, .int .u64 0] 48 (0, 0))
  tx : wr.heap[T]? = some (.cells #[.int .u64 q.anchor, .slice am ms.length cm, .slice ao os.length co, .int .u64 q.dep, .int .u64 q.wd, .int .u64 q.fee, .int .u64 q.acc, .int .u64 q.nonce, .int .i64 q.exp, .slice none 0 0] 45 (0, 0))
  wit : wr.heap[T + 1]? = some (.cells #[.slice ai is.length ci, .slice an ns.length cn, .int .u64 q.secret] 48 (0, 0))
  cols : Cols P (T + 1 + 1) F wr
  orc : OrG (P 1) p wr m1
  rin : ReqAt S wr q ia ic oa oc
  marks : Own u64R (T + 1 + 1) 24 (P 2) wr (.slice am ms.length cm) ms
  ins : Own spentR (T + 1 + 1) 58 (P 3) wr (.slice ai is.length ci) is
  outs : Own outR (T + 1 + 1) 98 (P 4) wr (.slice ao os.length co) os
  notes : Own noteR (T + 1 + 1) 56 (P 5) wr (.slice an ns.length cn) ns
  kept : Kept (fun k => ¬ F k) w wr
theorem BuAt.move {F S : Nat → Prop} {w : World} {p : Nat} {r : RuM} {q : ReqM} {ia oa : Option Addr} {ic oc : Nat} {T : Nat} {P : Nat → Nat → Prop} {m1 : OrM} {ms : List Int} {is : List SpentM} {os : List OutM} {ns : List NoteM} {am ai ao an : Option Addr} {cm ci co cn : Nat} {wr : World} {K : Nat → Prop} {w2 : World} (h : BuAt F S w p r q ia oa ic oc T P m1 ms is os ns am ai ao an cm ci co cn wr) (hk : Kept K wr w2) (hbox : ∀ k, w.heap.size ≤ k → k ≤ T + 1 → K k) (hlo : ∀ k, k < w.heap.size → ¬ F k → K k) (hrow : ∀ i k, 2 ≤ i → P i k → K k) (ho : OrG (P 1) p w2 m1) : BuAt F S w p r q ia oa ic oc T P m1 ms is os ns am ai ao an cm ci co cn w2 := by
  have hl := h.lay
  exact ⟨h.hF, h.hS, h.lay, box_kept hk h.rules (hbox _ (by omega) (by omega)), box_kept hk h.req (hbox _ (by omega) (by omega)), box_kept hk h.rt (hbox _ (by omega) (by omega)), box_kept hk h.rw (hbox _ (by omega) (by omega)), box_kept hk h.tx (hbox _ (by omega) (by omega)), box_kept hk h.wit (hbox _ (by omega) (by omega)),
    h.cols.size hk.size, ho, ⟨spentsR.keep h.rin.ins (hk.mono fun k _ hs => hlo k (h.hS k hs).1 (h.hS k hs).2), paysR.keep h.rin.outs (hk.mono fun k _ hs => hlo k (h.hS k hs).1 (h.hS k hs).2)⟩,
    h.marks.keep (hk.mono fun k _ hp => hrow 2 k (by omega) hp), h.ins.keep (hk.mono fun k _ hp => hrow 3 k (by omega) hp), h.outs.keep (hk.mono fun k _ hp => hrow 4 k (by omega) hp), h.notes.keep (hk.mono fun k _ hp => hrow 5 k (by omega) hp),
    h.kept.trans hk fun k hk2 hf => hlo k hk2 hf⟩
theorem BuAt.keepB {F S : Nat → Prop} {w : World} {p : Nat} {r : RuM} {q : ReqM} {ia oa : Option Addr} {ic oc : Nat} {T : Nat} {P : Nat → Nat → Prop} {m1 : OrM} {ms : List Int} {is : List SpentM} {os : List OutM} {ns : List NoteM} {am ai ao an : Option Addr} {cm ci co cn : Nat} {wr : World} {w2 : World} (h : BuAt F S w p r q ia oa ic oc T P m1 ms is os ns am ai ao an cm ci co cn wr) (hb : Below wr.heap.size wr w2) : BuAt F S w p r q ia oa ic oc T P m1 ms is os ns am ai ao an cm ci co cn w2 :=
  h.move (K := fun _ => True) (Kept.of_below hb) (fun _ _ _ => trivial) (fun _ _ _ => trivial) (fun _ _ _ _ => trivial) (h.orc.keepB hb)
theorem BuAt.sizeT {F S : Nat → Prop} {w : World} {p : Nat} {r : RuM} {q : ReqM} {ia oa : Option Addr} {ic oc : Nat} {T : Nat} {P : Nat → Nat → Prop} {m1 : OrM} {ms : List Int} {is : List SpentM} {os : List OutM} {ns : List NoteM} {am ai ao an : Option Addr} {cm ci co cn : Nat} {wr : World} (h : BuAt F S w p r q ia oa ic oc T P m1 ms is os ns am ai ao an cm ci co cn wr) : T + 1 + 1 ≤ wr.heap.size := box_lt h.wit
/-- New blocks of some kind. -/
theorem BuAt.recol {F S : Nat → Prop} {w : World} {p : Nat} {r : RuM} {q : ReqM} {ia oa : Option Addr} {ic oc : Nat} {T : Nat} {P : Nat → Nat → Prop} {m1 : OrM} {ms : List Int} {is : List SpentM} {os : List OutM} {ns : List NoteM} {am ai ao an : Option Addr} {cm ci co cn : Nat} {wr : World} {w2 : World} (h : BuAt F S w p r q ia oa ic oc T P m1 ms is os ns am ai ao an cm ci co cn wr) (hk : BuAt F S w p r q ia oa ic oc T P m1 ms is os ns am ai ao an cm ci co cn w2) (hs : wr.heap.size ≤ w2.heap.size) (i0 : Nat) (R : Nat → Prop) (hR : ∀ k, R k → wr.heap.size ≤ k ∧ k < w2.heap.size) : BuAt F S w p r q ia oa ic oc T (colAdd P i0 R) m1 ms is os ns am ai ao an cm ci co cn w2 :=
  ⟨hk.hF, hk.hS, hk.lay, hk.rules, hk.req, hk.rt, hk.rw, hk.tx, hk.wit, h.cols.add hs h.sizeT i0 R hR, hk.orc.mono fun _ _ h => .inl h, hk.rin, hk.marks.mono fun _ _ h => .inl h, hk.ins.mono fun _ _ h => .inl h, hk.outs.mono fun _ _ h => .inl h, hk.notes.mono fun _ _ h => .inl h, hk.kept⟩
/-- The oracle was asked. -/
theorem BuAt.ask {F S : Nat → Prop} {w : World} {p : Nat} {r : RuM} {q : ReqM} {ia oa : Option Addr} {ic oc : Nat} {T : Nat} {P : Nat → Nat → Prop} {m1 : OrM} {ms : List Int} {is : List SpentM} {os : List OutM} {ns : List NoteM} {am ai ao an : Option Addr} {cm ci co cn : Nat} {wr : World} {w2 : World} {m2 : OrM} {G : Nat → Prop} (h : BuAt F S w p r q ia oa ic oc T P m1 ms is os ns am ai ao an cm ci co cn wr) (hk : Kept (fun k => ¬ P 1 k) wr w2) (ho : OrG G p w2 m2) (hG : ∀ k, k < w2.heap.size → G k → P 1 k ∨ wr.heap.size ≤ k) : BuAt F S w p r q ia oa ic oc T (colAdd P 1 (fun k => G k ∧ wr.heap.size ≤ k ∧ k < w2.heap.size)) m2 ms is os ns am ai ao an cm ci co cn w2 := by
  have hl := h.lay
  have hbox : ∀ k, w.heap.size ≤ k → k ≤ T + 1 → ¬ P 1 k := fun k h1 h2 hp => by
    rcases h.cols.low 1 k hp with h3 | ⟨-, h3⟩
    · omega
    · have := h.hF k h3; omega
  have hlo : ∀ k, k < w.heap.size → ¬ F k → ¬ P 1 k := fun k h1 h2 hp => by
    rcases h.cols.low 1 k hp with h3 | ⟨-, h3⟩
    · omega
    · exact h2 h3
  have hrow : ∀ i k, 2 ≤ i → P i k → ¬ P 1 k := fun i k hi h1 h2 => by have := h.cols.one i 1 k h1 h2; omega
  exact ⟨h.hF, h.hS, h.lay, box_kept hk h.rules (hbox _ (by omega) (by omega)), box_kept hk h.req (hbox _ (by omega) (by omega)), box_kept hk h.rt (hbox _ (by omega) (by omega)), box_kept hk h.rw (hbox _ (by omega) (by omega)), box_kept hk h.tx (hbox _ (by omega) (by omega)), box_kept hk h.wit (hbox _ (by omega) (by omega)),
    h.cols.add hk.size h.sizeT 1 _ (fun k hk => ⟨hk.2.1, hk.2.2⟩), ho.mono fun k hk hg => (hG k hk hg).imp id fun h => ⟨rfl, hg, h, hk⟩, ⟨spentsR.keep h.rin.ins (hk.mono fun k _ hs => hlo k (h.hS k hs).1 (h.hS k hs).2), paysR.keep h.rin.outs (hk.mono fun k _ hs => hlo k (h.hS k hs).1 (h.hS k hs).2)⟩,
    (h.marks.keep (hk.mono fun k _ hp => hrow 2 k (by omega) hp)).mono fun _ _ h => .inl h, (h.ins.keep (hk.mono fun k _ hp => hrow 3 k (by omega) hp)).mono fun _ _ h => .inl h, (h.outs.keep (hk.mono fun k _ hp => hrow 4 k (by omega) hp)).mono fun _ _ h => .inl h, (h.notes.keep (hk.mono fun k _ hp => hrow 5 k (by omega) hp)).mono fun _ _ h => .inl h,
    h.kept.trans hk fun k hk2 hf => hlo k hk2 hf⟩
theorem BuAt.push_marks {F S : Nat → Prop} {w : World} {p : Nat} {r : RuM} {q : ReqM} {ia oa : Option Addr} {ic oc : Nat} {T : Nat} {P : Nat → Nat → Prop} {m1 : OrM} {ms : List Int} {is : List SpentM} {os : List OutM} {ns : List NoteM} {am ai ao an : Option Addr} {cm ci co cn : Nat} {wr : World} {w5 : World} {y : Int} {a5 : Option Addr} {c5 : Nat} (h : BuAt F S w p r q ia oa ic oc T P m1 ms is os ns am ai ao an cm ci co cn wr) (ho5 : Own u64R (T + 1 + 1) 24 (fun k => P 2 k ∨ wr.heap.size ≤ k) w5 (.slice a5 (ms ++ [y]).length c5) (ms ++ [y])) (hk5 : Kept (fun k => (Value.slice am ms.length cm).ownBlock ≠ some k) wr w5) :
    BuAt F S w p r q ia oa ic oc T (colAdd P 2 (fun k => wr.heap.size ≤ k ∧ k < w5.heap.size)) m1 (ms ++ [y]) is os ns a5 ai ao an c5 ci co cn (w5.setCell ⟨T, 1, none⟩ (.slice a5 (ms ++ [y]).length c5)) := by
  have hl := h.lay
  have hown : ∀ k, (Value.slice am ms.length cm).ownBlock = some k → P 2 k := fun k hk => own_free h.marks hk
  have hk : Kept (fun k => k ≠ T ∧ (Value.slice am ms.length cm).ownBlock ≠ some k) wr (w5.setCell ⟨T, 1, none⟩ (.slice a5 (ms ++ [y]).length c5)) := (hk5.mono (S' := fun k => k ≠ T ∧ (Value.slice am ms.length cm).ownBlock ≠ some k) fun _ _ h => h.2).trans ((Kept.refl (fun k => k ≠ T ∧ (Value.slice am ms.length cm).ownBlock ≠ some k) _).setCell (fun _ h => h.1 rfl) _) fun _ _ h => h
  have hbox : ∀ k, w.heap.size ≤ k → k ≤ T + 1 → k ≠ T → k ≠ T ∧ (Value.slice am ms.length cm).ownBlock ≠ some k := fun k h1 h2 h3 => ⟨h3, fun e => by
    rcases h.cols.low 2 k (hown k e) with h4 | ⟨h4, -⟩ <;> omega⟩
  have hlo : ∀ k, k < w.heap.size → ¬ F k → k ≠ T ∧ (Value.slice am ms.length cm).ownBlock ≠ some k := fun k h1 h2 => ⟨by omega, fun e => by
    rcases h.cols.low 2 k (hown k e) with h4 | ⟨h4, -⟩ <;> omega⟩
  have hrow : ∀ j k, 1 ≤ j → j ≠ 2 → P j k → k ≠ T ∧ (Value.slice am ms.length cm).ownBlock ≠ some k := fun j k h1 h2 hp => ⟨fun e => by
    rcases h.cols.low j k hp with h4 | ⟨h4, h5⟩
    · omega
    · have := h.hF k h5; omega, fun e => h2 (h.cols.one j 2 k hp (hown k e))⟩
  have hs5 : (w5.setCell ⟨T, 1, none⟩ (.slice a5 (ms ++ [y]).length c5)).heap.size = w5.heap.size := World.size_setCell ..
  have hbT : w5.heap[T]? = _ := box_kept hk5 h.tx (fun e => by
    rcases h.cols.low 2 _ (hown _ e) with h4 | ⟨h4, -⟩ <;> omega)
  have hsz := hk5.size
  have hn : Own u64R (T + 1 + 1) 24 (colAdd P 2 (fun k => wr.heap.size ≤ k ∧ k < w5.heap.size) 2) (w5.setCell ⟨T, 1, none⟩ (.slice a5 (ms ++ [y]).length c5)) (.slice a5 (ms ++ [y]).length c5) (ms ++ [y]) :=
    (ho5.keep ((Kept.refl (fun k => k ≠ T) _).setCell (fun _ h => h rfl) _ |>.mono fun k _ hp e => by
      rcases hp with hp | hp
      · rcases h.cols.low 2 k hp with h4 | ⟨h4, -⟩ <;> omega
      · have := h.sizeT; omega)).mono fun k hk hp => hp.imp id fun hp => ⟨rfl, hp, by rw [hs5] at hk; exact hk⟩
  exact ⟨h.hF, h.hS, h.lay, box_kept hk h.rules (hbox _ (by omega) (by omega) (by omega)), box_kept hk h.req (hbox _ (by omega) (by omega) (by omega)), box_kept hk h.rt (hbox _ (by omega) (by omega) (by omega)), box_kept hk h.rw (hbox _ (by omega) (by omega) (by omega)), box_set hbT, box_kept hk h.wit (hbox _ (by omega) (by omega) (by omega)),
    h.cols.add (by rw [hs5]; exact hsz) h.sizeT 2 _ (fun k hk => ⟨hk.1, by rw [hs5]; exact hk.2⟩), (h.orc.keep (hk.mono fun k _ hp => hrow 1 k (by omega) (by omega) hp)).mono fun _ _ h => .inl h, ⟨spentsR.keep h.rin.ins (hk.mono fun k _ hs => hlo k (h.hS k hs).1 (h.hS k hs).2), paysR.keep h.rin.outs (hk.mono fun k _ hs => hlo k (h.hS k hs).1 (h.hS k hs).2)⟩,
    hn, ((h.ins.keep (hk.mono fun k _ hp => hrow 3 k (by omega) (by omega) hp)).mono fun _ _ h => .inl h), ((h.outs.keep (hk.mono fun k _ hp => hrow 4 k (by omega) (by omega) hp)).mono fun _ _ h => .inl h), ((h.notes.keep (hk.mono fun k _ hp => hrow 5 k (by omega) (by omega) hp)).mono fun _ _ h => .inl h),
    h.kept.trans hk fun k hk2 hf => hlo k hk2 hf⟩
theorem BuAt.push_ins {F S : Nat → Prop} {w : World} {p : Nat} {r : RuM} {q : ReqM} {ia oa : Option Addr} {ic oc : Nat} {T : Nat} {P : Nat → Nat → Prop} {m1 : OrM} {ms : List Int} {is : List SpentM} {os : List OutM} {ns : List NoteM} {am ai ao an : Option Addr} {cm ci co cn : Nat} {wr : World} {w5 : World} {y : SpentM} {a5 : Option Addr} {c5 : Nat} (h : BuAt F S w p r q ia oa ic oc T P m1 ms is os ns am ai ao an cm ci co cn wr) (ho5 : Own spentR (T + 1 + 1) 58 (fun k => P 3 k ∨ wr.heap.size ≤ k) w5 (.slice a5 (is ++ [y]).length c5) (is ++ [y])) (hk5 : Kept (fun k => (Value.slice ai is.length ci).ownBlock ≠ some k) wr w5) :
    BuAt F S w p r q ia oa ic oc T (colAdd P 3 (fun k => wr.heap.size ≤ k ∧ k < w5.heap.size)) m1 ms (is ++ [y]) os ns am a5 ao an cm c5 co cn (w5.setCell ⟨(T + 1), 0, none⟩ (.slice a5 (is ++ [y]).length c5)) := by
  have hl := h.lay
  have hown : ∀ k, (Value.slice ai is.length ci).ownBlock = some k → P 3 k := fun k hk => own_free h.ins hk
  have hk : Kept (fun k => k ≠ (T + 1) ∧ (Value.slice ai is.length ci).ownBlock ≠ some k) wr (w5.setCell ⟨(T + 1), 0, none⟩ (.slice a5 (is ++ [y]).length c5)) := (hk5.mono (S' := fun k => k ≠ (T + 1) ∧ (Value.slice ai is.length ci).ownBlock ≠ some k) fun _ _ h => h.2).trans ((Kept.refl (fun k => k ≠ (T + 1) ∧ (Value.slice ai is.length ci).ownBlock ≠ some k) _).setCell (fun _ h => h.1 rfl) _) fun _ _ h => h
  have hbox : ∀ k, w.heap.size ≤ k → k ≤ T + 1 → k ≠ (T + 1) → k ≠ (T + 1) ∧ (Value.slice ai is.length ci).ownBlock ≠ some k := fun k h1 h2 h3 => ⟨h3, fun e => by
    rcases h.cols.low 3 k (hown k e) with h4 | ⟨h4, -⟩ <;> omega⟩
  have hlo : ∀ k, k < w.heap.size → ¬ F k → k ≠ (T + 1) ∧ (Value.slice ai is.length ci).ownBlock ≠ some k := fun k h1 h2 => ⟨by omega, fun e => by
    rcases h.cols.low 3 k (hown k e) with h4 | ⟨h4, -⟩ <;> omega⟩
  have hrow : ∀ j k, 1 ≤ j → j ≠ 3 → P j k → k ≠ (T + 1) ∧ (Value.slice ai is.length ci).ownBlock ≠ some k := fun j k h1 h2 hp => ⟨fun e => by
    rcases h.cols.low j k hp with h4 | ⟨h4, h5⟩
    · omega
    · have := h.hF k h5; omega, fun e => h2 (h.cols.one j 3 k hp (hown k e))⟩
  have hs5 : (w5.setCell ⟨(T + 1), 0, none⟩ (.slice a5 (is ++ [y]).length c5)).heap.size = w5.heap.size := World.size_setCell ..
  have hbT : w5.heap[(T + 1)]? = _ := box_kept hk5 h.wit (fun e => by
    rcases h.cols.low 3 _ (hown _ e) with h4 | ⟨h4, -⟩ <;> omega)
  have hsz := hk5.size
  have hn : Own spentR (T + 1 + 1) 58 (colAdd P 3 (fun k => wr.heap.size ≤ k ∧ k < w5.heap.size) 3) (w5.setCell ⟨(T + 1), 0, none⟩ (.slice a5 (is ++ [y]).length c5)) (.slice a5 (is ++ [y]).length c5) (is ++ [y]) :=
    (ho5.keep ((Kept.refl (fun k => k ≠ (T + 1)) _).setCell (fun _ h => h rfl) _ |>.mono fun k _ hp e => by
      rcases hp with hp | hp
      · rcases h.cols.low 3 k hp with h4 | ⟨h4, -⟩ <;> omega
      · have := h.sizeT; omega)).mono fun k hk hp => hp.imp id fun hp => ⟨rfl, hp, by rw [hs5] at hk; exact hk⟩
  exact ⟨h.hF, h.hS, h.lay, box_kept hk h.rules (hbox _ (by omega) (by omega) (by omega)), box_kept hk h.req (hbox _ (by omega) (by omega) (by omega)), box_kept hk h.rt (hbox _ (by omega) (by omega) (by omega)), box_kept hk h.rw (hbox _ (by omega) (by omega) (by omega)), box_kept hk h.tx (hbox _ (by omega) (by omega) (by omega)), box_set hbT,
    h.cols.add (by rw [hs5]; exact hsz) h.sizeT 3 _ (fun k hk => ⟨hk.1, by rw [hs5]; exact hk.2⟩), (h.orc.keep (hk.mono fun k _ hp => hrow 1 k (by omega) (by omega) hp)).mono fun _ _ h => .inl h, ⟨spentsR.keep h.rin.ins (hk.mono fun k _ hs => hlo k (h.hS k hs).1 (h.hS k hs).2), paysR.keep h.rin.outs (hk.mono fun k _ hs => hlo k (h.hS k hs).1 (h.hS k hs).2)⟩,
    ((h.marks.keep (hk.mono fun k _ hp => hrow 2 k (by omega) (by omega) hp)).mono fun _ _ h => .inl h), hn, ((h.outs.keep (hk.mono fun k _ hp => hrow 4 k (by omega) (by omega) hp)).mono fun _ _ h => .inl h), ((h.notes.keep (hk.mono fun k _ hp => hrow 5 k (by omega) (by omega) hp)).mono fun _ _ h => .inl h),
    h.kept.trans hk fun k hk2 hf => hlo k hk2 hf⟩
theorem BuAt.push_outs {F S : Nat → Prop} {w : World} {p : Nat} {r : RuM} {q : ReqM} {ia oa : Option Addr} {ic oc : Nat} {T : Nat} {P : Nat → Nat → Prop} {m1 : OrM} {ms : List Int} {is : List SpentM} {os : List OutM} {ns : List NoteM} {am ai ao an : Option Addr} {cm ci co cn : Nat} {wr : World} {w5 : World} {y : OutM} {a5 : Option Addr} {c5 : Nat} (h : BuAt F S w p r q ia oa ic oc T P m1 ms is os ns am ai ao an cm ci co cn wr) (ho5 : Own outR (T + 1 + 1) 98 (fun k => P 4 k ∨ wr.heap.size ≤ k) w5 (.slice a5 (os ++ [y]).length c5) (os ++ [y])) (hk5 : Kept (fun k => (Value.slice ao os.length co).ownBlock ≠ some k) wr w5) :
    BuAt F S w p r q ia oa ic oc T (colAdd P 4 (fun k => wr.heap.size ≤ k ∧ k < w5.heap.size)) m1 ms is (os ++ [y]) ns am ai a5 an cm ci c5 cn (w5.setCell ⟨T, 2, none⟩ (.slice a5 (os ++ [y]).length c5)) := by
  have hl := h.lay
  have hown : ∀ k, (Value.slice ao os.length co).ownBlock = some k → P 4 k := fun k hk => own_free h.outs hk
  have hk : Kept (fun k => k ≠ T ∧ (Value.slice ao os.length co).ownBlock ≠ some k) wr (w5.setCell ⟨T, 2, none⟩ (.slice a5 (os ++ [y]).length c5)) := (hk5.mono (S' := fun k => k ≠ T ∧ (Value.slice ao os.length co).ownBlock ≠ some k) fun _ _ h => h.2).trans ((Kept.refl (fun k => k ≠ T ∧ (Value.slice ao os.length co).ownBlock ≠ some k) _).setCell (fun _ h => h.1 rfl) _) fun _ _ h => h
  have hbox : ∀ k, w.heap.size ≤ k → k ≤ T + 1 → k ≠ T → k ≠ T ∧ (Value.slice ao os.length co).ownBlock ≠ some k := fun k h1 h2 h3 => ⟨h3, fun e => by
    rcases h.cols.low 4 k (hown k e) with h4 | ⟨h4, -⟩ <;> omega⟩
  have hlo : ∀ k, k < w.heap.size → ¬ F k → k ≠ T ∧ (Value.slice ao os.length co).ownBlock ≠ some k := fun k h1 h2 => ⟨by omega, fun e => by
    rcases h.cols.low 4 k (hown k e) with h4 | ⟨h4, -⟩ <;> omega⟩
  have hrow : ∀ j k, 1 ≤ j → j ≠ 4 → P j k → k ≠ T ∧ (Value.slice ao os.length co).ownBlock ≠ some k := fun j k h1 h2 hp => ⟨fun e => by
    rcases h.cols.low j k hp with h4 | ⟨h4, h5⟩
    · omega
    · have := h.hF k h5; omega, fun e => h2 (h.cols.one j 4 k hp (hown k e))⟩
  have hs5 : (w5.setCell ⟨T, 2, none⟩ (.slice a5 (os ++ [y]).length c5)).heap.size = w5.heap.size := World.size_setCell ..
  have hbT : w5.heap[T]? = _ := box_kept hk5 h.tx (fun e => by
    rcases h.cols.low 4 _ (hown _ e) with h4 | ⟨h4, -⟩ <;> omega)
  have hsz := hk5.size
  have hn : Own outR (T + 1 + 1) 98 (colAdd P 4 (fun k => wr.heap.size ≤ k ∧ k < w5.heap.size) 4) (w5.setCell ⟨T, 2, none⟩ (.slice a5 (os ++ [y]).length c5)) (.slice a5 (os ++ [y]).length c5) (os ++ [y]) :=
    (ho5.keep ((Kept.refl (fun k => k ≠ T) _).setCell (fun _ h => h rfl) _ |>.mono fun k _ hp e => by
      rcases hp with hp | hp
      · rcases h.cols.low 4 k hp with h4 | ⟨h4, -⟩ <;> omega
      · have := h.sizeT; omega)).mono fun k hk hp => hp.imp id fun hp => ⟨rfl, hp, by rw [hs5] at hk; exact hk⟩
  exact ⟨h.hF, h.hS, h.lay, box_kept hk h.rules (hbox _ (by omega) (by omega) (by omega)), box_kept hk h.req (hbox _ (by omega) (by omega) (by omega)), box_kept hk h.rt (hbox _ (by omega) (by omega) (by omega)), box_kept hk h.rw (hbox _ (by omega) (by omega) (by omega)), box_set hbT, box_kept hk h.wit (hbox _ (by omega) (by omega) (by omega)),
    h.cols.add (by rw [hs5]; exact hsz) h.sizeT 4 _ (fun k hk => ⟨hk.1, by rw [hs5]; exact hk.2⟩), (h.orc.keep (hk.mono fun k _ hp => hrow 1 k (by omega) (by omega) hp)).mono fun _ _ h => .inl h, ⟨spentsR.keep h.rin.ins (hk.mono fun k _ hs => hlo k (h.hS k hs).1 (h.hS k hs).2), paysR.keep h.rin.outs (hk.mono fun k _ hs => hlo k (h.hS k hs).1 (h.hS k hs).2)⟩,
    ((h.marks.keep (hk.mono fun k _ hp => hrow 2 k (by omega) (by omega) hp)).mono fun _ _ h => .inl h), ((h.ins.keep (hk.mono fun k _ hp => hrow 3 k (by omega) (by omega) hp)).mono fun _ _ h => .inl h), hn, ((h.notes.keep (hk.mono fun k _ hp => hrow 5 k (by omega) (by omega) hp)).mono fun _ _ h => .inl h),
    h.kept.trans hk fun k hk2 hf => hlo k hk2 hf⟩
theorem BuAt.push_notes {F S : Nat → Prop} {w : World} {p : Nat} {r : RuM} {q : ReqM} {ia oa : Option Addr} {ic oc : Nat} {T : Nat} {P : Nat → Nat → Prop} {m1 : OrM} {ms : List Int} {is : List SpentM} {os : List OutM} {ns : List NoteM} {am ai ao an : Option Addr} {cm ci co cn : Nat} {wr : World} {w5 : World} {y : NoteM} {a5 : Option Addr} {c5 : Nat} (h : BuAt F S w p r q ia oa ic oc T P m1 ms is os ns am ai ao an cm ci co cn wr) (ho5 : Own noteR (T + 1 + 1) 56 (fun k => P 5 k ∨ wr.heap.size ≤ k) w5 (.slice a5 (ns ++ [y]).length c5) (ns ++ [y])) (hk5 : Kept (fun k => (Value.slice an ns.length cn).ownBlock ≠ some k) wr w5) :
    BuAt F S w p r q ia oa ic oc T (colAdd P 5 (fun k => wr.heap.size ≤ k ∧ k < w5.heap.size)) m1 ms is os (ns ++ [y]) am ai ao a5 cm ci co c5 (w5.setCell ⟨(T + 1), 1, none⟩ (.slice a5 (ns ++ [y]).length c5)) := by
  have hl := h.lay
  have hown : ∀ k, (Value.slice an ns.length cn).ownBlock = some k → P 5 k := fun k hk => own_free h.notes hk
  have hk : Kept (fun k => k ≠ (T + 1) ∧ (Value.slice an ns.length cn).ownBlock ≠ some k) wr (w5.setCell ⟨(T + 1), 1, none⟩ (.slice a5 (ns ++ [y]).length c5)) := (hk5.mono (S' := fun k => k ≠ (T + 1) ∧ (Value.slice an ns.length cn).ownBlock ≠ some k) fun _ _ h => h.2).trans ((Kept.refl (fun k => k ≠ (T + 1) ∧ (Value.slice an ns.length cn).ownBlock ≠ some k) _).setCell (fun _ h => h.1 rfl) _) fun _ _ h => h
  have hbox : ∀ k, w.heap.size ≤ k → k ≤ T + 1 → k ≠ (T + 1) → k ≠ (T + 1) ∧ (Value.slice an ns.length cn).ownBlock ≠ some k := fun k h1 h2 h3 => ⟨h3, fun e => by
    rcases h.cols.low 5 k (hown k e) with h4 | ⟨h4, -⟩ <;> omega⟩
  have hlo : ∀ k, k < w.heap.size → ¬ F k → k ≠ (T + 1) ∧ (Value.slice an ns.length cn).ownBlock ≠ some k := fun k h1 h2 => ⟨by omega, fun e => by
    rcases h.cols.low 5 k (hown k e) with h4 | ⟨h4, -⟩ <;> omega⟩
  have hrow : ∀ j k, 1 ≤ j → j ≠ 5 → P j k → k ≠ (T + 1) ∧ (Value.slice an ns.length cn).ownBlock ≠ some k := fun j k h1 h2 hp => ⟨fun e => by
    rcases h.cols.low j k hp with h4 | ⟨h4, h5⟩
    · omega
    · have := h.hF k h5; omega, fun e => h2 (h.cols.one j 5 k hp (hown k e))⟩
  have hs5 : (w5.setCell ⟨(T + 1), 1, none⟩ (.slice a5 (ns ++ [y]).length c5)).heap.size = w5.heap.size := World.size_setCell ..
  have hbT : w5.heap[(T + 1)]? = _ := box_kept hk5 h.wit (fun e => by
    rcases h.cols.low 5 _ (hown _ e) with h4 | ⟨h4, -⟩ <;> omega)
  have hsz := hk5.size
  have hn : Own noteR (T + 1 + 1) 56 (colAdd P 5 (fun k => wr.heap.size ≤ k ∧ k < w5.heap.size) 5) (w5.setCell ⟨(T + 1), 1, none⟩ (.slice a5 (ns ++ [y]).length c5)) (.slice a5 (ns ++ [y]).length c5) (ns ++ [y]) :=
    (ho5.keep ((Kept.refl (fun k => k ≠ (T + 1)) _).setCell (fun _ h => h rfl) _ |>.mono fun k _ hp e => by
      rcases hp with hp | hp
      · rcases h.cols.low 5 k hp with h4 | ⟨h4, -⟩ <;> omega
      · have := h.sizeT; omega)).mono fun k hk hp => hp.imp id fun hp => ⟨rfl, hp, by rw [hs5] at hk; exact hk⟩
  exact ⟨h.hF, h.hS, h.lay, box_kept hk h.rules (hbox _ (by omega) (by omega) (by omega)), box_kept hk h.req (hbox _ (by omega) (by omega) (by omega)), box_kept hk h.rt (hbox _ (by omega) (by omega) (by omega)), box_kept hk h.rw (hbox _ (by omega) (by omega) (by omega)), box_kept hk h.tx (hbox _ (by omega) (by omega) (by omega)), box_set hbT,
    h.cols.add (by rw [hs5]; exact hsz) h.sizeT 5 _ (fun k hk => ⟨hk.1, by rw [hs5]; exact hk.2⟩), (h.orc.keep (hk.mono fun k _ hp => hrow 1 k (by omega) (by omega) hp)).mono fun _ _ h => .inl h, ⟨spentsR.keep h.rin.ins (hk.mono fun k _ hs => hlo k (h.hS k hs).1 (h.hS k hs).2), paysR.keep h.rin.outs (hk.mono fun k _ hs => hlo k (h.hS k hs).1 (h.hS k hs).2)⟩,
    ((h.marks.keep (hk.mono fun k _ hp => hrow 2 k (by omega) (by omega) hp)).mono fun _ _ h => .inl h), ((h.ins.keep (hk.mono fun k _ hp => hrow 3 k (by omega) (by omega) hp)).mono fun _ _ h => .inl h), ((h.outs.keep (hk.mono fun k _ hp => hrow 4 k (by omega) (by omega) hp)).mono fun _ _ h => .inl h), hn,
    h.kept.trans hk fun k hk2 hf => hlo k hk2 hf⟩
end Go.Proofs.YtdjcdejapkkcmaaGreatDoor
/- BuilderHides in plain Lean: where each question was new, the transaction is a function of the state and of what is public. -/
namespace Go.Proofs.YtdjcdejapkkcmaaGreatDoor
open Go.ChangeShapes Go.WideShapes Go.ChangeAt Go.RowKit

theorem used_none {k : Nat} (m : OrM) (hk : 0 < k) {p : Prop} : Used k m m p := ((Used.zero m trivial).up hk).mono fun _ _ h => h.elim
theorem ask_used (m : OrM) (label : Int) (l : List Int) : Used 1 m (m.ask label l).2 ((m.ask label l).1 = drawZ (nextS m.st)) := by
  unfold OrM.ask
  split
  · split
    · exact used_none m (by omega)
    · split
      · refine ⟨rfl, fun _ => Nat.le_refl _, Nat.le_add_right _ _, fun _ _ => ⟨rfl, rfl⟩, ?_⟩
        show m.qs.length ≤ (m.qs ++ [_]).length
        rw [List.length_append]
        omega
      · rename_i hi
        refine ⟨rfl, fun h => absurd h hi, Nat.le_refl _, fun h => absurd h hi, ?_⟩
        show m.qs.length ≤ (m.qs ++ [_]).length
        rw [List.length_append]
        omega
  · exact used_none m (by omega)
theorem mark_used (m : OrM) (key rho : Int) : Used 1 m (m.mark key rho).2 ((m.mark key rho).1 = drawZ (nextS m.st)) := by
  unfold OrM.mark
  split
  · exact ask_used _ _ _
  · exact used_none m (by omega)
theorem commit_used (m : OrM) (n : NoteM) : Used 1 m (m.commit n).2 ((m.commit n).1 = drawZ (nextS m.st)) := by
  unfold OrM.commit
  split
  · exact ask_used _ _ _
  · exact used_none m (by omega)
theorem expo_used (m : OrM) (sd : Int) (ix : Nat) : Used 1 m (m.expo sd ix).2 ((m.expo sd ix).1 = drawZ (nextS m.st)) := by
  unfold OrM.expo
  split
  · exact used_draw 1 rfl
  · exact used_none m (by omega)
theorem env_used (m : OrM) (p0 p1 : Int) (n : NoteM) (e : Int) : Used 3 m (m.env p0 p1 n e).2.2 ((m.env p0 p1 n e).1 = pubP e ∧ (m.env p0 p1 n e).2.1 = drawsL m.st 3) := by
  unfold OrM.env OrM.seal
  split
  · split
    · exact used_draw 3 ⟨rfl, rfl⟩
    · rename_i hi
      exact ⟨rfl, fun h => absurd h hi, Nat.le_refl _, fun h => absurd h hi, Nat.le_refl _⟩
  · exact used_none m (by omega)
theorem make_used (m : OrM) (y : PayM) (og sd : Int) (ix : Nat) : Used 5 m (m.make y og sd ix).2 ((m.make y og sd ix).1 = outD m.st) := by
  unfold OrM.make
  have h1 := commit_used m (outN y og sd ix)
  dsimp only
  generalize m.commit (outN y og sd ix) = a at h1 ⊢
  obtain ⟨c, m1⟩ := a
  have h2 := expo_used m1 sd ix
  dsimp only at h1 h2 ⊢
  generalize m1.expo sd ix = b at h2 ⊢
  obtain ⟨e, m2⟩ := b
  have h3 := env_used m2 y.adr.p0 y.adr.p1 (outN y og sd ix) e
  dsimp only at h2 h3 ⊢
  generalize m2.env y.adr.p0 y.adr.p1 (outN y og sd ix) e = g at h3 ⊢
  obtain ⟨pt, cl, m3⟩ := g
  dsimp only at h3 ⊢
  refine Used.trans (Used.trans h1 h2 (r := c = drawZ (nextS m.st) ∧ e = drawZ (nextS (stN m.st 1))) (fun _ hs p q => ⟨p, by rw [q, hs]⟩)) h3 (fun _ hs p q => ?_)
  obtain ⟨p1, p2⟩ := p
  obtain ⟨q1, q2⟩ := q
  unfold outD
  rw [p1, q1, q2, p2, hs]
theorem markL_used (m : OrM) (l : List SpentM) : ∀ k, k ≤ l.length → Used k m (markL m l k).2.2 ((markL m l k).1 = drawsL m.st k)
  | 0, _ => Used.zero m rfl
  | k + 1, hk => by
    have ih := markL_used m l k (by omega)
    rw [markL, List.getElem?_eq_getElem (show k < l.length by omega)]
    simp only
    refine Used.trans ih (mark_used _ _ _) (fun _ hs p q => ?_)
    rw [p, q, hs]
    rfl
theorem markL_len (m : OrM) (l : List SpentM) : ∀ k, k ≤ l.length → (markL m l k).1.length = k
  | 0, _ => rfl
  | k + 1, hk => by
    have ih := markL_len m l k (by omega)
    rw [markL, List.getElem?_eq_getElem (show k < l.length by omega)]
    simp only [List.length_append, ih, List.length_cons, List.length_nil]
/-- The outputs of fresh draws. -/
def outsD (st : Int) : Nat → List OutM
  | 0 => []
  | k + 1 => outsD st k ++ [outD (stN st (5 * k))]
theorem outL_used (m : OrM) (og sd : Int) (l : List PayM) : ∀ k, k ≤ l.length → Used (5 * k) m (outL m og sd l k).2.2 ((outL m og sd l k).1 = outsD m.st k)
  | 0, _ => Used.zero m rfl
  | k + 1, hk => by
    have ih := outL_used m og sd l k (by omega)
    rw [outL, List.getElem?_eq_getElem (show k < l.length by omega)]
    simp only
    refine Used.trans (k := 5 * k) (j := 5) ih (make_used _ _ _ _ _) (fun _ hs p q => ?_)
    rw [p, q, hs]
    rfl
theorem outL_len (m : OrM) (og sd : Int) (l : List PayM) : ∀ k, k ≤ l.length → (outL m og sd l k).1.length = k
  | 0, _ => rfl
  | k + 1, hk => by
    have ih := outL_len m og sd l k (by omega)
    rw [outL, List.getElem?_eq_getElem (show k < l.length by omega)]
    simp only [List.length_append, ih, List.length_cons, List.length_nil]
/-- The transaction of fresh draws. -/
def txD (st : Int) (q : ReqM) (i o : Nat) : TxM :=
  ⟨q.anchor, drawsL st i, outsD (stN st i) o, q.dep, q.wd, q.fee, q.acc, q.nonce, q.exp, digsAll (drawsL (stN st (i + 5 * o)) (8 + 4 * (i + o)))⟩
theorem build_hides {m m2 : OrM} {r : RuM} {D : Nat} {q : ReqM} {t : TxM} {x : WitM} (hi : m.ideal = true) (hr : r.mode ≠ 2) (h : buildG m r D q = (0, t, x, m2)) (hn : m2.n = m.n + q.ins.length + 5 * q.outs.length + 8 + 4 * (q.ins.length + q.outs.length)) : t = txD m.st q q.ins.length q.outs.length := by
  have u1 := markL_used m q.ins q.ins.length (Nat.le_refl _)
  have l1 := markL_len m q.ins q.ins.length (Nat.le_refl _)
  unfold buildG at h
  simp only at h
  generalize markL m q.ins q.ins.length = a at h u1 l1
  obtain ⟨ms, d, m1⟩ := a
  simp only at h u1 l1
  have u2 := outL_used m1 (originS ms q.acc q.nonce) q.seed q.outs q.outs.length (Nat.le_refl _)
  have l2 := outL_len m1 (originS ms q.acc q.nonce) q.seed q.outs q.outs.length (Nat.le_refl _)
  generalize outL m1 (originS ms q.acc q.nonce) q.seed q.outs q.outs.length = b at h u2 l2
  obtain ⟨os, ns, m3⟩ := b
  simp only at h u2 l2
  have u3 := Used.trans u1 u2 (r := ms = drawsL m.st q.ins.length ∧ os = outsD (stN m.st q.ins.length) q.outs.length) (fun _ hs p q => ⟨p, by rw [q, hs]⟩)
  split at h
  · split at h
    · split at h
      · split at h
        · rename_i hg
          unfold proveG at h hg
          split at hg
          · split at hg
            · rename_i hv hrel
              rw [if_pos hv, if_pos hrel, if_neg hr] at h
              simp only [Prod.mk.injEq, true_and] at h
              obtain ⟨rfl, -, rfl⟩ := h
              have hp : proofN (stOf D ⟨q.anchor, ms, os, q.dep, q.wd, q.fee, q.acc, q.nonce, q.exp, []⟩ (bindS ⟨q.anchor, ms, os, q.dep, q.wd, q.fee, q.acc, q.nonce, q.exp, []⟩)) = 8 + 4 * (q.ins.length + q.outs.length) := by
                unfold proofN stOf
                simp only [List.length_map, l1, l2]
              rw [hp] at hn ⊢
              have hn3 : m3.n = m.n + (q.ins.length + 5 * q.outs.length) := by
                have : m3.n + (8 + 4 * (q.ins.length + q.outs.length)) = m.n + q.ins.length + 5 * q.outs.length + 8 + 4 * (q.ins.length + q.outs.length) := hn
                omega
              obtain ⟨hs, e1, e2⟩ := u3.just hi hn3
              unfold txD
              rw [e1, e2, hs]
            · exact absurd hg (by simp)
          · exact absurd hg (by simp)
        · rename_i hg
          simp only [Prod.mk.injEq] at h
          exact absurd h.1 hg
      · simp at h
    · simp at h
  · rename_i he
    simp only [Prod.mk.injEq] at h
    exact absurd h.1 he
end Go.Proofs.YtdjcdejapkkcmaaGreatDoor
/- The reference's note tree of layer 37: Empty, Node, Root, Path. -/
namespace Go.Proofs.YtdjcdejapkkcmaaGreatDoor
open Go.ChangeShapes Go.WideShapes Go.ChangeAt Go.RowKit Go.Sort

def emptyT : Nat → Int
  | 0 => hashS 6 []
  | k + 1 => hashS 6 [emptyT k, emptyT k]
theorem emptyT_ok : ∀ k, okU (emptyT k)
  | 0 => hashS_ok _ _
  | _ + 1 => hashS_ok _ _
/-- The digest of the node with this number on this level. -/
def nodeT (l : List Int) : Nat → Nat → Int
  | 0, n => if l.length ≤ n then emptyT 0 else l.getD n 0
  | k + 1, n => if l.length ≤ n * 2 ^ (k + 1) then emptyT (k + 1) else hashS 6 [nodeT l k (2 * n), nodeT l k (2 * n + 1)]
theorem nodeT_ok {l : List Int} (h : ∀ x ∈ l, okU x) : ∀ k n, okU (nodeT l k n)
  | 0, n => by
    unfold nodeT
    split
    · exact emptyT_ok _
    · rename_i hn
      rw [List.getD_eq_getElem?_getD, List.getElem?_eq_getElem (by omega)]
      exact h _ (List.getElem_mem _)
  | k + 1, n => by
    unfold nodeT
    split
    · exact emptyT_ok _
    · exact hashS_ok _ _
set_option maxRecDepth 100000 in
set_option maxHeartbeats 1000000 in
theorem emptyT_any (w : World) (n : Nat) (hn : n ≤ 12) :
    Calls Tryz.prog 97 #[.int .i64 n] w fun e w' => e = .returned (.int .u64 (emptyT n)) ∧ Below w.heap.size w w' := by
  go_enter Tryz.func97, Tryz.ntmps97
  go_wp2_with fail
  refine (rHash_big 6 (by omega) (fun _ => True) w none 0 [] sliceR.nil (by simp)).mono ?_
  rintro e w1 ⟨rfl, hb1⟩
  go_wp2_with fail
  go_loopw [3, 4] (fun vd vi wr => ∃ k : Nat, k ≤ n ∧ vi = .int .i64 k ∧ vd = .int .u64 (emptyT k) ∧ Below w.heap.size w wr) (fun _ vi _ => n - (intOf vi).toNat)
  case atStart => exact ⟨0, Nat.zero_le _, rfl, rfl, hb1⟩
  case round =>
    obtain ⟨k, hk, rfl, rfl, hbr⟩ := hrel
    have HI := Lib.hid (emptyT_ok k)
    by_cases hlt : k < n
    · have HE : Hid (hashS 6 [emptyT k, emptyT k] = emptyT (k + 1)) := rfl
      generalize emptyT k = x at *
      have HX := Lib.hid (nums2 wr 24 HI.out HI.out)
      go_wp2_with fail
      refine (rHash_big 6 (by omega) (fun _ => True) _ _ 2 [x, x] HX.out (by simp)).mono ?_
      rintro e w3 ⟨rfl, hb3⟩
      have HB := Lib.hid (bnext (bnew hbr _) hb3)
      rw [HE.out]
      clear hb3
      go_wp2_with fail
      go_roundw
      case rel => exact ⟨k + 1, by omega, by go_num, rfl, HB.out⟩
      case measure => simp [intOf]; omega
    · obtain rfl : k = n := by omega
      clear HI
      obtain ⟨x, hx⟩ : ∃ x, emptyT k = x := ⟨_, rfl⟩
      have HE := Lib.hid hx
      rw [hx]
      clear hx
      go_wp2_with fail
      go_ret
      exact ⟨ret_int HE.out.symm, hbr⟩
theorem shl7 : ∀ (k : Fin 7) (n : Fin 65), wrap64 ((n.val : Int) * 2 ^ k.val) = ((n.val * 2 ^ k.val : Nat) : Int) := by decide +kernel
set_option maxRecDepth 100000 in
set_option maxHeartbeats 2000000 in
theorem node37_any (S : Nat → Prop) (a : Option Addr) (cap : Nat) (l : List Int) (hl : l.length ≤ 64) : ∀ (k n : Nat), k ≤ 6 → n ≤ 64 → ∀ (w : World), numsR.rel S w [.slice a l.length cap] l →
    Calls Tryz.prog 53 #[.slice a l.length cap, .int .i64 k, .int .i64 n] w fun e w' => e = .returned (.int .u64 (nodeT l k n)) ∧ Below w.heap.size w w'
  | 0, n, _, hn, w, h => by
    have H := Lib.hid h
    by_cases hlt : l.length ≤ n
    · have HV : Hid (nodeT l 0 n = emptyT 0) := by show _ = _; unfold nodeT; rw [if_pos hlt]
      have z1 : (l.length : Int) ≤ n := by omega
      clear h
      go_enter Tryz.func53, Tryz.ntmps53
      go_wp2_with fail
      refine (emptyT_any w 0 (by omega)).mono ?_
      rintro e w1 ⟨rfl, hb1⟩
      go_wp2_with fail
      go_ret
      rw [HV.out]
      exact ⟨rfl, hb1⟩
    · have hlt' : n < l.length := by omega
      have z1 : ¬ (l.length : Int) ≤ n := by omega
      have HV : Hid (nodeT l 0 n = l[n]) := by
        show _ = _
        unfold nodeT
        rw [if_neg hlt, List.getD_eq_getElem?_getD, List.getElem?_eq_getElem hlt']
        rfl
      obtain ⟨bb, off, rfl, hbl, n0, n1, hc⟩ := nums_at H.out n hlt'
      generalize l[n] = x at *
      clear h hlt
      go_enter Tryz.func53, Tryz.ntmps53
      go_wp2_with fail
      go_ret
      rw [HV.out]
      exact ⟨rfl, Below.refl _ _⟩
  | k + 1, n, hk, hn, w, h => by
    have H := Lib.hid h
    have hsh := shl7 ⟨k + 1, by omega⟩ ⟨n, by omega⟩
    obtain ⟨P, hP⟩ : ∃ P : Nat, n * 2 ^ (k + 1) = P := ⟨_, rfl⟩
    have hw : wrap64 ((n : Int) * 2 ^ (k + 1)) = (P : Int) := by rw [← hP]; exact hsh
    have HNV : Hid (nodeT l (k + 1) n = if l.length ≤ P then emptyT (k + 1) else hashS 6 [nodeT l k (2 * n), nodeT l k (2 * n + 1)]) := by show _ = _; rw [← hP]; rfl
    have hn2 : n ≤ P := by rw [← hP]; exact Nat.le_mul_of_pos_right _ (Nat.pow_pos (by omega))
    have hn3 : 2 * n ≤ P := by
      rw [← hP, Nat.pow_succ, Nat.mul_comm 2 n, Nat.mul_comm (2 ^ k) 2, ← Nat.mul_assoc]
      exact Nat.le_mul_of_pos_right _ (Nat.pow_pos (by omega))
    obtain ⟨lev, hlev⟩ : ∃ x : Int, ((k + 1 : Nat) : Int) = x := ⟨_, rfl⟩
    have hwl : wrap64 ((n : Int) * 2 ^ lev.toNat) = (P : Int) := by rw [← hlev]; exact hw
    have g0 : 0 < lev := by omega
    have g1 : lev < 64 := by omega
    have g2 : (lev == 0) = false := by rw [beq_eq_false_iff_ne]; omega
    have g3 : lev - 1 = (k : Int) := by omega
    have HLV := Lib.hid hlev
    clear h hsh hP hw hn2
    by_cases hlt : l.length ≤ P
    · have z1 : (l.length : Int) ≤ P := by omega
      have HE := Lib.hid (emptyT_any w (k + 1) (by omega))
      rw [hlev] at HE ⊢
      clear hlev hn3
      go_enter Tryz.func53, Tryz.ntmps53
      go_wp2_with fail
      refine HE.out.mono ?_
      rintro e w1 ⟨rfl, hb1⟩
      go_wp2_with fail
      go_ret
      rw [HNV.out, if_pos hlt]
      exact ⟨rfl, hb1⟩
    · have z1 : ¬ (l.length : Int) ≤ P := by omega
      have hn64 : n < 32 := by omega
      have e1 : ((2 * n : Nat) : Int) = 2 * (n : Int) := by omega
      have e2 : ((2 * n + 1 : Nat) : Int) = 2 * (n : Int) + 1 := by omega
      have ih1 := node37_any S a cap l hl k (2 * n) (by omega) (by omega)
      have ih2 := node37_any S a cap l hl k (2 * n + 1) (by omega) (by omega)
      rw [e1] at ih1
      rw [e2] at ih2
      have IH1 := Lib.hid ih1
      have IH2 := Lib.hid ih2
      have HO1 := Lib.hid (nodeT_ok (ints_wf H.out) k (2 * n))
      have HO2 := Lib.hid (nodeT_ok (ints_wf H.out) k (2 * n + 1))
      have HV : Hid (nodeT l (k + 1) n = hashS 6 [nodeT l k (2 * n), nodeT l k (2 * n + 1)]) := by show _ = _; rw [HNV.out, if_neg hlt]
      rw [hlev]
      generalize nodeT l k (2 * n) = x at *
      generalize nodeT l k (2 * n + 1) = y at *
      clear hlev hn3 ih1 ih2 e1 e2 hlt HNV
      go_enter Tryz.func53, Tryz.ntmps53
      go_wp2_with fail
      refine (IH1.out w H.out).mono ?_
      rintro e w1 ⟨rfl, hb1⟩
      have HB1 := Lib.hid hb1
      clear hb1
      go_wp2_with fail
      refine (IH2.out w1 (numsR.keepB H.out HB1.out)).mono ?_
      rintro e w2 ⟨rfl, hb2⟩
      have HX := Lib.hid (nums2 w2 24 HO1.out HO2.out)
      have HB2 := Lib.hid (bnew (bnext HB1.out hb2) (.cells #[.int .u64 x, .int .u64 y] 24))
      clear hb2
      go_wp2_with fail
      refine (rHash_big 6 (by omega) (fun _ => True) _ _ 2 [x, y] HX.out (by simp)).mono ?_
      rintro e w3 ⟨rfl, hb3⟩
      have HB3 := Lib.hid (bnext HB2.out hb3)
      clear hb3
      go_wp2_with fail
      go_ret
      rw [HV.out]
      exact ⟨rfl, HB3.out⟩
theorem root37_any (S : Nat → Prop) (a : Option Addr) (cap : Nat) (l : List Int) (hl : l.length ≤ 64) (k : Nat) (hk : k ≤ 6) (w : World) (h : numsR.rel S w [.slice a l.length cap] l) :
    Calls Tryz.prog 25 #[.int .i64 k, .slice a l.length cap] w fun e w' => e = .returned (.int .u64 (nodeT l k 0)) ∧ Below w.heap.size w w' := by
  have HN := Lib.hid (node37_any S a cap l hl k 0 hk (by omega) w h)
  clear h
  go_enter Tryz.func25, Tryz.ntmps25
  go_wp2_with fail
  refine HN.out.mono ?_
  rintro e w1 ⟨rfl, hb1⟩
  go_wp2_with fail
  go_ret
  exact ⟨rfl, hb1⟩
set_option maxRecDepth 100000 in
set_option maxHeartbeats 2000000 in
theorem path37_any (S : Nat → Prop) (a : Option Addr) (cap : Nat) (l : List Int) (hl : l.length ≤ 64) (D : Nat) (hD : D ≤ 6) (pos : Nat) (hp : pos < 64) (w : World) (h : numsR.rel S w [.slice a l.length cap] l) :
    Calls Tryz.prog 26 #[.int .i64 D, .slice a l.length cap, .int .i64 pos] w fun e w' => (∃ (p : List Int) (a' : Option Addr) (c' : Nat), p.length = D ∧ e = .returned (.slice a' D c') ∧ numsR.rel (fun k => w.heap.size ≤ k) w' [.slice a' D c'] p) ∧ Below w.heap.size w w' := by
  have H := Lib.hid h
  have hb0 := bnew (Below.refl w.heap.size w) (.cells #[] 24)
  have HO := Lib.hid (Own.mono (Own.empty u64R w.heap.size 24 (box_new w (.cells #[] 24)) (Nat.le_refl _)) (F' := fun x => False ∨ w.heap.size ≤ x) fun _ _ h => .inr (Nat.le_of_eq h.symm))
  have HB0 := Lib.hid hb0
  clear h hb0
  go_enter Tryz.func26, Tryz.ntmps26
  go_wp2_with fail
  go_loopw [7, 8] (fun vs vi wr => ∃ (j : Nat) (p : List Int), j ≤ D ∧ vi = .int .i64 j ∧ p.length = j ∧ Hid (Own u64R w.heap.size 24 (fun x => False ∨ w.heap.size ≤ x) wr vs p) ∧ Hid (Below w.heap.size w wr)) (fun _ vi _ => D - (intOf vi).toNat)
  case atStart => exact ⟨0, [], Nat.zero_le _, rfl, rfl, HO, HB0⟩
  case round =>
    clear HO HB0
    obtain ⟨j, p, hj, rfl, hpl, ho, hb⟩ := hrel
    by_cases hlt : j < D
    · have hj6 : j < 6 := by omega
      obtain ⟨ga, gc, rfl, -, -⟩ := sliceR.form ho.out.slice
      rw [hpl] at ho ⊢
      have HPL := Lib.hid hpl
      obtain ⟨K, hK⟩ : ∃ K, pos / 2 ^ j = K := ⟨_, rfl⟩
      have hK64 : K < 64 := by rw [← hK]; exact Nat.lt_of_le_of_lt (Nat.div_le_self _ _) hp
      have hq : (pos : Int) / 2 ^ j = (K : Int) := by rw [← hK]; norm_cast
      clear hpl hK
      by_cases hpar : K % 2 = 0
      · have z1 : ((K : Int) % 2 == 0) = true := by rw [beq_iff_eq]; omega
        have ih := node37_any S a cap l hl j (K + 1) (by omega) (by omega)
        have e1 : ((K + 1 : Nat) : Int) = (K : Int) + 1 := by omega
        rw [e1] at ih
        have IH := Lib.hid ih
        have HZ := Lib.hid (nodeT_ok (ints_wf H.out) j (K + 1))
        generalize nodeT l j (K + 1) = z at *
        clear ih e1
        go_wp2_with fail
        refine (IH.out wr (numsR.keepB H.out hb.out)).mono ?_
        rintro e w3 ⟨rfl, hb3⟩
        have HB3 := Lib.hid (bnext hb.out hb3)
        have HO3 := Lib.hid (ho.out.keepB hb3)
        have HYR : Hid (u64R.rel (fun _ => False) w3 [.int .u64 z] z) := ⟨rfl, HZ.out⟩
        clear hb3
        go_wp2_with (at_builtin; refine wpList_push (r := u64R) (wr := w3) (es := [.int .u64 z]) (v := .slice ga j gc) (w0 := w) (B := w.heap.size) rfl _ _ rfl Tryz.etyNums rfl rfl HB3.out HB3.out.size HO3.out HYR.out (fun x hx => hx.elim) (by have := HPL.out; unfold maxLen; omega) (by have := HPL.out; omega) ?_)
        intro v4 w4 ho4 hb4
        have HO4 : Hid (Own u64R w.heap.size 24 (fun x => False ∨ w.heap.size ≤ x) w4 v4 (p ++ [z])) := by
          first | exact ho4 | exact Own.mono ho4 fun _ _ h => .inr h
        have HB4 := Lib.hid hb4
        clear ho4 hb4
        go_wp2_with fail
        go_roundw
        case rel => exact ⟨j + 1, p ++ [z], by omega, by go_num, by rw [List.length_append, HPL.out]; rfl, HO4, HB4⟩
        case measure => simp [intOf]; omega
      · have z1 : ((K : Int) % 2 == 0) = false := by rw [beq_eq_false_iff_ne]; omega
        have ih := node37_any S a cap l hl j (K - 1) (by omega) (by omega)
        have e1 : ((K - 1 : Nat) : Int) = (K : Int) - 1 := by omega
        have e2 : wrap64 ((K : Int) - 1) = (K : Int) - 1 := by unfold wrap64; omega
        rw [e1] at ih
        have IH := Lib.hid ih
        have HZ := Lib.hid (nodeT_ok (ints_wf H.out) j (K - 1))
        generalize nodeT l j (K - 1) = z at *
        clear ih e1
        go_wp2_with fail
        refine (IH.out wr (numsR.keepB H.out hb.out)).mono ?_
        rintro e w3 ⟨rfl, hb3⟩
        have HB3 := Lib.hid (bnext hb.out hb3)
        have HO3 := Lib.hid (ho.out.keepB hb3)
        have HYR : Hid (u64R.rel (fun _ => False) w3 [.int .u64 z] z) := ⟨rfl, HZ.out⟩
        clear hb3
        go_wp2_with (at_builtin; refine wpList_push (r := u64R) (wr := w3) (es := [.int .u64 z]) (v := .slice ga j gc) (w0 := w) (B := w.heap.size) rfl _ _ rfl Tryz.etyNums rfl rfl HB3.out HB3.out.size HO3.out HYR.out (fun x hx => hx.elim) (by have := HPL.out; unfold maxLen; omega) (by have := HPL.out; omega) ?_)
        intro v4 w4 ho4 hb4
        have HO4 : Hid (Own u64R w.heap.size 24 (fun x => False ∨ w.heap.size ≤ x) w4 v4 (p ++ [z])) := by
          first | exact ho4 | exact Own.mono ho4 fun _ _ h => .inr h
        have HB4 := Lib.hid hb4
        clear ho4 hb4
        go_wp2_with fail
        go_roundw
        case rel => exact ⟨j + 1, p ++ [z], by omega, by go_num, by rw [List.length_append, HPL.out]; rfl, HO4, HB4⟩
        case measure => simp [intOf]; omega
    · obtain rfl : j = D := by omega
      obtain ⟨ga, gc, rfl, -, -⟩ := sliceR.form ho.out.slice
      have HS := Lib.hid (numsR.mono ho.out.slice (S' := fun k => w.heap.size ≤ k) fun k _ h => h.resolve_left id)
      rw [hpl] at HS ⊢
      have HPL := Lib.hid hpl
      clear hpl
      go_wp2_with fail
      go_ret
      exact ⟨⟨p, ga, gc, HPL.out, rfl, HS.out⟩, hb.out⟩
end Go.Proofs.YtdjcdejapkkcmaaGreatDoor
/- BuilderHides in plain Lean: what setup must give, and that two such runs give one transaction. -/
namespace Go.Proofs.YtdjcdejapkkcmaaGreatDoor
open Go.ChangeShapes Go.WideShapes Go.ChangeAt Go.RowKit

def accOf (c : CaseM) : Int := if 0 < c.dep ∨ 0 < c.wd then hashS 7 [hashS 9 [c.owner]] else 0
/-- What setup gives of a case in the ideal mode, as far as BuilderHides asks: the request q, the oracle m. -/
structure SetP (c : CaseM) (D : Nat) (q : ReqM) (m : OrM) : Prop where
  ok : ReqOk q
  ins : q.ins.length = c.spend.length + c.dums.length
  outs : q.outs.length = c.outs.length
  dep : q.dep = c.dep
  wd : q.wd = c.wd
  fee : q.fee = c.fee
  acc : q.acc = accOf c
  nonce : q.nonce = c.nonce
  exp : q.exp = c.exp
  ideal : m.ideal = true
  fresh : m.n = c.coins.length → m.st = stN c.orc c.coins.length ∧ q.anchor = nodeT (drawsL c.orc c.coins.length) D 0
/-- The notes of the tree: their leaves, the notes, the oracle. -/
def coinN (c : CoinM) : NoteM := ⟨c.value, ownerS (hashS 8 [c.seed]) c.number, c.rho, c.blind⟩
def coinsL (m : OrM) (l : List CoinM) : Nat → List Int × List NoteM × OrM
  | 0 => ([], [], m)
  | k + 1 => match l[k]? with
    | some c => ((coinsL m l k).1 ++ [((coinsL m l k).2.2.commit (coinN c)).1], (coinsL m l k).2.1 ++ [coinN c], ((coinsL m l k).2.2.commit (coinN c)).2)
    | none => coinsL m l k
theorem coinsL_step {m : OrM} {l : List CoinM} {k : Nat} {ls : List Int} {ns : List NoteM} {m1 m2 : OrM} {v : Int} (h : coinsL m l k = (ls, ns, m1)) (hk : k < l.length) (hm : m1.commit (coinN l[k]) = (v, m2)) : coinsL m l (k + 1) = (ls ++ [v], ns ++ [coinN l[k]], m2) := by
  rw [coinsL, List.getElem?_eq_getElem hk, h]
  simp only [hm]
theorem coinsL_used (m : OrM) (l : List CoinM) : ∀ k, k ≤ l.length → Used k m (coinsL m l k).2.2 ((coinsL m l k).1 = drawsL m.st k)
  | 0, _ => Used.zero m rfl
  | k + 1, hk => by
    have ih := coinsL_used m l k (by omega)
    rw [coinsL, List.getElem?_eq_getElem (show k < l.length by omega)]
    simp only
    refine Used.trans ih (commit_used _ _) (fun _ hs p q => ?_)
    rw [p, q, hs]
    rfl
/-- Of the notes of a case, from a new ideal oracle. -/
theorem coins_fresh {m : OrM} {c : CaseM} {ls : List Int} {ns : List NoteM} {D : Nat} (h : coinsL ⟨true, c.orc, 0, []⟩ c.coins c.coins.length = (ls, ns, m)) : m.ideal = true ∧ m.n ≤ c.coins.length ∧ (m.n = c.coins.length → m.st = stN c.orc c.coins.length ∧ nodeT ls D 0 = nodeT (drawsL c.orc c.coins.length) D 0) := by
  have u := coinsL_used ⟨true, c.orc, 0, []⟩ c.coins c.coins.length (Nat.le_refl _)
  rw [h] at u
  refine ⟨u.ideal, ?_, fun hn => ?_⟩
  · have := u.most rfl
    simp only [Nat.zero_add] at this
    exact this
  · obtain ⟨a, b⟩ := u.just rfl (by simp only [Nat.zero_add]; exact hn)
    simp only at a b
    exact ⟨a, by rw [b]⟩
theorem hides_plain {c d : CaseM} {D : Nat} {q p : ReqM} {m1 m2 n1 n2 : OrM} {t u : TxM} {x y : WitM} (hc : SetP c D q m1) (hd : SetP d D p m2) (ho : d.orc = c.orc) (h1 : d.dep = c.dep) (h2 : d.wd = c.wd) (h3 : d.fee = c.fee) (h4 : d.owner = c.owner) (h5 : d.nonce = c.nonce) (h6 : d.exp = c.exp)
    (hm : c.rules.mode = 3) (l1 : c.coins.length = d.coins.length) (l2 : c.spend.length + c.dums.length = d.spend.length + d.dums.length) (l3 : c.outs.length = d.outs.length) (e1 : m1.n = c.coins.length) (e2 : m2.n = c.coins.length)
    (ht : buildG m1 c.rules D q = (0, t, x, n1)) (hu : buildG m2 c.rules D p = (0, u, y, n2)) (f1 : n1.n = c.coins.length + q.ins.length + 5 * q.outs.length + 8 + 4 * (q.ins.length + q.outs.length)) (f2 : n2.n = c.coins.length + q.ins.length + 5 * q.outs.length + 8 + 4 * (q.ins.length + q.outs.length)) : t = u := by
  have k1 : p.ins.length = q.ins.length := by rw [hd.ins, hc.ins, l2]
  have k2 : p.outs.length = q.outs.length := by rw [hd.outs, hc.outs, l3]
  have hm2 : c.rules.mode ≠ 2 := by omega
  have a1 := build_hides hc.ideal hm2 ht (by rw [f1, e1])
  have a2 := build_hides hd.ideal hm2 hu (by rw [f2, e2, k1, k2])
  obtain ⟨s1, r1⟩ := hc.fresh e1
  obtain ⟨s2, r2⟩ := hd.fresh (by rw [e2, l1])
  have ea : accOf d = accOf c := by unfold accOf; rw [h1, h2, h4]
  rw [a1, a2]
  unfold txD
  rw [k1, k2, s1, s2, r1, r2, hc.dep, hd.dep, hc.wd, hd.wd, hc.fee, hd.fee, hc.acc, hd.acc, hc.nonce, hd.nonce, hc.exp, hd.exp, ho, ← l1, h1, h2, h3, h5, h6, ea]
end Go.Proofs.YtdjcdejapkkcmaaGreatDoor

/- Texts of scripts: the step of a line. -/
import Derived.Test.YtphacfkcifpobaaGreatDoorM29
set_option maxRecDepth 100000
namespace Go.Proofs.YtphacfkcifpobaaGreatDoor
open Go.ChangeShapes Go.WideShapes Go.ChangeAt Go.RowKit Go.Sort
abbrev stpC (x : StepM) (bv : Value) : Array Value := #[.int .i64 x.kind, .int .i64 x.node, .int .i64 x.to, .int .i64 x.num, .int .u64 x.amt, .int .u64 x.fee, bv]
def stR : Rep StepM where
 n := 7
 rel S w cs x := ∃ bv, cs = (stpC x bv).toList ∧ bytesR.rel S w [bv] x.bytes
 len := by rintro S w cs x ⟨bv, rfl, _⟩; rfl
 one := by
   rintro S w cs x ⟨bv, rfl, h⟩ c hc
   have hb := bytesR.one h bv (by simp)
   simp only [List.mem_cons, List.not_mem_nil, or_false] at hc
   rcases hc with rfl | rfl | rfl | rfl | rfl | rfl | rfl <;> first | exact hb | simp [Value.oneCell']
 keep := by rintro S w w' cs x ⟨bv, h1, h2⟩ hk; exact ⟨bv, h1, bytesR.keep h2 hk⟩
 mono := by rintro S S' w cs x ⟨bv, h1, h2⟩ hk; exact ⟨bv, h1, bytesR.mono h2 hk⟩
def st0 : StepM := ⟨0, 0, 0, 0, 0, 0, []⟩
section
variable {O : Nat → Prop} {L E : List (Asn O)} {f : Asn O → List (Asn O)} {w0 w : World}
def wdA (p : Nat) (st : WdM) : Asn O where
 rel F w := ∃ S : Nat → Prop, (∀ k, S k → F k) ∧ F p ∧ ¬ S p ∧ WdAt S w p st
 keep := by rintro F w w' ⟨S, s1, s2, s3, s4⟩ hk; exact ⟨S, s1, s2, s3, s4.keep hk (fun k h => .inl (s1 k h)) (.inl s2)⟩
 mono := by
   rintro F F' w ⟨S, s1, s2, s3, s4⟩ hF; obtain ⟨a, b1, b2⟩ := s4
   refine ⟨fun k => S k ∧ k < w.heap.size, fun k h => hF k h.2 (s1 k h.1), hF p (box_lt b1) s2, fun h => s3 h.1, a, b1, (sliceR strR).bound b2⟩
variable {p : Nat} {st : WdM}
theorem next_fr (h : Fr L (fun _ => False) w0 w) (ix : In L (wdA p st) f E) : Calls Tryz.prog 51 #[.pointer (some ⟨p, 0, none⟩)] w fun e w' => e = .returned (.string (hd1 st)) ∧ Fr (f (wdA p (st.1.tail, st.2 || st.1.isEmpty))) (fun _ => False) w0 w' := by
 obtain ⟨G, g1, ⟨S, s1, s2, s3, s4⟩, -, hcl⟩ := h.open ix
 refine (next_any S w p st s4 s3).mono ?_
 rintro e w' ⟨rfl, h1, h2⟩
 exact ⟨rfl, hcl (wdA p _) w' ⟨S, fun k hk => .inl (s1 k hk), .inl s2, s3, h1⟩ (h2.mono fun k _ hk e => hk (e ▸ s2))⟩
theorem amount_fr (h : Fr L (fun _ => False) w0 w) (ix : In L (wdA p st) f E) (ht : TxtAt w0) (hl : WdS st) : Calls Tryz.prog 54 #[.pointer (some ⟨p, 0, none⟩)] w fun e w' => e = .returned (.int .u64 (takeAmt st).1) ∧ Fr (f (wdA p (takeAmt st).2)) (fun _ => False) w0 w' := by
 obtain ⟨G, g1, ⟨S, s1, s2, s3, s4⟩, -, hcl⟩ := h.open ix
 refine (amount_any S w w0.heap.size p st s4 s3 (ht.on.next h.below) ((g1 p s2).1.resolve_left id) hl.hd).mono ?_
 rintro e w' ⟨rfl, h1, h2⟩
 exact ⟨rfl, hcl (wdA p (takeAmt st).2) w' ⟨S, fun k hk => .inl (s1 k hk), .inl s2, s3, h1⟩ (h2.mono fun k _ hk e => hk (e ▸ s2))⟩
theorem number_fr (h : Fr L (fun _ => False) w0 w) (ix : In L (wdA p st) f E) (ht : TxtAt w0) (hl : WdS st) : Calls Tryz.prog 53 #[.pointer (some ⟨p, 0, none⟩)] w fun e w' => e = .returned (.int .i64 (takeNum st).1) ∧ Fr (f (wdA p (takeNum st).2)) (fun _ => False) w0 w' := by
 obtain ⟨G, g1, ⟨S, s1, s2, s3, s4⟩, -, hcl⟩ := h.open ix
 refine (number_any S w w0.heap.size p st s4 s3 (ht.on.next h.below) ((g1 p s2).1.resolve_left id) hl.hd).mono ?_
 rintro e w' ⟨rfl, h1, h2⟩
 exact ⟨rfl, hcl (wdA p (takeNum st).2) w' ⟨S, fun k hk => .inl (s1 k hk), .inl s2, s3, h1⟩ (h2.mono fun k _ hk e => hk (e ▸ s2))⟩
end
def line54 : ByteArray := ⟨#[109, 105, 110, 101, 32, 48, 32, 49, 48, 48, 10]⟩
def step54 : StepM := ⟨1, 0, 0, 0, 100, 0, []⟩
def Parse54 : Prop := ∀ w, TxtAt w → Calls Tryz.prog 14 #[.string line54] w fun e w' => ∃ a c, e = .returned (.tuple #[.slice a 1 c, .int .i64 0, .int .i64 0]) ∧ (sliceR stR).rel (fun _ => True) w' [.slice a 1 c] [step54] ∧ Below w.heap.size w w'
end Go.Proofs.YtphacfkcifpobaaGreatDoor

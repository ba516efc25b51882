/- The relation: one spent note. -/
import Derived.Test.YtphacfkcifpobaaGreatDoorM07
import Derived.BigQuiet
import Derived.Test.YtphacfkcifpobaaGreatDoorM03
import Derived.Test.YtphacfkcifpobaaGreatDoorM04
import Derived.Test.YtphacfkcifpobaaGreatDoorM05
import Derived.Deep.Cut
import Derived.Deep.CutRange
set_option maxRecDepth 100000
namespace Go.Proofs.YtphacfkcifpobaaGreatDoor
open Go.ChangeShapes Go.WideShapes Go.ChangeAt Go.RowKit Go.Sort
def checkInE (anchor : Int) (i : SpentM) (pub : Int) : Int :=
 if i.note.owner = ownerS i.key i.number then
   (if markK i.key i.note.rho = true ∧ markV i.key i.note.rho = pub then
     (if i.dummy = true then (if i.note.value = 0 then 0 else 13)
      else (if noteB i.note = true ∧ climbS (commitV i.note) i.position i.path = anchor then 0 else 11))
    else 12)
 else 21
theorem commitV_ok (n : NoteM) : okU (commitV n) := by
 unfold commitV
 split
 · exact hashS_ok _ _
 · exact okU_of (by omega) (by omega)
set_option maxHeartbeats 4000000 in
theorem checkIn_any (S : Nat → Prop) (w : World) (p : Nat) (st : Int) (ho : OrAt false st p w) (D : Nat) (s : StM) (ma ca ra : Option Addr) (mc cc rc : Nat) (i : SpentM) (hok : SpentOk i) (pa : Option Addr) (pc : Nat) (hpa : numsR.rel S w [.slice pa i.path.length pc] i.path)
   (h1 : i.path.length ≤ 12) (h2 : 0 ≤ i.position) (h3 : i.position ≤ 4095) (pub : Int) :
   Calls Tryz.prog 344 #[.pointer (some ⟨p, 0, none⟩), .agg #[.int .i64 D, .int .u64 s.anchor, .slice ma s.marks.length mc, .slice ca s.commits.length cc, .slice ra s.rhos.length rc, .int .u64 s.dep, .int .u64 s.wd, .int .u64 s.fee, .int .u64 s.acc, .int .u64 s.bind], .agg #[.int .u64 i.note.value, .int .u64 i.note.owner, .int .u64 i.note.rho, .int .u64 i.note.blind, .int .u64 i.key, .int .i64 i.number, .int .i64 i.position, .slice pa i.path.length pc, .bool i.dummy], .int .u64 pub] w fun e w' => e = .returned (.int .i64 (checkInE s.anchor i pub)) ∧ Below w.heap.size w w' := by
 have hbA := bnew (Below.refl w.heap.size w) (.cells #[.int .i64 D, .int .u64 s.anchor, .slice ma s.marks.length mc, .slice ca s.commits.length cc, .slice ra s.rhos.length rc, .int .u64 s.dep, .int .u64 s.wd, .int .u64 s.fee, .int .u64 s.acc, .int .u64 s.bind] 329); have hbB := bnew hbA (.cells #[.int .u64 i.note.value, .int .u64 i.note.owner, .int .u64 i.note.rho, .int .u64 i.note.blind, .int .u64 i.key, .int .i64 i.number, .int .i64 i.position, .slice pa i.path.length pc, .bool i.dummy] 266); have qA := box_old (o' := .cells #[.int .u64 i.note.value, .int .u64 i.note.owner, .int .u64 i.note.rho, .int .u64 i.note.blind, .int .u64 i.key, .int .i64 i.number, .int .i64 i.position, .slice pa i.path.length pc, .bool i.dummy] 266) (box_new w (.cells #[.int .i64 D, .int .u64 s.anchor, .slice ma s.marks.length mc, .slice ca s.commits.length cc, .slice ra s.rhos.length rc, .int .u64 s.dep, .int .u64 s.wd, .int .u64 s.fee, .int .u64 s.acc, .int .u64 s.bind] 329))
 have qB := box_new (w.alloc (.cells #[.int .i64 D, .int .u64 s.anchor, .slice ma s.marks.length mc, .slice ca s.commits.length cc, .slice ra s.rhos.length rc, .int .u64 s.dep, .int .u64 s.wd, .int .u64 s.fee, .int .u64 s.acc, .int .u64 s.bind] 329)) (.cells #[.int .u64 i.note.value, .int .u64 i.note.owner, .int .u64 i.note.rho, .int .u64 i.note.blind, .int .u64 i.key, .int .i64 i.number, .int .i64 i.position, .slice pa i.path.length pc, .bool i.dummy] 266); have eA : (w.alloc (.cells #[.int .i64 D, .int .u64 s.anchor, .slice ma s.marks.length mc, .slice ca s.commits.length cc, .slice ra s.rhos.length rc, .int .u64 s.dep, .int .u64 s.wd, .int .u64 s.fee, .int .u64 s.acc, .int .u64 s.bind] 329)).heap.size = w.heap.size + 1 := World.size_alloc ..; rw [eA] at qB; have HA := Lib.hid qA; have HBx := Lib.hid qB; have HBel := Lib.hid hbB; have HO := Lib.hid (ho.keepB hbB); have HP := Lib.hid (numsR.keepB hpa hbB); have HOK := Lib.hid hok; have HU : Hid (checkInE s.anchor i pub = if i.note.owner = ownerS i.key i.number then (if markK i.key i.note.rho = true ∧ markV i.key i.note.rho = pub then (if i.dummy = true then (if i.note.value = 0 then 0 else 13) else (if noteB i.note = true ∧ climbS (commitV i.note) i.position i.path = s.anchor then 0 else 11)) else 12) else 21) := rfl; clear hbA hbB qA qB eA ho hpa hok
 go_enter Tryz.func344, Tryz.ntmps344
 go_wp2_with fail; generalize (w.alloc (.cells #[.int .i64 D, .int .u64 s.anchor, .slice ma s.marks.length mc, .slice ca s.commits.length cc, .slice ra s.rhos.length rc, .int .u64 s.dep, .int .u64 s.wd, .int .u64 s.fee, .int .u64 s.acc, .int .u64 s.bind] 329)).alloc (.cells #[.int .u64 i.note.value, .int .u64 i.note.owner, .int .u64 i.note.rho, .int .u64 i.note.blind, .int .u64 i.key, .int .i64 i.number, .int .i64 i.position, .slice pa i.path.length pc, .bool i.dummy] 266) = W at *; have xq := box_regrown HBx.out
 refine wp_region_quiet_below (by kernel_rfl) (by kernel_rfl) ?_
 repeat (first | go_big_quiet_step (exact Calls.regrown_of (owner_any _ i.key i.number HOK.out.key)) | quiet_step (exact Calls.regrown_of (owner_any _ i.key i.number HOK.out.key)))
 refine wpQuiet_nil ?_
 intro w1 hw'
 obtain ⟨⟨dq, osq⟩, hw''⟩ := hw'; have hb1 := below_regrown W dq osq; rw [← hw''] at hb1; clear hw'' xq; obtain ⟨x0, x1⟩ := box_cells (box_after hb1 HBx.out)
 by_cases hown : i.note.owner = ownerS i.key i.number
 · have hb : (i.note.owner == ownerS i.key i.number) = true := by rw [beq_iff_eq]; exact hown
   have hb' : (i.note.owner != ownerS i.key i.number) = false := by rw [bne_eq_false_iff_eq]; exact hown
   have HU2 : Hid (checkInE s.anchor i pub = if markK i.key i.note.rho = true ∧ markV i.key i.note.rho = pub then (if i.dummy = true then (if i.note.value = 0 then 0 else 13) else (if noteB i.note = true ∧ climbS (commitV i.note) i.position i.path = s.anchor then 0 else 11)) else 12) := by show _ = _; rw [HU.out, if_pos hown]
   clear hown HU; generalize ownerS i.key i.number = ow at *; go_wp2_with fail
   refine (marked_any w1 p st (HO.out.keepB hb1) i.key i.note.rho HOK.out.key HOK.out.note.rho).mono ?_
   rintro e w2 ⟨rfl, hb2⟩; have hbk := bnext hb1 hb2; clear x0 x1 hb2; obtain ⟨x0, x1⟩ := box_cells (box_after hbk HBx.out)
   cases hmk : markK i.key i.note.rho with
   | false =>
     have HF : Hid (checkInE s.anchor i pub = 12) := by show _ = _; rw [HU2.out, if_neg (fun h => by rw [hmk] at h; cases h.1)]
     go_wp2_with fail; go_ret
     exact ⟨ret_int HF.out.symm, bnext HBel.out hbk⟩
   | true =>
     by_cases hmv : markV i.key i.note.rho = pub
     · have c1 : (markV i.key i.note.rho == pub) = true := by rw [beq_iff_eq]; exact hmv
       have c1' : (markV i.key i.note.rho != pub) = false := by rw [bne_eq_false_iff_eq]; exact hmv
       have HU3 : Hid (checkInE s.anchor i pub = if i.dummy = true then (if i.note.value = 0 then 0 else 13) else (if noteB i.note = true ∧ climbS (commitV i.note) i.position i.path = s.anchor then 0 else 11)) := by show _ = _; rw [HU2.out, if_pos ⟨hmk, hmv⟩]
       clear HU2 hmv; generalize markV i.key i.note.rho = mv at *
       cases hdm : i.dummy with
       | true =>
         rw [hdm] at x0
         by_cases hvz : i.note.value = 0
         · have c2 : (i.note.value == 0) = true := by rw [beq_iff_eq]; exact hvz
           have c2' : (i.note.value != 0) = false := by rw [bne_eq_false_iff_eq]; exact hvz
           have HF : Hid (checkInE s.anchor i pub = 0) := by show _ = _; rw [HU3.out, if_pos hdm, if_pos hvz]
           clear hvz; go_wp2_with fail; go_ret
           exact ⟨ret_int HF.out.symm, bnext HBel.out hbk⟩
         · have c2 : (i.note.value == 0) = false := by rw [beq_eq_false_iff_ne]; exact hvz
           have c2' : (i.note.value != 0) = true := by rw [bne_iff_ne]; exact hvz
           have HF : Hid (checkInE s.anchor i pub = 13) := by show _ = _; rw [HU3.out, if_pos hdm, if_neg hvz]
           clear hvz; go_wp2_with fail; go_ret
           exact ⟨ret_int HF.out.symm, bnext HBel.out hbk⟩
       | false =>
         rw [hdm] at x0
         have HU4 : Hid (checkInE s.anchor i pub = if noteB i.note = true ∧ climbS (commitV i.note) i.position i.path = s.anchor then 0 else 11) := by show _ = _; rw [HU3.out, if_neg (by rw [hdm]; simp)]
         go_wp2_with fail
         refine (commitment_any w2 p st (HO.out.keepB hbk) i.note HOK.out.note).mono ?_
         rintro e w3 ⟨rfl, hb3⟩; have hbk3 := bnext hbk hb3; clear x0 x1 hb3
         cases hnb : noteB i.note with
         | false =>
           have HF : Hid (checkInE s.anchor i pub = 11) := by show _ = _; rw [HU4.out, if_neg (fun h => by rw [hnb] at h; cases h.1)]
           go_wp2_with fail
           go_quiet (fail)
           go_wp2_with fail; go_ret
           exact ⟨ret_int HF.out.symm, bnext HBel.out (bdrewN hbk3 _)⟩
         | true =>
           have xq := box_regrown (box_after hbk3 HBx.out); have yq := box_regrown (box_after hbk3 HA.out); rw [hdm] at xq
           have hcl : ∀ (d : Nat) (os : Array Obj), Calls Tryz.prog 330 #[.int .u64 (commitV i.note), .int .i64 i.position, .slice pa i.path.length pc] (grow (redrawn w3 d) os) fun e w' => e = .returned (.int .u64 (climbS (commitV i.note) i.position i.path)) ∧ Below (grow (redrawn w3 d) os).heap.size (grow (redrawn w3 d) os) w' := fun d os =>
             climb_any S _ (commitV i.note) i.position (commitV_ok _) pa pc i.path (numsR.keepB (numsR.keepB HP.out hbk3) (below_regrown w3 d os)) h1 h2 h3
           go_wp2_with fail
           refine wp_region_quiet_below (by kernel_rfl) (by kernel_rfl) ?_
           repeat (first | go_big_quiet_step (exact Calls.regrown_of (hcl _ _)) | quiet_step (exact Calls.regrown_of (hcl _ _)))
           refine wpQuiet_nil ?_
           intro w4 hw'
           obtain ⟨⟨dq, osq⟩, hw''⟩ := hw'; have hb4 := below_regrown w3 dq osq; rw [← hw''] at hb4; clear hw'' xq yq hcl; have hfin := bnext HBel.out (bnext hbk3 hb4)
           by_cases hcm : climbS (commitV i.note) i.position i.path = s.anchor
           · have c3 : (climbS (commitV i.note) i.position i.path == s.anchor) = true := by rw [beq_iff_eq]; exact hcm
             have c3' : (climbS (commitV i.note) i.position i.path != s.anchor) = false := by rw [bne_eq_false_iff_eq]; exact hcm
             have HF : Hid (checkInE s.anchor i pub = 0) := by show _ = _; rw [HU4.out, if_pos ⟨hnb, hcm⟩]
             clear hcm HU4 HU3; generalize climbS (commitV i.note) i.position i.path = cl at *; go_wp2_with fail; go_ret
             exact ⟨ret_int HF.out.symm, hfin⟩
           · have c3 : (climbS (commitV i.note) i.position i.path == s.anchor) = false := by rw [beq_eq_false_iff_ne]; exact hcm
             have c3' : (climbS (commitV i.note) i.position i.path != s.anchor) = true := by rw [bne_iff_ne]; exact hcm
             have HF : Hid (checkInE s.anchor i pub = 11) := by show _ = _; rw [HU4.out, if_neg (fun h => hcm h.2)]
             clear hcm HU4 HU3; generalize climbS (commitV i.note) i.position i.path = cl at *; go_wp2_with fail; go_ret
             exact ⟨ret_int HF.out.symm, hfin⟩
     · have c1 : (markV i.key i.note.rho == pub) = false := by rw [beq_eq_false_iff_ne]; exact hmv
       have c1' : (markV i.key i.note.rho != pub) = true := by rw [bne_iff_ne]; exact hmv
       have HF : Hid (checkInE s.anchor i pub = 12) := by show _ = _; rw [HU2.out, if_neg (fun h => hmv h.2)]
       clear HU2 hmv; generalize markV i.key i.note.rho = mv at *; go_wp2_with fail; go_ret
       exact ⟨ret_int HF.out.symm, bnext HBel.out hbk⟩
 · have hb : (i.note.owner == ownerS i.key i.number) = false := by rw [beq_eq_false_iff_ne]; exact hown
   have hb' : (i.note.owner != ownerS i.key i.number) = true := by rw [bne_iff_ne]; exact hown
   have HF : Hid (checkInE s.anchor i pub = 21) := by show _ = _; rw [HU.out, if_neg hown]
   clear hown HU; generalize ownerS i.key i.number = ow at *; go_wp2_with fail; go_ret
   exact ⟨ret_int HF.out.symm, bnext HBel.out hb1⟩
end Go.Proofs.YtphacfkcifpobaaGreatDoor
/- The reference's keys, paths, commitments, and one spent note. -/
namespace Go.Proofs.YtphacfkcifpobaaGreatDoor
open Go.ChangeShapes Go.WideShapes Go.ChangeAt Go.RowKit Go.Sort
theorem bit_and (n : Nat) (h : n < 4096) : bits BinOp.and IntKind.i64 (n : Int) 1 = ((n % 2 : Nat) : Int) := by
 have : ∀ (i j : Fin 64), bits BinOp.and IntKind.i64 ((64 * i.val + j.val : Nat) : Int) 1 = (((64 * i.val + j.val) % 2 : Nat) : Int) := by decide +kernel
 have h2 := this ⟨n / 64, by omega⟩ ⟨n % 64, by omega⟩
 rw [show 64 * (n / 64) + n % 64 = n by omega] at h2
 exact h2
end Go.Proofs.YtphacfkcifpobaaGreatDoor
/- The reference's reader: take, Value, Uint, Int, List. -/
namespace Go.Proofs.YtphacfkcifpobaaGreatDoor
open Go.ChangeShapes Go.WideShapes Go.ChangeAt Go.RowKit Go.Sort
theorem sliceR.takeN {α : Type} {r : Rep α} {S : Nat → Prop} {w : World} {a : Option Addr} {len cap : Nat} {xs : List α} (h : (sliceR r).rel S w [.slice a len cap] xs) (n : Nat) (hn : n ≤ xs.length) : (sliceR r).rel S w [.slice a n cap] (xs.take n) := by
 obtain ⟨a', len', cap', hv, h1, h2, h3, h4, h5⟩ := h
 simp at hv
 obtain ⟨rfl, rfl, rfl⟩ := hv
 refine ⟨_, n, _, rfl, by simp; omega, by omega, h3, h4, fun i x hx => ?_⟩
 have hi : i < n := by
   have := (List.getElem?_eq_some_iff.1 hx).1
   simp at this; omega
 rw [List.getElem?_take, if_pos hi] at hx
 exact h5 i x hx
theorem sliceR.dropN {α : Type} {r : Rep α} {S : Nat → Prop} {w : World} {b off len cap : Nat} {xs : List α} (h : (sliceR r).rel S w [.slice (some ⟨b, off, none⟩) len cap] xs) (n : Nat) (hn : n ≤ xs.length) : (sliceR r).rel S w [.slice (some ⟨b, off + n * r.n, none⟩) (len - n) (cap - n)] (xs.drop n) := by
 obtain ⟨a', len', cap', hv, h1, h2, h3, h4, h5⟩ := h
 simp at hv
 obtain ⟨rfl, rfl, rfl⟩ := hv
 refine ⟨_, _, _, rfl, by simp; omega, by omega, by omega, (fun h => by cases h), fun i x hx => ?_⟩
 rw [List.getElem?_drop] at hx; obtain ⟨b', off', es, ha, hb, hr, hc, hlt⟩ := h5 (n + i) x hx
 simp at ha
 obtain ⟨rfl, rfl⟩ := ha
 refine ⟨_, _, es, rfl, hb, hr, ?_, hlt⟩
 rw [show off + n * r.n + i * r.n = off + (n + i) * r.n by rw [Nat.add_mul]; omega]
 exact hc
theorem bytes_in {S : Nat → Prop} {w : World} {a : Option Addr} {len cap : Nat} {l : List Int} (h : bytesR.rel S w [.slice a len cap] l) : ∀ x ∈ l, 0 ≤ x ∧ x < 256 := by
 intro x hx
 obtain ⟨k, hk, rfl⟩ := List.getElem_of_mem hx; obtain ⟨b, off, -, -, -, h1, h2, -⟩ := bytes_at h k hk
 exact ⟨h1, h2⟩
theorem pow256 : ∀ k : Fin 9, ((k.val ≤ 4 → (256 : Int) ^ k.val ≤ 4294967296) ∧ (256 : Int) ^ k.val ≤ 18446744073709551616) ∧ (k.val ≤ 7 → (256 : Int) ^ k.val ≤ 72057594037927936) := by decide +kernel
end Go.Proofs.YtphacfkcifpobaaGreatDoor
/- Appending a whole slice of numbers; storing one number into an owned row. Nothing of the program is named here; no conditions. -/
namespace Go.Proofs.YtphacfkcifpobaaGreatDoor
open Go.ChangeShapes Go.WideShapes Go.ChangeAt Go.RowKit
theorem Own.setInt {k : IntKind} {B : Nat} {e : TypeId} {F : Nat → Prop} {w : World} {v : Value} {xs : List Int} (h : Own (intR k) B e F w v xs) (i : Nat) (hi : i < xs.length) :
   ∃ g cap, v = .slice (some ⟨g, 0, none⟩) xs.length cap ∧ xs.length ≤ cap ∧ cap ≤ maxLen ∧ g < w.heap.size ∧ B ≤ g ∧ w.cell? ⟨g, i, none⟩ = some (.int k xs[i]) ∧ w.frozen? ⟨g, i, none⟩ = false ∧
     ∀ x, (Lit.int k x).wf = true → Own (intR k) B e F (w.setCell ⟨g, i, none⟩ (.int k x)) v (xs.set i x) ∧ Kept (fun j => j ≠ g) w (w.setCell ⟨g, i, none⟩ (.int k x)) := by
 have h0 := h; obtain ⟨S0, css0, hS0, hv0, hl0, hr0, ho0⟩ := h
 rcases ho0.2 with ⟨-, hz⟩ | ⟨g, cap, cur, rfl, hb, hg, h1, h2, h3, h4⟩
 · omega
 · obtain ⟨-, -, hcm, hFg, S, hSF, hrow⟩ := h0.row
   obtain ⟨es, ⟨rfl, -⟩, hca⟩ := hrow.at i hi; have hc0 := hca 0 _ rfl; have hn : (intR k).n = 1 := rfl; rw [hn, Nat.mul_one, Nat.add_zero] at hc0
   refine ⟨g, cap, rfl, h1, h2, hrow.lt, hb, hc0, (box_cells hg).2 i, fun x hx => ?_⟩
   obtain ⟨hr2, hk2⟩ := hrow.store i hi (es := [.int k x]) (x := x) ⟨rfl, hx⟩; rw [hn, Nat.mul_one] at hr2 hk2; have e1 : w.setCells g i [Value.int k x] = w.setCell ⟨g, i, none⟩ (.int k x) := rfl; rw [e1] at hr2 hk2; have := hr2.own (F := F) hSF hFg hb hcm; rw [List.length_set] at this
   exact ⟨this, hk2⟩
end Go.Proofs.YtphacfkcifpobaaGreatDoor
/- The reference's bytes: Digits, Int, List, Bytes. -/
namespace Go.Proofs.YtphacfkcifpobaaGreatDoor
open Go.ChangeShapes Go.WideShapes Go.ChangeAt Go.RowKit Go.Sort
def listS (l : List Int) : List Int := digs 4 l.length ++ digsAll l
def outS (o : OutM) : List Int := digsAll [o.commit, o.p0, o.p1] ++ listS o.cipher
def outsS : List OutM → List Int
 | [] => []
 | o :: l => outS o ++ outsS l
def encS (t : TxM) (proof : List Int) : List Int :=
 digs 8 t.anchor ++ listS t.marks ++ digs 4 t.outs.length ++ outsS t.outs ++ digsAll [t.dep, t.wd, t.fee, t.acc, t.nonce] ++ digs 4 t.exp ++ (digs 4 proof.length ++ proof)
theorem listS_len (l : List Int) : (listS l).length = 4 + 8 * l.length := by simp [listS, digs_len, digsAll_len]
theorem outsS_snoc : ∀ (l : List OutM) (o : OutM), outsS (l ++ [o]) = outsS l ++ outS o
 | [], o => by simp [outsS]
 | x :: l, o => by simp [outsS, outsS_snoc l o]
def chunk (l : List Int) (j : Nat) : Int := leN ((l.drop (7 * j)).take 7)
def chunks (l : List Int) : List Int := (List.range ((l.length + 6) / 7)).map (chunk l)
def packS (l : List Int) : List Int := (l.length : Int) :: chunks l
theorem chunks_len (l : List Int) : (chunks l).length = (l.length + 6) / 7 := by simp [chunks]
theorem GrewTo.read {B : Nat} {w w' : World} {ys : List Int} {e : Ending} (h : GrewTo B w ys e w') : ∃ a cap, e = .returned (.slice a ys.length cap) ∧ Own u8R B 5 (fun x => False ∨ B ≤ x) w' (.slice a ys.length cap) (ys) ∧ bytesR.rel (fun _ => True) w' [.slice a ys.length cap] ys ∧ Below B w w' := by
 obtain ⟨v, rfl, ho, hb⟩ := h; obtain ⟨a, cap, rfl, -, -⟩ := sliceR.form ho.slice
 exact ⟨a, cap, rfl, ho, bytesR.mono ho.slice fun _ _ _ => trivial, hb⟩
end Go.Proofs.YtphacfkcifpobaaGreatDoor
/- The program's packed bytes, exact. -/
namespace Go.Proofs.YtphacfkcifpobaaGreatDoor
open Go.ChangeShapes Go.WideShapes Go.ChangeAt Go.RowKit
def chunksTo (xs : List Int) (c : Nat) : List Int := (List.range c).map (chunk xs)
theorem chunksTo_len (xs : List Int) (c : Nat) : (chunksTo xs c).length = c := by simp [chunksTo]
theorem chunksTo_succ (xs : List Int) (c : Nat) : chunksTo xs (c + 1) = chunksTo xs c ++ [chunk xs c] := by simp [chunksTo, List.range_succ]
theorem leN_take_succ (xs : List Int) (k j : Nat) (h : k + j < xs.length) : leN ((xs.drop k).take (j + 1)) = leN ((xs.drop k).take j) + xs[k + j] * 256 ^ j := by
 rw [List.take_succ_eq_append_getElem (by simp; omega), leN_snoc, List.getElem_drop]
 have : ((xs.drop k).take j).length = j := by simp; omega
 rw [this]
set_option maxHeartbeats 3000000 in
theorem packX_any (S : Nat → Prop) (w : World) (a : Option Addr) (cap : Nat) (xs : List Int) (h : bytesR.rel S w [.slice a xs.length cap] xs) (hx : xs.length ≤ 3000000) :
   Calls Tryz.prog 259 #[.slice a xs.length cap] w fun e w' => ∃ a' c', e = .returned (.slice a' (packS xs).length c') ∧ numsR.rel (fun _ => True) w' [.slice a' (packS xs).length c'] (packS xs) ∧ Below w.heap.size w w' := by
 have H := Lib.hid h; have HI := Lib.hid (bytes_in h); have g1 := (sliceR.lens h).2; unfold maxLen at g1; clear h
 go_enter Tryz.func259, Tryz.ntmps259
 go_wp2_with (at_make; refine wpList_make_lc rfl _ _ rfl Tryz.etyNums (n := 1) (m := 1 + (xs.length + 6) / 7) rfl rfl ?_ ?_ ?_ ?_ ?_ ?_)
 · rfl
 · omega
 · omega
 · omega
 · unfold maxLen; omega
 intro cur hcur w1 hg1 hb1 hz1
 obtain ⟨c0, rest, rfl⟩ : ∃ c0 rest, cur = c0 :: rest := by
   cases cur with
   | nil => exfalso; simp at hcur; omega
   | cons c r => exact ⟨c, r, rfl⟩
 obtain ⟨x0, x1⟩ := box_cells hg1
 have hw : IntKind.u64.wrap (xs.length : Int) = xs.length := by rw [IntKind.wrap_u64]; omega
 have hg2 := box_set (i := 0) (v := .int .u64 (xs.length : Int)) hg1
 have hg3 : (w1.setCell ⟨w.heap.size, 0, none⟩ (.int .u64 (xs.length : Int))).heap[w.heap.size]? = some (.cells ((.int .u64 (xs.length : Int)) :: rest).toArray 24 (0, 0)) := by simpa using hg2
 have hown := own_ints (k := .u64) (base := w.heap.size) (xs := [(xs.length : Int)]) hg3 hcur (by simp) (by intro x hx'; simp at hx'; subst hx'; exact okU_of (by omega) (by omega)) (by simp) (by unfold maxLen; omega) (Nat.le_refl _)
 have hb2 : Below w.heap.size w (w1.setCell ⟨w.heap.size, 0, none⟩ (.int .u64 (xs.length : Int))) := hb1.setCell (Nat.le_refl _) _; have HOWN := Lib.hid hown; have HB2 := Lib.hid hb2; clear hown hb2 hg2 hg3 hg1; go_wp2_with fail; generalize w1.setCell ⟨w.heap.size, 0, none⟩ (.int .u64 (xs.length : Int)) = w2 at *
 go_loopw [3, 4] (fun vr vs wr => ∃ (c : Nat), 7 * c ≤ xs.length + 6 ∧ vs = .int .i64 (7 * c : Nat) ∧ Own u64R w.heap.size 24 (fun x => False ∨ w.heap.size ≤ x) wr vr ((xs.length : Int) :: chunksTo xs c) ∧ Below w.heap.size w wr ∧ w.heap.size ≤ wr.heap.size) (fun _ vs _ => xs.length + 8 - (intOf vs).toNat)
 case atStart => exact ⟨0, by omega, rfl, by simpa [chunksTo] using HOWN.out, HB2.out, HB2.out.size⟩
 case round =>
   obtain ⟨c, hk7, rfl, hor, hbr, hsz⟩ := hrel
   have hcl : ((xs.length : Int) :: chunksTo xs c).length = c + 1 := by rw [List.length_cons, chunksTo_len]
   have HSN := Lib.hid (chunksTo_succ xs c); obtain ⟨k, hkc⟩ : ∃ k, 7 * c = k := ⟨_, rfl⟩; have HKC := Lib.hid hkc; rw [hkc] at hk7 ⊢; obtain ⟨ns, hns⟩ : ∃ ns, (xs.length : Int) :: chunksTo xs c = ns := ⟨_, rfl⟩; have HNS := Lib.hid hns; rw [hns] at hor hcl
   have hc7 : 7 * ns.length ≤ k + 7 := by omega
   clear hns hkc
   by_cases hlt : k < xs.length
   · have hpos : 0 < xs.length := by omega
     obtain ⟨b, off, rfl, -, -, -, -, -⟩ := bytes_at H.out 0 hpos
     by_cases h7 : k + 7 ≤ xs.length
     · have h7i : ¬ ((xs.length : Int) < (k : Int) + 7) := by omega
       have HOR := Lib.hid hor; clear hor; go_wp2_with fail; have hMx : k + 7 ≤ xs.length := h7
       go_loop [6, 37] (fun vn vi => ∃ (j : Nat), j ≤ 7 ∧ vi = .int .i64 j ∧ vn = .int .u64 (leN ((xs.drop k).take j))) (fun _ vi => 7 - (intOf vi).toNat)
       case atStart => exact ⟨0, Nat.zero_le _, rfl, by rw [List.take_zero]; rfl⟩
       case round =>
         obtain ⟨j, hj, rfl, rfl⟩ := hrel
         have hin := leN_in ((xs.drop k).take j) fun d hd => HI.out d (List.mem_of_mem_drop (List.mem_of_mem_take hd))
         have hlj : ((xs.drop k).take j).length = j := by simp; omega
         rw [hlj] at hin
         by_cases hjl : j < 7
         · obtain ⟨b', off', hbo, -, -, d0, d1, hc⟩ := bytes_at (bytesR.keepB H.out hbr) (k + j) (by omega)
           simp at hbo
           obtain ⟨rfl, rfl⟩ := hbo; rw [← Nat.add_assoc] at hc
           have HST := Lib.hid (leN_take_succ xs k j (by omega))
           have hor := or_step (m := leN ((xs.drop k).take j)) (x := xs[k + j]) j (by omega) hin.1 hin.2 d0 d1
           rw [← HST.out] at hor; have HORS := Lib.hid hor; generalize xs[k + j] = x at *; generalize leN ((xs.drop k).take j) = n at *; clear hor hin hlj; go_wp2_with fail
           go_round
           case rel => exact ⟨j + 1, by omega, by go_num, by rw [HORS.out]⟩
           case measure => simp [intOf]; omega
         · obtain rfl : j = 7 := by omega
           have hp := (pow256 ⟨7, by omega⟩).1.2
           simp only at hp
           have HCH : Hid (chunk xs c = leN ((xs.drop k).take 7)) := by
             show _ = _
             unfold chunk; rw [HKC.out]
           have HY : Hid (u64R.rel (fun _ => False) wr [.int .u64 (leN ((xs.drop k).take 7))] (leN ((xs.drop k).take 7))) := ⟨rfl, okU_of hin.1 (by omega)⟩
           have HLEN : Hid (ns.length + 1 ≤ maxLen ∧ (ns.length + 1) * 8 ≤ 140737488355328) := by unfold maxLen; constructor <;> omega
           have HE : Hid ((xs.length : Int) :: chunksTo xs (c + 1) = ns ++ [leN ((xs.drop k).take 7)]) := by show _ = _; rw [HSN.out, HCH.out, ← HNS.out]; rfl
           have HK2 : Hid (7 * (c + 1) = k + 7) := by show _ = _; have := HKC.out; omega
           generalize leN ((xs.drop k).take 7) = n at *
           go_wp2_with (at_builtin; refine wpList_push (r := u64R) (wr := wr) (es := [.int .u64 n]) (v := u3) (w0 := w) (B := w.heap.size) rfl _ _ rfl Tryz.etyNums rfl rfl hbr hsz HOR.out HY.out (fun x hx => hx.elim) HLEN.out.1 HLEN.out.2 ?_)
           intro v2 w3 ho3 hb3
           have ho4 := Own.mono ho3 (F' := fun x => False ∨ w.heap.size ≤ x) fun x _ h => by first | exact h | exact .inr h
           rw [← HE.out] at ho4; have HZ := Lib.hid ho4; clear ho3 ho4; go_wp2_with fail
           go_roundw
           case rel => exact ⟨c + 1, by have := HK2.out; omega, by rw [HK2.out]; go_num, HZ.out, hb3, hb3.size⟩
           case measure => simp [intOf]; omega
     · have h7i : (xs.length : Int) < (k : Int) + 7 := by omega
       have HOR := Lib.hid hor; clear hor; go_wp2_with fail; obtain ⟨M, hM⟩ : ∃ M, xs.length - k = M := ⟨_, rfl⟩; rw [hM]
       have hM7 : M ≤ 7 := by omega
       have hMx : k + M ≤ xs.length := by omega
       have hMl : xs.length ≤ k + M := by omega
       clear hM
       go_loop [6, 37] (fun vn vi => ∃ (j : Nat), j ≤ M ∧ vi = .int .i64 j ∧ vn = .int .u64 (leN ((xs.drop k).take j))) (fun _ vi => M - (intOf vi).toNat)
       case atStart => exact ⟨0, Nat.zero_le _, rfl, by rw [List.take_zero]; rfl⟩
       case round =>
         obtain ⟨j, hj, rfl, rfl⟩ := hrel
         have hin := leN_in ((xs.drop k).take j) fun d hd => HI.out d (List.mem_of_mem_drop (List.mem_of_mem_take hd))
         have hlj : ((xs.drop k).take j).length = j := by simp; omega
         rw [hlj] at hin
         by_cases hjl : j < M
         · obtain ⟨b', off', hbo, -, -, d0, d1, hc⟩ := bytes_at (bytesR.keepB H.out hbr) (k + j) (by omega)
           simp at hbo
           obtain ⟨rfl, rfl⟩ := hbo; rw [← Nat.add_assoc] at hc
           have HST := Lib.hid (leN_take_succ xs k j (by omega))
           have hor := or_step (m := leN ((xs.drop k).take j)) (x := xs[k + j]) j (by omega) hin.1 hin.2 d0 d1
           rw [← HST.out] at hor; have HORS := Lib.hid hor; generalize xs[k + j] = x at *; generalize leN ((xs.drop k).take j) = n at *; clear hor hin hlj; go_wp2_with fail
           go_round
           case rel => exact ⟨j + 1, by omega, by go_num, by rw [HORS.out]⟩
           case measure => simp [intOf]; omega
         · obtain rfl : j = M := by omega
           have hp := (pow256 ⟨j, by omega⟩).1.2
           simp only at hp
           have HCH : Hid (chunk xs c = leN ((xs.drop k).take j)) := by
             show _ = _
             unfold chunk; rw [HKC.out]
             rw [List.take_of_length_le (by simp; omega), List.take_of_length_le (by simp; omega)]
           have HY : Hid (u64R.rel (fun _ => False) wr [.int .u64 (leN ((xs.drop k).take j))] (leN ((xs.drop k).take j))) := ⟨rfl, okU_of hin.1 (by omega)⟩
           have HLEN : Hid (ns.length + 1 ≤ maxLen ∧ (ns.length + 1) * 8 ≤ 140737488355328) := by unfold maxLen; constructor <;> omega
           have HE : Hid ((xs.length : Int) :: chunksTo xs (c + 1) = ns ++ [leN ((xs.drop k).take j)]) := by show _ = _; rw [HSN.out, HCH.out, ← HNS.out]; rfl
           have HK2 : Hid (7 * (c + 1) = k + 7) := by show _ = _; have := HKC.out; omega
           generalize leN ((xs.drop k).take j) = n at *
           go_wp2_with (at_builtin; refine wpList_push (r := u64R) (wr := wr) (es := [.int .u64 n]) (v := u3) (w0 := w) (B := w.heap.size) rfl _ _ rfl Tryz.etyNums rfl rfl hbr hsz HOR.out HY.out (fun x hx => hx.elim) HLEN.out.1 HLEN.out.2 ?_)
           intro v2 w3 ho3 hb3
           have ho4 := Own.mono ho3 (F' := fun x => False ∨ w.heap.size ≤ x) fun x _ h => by first | exact h | exact .inr h
           rw [← HE.out] at ho4; have HZ := Lib.hid ho4; clear ho3 ho4; go_wp2_with fail
           go_roundw
           case rel => exact ⟨c + 1, by have := HK2.out; omega, by rw [HK2.out]; go_num, HZ.out, hb3, hb3.size⟩
           case measure => simp [intOf]; omega
   · have HC : Hid (ns = packS xs) := by
       show _ = _
       have h1 : c = (xs.length + 6) / 7 := by have := HKC.out; omega
       subst h1; exact HNS.out.symm
     rw [HC.out] at hor; obtain ⟨a2, c2, rfl, -, -⟩ := sliceR.form hor.slice
     have HS := Lib.hid (numsR.mono hor.slice (S' := fun _ => True) fun _ _ _ => trivial)
     clear hor; go_wp2_with fail; go_ret
     exact ⟨a2, c2, rfl, HS.out, hbr⟩
theorem hashBytesX_any (S : Nat → Prop) (w : World) (label : Int) (hl0 : 0 ≤ label) (a : Option Addr) (len cap : Nat) (xs : List Int) (hlen : len = xs.length) (h : bytesR.rel S w [.slice a len cap] xs) (hx : xs.length ≤ 3000000) :
   Calls Tryz.prog 195 #[.int .u64 label, .slice a len cap] w fun e w' => e = .returned (.int .u64 (hashS label (packS xs))) ∧ Below w.heap.size w w' := by
 subst hlen
 have hpl : (packS xs).length ≤ 1000000 := by
   show ((xs.length : Int) :: chunks xs).length ≤ _
   rw [List.length_cons, chunks_len]; omega
 go_enter Tryz.func195, Tryz.ntmps195
 go_wp2_with fail
 refine (packX_any S w a cap xs h hx).mono ?_
 rintro e w1 ⟨a1, c1, rfl, hr1, hb1⟩; have HR1 := Lib.hid hr1; have HPL := Lib.hid hpl; clear hr1 hpl; obtain ⟨l, hl⟩ : ∃ l, packS xs = l := ⟨_, rfl⟩; have HL := Lib.hid hl; rw [hl] at HR1 HPL ⊢; clear hl; go_wp2_with fail
 refine (Hash_big label hl0 (fun _ => True) w1 a1 c1 l HR1.out HPL.out).mono ?_
 rintro e w2 ⟨rfl, hb2⟩; go_wp2_with fail; go_ret
 exact ⟨ret_int (by rw [HL.out]), bnext hb1 hb2⟩
end Go.Proofs.YtphacfkcifpobaaGreatDoor
/- The reference's transactions: what is well-formed, the origin. -/
/- The reference's bytes of a transaction. -/
/- Transactions: the statement that the proof proves. -/
namespace Go.Proofs.YtphacfkcifpobaaGreatDoor
open Go.ChangeShapes Go.WideShapes Go.ChangeAt Go.RowKit
abbrev StS (A : Array Value) (w w' : World) : Prop :=
 Below w.heap.size w w' ∧ w.heap.size + 1 < w'.heap.size ∧ (∀ o, w'.cell? ⟨w.heap.size, o, none⟩ = A[o]?) ∧
   w'.heap[w.heap.size]? = some (.cells A 181 (0, 0)) ∧ w'.heap[w.heap.size + 1]? = some (.cells #[.int .i64 0, .int .u64 0, .slice none 0 0, .slice none 0 0, .slice none 0 0, .int .u64 0, .int .u64 0, .int .u64 0, .int .u64 0, .int .u64 0] 329 (0, 0))
theorem StS.of {A : Array Value} {w w' : World} (h1 : Below w.heap.size w w') (h2 : w'.heap[w.heap.size]? = some (.cells A 181 (0, 0))) (h3 : w'.heap[w.heap.size + 1]? = some (.cells #[.int .i64 0, .int .u64 0, .slice none 0 0, .slice none 0 0, .slice none 0 0, .int .u64 0, .int .u64 0, .int .u64 0, .int .u64 0, .int .u64 0] 329 (0, 0))) : StS A w w' :=
 ⟨h1, box_lt h3, (box_cells h2).1, h2, h3⟩
theorem StS.drew {A : Array Value} {w w' : World} (h : StS A w w') : StS A w w'.drew := ⟨h.1.drew, h.2.1, h.2.2.1, h.2.2.2.1, h.2.2.2.2⟩
theorem StS.next {A : Array Value} {w w1 w2 : World} (h : StS A w w1) (hb : Below w1.heap.size w1 w2) : StS A w w2 := StS.of (bnext h.1 hb) (box_after hb h.2.2.2.1) (box_after hb h.2.2.2.2)
theorem StS.alloc {A : Array Value} {w w1 : World} (h : StS A w w1) (o : Obj) : StS A w (w1.alloc o) := h.next (bnew (Below.refl _ _) o)
theorem StS.kept {A : Array Value} {w w1 w2 : World} (h : StS A w w1) (hk : Kept (fun k => k ≤ w.heap.size + 1) w1 w2) : StS A w w2 :=
 StS.of (Kept.behind h.1 hk h.1.size (fun k hk => by omega)) (box_kept hk h.2.2.2.1 (by omega)) (box_kept hk h.2.2.2.2 (by omega))
theorem kept_cells (w : World) {q : Nat} {S : Nat → Prop} (hq : ¬ S q) : ∀ (vs : List Value) (o : Nat), Kept S w (w.setCells q o vs)
 | [], _ => Kept.refl _ _
 | v :: vs, o => by
   rw [World.setCells]
   have h1 : Kept S w (w.setCell ⟨q, o, none⟩ v) := (Kept.refl _ _).setCell (fun _ => hq) _
   have h2 := kept_cells (w.setCell ⟨q, o, none⟩ v) hq vs (o + 1)
   exact h1.trans h2 fun _ _ h => h
theorem Own.tight {k : IntKind} {base : Nat} {e : TypeId} {F : Nat → Prop} {w : World} {v : Value} {xs : List Int} (h : Own (intR k) base e F w v xs) : Own (intR k) base e (fun x => v.ownBlock = some x) w v xs := by
 obtain ⟨S, css, hS, hv, hl, hr, ho⟩ := h
 exact ⟨fun _ => False, css, fun _ h => h.elim, fun k hk => ⟨fun h => h, hk⟩, hl, fun i cs x hc hx => Plain.int k (hr i cs x hc hx), ho⟩
def rhosTo (o : Int) : Nat → List Int
 | 0 => []
 | k + 1 => rhosTo o k ++ [rhoS o k]
theorem rhosTo_len (o : Int) : ∀ k, (rhosTo o k).length = k
 | 0 => rfl
 | k + 1 => by simp [rhosTo, rhosTo_len o k]
def stOf (D : Nat) (t : TxM) (bd : Int) : StM := ⟨D, t.anchor, t.marks, t.outs.map (·.commit), rhosTo (originS t.marks t.acc t.nonce) t.outs.length, t.dep, t.wd, t.fee, t.acc, bd⟩
def StOut (D : Nat) (t : TxM) (w : World) (e : Ending) (w' : World) : Prop :=
 ∃ bd ma ca ra mc cc rc, 0 ≤ bd ∧ bd < 18446744069414584321 ∧ e = .returned (.agg #[.int .i64 D, .int .u64 t.anchor, .slice ma t.marks.length mc, .slice ca t.outs.length cc, .slice ra t.outs.length rc, .int .u64 t.dep, .int .u64 t.wd, .int .u64 t.fee, .int .u64 t.acc, .int .u64 bd]) ∧
   StIn (fun _ => True) w' (stOf D t bd) ma ca ra mc cc rc ∧ Below w.heap.size w w'
structure StAt (D : Nat) (t : TxM) (A : Array Value) (w : World) (q C : Nat) (am : Option Addr) (cm : Nat) (bd : Int) (v1 v2 : Value) (wr : World) : Prop where
 sts : StS A w wr
 box : wr.heap[q]? = some (.cells #[.int .i64 D, .int .u64 t.anchor, .slice am t.marks.length cm, v1, v2, .int .u64 t.dep, .int .u64 t.wd, .int .u64 t.fee, .int .u64 t.acc, .int .u64 bd] 329 (0, 0))
 marks : numsR.rel (fun k => (w.heap.size + 1 < k ∧ k ≠ q) ∧ k < C) wr [.slice am t.marks.length cm] t.marks
 lay : w.heap.size + 1 < q
 qC : q < C
 base : C ≤ wr.heap.size
theorem StAt.kept {D : Nat} {t : TxM} {A : Array Value} {w : World} {q C : Nat} {am : Option Addr} {cm : Nat} {bd : Int} {v1 v2 : Value} {wr w2 : World} (h : StAt D t A w q C am cm bd v1 v2 wr) (hk : Kept (fun k => k < C) wr w2) : StAt D t A w q C am cm bd v1 v2 w2 :=
 have := h.lay; have := h.qC
 ⟨h.sts.kept (hk.mono fun k _ h => by omega), box_kept hk h.box h.qC, numsR.keep h.marks (hk.mono fun k _ h => h.2), h.lay, h.qC, Nat.le_trans h.base hk.size⟩
theorem StAt.keepB {D : Nat} {t : TxM} {A : Array Value} {w : World} {q C : Nat} {am : Option Addr} {cm : Nat} {bd : Int} {v1 v2 : Value} {wr w2 : World} (h : StAt D t A w q C am cm bd v1 v2 wr) (hb : Below wr.heap.size wr w2) : StAt D t A w q C am cm bd v1 v2 w2 := h.kept (Kept.of_below hb)
theorem StAt.store {D : Nat} {t : TxM} {A : Array Value} {w : World} {q C : Nat} {am : Option Addr} {cm : Nat} {bd : Int} {v1 v2 u1 u2 : Value} {wr : World} (h : StAt D t A w q C am cm bd v1 v2 wr) (i : Nat) (v : Value)
   (hv : (#[.int .i64 D, .int .u64 t.anchor, .slice am t.marks.length cm, v1, v2, .int .u64 t.dep, .int .u64 t.wd, .int .u64 t.fee, .int .u64 t.acc, .int .u64 bd] : Array Value).setIfInBounds i v = #[.int .i64 D, .int .u64 t.anchor, .slice am t.marks.length cm, u1, u2, .int .u64 t.dep, .int .u64 t.wd, .int .u64 t.fee, .int .u64 t.acc, .int .u64 bd]) : StAt D t A w q C am cm bd u1 u2 (wr.setCell ⟨q, i, none⟩ v) :=
 have := h.lay; have := h.qC
 have hk : Kept (fun k => k ≠ q) wr (wr.setCell ⟨q, i, none⟩ v) := (Kept.refl _ _).setCell (fun _ h => h rfl) _
 ⟨h.sts.kept (hk.mono fun k _ h => by omega), hv ▸ box_set h.box, numsR.keep h.marks (hk.mono fun k _ h => h.1.2), h.lay, h.qC, by rw [World.size_setCell]; exact h.base⟩
end Go.Proofs.YtphacfkcifpobaaGreatDoor

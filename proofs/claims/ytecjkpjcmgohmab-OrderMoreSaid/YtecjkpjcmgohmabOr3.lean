/- The points that were seen. -/
import Derived.Test.YtecjkpjcmgohmabOr2
namespace Go.Proofs.Ytecjkpjcmgohmab.Or
open Go Go.RowKit Go.Maps Go.Proofs.Ytecjkpjcmgohmab.Only Go.Proofs.Ytecjkpjcmgohmab.Pu
set_option linter.unusedVariables false
set_option linter.unusedSimpArgs false

theorem laidOut : laidOutB Try.prog = true := by kernel_rfl
theorem rowPt : (51 : TypeId) < Try.prog.types.size := of_decide_eq_true (by kernel_rfl)
theorem widePt : (match Try.prog.underlying 51 with | some (.array _ _) | some (.struct _) => true | _ => false) = true := by kernel_rfl
theorem keyPt : Try.prog.keyType 51 = true := by kernel_rfl
theorem lawPt : Keyed Try.prog 51 := Keyed.of_law (deep_law_laid laidOut (m := 2) (by omega) rowPt (by kernel_rfl) widePt)
theorem cellsPt : Try.prog.cellsOf 51 = 2 := by kernel_rfl
theorem cellsInt : Try.prog.cellsOf 3 = 1 := by kernel_rfl
theorem cellsBool : Try.prog.cellsOf 4 = 1 := by kernel_rfl
theorem sizeTypes : Try.prog.types.size + 1 = (Try.prog.types.size - 1) + 1 + 1 := by
  have : (0 : Nat) < Try.prog.types.size := of_decide_eq_true (by kernel_rfl)
  omega
def pt (d : Nat) (b : Bool) : Value := .agg #[.int .i64 d, .bool b]
def KL (d : Nat) (b : Bool) : Lit := .string (keyBytes [.int .i64 (d : Int), .bool b])
theorem keyS {d : Nat} (hd : d < 4096) (b : Bool) : keyOf Try.prog 51 (pt d b) = some (KL d b) := by
  have hw : (Lit.int .i64 (d : Int)).wf = true := WalkArith.wf_i64 (by omega)
  unfold keyOf pt
  rw [Try.underlying51]
  have hf : (Value.agg #[.int .i64 (d : Int), .bool b]).formed Try.prog 51 = true := by
    simp [Value.formed, Try.underlying51, cellsPt]
  simp only [keyPt, hf, Bool.and_self, if_true]
  rw [sizeTypes]
  generalize Try.prog.types.size - 1 = n
  have hi : ∀ n, Try.prog.keyLits (n + 1) 3 [.int .i64 (d : Int)] = some [.int .i64 d] := fun n => by
    unfold Program.keyLits
    rw [Try.underlying3]
    simp [hw]
  have hb : ∀ n, Try.prog.keyLits (n + 1) 4 [.bool b] = some [.bool b] := fun n => by
    unfold Program.keyLits
    rw [Try.underlying4]
  unfold Program.keyLits KL
  rw [Try.underlying51]
  simp [cellsPt, cellsInt, cellsBool, hi, hb, Value.cells]
theorem KL_inj {d e : Nat} (hd : d < 4096) (he : e < 4096) {a b : Bool} (h : KL d a = KL e b) : d = e ∧ a = b := by
  have h1 := keyS hd a
  have h2 := keyS he b
  rw [h] at h1
  have := lawPt.inj h1 h2
  unfold pt at this
  injection this with this
  simp at this
  exact ⟨by omega, this.2⟩
def heldR : Value → Option (DataW Value × List MemPlace) := fun v => some (.held v, [])
/-- The map has just these points. -/
def Seen (D : DataW Value) (S : List (Nat × Bool)) : Prop := ∀ d b, d < 4096 → D.atKey (KL d b) (.held (.bool false)) = .held (.bool (decide ((d, b) ∈ S)))
theorem seen_nil : Seen (.map []) [] := fun d b _ => rfl
theorem seen_put {D : DataW Value} {S : List (Nat × Bool)} (hD : IsMap D) (h : Seen D S) {d : Nat} (hd : d < 4096) (b : Bool) : Seen (D.put (KL d b) (.held (.bool true))) ((d, b) :: S) := by
  intro e c he
  by_cases q : e = d ∧ c = b
  · obtain ⟨rfl, rfl⟩ := q
    rw [atKey_put_same hD (lawPt.key (keyS he c))]
    simp
  · rw [atKey_put_other (fun e' => q (KL_inj he hd e')), h e c he]
    have : ((e, c) ∈ (d, b) :: S) ↔ (e, c) ∈ S := by
      rw [List.mem_cons]
      constructor
      · rintro (x | x)
        · injection x with x1 x2; exact absurd ⟨x1, x2⟩ q
        · exact x
      · exact .inr
    simp only [this]
theorem zeroB (w : World) : (zeroValue 4).run Try.prog w = .ok (.bool false) w := by kernel_rfl
theorem look_eq {w : World} {mb n : Nat} {D : DataW Value} {S : List (Nat × Bool)} (h : w.ownsMap Try.prog 51 heldR mb n D) (hS : Seen D S) {d : Nat} (hd : d < 4096) (b : Bool) :
    (Instr.lookup 48 (.map (some mb)) (.agg #[.int .i64 d, .bool b]) false).run Try.prog w = .ok (.bool (decide ((d, b) ∈ S))) w := by
  obtain ⟨v, ps, hrun, hv⟩ := h.lookup lawPt Try.underlying48 (zeroB w) (zd := .held (.bool false)) (zp := []) rfl (keyS hd b)
  rw [hS d b hd] at hv
  unfold heldR at hv
  simp at hv
  unfold pt at hrun
  rw [hrun, hv.1]

/-! Bits. -/
def ub (d : Nat) : Nat → Bool := fun i => !d.testBit i
theorem ub_set (d i : Nat) : ub (d ||| 1 <<< i) = tke (ub d) i := by
  funext j
  unfold ub tke
  rw [Nat.testBit_or, Nat.one_shiftLeft, Nat.testBit_two_pow]
  by_cases h : i = j
  · simp [h]
  · simp [h, Ne.symm h]
theorem set_gt {d i : Nat} (h : ub d i = true) : d < d ||| 1 <<< i := by
  unfold ub at h
  have hle : d ≤ d ||| 1 <<< i := Nat.left_le_or
  have hne : d ≠ d ||| 1 <<< i := fun e => by
    have : (d ||| 1 <<< i).testBit i = true := by rw [Nat.testBit_or, Nat.one_shiftLeft, Nat.testBit_two_pow]; simp
    rw [← e] at this
    simp [this] at h
  omega
theorem set_lt {d i n : Nat} (hd : d < 2 ^ n) (hi : i < n) : d ||| 1 <<< i < 2 ^ n := Nat.or_lt_two_pow hd (by rw [Nat.one_shiftLeft]; exact Nat.pow_lt_pow_right (by omega) hi)
theorem wraps_i64 (n : Int) (h₀ : 0 ≤ n) (h₁ : n < 2 ^ 63) : IntKind.i64.wrap n = n := by rw [IntKind.wrap_i64]; omega
/-- Is a bit off? -/
theorem bit_is {d i : Nat} (hd : d < 4096) (hi : i < 12) : Go.bits .and .i64 ((d : Int) / 2 ^ i) 1 = if ub d i then 0 else 1 := by
  have h1 : ((d : Int) / 2 ^ i) = ((d / 2 ^ i : Nat) : Int) := by norm_cast
  have h2 : d / 2 ^ i ≤ d := Nat.div_le_self _ _
  have h4 : ub d i = !decide (d / 2 ^ i % 2 = 1) := by unfold ub; rw [Nat.testBit_eq_decide_div_mod_eq]
  rw [h1, h4]
  generalize d / 2 ^ i = m at *
  have h3 := bits_mask .i64 63 (by decide) wraps_i64 1 (by decide) (m : Int) (by omega) (by omega)
  rw [show (2 : Int) ^ 1 - 1 = 1 by decide, show (2 : Int) ^ 1 = 2 by decide] at h3
  rw [h3]
  by_cases h : m % 2 = 1
  · simp [h]; omega
  · simp [h]; omega

/-! One step of the plain answer. -/
def okB (l : List C) (d : Nat) (b : Bool) : Bool := can does l l.length (ub d) b
theorem rem_le (l : List C) (u : Nat → Bool) : (rem l u).length ≤ l.length := by
  unfold rem
  rw [List.length_map]
  exact Nat.le_trans (List.length_filter_le _ _) (by simp)
def goB (l : List C) (d : Nat) (b : Bool) (i : Nat) : Bool := ub d i && fre l (ub d) i && tls does b (at' l i) && okB l (d ||| 1 <<< i) (does b (at' l i)).1
theorem okB_step {l : List C} (hv : ∀ c ∈ l, ahd c c = false) (d : Nat) (b : Bool) : okB l d b = ((List.range l.length).any (goB l d b) || !lft l (ub d)) := by
  have h1 := can_lin does hv l.length (ub d) b (rem_le _ _)
  have h2 := can_lin does hv (l.length + 1) (ub d) b (Nat.le_succ_of_le (rem_le _ _))
  have e : okB l d b = can does l (l.length + 1) (ub d) b := by
    unfold okB
    rw [Bool.eq_iff_iff, h1, h2]
  rw [e]
  unfold can
  congr 2
  funext i
  unfold goB okB
  rw [ub_set]
theorem rem_dec {l : List C} {d i : Nat} (hi : i < l.length) (hu : ub d i = true) : (rem l (ub (d ||| 1 <<< i))).length + 1 = (rem l (ub d)).length := by
  rw [ub_set, (rem_take hi hu).length_eq, List.length_cons]
end Go.Proofs.Ytecjkpjcmgohmab.Or

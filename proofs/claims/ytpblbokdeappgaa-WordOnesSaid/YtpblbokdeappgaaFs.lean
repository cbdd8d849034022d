/- The words' functions as plain numbers: what each printed function of package word and its reference answers. -/
import Derived.Test.YtpblbokdeappgaaQx
import Derived.Test.YtpblbokdeappgaaBits
namespace Go.Proofs.Ytpblbokdeappgaa.Fs
set_option linter.unusedVariables false
open Go Go.RowKit Go.Proofs.Ytpblbokdeappgaa.Q Go.Proofs.Ytpblbokdeappgaa.Bits

theorem awake_true : impostlaw12_awake.f = some true := by decide +kernel

theorem pack_f (s i : Int) : word_Pack.f s i = some (pack s i) := by unfold word_Pack.f; rw [pack_is]

theorem state_f (w : Int) (h₀ : 0 ≤ w) (h₁ : w < 18446744073709551616) : word_State.f w = some (w % 4) := by unfold word_State.f; rw [state_is w h₀ h₁]

theorem info_f (w : Int) (h₀ : 0 ≤ w) (h₁ : w < 18446744073709551616) : word_Info.f w = some (w / 4) := by unfold word_Info.f; rw [info_is w h₀ h₁]

theorem head_f (s r h : Int) : word_Head.f s r h = some (head s r h) := by
  unfold word_Head.f
  have e : IntKind.u64.wrap (Go.bits .and .u64 (IntKind.u64.wrap h) 1048575) = Go.bits .and .u64 (IntKind.u64.wrap h) 1048575 := by
    rw [wrap_u64, wrap_u64, and20 _ (by omega) (by omega)]; omega
  rw [e, head_is]

theorem open_f (w : Int) (h₀ : 0 ≤ w) (h₁ : w < 18446744073709551616) : word_Open.f w = some (w / 1099511627776, w / 1048576 % 1048576, w % 1048576) := by
  unfold word_Open.f; rw [open_seq w h₀ h₁, open_rev w h₀ h₁, open_hor w h₀ h₁]

/-- May a head be? -/
def may (s r h : Int) : Bool := decide (0 ≤ s ∧ s < 16777216 ∧ 0 ≤ h ∧ h ≤ r ∧ r < 1048576)

theorem may_f (s r h : Int) : word_May.f s r h = some (may s r h) := by
  unfold word_May.f may
  repeat' split
  all_goals congr 1
  all_goals first | (rw [decide_eq_decide]; omega) | (symm; rw [decide_eq_false_iff_not]; omega)

theorem ref_pack (s i : Int) : impostref12_Pack.f s i = some (pack s i) := by
  unfold impostref12_Pack.f pack
  simp only [wrap_u64]
  congr 1
  rw [Int.tmod_eq_emod_of_nonneg (by omega)]
  omega

theorem ref_state (w : Int) (h₀ : 0 ≤ w) (h₁ : w < 18446744073709551616) : impostref12_State.f w = some (w % 4) := by
  unfold impostref12_State.f
  rw [Int.tmod_eq_emod_of_nonneg (by omega)]
  congr 1
  unfold wrap64; omega

theorem ref_info (w : Int) (h₀ : 0 ≤ w) (h₁ : w < 18446744073709551616) : impostref12_Info.f w = some (w / 4) := by
  unfold impostref12_Info.f
  rw [Int.tdiv_eq_ediv_of_nonneg (by omega), wrap_u64]
  congr 1
  unfold wrap64; omega

theorem ref_head (s r h : Int) : impostref12_Head.f s r h = some (head s r h) := by
  unfold impostref12_Head.f head
  simp only [wrap_u64]
  congr 1
  rw [Int.tmod_eq_emod_of_nonneg (by omega), Int.tmod_eq_emod_of_nonneg (by omega)]
  omega

theorem ref_open (w : Int) (h₀ : 0 ≤ w) (h₁ : w < 18446744073709551616) : impostref12_Open.f w = some (w / 1099511627776, w / 1048576 % 1048576, w % 1048576) := by
  unfold impostref12_Open.f
  simp only [wrap_u64]
  rw [Int.tdiv_eq_ediv_of_nonneg (by omega), Int.tdiv_eq_ediv_of_nonneg (by omega), Int.tmod_eq_emod_of_nonneg (by omega), Int.tmod_eq_emod_of_nonneg (by omega)]
  unfold wrap64
  congr 1
  refine Prod.ext ?_ (Prod.ext ?_ ?_) <;> simp only <;> omega

theorem ref_may (s r h : Int) : impostref12_May.f s r h = some (may s r h) := by
  unfold impostref12_May.f may
  repeat' split
  all_goals congr 1
  all_goals first | (rw [decide_eq_decide]; omega) | (symm; rw [decide_eq_false_iff_not]; omega)

theorem may_true {s r h : Int} : may s r h = true ↔ (0 ≤ s ∧ s < 16777216 ∧ 0 ≤ h ∧ h ≤ r ∧ r < 1048576) := by unfold may; simp

theorem head_small {s r h : Int} (m : may s r h = true) : head s r h = s * 1099511627776 + r * 1048576 + h := by
  have := may_true.1 m
  unfold head
  omega

end Go.Proofs.Ytpblbokdeappgaa.Fs

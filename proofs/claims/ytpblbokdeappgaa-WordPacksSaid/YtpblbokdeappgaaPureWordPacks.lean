/- For any state, any info and any word the packed word, and the state and the info of the word, are the document's. No condition. -/
import Derived.Test.YtpblbokdeappgaaQx6
import Derived.Test.YtpblbokdeappgaaBits
namespace Go.Proofs.Ytpblbokdeappgaa.Pure
open Go.RowKit Go.Proofs.Ytpblbokdeappgaa.Q Go.Proofs.Ytpblbokdeappgaa.Bits Go.Proofs.YtpblbokdeappgaaW.PrintWords Go.Proofs.YtpblbokdeappgaaW.PrintLast

namespace WordPacks

theorem awake_true : impostlaw12_awake.f = some true := by decide +kernel

theorem pack_f (s i : Int) : word_Pack.f s i = some (pack s i) := by unfold word_Pack.f; rw [pack_is]

theorem state_f (w : Int) (h₀ : 0 ≤ w) (h₁ : w < 18446744073709551616) : word_State.f w = some (w % 4) := by unfold word_State.f; rw [state_is w h₀ h₁]

theorem info_f (w : Int) (h₀ : 0 ≤ w) (h₁ : w < 18446744073709551616) : word_Info.f w = some (w / 4) := by unfold word_Info.f; rw [info_is w h₀ h₁]

end WordPacks

theorem WordPacks : impostlaw12_WordPacks.Pure := by
  intro s i w _ _ hw
  have b := Go.bounds_u64 hw
  unfold impostlaw12_WordPacks.f
  rw [WordPacks.awake_true]
  simp only [Option.bind_some, if_true, WordPacks.pack_f, WordPacks.state_f w (by omega) (by omega), WordPacks.info_f w (by omega) (by omega)]
  have e1 : impostref12_Pack.f s i = some (pack s i) := by
    unfold impostref12_Pack.f pack
    simp only [wrap_u64]
    congr 1
    rw [Int.tmod_eq_emod_of_nonneg (by omega)]
    omega
  have e2 : impostref12_State.f w = some (w % 4) := by
    unfold impostref12_State.f
    rw [Int.tmod_eq_emod_of_nonneg (by omega)]
    congr 1
    unfold wrap64; omega
  have e3 : impostref12_Info.f w = some (w / 4) := by
    unfold impostref12_Info.f
    rw [Int.tdiv_eq_ediv_of_nonneg (by omega), wrap_u64]
    congr 1
    unfold wrap64; omega
  rw [e1, e2, e3]
  simp

end Go.Proofs.Ytpblbokdeappgaa.Pure

/- A state below 4 and an info of 32 bits come back out of their word, and any word comes back out of its state and its info. No condition. -/
import Derived.Test.YtpblbokdeappgaaQx
import Derived.Test.YtpblbokdeappgaaFs
namespace Go.Proofs.Ytpblbokdeappgaa.Pure
open Go.RowKit Go.Proofs.Ytpblbokdeappgaa.Q Go.Proofs.Ytpblbokdeappgaa.Bits Go.Proofs.Ytpblbokdeappgaa.Fs

namespace WordBack
theorem pack_small (s i : Int) (bs : 0 ≤ s) (bt : s < 4) (bi : 0 ≤ i) (bj : i ≤ 4294967295) : pack s i = 4 * i + s := by unfold pack; omega
theorem pack_back (w : Int) (b : 0 ≤ w) (c : w ≤ 18446744073709551615) : pack (w % 4) (w / 4) = w := by unfold pack; omega
theorem wrap_mod (s : Int) (b : 0 ≤ s) : wrap64 (Int.tmod s 4) = s % 4 := by
  rw [Int.tmod_eq_emod_of_nonneg b]; unfold wrap64; omega
theorem wrap_small (i : Int) (b : 0 ≤ i) (c : i ≤ 4294967295) : wrap64 i = i := by unfold wrap64; omega
theorem there (s i : Int) (bs : 0 ≤ s) (bt : s < 4) : (4 * i + s) % 4 = s ∧ (4 * i + s) / 4 = i := by omega
theorem fits (s i : Int) (bs : 0 ≤ s) (bt : s < 4) (bi : 0 ≤ i) (bj : i ≤ 4294967295) : 0 ≤ 4 * i + s ∧ 4 * i + s < 18446744073709551616 := by omega
end WordBack

theorem WordBack : impostlaw12_WordBack.Pure := by
  intro s i w hs hi hw
  have bs := Go.bounds_u8 hs
  have bi := Go.bounds_u32 hi
  have b := Go.bounds_u64 hw
  clear hs hi hw
  have e1 := WordBack.wrap_mod s bs.1
  have e2 := WordBack.wrap_small i bi.1 bi.2
  have m0 : 0 ≤ s % 4 := by omega
  have m1 : s % 4 < 4 := by omega
  have p1 := WordBack.pack_small (s % 4) i m0 m1 bi.1 bi.2
  have p2 := WordBack.pack_back w b.1 b.2
  have t := WordBack.there (s % 4) i m0 m1
  have f := WordBack.fits (s % 4) i m0 m1 bi.1 bi.2
  generalize s % 4 = q at *
  have w1 : w < 18446744073709551616 := by omega
  unfold impostlaw12_WordBack.f
  refine Option.bind_eq_some_iff.2 ⟨true, awake_true, ?_⟩
  rw [e1, e2]
  refine Option.bind_eq_some_iff.2 ⟨4 * i + q, (pack_f q i).trans (congrArg some p1), ?_⟩
  rw [if_pos rfl]
  refine Option.bind_eq_some_iff.2 ⟨q, (state_f _ f.1 f.2).trans (congrArg some t.1), ?_⟩
  rw [if_pos rfl]
  refine Option.bind_eq_some_iff.2 ⟨i, (info_f _ f.1 f.2).trans (congrArg some t.2), ?_⟩
  rw [if_pos rfl]
  refine Option.bind_eq_some_iff.2 ⟨_, state_f w b.1 w1, ?_⟩
  refine Option.bind_eq_some_iff.2 ⟨_, info_f w b.1 w1, ?_⟩
  refine Option.bind_eq_some_iff.2 ⟨w, (pack_f _ _).trans (congrArg some p2), ?_⟩
  rw [beq_self_eq_true]
end Go.Proofs.Ytpblbokdeappgaa.Pure

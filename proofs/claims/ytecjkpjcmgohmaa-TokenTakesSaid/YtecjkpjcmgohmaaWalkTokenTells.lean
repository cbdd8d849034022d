/- Whether a token may be, and its bytes (of 300 bytes at most of either key), are the document's answers. No condition. -/
import Derived.Test.YtecjkpjcmgohmaaSt
import Derived.Test.YtecjkpjcmgohmaaQx9
namespace Go.Proofs.Ytecjkpjcmgohmaa.WalkTokenTells
open Go Go.RowKit Go.Proofs.Ytecjkpjcmgohmaa.Q Go.Proofs.Ytecjkpjcmgohmaa.Sk Go.Proofs.Ytecjkpjcmgohmaa.St Go.Proofs.Ytecjkpjcmgohmaa.Bld Go.Proofs.YtecjkpjcmgohmaaW.PrintWords Go.Proofs.YtecjkpjcmgohmaaW.PrintLast
set_option linter.unusedVariables false

theorem ofNat_mod (x : Nat) : UInt8.ofNat ((x : Int) % 256).toNat = UInt8.ofNat x := by
  apply UInt8.toNat_inj.1
  rw [UInt8.toNat_ofNat', UInt8.toNat_ofNat']; omega

theorem low_f (x : Nat) (h : x ≤ 300) : impostref09_low.f (x : Int) = some ((x : Int) % 256) := by
  unfold impostref09_low.f
  have e1 : IntKind.u64.wrap (x : Int) = (x : Int) := by simp [IntKind.wrap, IntKind.bits, IntKind.signed]; omega
  rw [e1, Int.tmod_eq_emod_of_nonneg (by omega)]
  congr 1; omega

theorem high_is (n : Int) : IntKind.u64.wrap (Int.tdiv (Int.tmod (IntKind.u64.wrap n) 65536) 256) % 256 = n / 256 % 256 := by
  have e1 : ∀ x : Int, IntKind.u64.wrap x = x % 18446744073709551616 := fun x => by simp [IntKind.wrap, IntKind.bits, IntKind.signed]
  rw [e1, e1, show Int.tmod (n % 18446744073709551616) 65536 = n % 18446744073709551616 % 65536 from Int.tmod_eq_emod_of_nonneg (by omega), Int.tdiv_eq_ediv_of_nonneg (by omega)]
  omega

theorem low_is (n : Int) : Int.tmod (Int.tmod (IntKind.u64.wrap n) 65536) 256 % 256 = n % 256 := by
  have e1 : ∀ x : Int, IntKind.u64.wrap x = x % 18446744073709551616 := fun x => by simp [IntKind.wrap, IntKind.bits, IntKind.signed]
  rw [e1, show Int.tmod (n % 18446744073709551616) 65536 = n % 18446744073709551616 % 65536 from Int.tmod_eq_emod_of_nonneg (by omega), Int.tmod_eq_emod_of_nonneg (by omega)]
  omega

theorem text_is (a b : ByteArray) (n k : Int) (o : Bool) (hk : kindB o = k) : ((strOfNums [k, n / 256 % 256, n % 256, (a.size : Int) % 256] ++ a) ++ strOfNums [(b.size : Int) % 256]) ++ b = putB a b n o := by
  apply ext_list
  rw [append_list, append_list, append_list, putB_list, strOfNums_data, strOfNums_data, ← hk]
  simp only [List.map_cons, List.map_nil, ofNat_mod, putL, joinL, headL]
  rw [← size_list, ← size_list]
  simp

theorem ref_put (a b : ByteArray) (n : Int) (o : Bool) (ha : a.size ≤ 300) (hb : b.size ≤ 300) : impostref09_Put.f a b n o = some (putB a b n o) := by
  unfold impostref09_Put.f
  rw [high_is, low_is]
  cases o
  · rw [if_neg (by simp)]
    refine Option.bind_eq_some_iff.2 ⟨_, low_f a.size ha, Option.bind_eq_some_iff.2 ⟨_, rfl, ?_⟩⟩
    rw [if_pos (by rw [strOfNums_size]; simp; omega)]
    refine Option.bind_eq_some_iff.2 ⟨_, low_f b.size hb, Option.bind_eq_some_iff.2 ⟨_, rfl, ?_⟩⟩
    rw [if_pos (by rw [ByteArray.size_append, strOfNums_size, strOfNums_size]; simp; omega), if_pos (by rw [ByteArray.size_append, ByteArray.size_append, strOfNums_size, strOfNums_size]; simp; omega)]
    rw [text_is a b n 119 false rfl]
  · rw [if_pos rfl]
    refine Option.bind_eq_some_iff.2 ⟨_, low_f a.size ha, Option.bind_eq_some_iff.2 ⟨_, rfl, ?_⟩⟩
    rw [if_pos (by rw [strOfNums_size]; simp; omega)]
    refine Option.bind_eq_some_iff.2 ⟨_, low_f b.size hb, Option.bind_eq_some_iff.2 ⟨_, rfl, ?_⟩⟩
    rw [if_pos (by rw [ByteArray.size_append, strOfNums_size, strOfNums_size]; simp; omega), if_pos (by rw [ByteArray.size_append, ByteArray.size_append, strOfNums_size, strOfNums_size]; simp; omega)]
    rw [text_is a b n 111 true rfl]

theorem walk (a b : ByteArray) (n : Int) (o : Bool) (ha : a.size ≤ 9223372036854775807) (hb : b.size ≤ 9223372036854775807) (hn : -9223372036854775808 ≤ n ∧ n ≤ 9223372036854775807) (w : World) :
    Calls Try.prog 3 #[.agg #[.string a, .string b, .int .i64 n, .bool o]] w fun e w' => e = .returned (.bool true) ∧ Below w.heap.size w w' := by
  refine impostlaw09_TokenTells.calls 3 a b n o true w ?_
  unfold impostlaw09_TokenTells.f
  refine Option.bind_eq_some_iff.2 ⟨true, awake_from 0, ?_⟩
  by_cases h1 : (a.size : Int) > 300
  · rw [if_pos h1]
    simp only [impostlaw09_TokenTells.j0, if_true]
  · rw [if_neg h1]
    by_cases h2 : (b.size : Int) > 300
    · rw [decide_eq_true h2]
      simp only [impostlaw09_TokenTells.j0, if_true]
    · rw [decide_eq_false h2]
      simp only [impostlaw09_TokenTells.j0, Bool.false_eq_true, if_false, if_true]
      refine Option.bind_eq_some_iff.2 ⟨(a, b, n, o), rfl, ?_⟩
      refine Option.bind_eq_some_iff.2 ⟨_, token_may a b n o hb, Option.bind_eq_some_iff.2 ⟨_, ref_may a b n o hb, ?_⟩⟩
      rw [if_pos (beq_self_eq_true _)]
      refine Option.bind_eq_some_iff.2 ⟨(a, b, n, o), rfl, ?_⟩
      refine Option.bind_eq_some_iff.2 ⟨_, token_put a b n o (by show a.size + b.size + 5 ≤ _; omega) hn, Option.bind_eq_some_iff.2 ⟨_, ref_put a b n o (by omega) (by omega), ?_⟩⟩
      rw [beq_self_eq_true]
end Go.Proofs.Ytecjkpjcmgohmaa.WalkTokenTells

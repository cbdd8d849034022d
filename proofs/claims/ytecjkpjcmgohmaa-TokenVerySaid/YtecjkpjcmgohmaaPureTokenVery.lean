/- What is taken may be, and has the very bytes; with a byte less, or more, it is none. No condition. -/
import Derived.Test.YtecjkpjcmgohmaaSt
import Derived.Test.YtecjkpjcmgohmaaQx10
namespace Go.Proofs.Ytecjkpjcmgohmaa.Pure
open Go Go.RowKit Go.Proofs.Ytecjkpjcmgohmaa.Q Go.Proofs.Ytecjkpjcmgohmaa.Sk Go.Proofs.Ytecjkpjcmgohmaa.St Go.Proofs.Ytecjkpjcmgohmaa.Bld Go.Proofs.YtecjkpjcmgohmaaW.PrintWords Go.Proofs.YtecjkpjcmgohmaaW.PrintLast

theorem one_less {a b c d : ByteArray} {n m : Int} {o p : Bool} {t : List UInt8} (h : mayT a b n) (g : mayT c d m) (ht : t.length = 1) (e : putL a.data.toList b.data.toList n o = putL c.data.toList d.data.toList m p ++ t) : False := by
  have z := may_size h
  have z' := may_size g
  have sa : a.data.toList.length = a.size := (size_list a).symm
  have sb : b.data.toList.length = b.size := (size_list b).symm
  have sc : c.data.toList.length = c.size := (size_list c).symm
  have sd : d.data.toList.length = d.size := (size_list d).symm
  simp only [putL, joinL, headL, List.cons_append, List.nil_append, List.append_assoc, List.cons.injEq] at e
  obtain ⟨_, _, _, e3, e⟩ := e
  have e3 := congrArg UInt8.toNat e3
  rw [UInt8.toNat_ofNat', UInt8.toNat_ofNat'] at e3
  have ea : a.data.toList.length = c.data.toList.length := by omega
  obtain ⟨_, f2⟩ := List.append_inj e ea
  simp only [List.cons.injEq] at f2
  have e4 := congrArg UInt8.toNat f2.1
  rw [UInt8.toNat_ofNat', UInt8.toNat_ofNat'] at e4
  have e5 := congrArg List.length f2.2
  rw [List.length_append, ht] at e5
  omega

theorem TokenVery : impostlaw09_TokenVery.Pure := by
  intro s x hs hx
  refine ⟨3, ?_⟩
  unfold impostlaw09_TokenVery.f
  refine Option.bind_eq_some_iff.2 ⟨true, awake_from 0, ?_⟩
  by_cases hl : (s.size : Int) > 1000
  · rw [if_pos hl]
  · rw [if_neg hl]
    rcases take_any 2 s hs with ⟨e, _⟩ | ⟨a, b, n, o, e, hm, hp⟩
    · refine Option.bind_eq_some_iff.2 ⟨_, e, ?_⟩
      rw [if_neg (show ¬ failT.2.2.2.2 = 0 by decide), if_pos rfl, if_pos (show failT.2.2.2.2 = 2 from rfl)]
      decide +kernel
    · refine Option.bind_eq_some_iff.2 ⟨_, e, ?_⟩
      have z := may_size hm
      have hz : s.size = a.size + b.size + 5 := by rw [← hp, put_size]
      have ew : wrap64 ((s.size : Int) - 1) = (s.size : Int) - 1 := by unfold wrap64; omega
      have sl : s.data.toList = putL a.data.toList b.data.toList n o := by rw [← hp]; rfl
      have hsl : s.data.toList.length = s.size := (size_list s).symm
      rw [if_pos rfl, ew, if_pos (by omega), if_pos (by omega)]
      have l1 : (s.extract 0 ((s.size : Int) - 1).toNat).data.toList = s.data.toList.take (s.size - 1) := by
        rw [extract_list, show ((s.size : Int) - 1).toNat = s.size - 1 by omega]; simp
      have f1 : token_Take.f 3 (s.extract 0 ((s.size : Int) - 1).toNat) = some failT := by
        rcases take_any 2 (s.extract 0 ((s.size : Int) - 1).toNat) (by rw [ByteArray.size_extract]; omega) with ⟨e', _⟩ | ⟨c, d, m, p, e', hm', hp'⟩
        · exact e'
        · exfalso
          refine one_less (t := s.data.toList.drop (s.size - 1)) hm hm' (by rw [List.length_drop]; omega) (o := o) (p := p) ?_
          rw [← sl, ← putB_list, hp', l1, List.take_append_drop]
      have f2 : token_Take.f 3 (s ++ strOfNums [x]) = some failT := by
        rcases take_any 2 (s ++ strOfNums [x]) (by rw [ByteArray.size_append, strOfNums_size]; simp; omega) with ⟨e', _⟩ | ⟨c, d, m, p, e', hm', hp'⟩
        · exact e'
        · exfalso
          refine one_less (t := (strOfNums [x]).data.toList) hm' hm rfl (o := p) (p := o) ?_
          rw [← sl, ← putB_list, hp', append_list]
      refine Option.bind_eq_some_iff.2 ⟨_, f1, Option.bind_eq_some_iff.2 ⟨_, rfl, ?_⟩⟩
      rw [if_pos (by rw [strOfNums_size]; simp; omega)]
      refine Option.bind_eq_some_iff.2 ⟨_, f2, ?_⟩
      rw [if_pos rfl]
      refine Option.bind_eq_some_iff.2 ⟨_, token_may a b n o (by omega), ?_⟩
      rw [if_pos (decide_eq_true hm)]
      refine Option.bind_eq_some_iff.2 ⟨_, token_put a b n o (by show a.size + b.size + 5 ≤ _; omega) (by show _ ≤ n ∧ n ≤ _; omega), ?_⟩
      rw [if_pos (by rw [hp])]
      rfl

end Go.Proofs.Ytecjkpjcmgohmaa.Pure

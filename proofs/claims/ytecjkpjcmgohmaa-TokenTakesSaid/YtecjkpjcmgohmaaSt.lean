/- Tokens' texts: what Take answers of any text, and that Put and Take are each other's way back. -/
import Derived.Test.YtecjkpjcmgohmaaSk
import Derived.Laws.BitsLemmas
namespace Go.Proofs.Ytecjkpjcmgohmaa.St
open Go Go.RowKit Go.Proofs.Ytecjkpjcmgohmaa.Q Go.Proofs.Ytecjkpjcmgohmaa.Str Go.Proofs.Ytecjkpjcmgohmaa.Sk Go.Proofs.Ytecjkpjcmgohmaa.Bld Go.Proofs.YtecjkpjcmgohmaaW.PrintWords Go.Proofs.YtecjkpjcmgohmaaW.PrintLast
set_option linter.unusedVariables false
set_option linter.unusedSimpArgs false

theorem wraps_i64 (n : Int) (h₀ : 0 ≤ n) (h₁ : n < 2 ^ 63) : IntKind.i64.wrap n = n := by rw [IntKind.wrap_i64]; omega
theorem or8 (x y : Int) (h₀ : 0 ≤ x) (hx : x % 256 = 0) (h₁ : x < 9223372036854775808) (y₀ : 0 ≤ y) (y₁ : y < 256) : Go.bits .or .i64 x y = x + y :=
  bits_join .i64 63 (by decide) wraps_i64 8 x y h₀ hx h₁ y₀ y₁ (by omega)

/-- May a token be? -/
def mayT (a b : ByteArray) (n : Int) : Prop := mayP a b ∧ 1 ≤ n ∧ n ≤ 1001
instance (a b : ByteArray) (n : Int) : Decidable (mayT a b n) := by unfold mayT; infer_instance

theorem token_may (a b : ByteArray) (n : Int) (o : Bool) (hb : b.size ≤ 9223372036854775807) : token_May.f a b n o = some (decide (mayT a b n)) := by
  unfold token_May.f
  refine Option.bind_eq_some_iff.2 ⟨_, key_mayRange a b hb, ?_⟩
  by_cases h : mayP a b
  · rw [if_pos (decide_eq_true h)]
    by_cases h2 : n ≥ 1
    · rw [if_pos h2]; congr 1; rw [decide_eq_decide]; unfold mayT; exact ⟨fun e => ⟨h, h2, e⟩, fun e => e.2.2⟩
    · rw [if_neg h2]; congr 1; symm; rw [decide_eq_false_iff_not]; exact fun e => h2 e.2.1
  · rw [if_neg (by rw [decide_eq_true_iff]; exact h)]; congr 1; symm; rw [decide_eq_false_iff_not]; exact fun e => h e.1

theorem ref_may (a b : ByteArray) (n : Int) (o : Bool) (hb : b.size ≤ 9223372036854775807) : impostref09_May.f a b n o = some (decide (mayT a b n)) := by
  unfold impostref09_May.f
  refine Option.bind_eq_some_iff.2 ⟨_, ref_mayRange a b hb, ?_⟩
  by_cases h : mayP a b
  · rw [if_pos (decide_eq_true h)]
    by_cases h2 : n ≥ 1
    · rw [if_pos h2]; congr 1; rw [decide_eq_decide]; unfold mayT; exact ⟨fun e => ⟨h, h2, e⟩, fun e => e.2.2⟩
    · rw [if_neg h2]; congr 1; symm; rw [decide_eq_false_iff_not]; exact fun e => h2 e.2.1
  · rw [if_neg (by rw [decide_eq_true_iff]; exact h)]; congr 1; symm; rw [decide_eq_false_iff_not]; exact fun e => h e.1

/-- A token's text. -/
def putB (a b : ByteArray) (n : Int) (o : Bool) : ByteArray := ⟨(putL a.data.toList b.data.toList n o).toArray⟩
theorem putB_list (a b : ByteArray) (n : Int) (o : Bool) : (putB a b n o).data.toList = putL a.data.toList b.data.toList n o := rfl
theorem put_size (a b : ByteArray) (n : Int) (o : Bool) : (putB a b n o).size = a.size + b.size + 5 := by
  rw [size_list, putB_list, size_list a, size_list b]
  simp [putL, joinL, headL]; omega
theorem token_put (a b : ByteArray) (n : Int) (o : Bool) (hs : a.size + b.size + 5 ≤ 140737488355328) (hn : -9223372036854775808 ≤ n ∧ n ≤ 9223372036854775807) : token_Put.f a b n o = some (putB a b n o) := by
  unfold token_Put.f; rw [if_pos ⟨hs, hn⟩]; rfl
theorem may_size {a b : ByteArray} {n : Int} (h : mayT a b n) : a.size ≤ 8 ∧ b.size ≤ 9 ∧ 1 ≤ n ∧ n ≤ 1001 :=
  ⟨h.1.2.1, by rcases h.1.2.2 with h | h <;> omega, h.2.1, h.2.2⟩

/-- The head's text of a token by its byte. -/
def B (s : ByteArray) (i : Nat) : Int := ((s.data.toList.getD i 0).toNat : Int)
theorem B_range (s : ByteArray) (i : Nat) : 0 ≤ B s i ∧ B s i ≤ 255 := by
  unfold B; have := UInt8.toNat_lt (s.data.toList.getD i 0); omega
theorem wrap_byte (x : Int) (h : 0 ≤ x ∧ x ≤ 255) : wrap64 x = x := by unfold wrap64; omega

/-- What Take makes of a text that is long enough. -/
def partA (s : ByteArray) : ByteArray := s.extract 4 (4 + (B s 3).toNat)
def partB (s : ByteArray) : ByteArray := s.extract (5 + (B s 3).toNat) s.size
def partN (s : ByteArray) : Int := B s 1 * 256 + B s 2
def partO (s : ByteArray) : Bool := B s 0 == 111
/-- Is a text long enough? -/
def long (s : ByteArray) : Prop := 5 ≤ s.size ∧ (B s 3).toNat + 5 ≤ s.size

def failT : ByteArray × ByteArray × Int × Bool × Int := ((⟨#[]⟩ : ByteArray), (⟨#[]⟩ : ByteArray), 0, false, 2)

theorem take_short (k : Nat) (s : ByteArray) (hs : s.size ≤ 140737488351232) (h : ¬ long s) : token_Take.f (k + 1) s = some failT := by
  unfold token_Take.f
  have r := B_range s 3
  by_cases h5 : (s.size : Int) < 5
  · rw [if_pos h5]
    simp only [token_Take.j0, if_true]
    rfl
  · rw [if_neg h5, if_pos (by omega)]
    have e3 : bt s 3 = B s 3 := bt_list s 3 (by omega)
    have ew : wrap64 ((s.size : Int) - 5) = (s.size : Int) - 5 := by unfold wrap64; omega
    have hl : ¬ (B s 3).toNat + 5 ≤ s.size := fun e => h ⟨by omega, e⟩
    rw [e3, ew, wrap_byte _ r, decide_eq_true (by omega)]
    simp only [token_Take.j0, if_true]
    rfl

theorem sizeA (s : ByteArray) (c : Nat) (h : c + 5 ≤ s.size) : (s.extract 4 (4 + c)).size = c := by rw [ByteArray.size_extract]; omega
theorem sizeB (s : ByteArray) (c : Nat) (h : c + 5 ≤ s.size) : (s.extract (5 + c) s.size).size = s.size - 5 - c := by rw [ByteArray.size_extract]; omega
theorem partA_size (s : ByteArray) (h : long s) : (partA s).size = (B s 3).toNat := sizeA s _ h.2
theorem partB_size (s : ByteArray) (h : long s) : (partB s).size = s.size - 5 - (B s 3).toNat := sizeB s _ h.2
theorem parts_size (s : ByteArray) (h : long s) : (partA s).size + (partB s).size + 5 = s.size := by
  rw [partA_size s h, partB_size s h]; have := h.2; omega
theorem natA (x : Int) (h : 0 ≤ x) : (4 + x).toNat = 4 + x.toNat := by omega
theorem natB (x : Int) (h : 0 ≤ x) : (5 + x).toNat = 5 + x.toNat := by omega
theorem w4 (x : Int) (h : 0 ≤ x ∧ x ≤ 255) : wrap64 (4 + x) = 4 + x := by unfold wrap64; omega
theorem w5 (x : Int) (h : 0 ≤ x ∧ x ≤ 255) : wrap64 (5 + x) = 5 + x := by unfold wrap64; omega
theorem w6 (x : Int) (h : 0 ≤ x ∧ x ≤ 255) : wrap64 (x * 256) = x * 256 := by unfold wrap64; omega
theorem w7 (x : Nat) (h : x ≤ 140737488351232) : wrap64 ((x : Int) - 5) = (x : Int) - 5 := by unfold wrap64; omega
theorem or_bytes (x y : Int) (h : 0 ≤ x ∧ x ≤ 255) (g : 0 ≤ y ∧ y ≤ 255) : Go.bits .or .i64 (x * 256) y = x * 256 + y := or8 _ _ (by omega) (by omega) (by omega) (by omega) (by omega)

theorem take_long (k : Nat) (s : ByteArray) (hs : s.size ≤ 140737488351232) (h : long s) :
    token_Take.f (k + 1) s = if mayT (partA s) (partB s) (partN s) then (if putB (partA s) (partB s) (partN s) (partO s) = s then some (partA s, partB s, partN s, partO s, 0) else some failT) else some failT := by
  have r0 := B_range s 0
  have r1 := B_range s 1
  have r2 := B_range s 2
  have r3 := B_range s 3
  have e0 : bt s 0 = B s 0 := bt_list s 0 (by have := h.1; omega)
  have e1 : bt s 1 = B s 1 := bt_list s 1 (by have := h.1; omega)
  have e2 : bt s 2 = B s 2 := bt_list s 2 (by have := h.1; omega)
  have e3 : bt s 3 = B s 3 := bt_list s 3 (by have := h.1; omega)
  have hl := h.2
  have h5 := h.1
  have eA : s.extract 4 (4 + B s 3).toNat = partA s := by rw [natA _ r3.1]; rfl
  have eB : s.extract (5 + B s 3).toNat s.size = partB s := by rw [natB _ r3.1]; rfl
  have eN : Go.bits .or .i64 (B s 1 * 256) (B s 2) = partN s := or_bytes _ _ r1 r2
  have hN : 0 ≤ partN s ∧ partN s ≤ 65535 := by unfold partN; omega
  have hAB := parts_size s h
  have eO : (B s 0 == 111) = partO s := rfl
  have c1 : ¬ (s.size : Int) < 5 := by omega
  have c2 : (3 : Int) < s.size := by omega
  have c3 : ¬ ((s.size : Int) - 5 < B s 3) := by omega
  have c4 : (4 : Int) ≤ 4 + B s 3 := by omega
  have c5 : 4 + B s 3 ≤ (s.size : Int) := by omega
  have c6 : (0 : Int) ≤ 5 + B s 3 := by omega
  have c7 : 5 + B s 3 ≤ (s.size : Int) := by omega
  have c8 : (1 : Int) < s.size := by omega
  have c9 : (2 : Int) < s.size := by omega
  have c10 : (0 : Int) < s.size := by omega
  have m1 : (partB s).size ≤ 9223372036854775807 := by omega
  have m2 : (partA s).size + (partB s).size + 5 ≤ 140737488355328 := by omega
  have m3 : -9223372036854775808 ≤ partN s ∧ partN s ≤ 9223372036854775807 := by omega
  have fM := token_may (partA s) (partB s) (partN s) (partO s) m1
  have fP := token_put (partA s) (partB s) (partN s) (partO s) m2 m3
  have ew := w7 s.size hs
  clear hs hl h5 hN hAB m1 m2 m3 h
  unfold token_Take.f
  rw [if_neg c1, if_pos c2, e3, ew, wrap_byte _ r3, decide_eq_false c3]
  simp only [token_Take.j0, Bool.false_eq_true, if_false]
  rw [if_pos c2, e3, wrap_byte _ r3, w4 _ r3, w5 _ r3, if_pos c4, if_pos c5, if_pos c6, if_pos c7, if_pos c8, if_pos c9, if_pos c10]
  rw [e2, e1, e0, wrap_byte _ r2, wrap_byte _ r1, w6 _ r1, eB, eN, eO, eA]
  by_cases hm : mayT (partA s) (partB s) (partN s)
  · rw [if_pos hm]
    by_cases hp : putB (partA s) (partB s) (partN s) (partO s) = s
    · rw [if_pos hp]
      refine Option.bind_eq_some_iff.2 ⟨_, fM, ?_⟩
      rw [if_pos (decide_eq_true hm)]
      refine Option.bind_eq_some_iff.2 ⟨_, fP, ?_⟩
      rw [if_pos (by rw [hp])]
    · rw [if_neg hp]
      refine Option.bind_eq_some_iff.2 ⟨_, fM, ?_⟩
      rw [if_pos (decide_eq_true hm)]
      refine Option.bind_eq_some_iff.2 ⟨_, fP, ?_⟩
      rw [if_neg (fun e => hp (ext_list (by rw [← toL, ← toL, e])))]
      rfl
  · rw [if_neg hm]
    refine Option.bind_eq_some_iff.2 ⟨_, fM, ?_⟩
    rw [if_neg (by rw [decide_eq_true_iff]; exact hm)]
    rfl

/-- Take always answers: a failure, or a token that may be and has that very text. -/
theorem take_any (k : Nat) (s : ByteArray) (hs : s.size ≤ 140737488351232) :
    (token_Take.f (k + 1) s = some failT ∧ ∀ a b n o, mayT a b n → putB a b n o ≠ s) ∨ (∃ a b n o, token_Take.f (k + 1) s = some (a, b, n, o, 0) ∧ mayT a b n ∧ putB a b n o = s) := by
  have back : ∀ a b n o, mayT a b n → putB a b n o = s → long s ∧ partA s = a ∧ partB s = b ∧ partN s = n ∧ partO s = o := by
    intro a b n o hm hp
    subst hp
    have z := may_size hm
    have za : a.data.toList.length = a.size := (size_list a).symm
    have zb : b.data.toList.length = b.size := (size_list b).symm
    have el : (putB a b n o).data.toList = [UInt8.ofNat (kindB o).toNat, UInt8.ofNat ((n / 256) % 256).toNat, UInt8.ofNat (n % 256).toNat, UInt8.ofNat a.data.toList.length] ++ a.data.toList ++ (UInt8.ofNat b.data.toList.length :: b.data.toList) := by
      rw [putB_list]; simp [putL, joinL, headL]
    have b3 : B (putB a b n o) 3 = (a.size : Int) := by
      unfold B; rw [el]
      show ((UInt8.ofNat a.data.toList.length).toNat : Int) = _
      rw [UInt8.toNat_ofNat', za]; omega
    have b0 : B (putB a b n o) 0 = kindB o := by
      unfold B; rw [el]
      show ((UInt8.ofNat (kindB o).toNat).toNat : Int) = _
      cases o <;> rfl
    have b1 : B (putB a b n o) 1 = n / 256 := by
      unfold B; rw [el]
      show ((UInt8.ofNat ((n / 256) % 256).toNat).toNat : Int) = _
      rw [UInt8.toNat_ofNat']; omega
    have b2 : B (putB a b n o) 2 = n % 256 := by
      unfold B; rw [el]
      show ((UInt8.ofNat (n % 256).toNat).toNat : Int) = _
      rw [UInt8.toNat_ofNat']; omega
    have hz := put_size a b n o
    have hlong : long (putB a b n o) := ⟨by omega, by rw [b3]; omega⟩
    refine ⟨hlong, ?_, ?_, ?_, ?_⟩
    · apply ext_list
      unfold partA
      rw [extract_list, b3, el, Int.toNat_natCast, List.append_assoc, ← za, Nat.add_sub_cancel_left]
      show ((a.data.toList ++ _).take a.data.toList.length) = _
      rw [List.take_left' rfl]
    · apply ext_list
      unfold partB
      rw [extract_list, b3, el, Int.toNat_natCast, hz, List.append_assoc]
      have e5 : 5 + a.size = 4 + (a.data.toList.length + 1) := by omega
      rw [e5, ← List.drop_drop]
      show (((a.data.toList ++ (UInt8.ofNat b.data.toList.length :: b.data.toList)).drop (a.data.toList.length + 1)).take _) = _
      rw [List.drop_append]
      simp only [Nat.add_sub_cancel_left, List.drop_eq_nil_of_le (Nat.le_succ _), List.nil_append, List.drop_succ_cons, List.drop_zero]
      rw [List.take_of_length_le (by omega)]
    · unfold partN; rw [b1, b2]; omega
    · unfold partO; rw [b0]; cases o <;> rfl
  by_cases h : long s
  · have e := take_long k s hs h
    by_cases hm : mayT (partA s) (partB s) (partN s)
    · rw [if_pos hm] at e
      by_cases hp : putB (partA s) (partB s) (partN s) (partO s) = s
      · rw [if_pos hp] at e
        exact .inr ⟨_, _, _, _, e, hm, hp⟩
      · rw [if_neg hp] at e
        refine .inl ⟨e, fun a b n o hm' hp' => hp ?_⟩
        obtain ⟨_, e1, e2, e3, e4⟩ := back a b n o hm' hp'
        rw [e1, e2, e3, e4]; exact hp'
    · rw [if_neg hm] at e
      refine .inl ⟨e, fun a b n o hm' hp' => hm ?_⟩
      obtain ⟨_, e1, e2, e3, e4⟩ := back a b n o hm' hp'
      rw [e1, e2, e3]; exact hm'
  · exact .inl ⟨take_short k s hs h, fun a b n o hm' hp' => h (back a b n o hm' hp').1⟩

/-- Two tokens that may be, of one text, are one. -/
theorem put_inj {a b c d : ByteArray} {n m : Int} {o p : Bool} (h : mayT a b n) (g : mayT c d m) (e : putB a b n o = putB c d m p) : a = c ∧ b = d ∧ n = m ∧ o = p := by
  have z := may_size h
  have z' := may_size g
  have el := congrArg (fun s : ByteArray => s.data.toList) e
  simp only [putB_list, putL, joinL, headL] at el
  have e0 := congrArg (fun l : List UInt8 => (l.getD 0 0).toNat) el
  have e1 := congrArg (fun l : List UInt8 => (l.getD 1 0).toNat) el
  have e2 := congrArg (fun l : List UInt8 => (l.getD 2 0).toNat) el
  have e3 := congrArg (fun l : List UInt8 => (l.getD 3 0).toNat) el
  simp only [List.cons_append, List.nil_append, List.append_assoc, List.getD_cons_zero, List.getD_cons_succ, UInt8.toNat_ofNat'] at e0 e1 e2 e3
  have sa : a.data.toList.length = a.size := (size_list a).symm
  have sc : c.data.toList.length = c.size := (size_list c).symm
  have ea : a.data.toList.length = c.data.toList.length := by omega
  have en : n = m := by omega
  have eo : o = p := by cases o <;> cases p <;> simp [kindB] at e0 ⊢
  simp only [List.cons_append, List.nil_append, List.append_assoc, List.cons.injEq] at el
  obtain ⟨_, _, _, _, el⟩ := el
  have e4 := List.append_inj el ea
  obtain ⟨f1, f2⟩ := e4
  simp only [List.cons.injEq] at f2
  exact ⟨ext_list f1, ext_list f2.2, en, eo⟩

theorem take_put (k : Nat) {a b : ByteArray} {n : Int} (o : Bool) (h : mayT a b n) : token_Take.f (k + 1) (putB a b n o) = some (a, b, n, o, 0) := by
  have z := may_size h
  rcases take_any k (putB a b n o) (by rw [put_size]; omega) with ⟨_, hn⟩ | ⟨a', b', n', o', e, hm, hp⟩
  · exact absurd rfl (hn a b n o h)
  · obtain ⟨rfl, rfl, rfl, rfl⟩ := put_inj hm h hp
    exact e

theorem awake_from (k : Nat) : impostlaw09_awake.f (k + 3) = some true := by
  induction k with
  | zero => decide +kernel
  | succ k ih => exact impostlaw09_awake.mono (k + 3) _ ih
end Go.Proofs.Ytecjkpjcmgohmaa.St

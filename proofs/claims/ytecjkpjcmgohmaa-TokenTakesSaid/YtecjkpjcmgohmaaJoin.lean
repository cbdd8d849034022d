/- What token.join makes of a first text and two keys. -/
import Derived.Test.YtecjkpjcmgohmaaBld
import Derived.Outline
namespace Go.Proofs.Ytecjkpjcmgohmaa.Bld
open Go Go.RowKit Go.Proofs Go.Proofs.YtecjkpjcmgohmaaW.PrintWords
set_option linter.unusedVariables false

/-- The bytes of a token's text: what stands ahead, and each key behind its length's last byte. -/
def joinL (f a b : List UInt8) : List UInt8 := f ++ [UInt8.ofNat a.length] ++ a ++ [UInt8.ofNat b.length] ++ b

theorem byte_cell (n : Nat) : [Value.int .u8 ((n : Int) % 256)] = Lib.byteCells [UInt8.ofNat n] := by
  simp [Lib.byteCells]
theorem cells_append (l m : List UInt8) : Lib.byteCells l ++ Lib.byteCells m = Lib.byteCells (l ++ m) := by simp [Lib.byteCells]
theorem cells_string (s : ByteArray) : Lib.strCells s = Lib.byteCells s.data.toList := by rfl
theorem cells_length (l : List UInt8) : (Lib.byteCells l).length = l.length := by simp [Lib.byteCells]

set_option maxHeartbeats 2000000 in
set_option maxRecDepth 100000 in
theorem join_two (f a b : ByteArray) (g : Nat) (w : World) (ha : w.cell? ⟨g, 0, none⟩ = some (.string a)) (hb : w.cell? ⟨g, 1, none⟩ = some (.string b)) (hs : f.size + a.size + b.size + 2 ≤ 140737488355328) :
    Calls Try.prog 19 #[.string f, .slice (some ⟨g, 0, none⟩) 2 2] w fun e w' => e = .returned (.string ⟨(joinL f.data.toList a.data.toList b.data.toList).toArray⟩) ∧ Below w.heap.size w w' := by
  have hg : g < w.heap.size := World.block_lt_of_cell? w _ ha
  have zf : f.data.toList.length = f.size := Array.length_toList
  have za : a.data.toList.length = a.size := Array.length_toList
  have zb : b.data.toList.length = b.size := Array.length_toList
  have Z := Aside0.mk (And.intro zf (And.intro za zb))
  clear zf za zb
  go_enter Try.func19, Try.ntmps19
  go_wp2_with fail
  refine (writeString w.heap.size w.heap.size [] f _ (Lib.fresh_isBuilder 53 5 w) (by simp; omega) (by simp)).mono ?_
  rintro e w1 ⟨rfl, h1, hb1⟩
  have a1 : w1.cell? ⟨g, 0, none⟩ = some (.string a) := by rw [hb1.cell hg]; go_simp
  have b1 : w1.cell? ⟨g, 1, none⟩ = some (.string b) := by rw [hb1.cell hg]; go_simp
  rw [List.nil_append, cells_string] at h1
  have H1 := Aside0.mk h1
  have HB1 := Aside0.mk ((((Below.refl _ _).alloc (Nat.le_refl _) _).trans hb1))
  clear h1 hb1 ha hb
  go_wp2_with fail
  refine wp_loop_rounds 3 ?_
  rw [rounds_succ]
  go_wp2_with fail
  refine (writeByte w.heap.size w.heap.size _ _ _ (.inr H1.out) (by rw [cells_length]; have := Z.out; omega) HB1.out.size).mono ?_
  rintro e w2 ⟨rfl, h2, hb2⟩
  have a2 : w2.cell? ⟨g, 0, none⟩ = some (.string a) := by rw [hb2.cell hg]; exact a1
  have b2 : w2.cell? ⟨g, 1, none⟩ = some (.string b) := by rw [hb2.cell hg]; exact b1
  rw [byte_cell, cells_append] at h2
  have H2 := Aside0.mk h2
  have HB2 := Aside0.mk (HB1.out.trans hb2)
  clear h2 hb2 a1 b1 H1 HB1
  go_wp2_with fail
  refine (writeString w.heap.size w.heap.size _ a _ (.inr H2.out) (by rw [cells_length]; have := Z.out; simp; omega) HB2.out.size).mono ?_
  rintro e w3 ⟨rfl, h3, hb3⟩
  have b3 : w3.cell? ⟨g, 1, none⟩ = some (.string b) := by rw [hb3.cell hg]; exact b2
  rw [cells_string, cells_append] at h3
  have H3 := Aside0.mk h3
  have HB3 := Aside0.mk (HB2.out.trans hb3)
  clear h3 hb3 a2 b2 H2 HB2
  go_wp2_with fail
  rw [rounds_succ]
  go_wp2_with fail
  refine (writeByte w.heap.size w.heap.size _ _ _ (.inr H3.out) (by rw [cells_length]; have := Z.out; simp; omega) HB3.out.size).mono ?_
  rintro e w4 ⟨rfl, h4, hb4⟩
  have b4 : w4.cell? ⟨g, 1, none⟩ = some (.string b) := by rw [hb4.cell hg]; exact b3
  rw [byte_cell, cells_append] at h4
  have H4 := Aside0.mk h4
  have HB4 := Aside0.mk (HB3.out.trans hb4)
  clear h4 hb4 b3 H3 HB3
  go_wp2_with fail
  refine (writeString w.heap.size w.heap.size _ b _ (.inr H4.out) (by rw [cells_length]; have := Z.out; simp; omega) HB4.out.size).mono ?_
  rintro e w5 ⟨rfl, h5, hb5⟩
  rw [cells_string, cells_append] at h5
  have H5 := Aside0.mk h5
  have HB5 := Aside0.mk (HB4.out.trans hb5)
  clear h5 hb5 b4 H4 HB4
  go_wp2_with fail
  rw [rounds_succ]
  go_wp2_with fail
  have H6 : Aside0 (Lib.BuilderAt 53 5 w.heap.size w.heap.size (.pointer (some ⟨w.heap.size, 0, none⟩)) (Lib.byteCells (joinL f.data.toList a.data.toList b.data.toList)) w5) := ⟨by unfold joinL; rw [Z.out.2.1, Z.out.2.2]; exact H5.out⟩
  clear H5
  refine (Try.Builder_String_any w.heap.size w.heap.size _ _ (.inr H6.out) HB5.out.size).mono ?_
  rintro e w6 ⟨rfl, hb6⟩
  have HB6 := Aside0.mk (HB5.out.trans hb6)
  clear hb6
  go_wp2
  go_ret
  exact ⟨rfl, HB6.out⟩

/-- The kind of a token, as a byte. -/
def kindB (o : Bool) : Int := if o then 111 else 119
/-- The head of a token's text. -/
def headL (n : Int) (o : Bool) : List UInt8 := [UInt8.ofNat (kindB o).toNat, UInt8.ofNat ((n / 256) % 256).toNat, UInt8.ofNat (n % 256).toNat]
def putL (a b : List UInt8) (n : Int) (o : Bool) : List UInt8 := joinL (headL n o) a b

theorem head_str (n : Int) (o : Bool) : strOfNums [kindB o, n / 256 % 256, n % 256] = ⟨(headL n o).toArray⟩ := rfl

set_option maxHeartbeats 2000000 in
set_option maxRecDepth 100000 in
theorem put_at (a b : ByteArray) (n k : Int) (o : Bool) (hk : kindB o = k) (hn : -9223372036854775808 ≤ n ∧ n ≤ 9223372036854775807) (w : World) (hs : a.size + b.size + 5 ≤ 140737488355328) :
    Calls Try.prog 13 #[.agg #[.string a, .string b, .int .i64 n, .bool o]] w fun e w' => e = .returned (.string ⟨(putL a.data.toList b.data.toList n o).toArray⟩) ∧ Below w.heap.size w w' := by
  obtain ⟨t, ht⟩ : ∃ t, strOfNums [k, n / 256 % 256, n % 256] = t := ⟨_, rfl⟩
  have hcv := run_convert_bytes_arg (P := Try.prog) ((w.alloc (Obj.cells #[Value.string a, Value.string b, Value.int IntKind.i64 n, Value.bool o] 28)).alloc (Obj.cells #[Value.int IntKind.u8 k, Value.int IntKind.u8 (n / 256 % 256), Value.int IntKind.u8 (n % 256)] 5)) 39 5 Try.underlying39 Try.underlying5 (w.heap.size + 1) 0 3 3 [k, n / 256 % 256, n % 256] rfl (fun i hi => by
    match i, hi with
    | 0, _ => go_simp
    | 1, _ => go_simp
    | 2, _ => go_simp) 9 Try.underlying9
  rw [ht] at hcv
  have HT : Aside0 (t.data.toList = headL n o ∧ t.size = 3) := ⟨by rw [← ht, ← hk, head_str], by rw [← ht, strOfNums_size]; rfl⟩
  clear ht
  cases o
  all_goals
    obtain rfl := hk
    simp only [kindB, if_true, if_false, Bool.false_eq_true] at hcv
    go_enter Try.func13, Try.ntmps13
    go_wp2_with fail
    refine (join_two t a b (w.heap.size + 2) _ (by go_simp) (by go_simp) (by have := HT.out.2; omega)).mono ?_
    rintro e w1 ⟨rfl, hb1⟩
    rw [HT.out.1]
    have HB1 := Aside0.mk ((((Below.refl w.heap.size w).alloc (Nat.le_refl _) _).alloc (by simp) _).alloc (by simp; omega) _ |>.trans (hb1.mono (by simp; omega)))
    clear hb1 hcv
    go_wp2
    go_ret
    exact ⟨rfl, HB1.out⟩

end Go.Proofs.Ytecjkpjcmgohmaa.Bld

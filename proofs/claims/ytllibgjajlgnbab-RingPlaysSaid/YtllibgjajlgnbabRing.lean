/- The log's cells: what each of package ring's functions does to a log whose cells begin at 2. -/
import Derived.Test.YtllibgjajlgnbabNew
import Derived.Test.YtllibgjajlgnbabGrow
namespace Go.Proofs.Ytllibgjajlgnbab.Ring
open Go Go.RowKit Go.Proofs.Ytllibgjajlgnbab.Only Go.Proofs.Ytllibgjajlgnbab.Mem Go.Proofs.Ytllibgjajlgnbab.New
set_option linter.unusedVariables false
set_option linter.unusedSimpArgs false

/-- A log at block b, over the Mem at block p. -/
structure LogAt (B b p : Nat) (v : Value) (C : List Int) (n : Int) (w : World) : Prop where
  mem : MemAt B p v C n w
  blk : w.heap[b]? = some (.cells #[.pointer (some ⟨p, 0, none⟩), .int .i64 2] 104 (0, 0))
  base : B ≤ b
  far : ¬ Foot p v b
  len : C.length = 35

theorem LogAt.cells {B b p : Nat} {v : Value} {C : List Int} {n : Int} {w : World} (h : LogAt B b p v C n w) : w.cell? ⟨b, 0, none⟩ = some (.pointer (some ⟨p, 0, none⟩)) ∧ w.cell? ⟨b, 1, none⟩ = some (.int .i64 2) := by
  have := h.blk
  simp [World.cell?, this]

/-- Is it a number? -/
def okN (n : Int) : Bool := decide (1 ≤ n ∧ n ≤ 2147483647)
/-- A number's cell. -/
def rc (row n : Int) : Int := 3 + row * 16 + n % 16

set_option maxRecDepth 100000 in
theorem cell_out {B b p : Nat} {v : Value} {C : List Int} {n : Int} {w : World} (h : LogAt B b p v C n w) (row k : Int) (hk : -9223372036854775808 ≤ k ∧ k ≤ 9223372036854775807) (ho : okN k = false) :
    Calls Try.prog 58 #[.pointer (some ⟨b, 0, none⟩), .int .i64 row, .int .i64 k] w fun e w' => e = .returned (.tuple #[.int .i64 0, .bool false]) ∧ w = w' := by
  have ho : ¬ (1 ≤ k ∧ k ≤ 2147483647) := by simpa [okN] using ho
  clear h
  by_cases h0 : k < 1
  · have b0 : decide (k < 1) = true := by simpa using h0
    go_enter Try.func58, Try.ntmps58
    go_wp2
    go_ret2
    exact ⟨rfl, rfl⟩
  · have b0 : decide (k < 1) = false := by simpa using h0
    have h1 : 2147483647 < k := by omega
    have b1 : decide (2147483647 < k) = true := by simpa using h1
    go_enter Try.func58, Try.ntmps58
    go_wp2
    go_ret2
    exact ⟨rfl, rfl⟩

set_option maxRecDepth 100000 in
theorem cell_in {B b p : Nat} {v : Value} {C : List Int} {n : Int} {w : World} (h : LogAt B b p v C n w) (row k : Int) (hrow : row = 0 ∨ row = 1) (ho : okN k = true) :
    Calls Try.prog 58 #[.pointer (some ⟨b, 0, none⟩), .int .i64 row, .int .i64 k] w fun e w' => e = .returned (.tuple #[.int .i64 (rc row k), .bool true]) ∧ w = w' := by
  have ho : 1 ≤ k ∧ k ≤ 2147483647 := by simpa [okN] using ho
  obtain ⟨c0, c1⟩ := h.cells
  clear h
  have b0 : decide (k < 1) = false := by simp; omega
  have b1 : decide (2147483647 < k) = false := by simp; omega
  have em : k.tmod 16 = k % 16 := Int.tmod_eq_emod_of_nonneg (by omega)
  go_enter Try.func58, Try.ntmps58
  go_wp2
  go_ret2
  refine ⟨?_, rfl⟩
  rcases hrow with rfl | rfl <;> simp [rc, em] <;> omega

/-- A log stays where its blocks do. -/
theorem LogAt.next {B b p : Nat} {v : Value} {C C' : List Int} {n n' : Int} {w w' : World} (h : LogAt B b p v C n w) (m : MemAt B p v C' n' w') (ho : Only (Foot p v) w w') (hl : C'.length = 35) : LogAt B b p v C' n' w' :=
  ⟨m, (ho.block _ (lt_of_heap h.blk) h.far).trans h.blk, h.base, h.far, hl⟩
theorem rc_range (row k : Int) (hrow : row = 0 ∨ row = 1) : 3 ≤ rc row k ∧ rc row k < 35 := by unfold rc; omega
theorem LogAt.inR {B b p : Nat} {v : Value} {C : List Int} {n : Int} {w : World} (h : LogAt B b p v C n w) (row k : Int) (hrow : row = 0 ∨ row = 1) : Mem.inR C (rc row k) = true := by
  have := rc_range row k hrow
  have := h.len
  rw [inR_true]; omega

def lookA (C : List Int) (row k : Int) : Int := if okN k = true ∧ rdAt C (rc row k) / 4294967296 = k then rdAt C (rc row k) % 4294967296 - 1 else -1
def lookW (C : List Int) (row k : Int) : Int := if okN k then rdAt C (rc row k) else 0
def lookB (C : List Int) (row k : Int) : Bool := okN k && (rdAt C (rc row k) / 4294967296 == k)
def asks (k : Int) : Int := if okN k then 1 else 0

/-- What look leaves. -/
def Looked (B b p : Nat) (v : Value) (C : List Int) (n row k : Int) (w : World) (e : Ending) (w' : World) : Prop :=
  e = .returned (.tuple #[.int .i64 (lookA C row k), .int .u64 (lookW C row k), .bool (lookB C row k)]) ∧ LogAt B b p v C (n + asks k) w' ∧ Only (Foot p v) w w'

set_option maxHeartbeats 1000000 in
set_option maxRecDepth 100000 in
theorem look {B b p : Nat} {v : Value} {C : List Int} {n : Int} {w : World} (h : LogAt B b p v C n w) (hC : ∀ x ∈ C, 0 ≤ x ∧ x ≤ 18446744073709551615) (row k : Int) (hrow : row = 0 ∨ row = 1) (hk : -9223372036854775808 ≤ k ∧ k ≤ 9223372036854775807) (hn : 0 ≤ n ∧ n < 4611686018427387904) :
    Calls Try.prog 42 #[.pointer (some ⟨b, 0, none⟩), .int .i64 row, .int .i64 k] w (Looked B b p v C n row k w) := by
  obtain ⟨c0, c1⟩ := h.cells
  have H := Lib.hid h
  cases ho : okN k with
  | false =>
    have fin : Looked B b p v C n row k w (.returned (.tuple #[.int .i64 (-1), .int .u64 0, .bool false])) w := by
      refine ⟨?_, ?_, refl _ _⟩
      · simp [lookA, lookW, lookB, ho]
      · simpa [asks, ho] using h
    have fin := Lib.hid fin
    clear h
    go_enter Try.func42, Try.ntmps42
    go_wp2_with fail
    refine (cell_out H.out row k hk ho).mono ?_
    rintro e w1 ⟨rfl, rfl⟩
    go_wp2
    go_ret3
    exact fin.out
  | true =>
    have hok : 1 ≤ k ∧ k ≤ 2147483647 := by simpa [okN] using ho
    have hin := h.inR row k hrow
    have hrr := rc_range row k hrow
    have hx := rdAt_range hC (rc row k)
    have ea : lookA C row k = if rdAt C (rc row k) / 4294967296 = k then rdAt C (rc row k) % 4294967296 - 1 else -1 := by simp [lookA, ho]
    have ew : lookW C row k = rdAt C (rc row k) := by simp [lookW, ho]
    have eb : lookB C row k = (rdAt C (rc row k) / 4294967296 == k) := by simp [lookB, ho]
    have ek : asks k = 1 := by simp [asks, ho]
    have eh : hit C (rc row k) = 1 := by unfold hit; rw [if_pos hin]
    have ee : errAt C (rc row k) = 0 := by unfold errAt; rw [if_pos hin]
    have E := Lib.hid (And.intro ea (And.intro ew (And.intro eb (And.intro ek (And.intro eh ee)))))
    clear h ea ew eb ek eh ee hin
    have hx := Lib.hid hx
    go_enter Try.func42, Try.ntmps42
    go_wp2_with fail
    refine (cell_in H.out row k hrow ho).mono ?_
    rintro e w1 ⟨rfl, hw1⟩
    subst hw1
    go_wp2_with fail
    refine (Mem.load H.out.mem (rc row k) (by omega) hn).mono ?_
    rintro e w2 ⟨rfl, h2, ho2⟩
    obtain ⟨ea, ew, eb, ek, eh, ee⟩ := E.out
    rw [eh] at h2
    rw [ee]
    have fin : ∀ e, e = Ending.returned (.tuple #[.int .i64 (lookA C row k), .int .u64 (lookW C row k), .bool (lookB C row k)]) → Looked B b p v C n row k w e w2 := fun e he => ⟨he, by rw [ek]; exact H.out.next h2 ho2 H.out.len, ho2⟩
    rw [ea, ew, eb] at fin
    have fin := Lib.hid fin
    have hx := hx.out
    clear h2 ho2 ea ew eb ek eh ee E
    generalize rdAt C (rc row k) = x at *
    go_wp2
    · have q : x / 4294967296 ≠ k := by simpa using (show (x / 4294967296 != k) = true by assumption)
      go_ret3
      exact fin.out _ (by simp [q])
    · have q : x / 4294967296 = k := by simpa using (show (x / 4294967296 != k) = false by assumption)
      go_ret3
      exact fin.out _ (by simp [q])

/-- A cell's word. -/
def wordOf (k what : Int) : Int := k * 4294967296 + (what + 1)
def setB (C : List Int) (row k was : Int) : Bool := okN k && casB C (rc row k) was
def setC (C : List Int) (row k was what : Int) : List Int := if okN k then casAt C (rc row k) was (wordOf k what) else C
theorem setC_length (C : List Int) (row k was what : Int) : (setC C row k was what).length = C.length := by
  unfold setC casAt
  split
  · split
    · exact setAt_length _ _ _
    · rfl
  · rfl

/-- What set leaves. -/
def Put (B b p : Nat) (v : Value) (C : List Int) (n row k was what : Int) (w : World) (e : Ending) (w' : World) : Prop :=
  e = .returned (.bool (setB C row k was)) ∧ LogAt B b p v (setC C row k was what) (n + asks k) w' ∧ Only (Foot p v) w w'

set_option maxHeartbeats 1000000 in
set_option maxRecDepth 100000 in
theorem set {B b p : Nat} {v : Value} {C : List Int} {n : Int} {w : World} (h : LogAt B b p v C n w) (row k was what : Int) (hrow : row = 0 ∨ row = 1) (hk : -9223372036854775808 ≤ k ∧ k ≤ 9223372036854775807) (hw : 0 ≤ what ∧ what ≤ 1073741824) (hn : 0 ≤ n ∧ n < 4611686018427387904) :
    Calls Try.prog 43 #[.pointer (some ⟨b, 0, none⟩), .int .i64 row, .int .i64 k, .int .u64 was, .int .i64 what] w (Put B b p v C n row k was what w) := by
  obtain ⟨c0, c1⟩ := h.cells
  have H := Lib.hid h
  cases ho : okN k with
  | false =>
    have fin : Put B b p v C n row k was what w (.returned (.bool false)) w := by
      refine ⟨?_, ?_, refl _ _⟩
      · simp [setB, ho]
      · simpa [asks, ho, setC] using h
    have fin := Lib.hid fin
    clear h
    go_enter Try.func43, Try.ntmps43
    go_wp2_with fail
    refine (cell_out H.out row k hk ho).mono ?_
    rintro e w1 ⟨rfl, rfl⟩
    go_wp2
    go_ret
    exact fin.out
  | true =>
    have hok : 1 ≤ k ∧ k ≤ 2147483647 := by simpa [okN] using ho
    have hin := h.inR row k hrow
    have hrr := rc_range row k hrow
    have eb : setB C row k was = casB C (rc row k) was := by simp [setB, ho]
    have ec : setC C row k was what = casAt C (rc row k) was (wordOf k what) := by simp [setC, ho]
    have ek : asks k = 1 := by simp [asks, ho]
    have eh : hit C (rc row k) = 1 := by unfold hit; rw [if_pos hin]
    have hl := setC_length C row k was what
    have E := Lib.hid (And.intro eb (And.intro ec (And.intro ek (And.intro eh hl))))
    clear h eb ec ek eh hl hin
    go_enter Try.func43, Try.ntmps43
    go_wp2_with fail
    refine (cell_in H.out row k hrow ho).mono ?_
    rintro e w1 ⟨rfl, hw1⟩
    subst hw1
    go_wp2_with fail
    refine (Mem.cas H.out.mem (rc row k) was (wordOf k what) (by omega) hn).mono ?_
    rintro e w2 ⟨rfl, h2, ho2⟩
    obtain ⟨eb, ec, ek, eh, hl⟩ := E.out
    rw [eh, ← ec] at h2
    have fin : Put B b p v C n row k was what w (.returned (.bool (casB C (rc row k) was))) w2 := ⟨by rw [eb], by rw [ek]; exact H.out.next h2 ho2 (by rw [hl]; exact H.out.len), ho2⟩
    have fin := Lib.hid fin
    clear h2 ho2 eb ec ek eh hl E
    go_wp2
    go_ret
    exact fin.out
end Go.Proofs.Ytllibgjajlgnbab.Ring

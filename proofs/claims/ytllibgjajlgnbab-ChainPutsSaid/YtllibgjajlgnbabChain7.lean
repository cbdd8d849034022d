/- Two puts; the law's example. -/
import Derived.Test.YtllibgjajlgnbabChain6
namespace Go.Proofs.Ytllibgjajlgnbab.Chain
open Go Go.RowKit Go.Proofs.Ytllibgjajlgnbab.Only Go.Proofs.Ytllibgjajlgnbab.Mem Go.Proofs.Ytllibgjajlgnbab.New Go.Proofs.Ytllibgjajlgnbab.Args
set_option linter.unusedVariables false
set_option linter.unusedSimpArgs false

theorem al9 (w : World) (o : Obj) : Below w.heap.size w (w.alloc o) := (Below.refl _ _).alloc (Nat.le_refl _) _
/-- Cells, versions, two puts. -/
structure Two where
  C : List Int
  Vs : List Ver
  a : PutS
  b : PutS
def Two.sA (t : Two) : Two := ⟨stepC t.C t.Vs t.a, stepV t.Vs t.a, stepP t.C t.Vs t.a, t.b⟩
def Two.sB (t : Two) : Two := ⟨stepC t.C t.Vs t.b, stepV t.Vs t.b, t.a, stepP t.C t.Vs t.b⟩
def TwoAt (B sb p pa pb : Nat) (v : Value) (n : Int) (t : Two) (w : World) : Prop :=
  ∃ vs, StoreAt B sb p v t.C n vs t.Vs w ∧ PutAt pa sb t.a w ∧ PutAt pb sb t.b w ∧ B ≤ w.heap.size
structure Two.Ok (t : Two) (m : Nat) : Prop where
  C : ∀ x ∈ t.C, 0 ≤ x ∧ x ≤ 18446744073709551615
  ca : -9223372036854775808 ≤ t.a.c ∧ t.a.c ≤ 9223372036854775807
  cb : -9223372036854775808 ≤ t.b.c ∧ t.b.c ≤ 9223372036854775807
  l : t.Vs.length ≤ m
theorem Two.Ok.sA {t : Two} {m : Nat} (h : t.Ok m) (hm : m ≤ 1000000) : t.sA.Ok (m + 1) :=
  ⟨stepC_range h.C (by have := h.l; omega) _, by have := (stepP_c t.C t.Vs t.a).1; unfold Two.sA; simp only; rw [this]; exact h.ca, h.cb, by have := (stepV_length t.Vs t.a).2; have := h.l; unfold Two.sA; simp only; omega⟩
theorem Two.Ok.sB {t : Two} {m : Nat} (h : t.Ok m) (hm : m ≤ 1000000) : t.sB.Ok (m + 1) :=
  ⟨stepC_range h.C (by have := h.l; omega) _, h.ca, by have := (stepP_c t.C t.Vs t.b).1; unfold Two.sB; simp only; rw [this]; exact h.cb, by have := (stepV_length t.Vs t.b).2; have := h.l; unfold Two.sB; simp only; omega⟩

/-- What a step of one of two leaves. -/
def TwoStep (B sb p pa pb : Nat) (v : Value) (n : Int) (t' : Two) (d : Bool) (w : World) (e : Ending) (w' : World) : Prop :=
  e = .returned (.bool d) ∧ TwoAt B sb p pa pb v n t' w' ∧ Below B w w'
theorem stepA {B sb p pa pb : Nat} {v : Value} {n : Int} {t : Two} {m : Nat} {w : World} (h : TwoAt B sb p pa pb v n t w) (hpB : B ≤ pa) (hne : pa ≠ pb) (ok : t.Ok m) (hm : m ≤ 1000000) (hn : 0 ≤ n ∧ n < 4611686018427387904) :
    Calls Try.prog 33 #[.pointer (some ⟨pa, 0, none⟩)] w (TwoStep B sb p pa pb v (n + stepN t.C t.a) t.sA t.sA.a.done w) := by
  obtain ⟨vs, h1, h2, h3, h4⟩ := h
  refine (oneStep (s := ⟨t.C, t.Vs, t.a⟩) ⟨vs, h1, h2, h4⟩ hpB ⟨ok.C, ok.ca, ok.l⟩ hm hn).mono ?_
  rintro e w' ⟨rfl, ⟨vs', k1, k2, k3⟩, hb, hq⟩
  exact ⟨rfl, ⟨vs', k1, k2, hq pb _ (fun e => hne e.symm) h3, k3⟩, hb⟩
theorem stepB {B sb p pa pb : Nat} {v : Value} {n : Int} {t : Two} {m : Nat} {w : World} (h : TwoAt B sb p pa pb v n t w) (hpB : B ≤ pb) (hne : pa ≠ pb) (ok : t.Ok m) (hm : m ≤ 1000000) (hn : 0 ≤ n ∧ n < 4611686018427387904) :
    Calls Try.prog 33 #[.pointer (some ⟨pb, 0, none⟩)] w (TwoStep B sb p pa pb v (n + stepN t.C t.b) t.sB t.sB.b.done w) := by
  obtain ⟨vs, h1, h2, h3, h4⟩ := h
  refine (oneStep (s := ⟨t.C, t.Vs, t.b⟩) ⟨vs, h1, h3, h4⟩ hpB ⟨ok.C, ok.cb, ok.l⟩ hm hn).mono ?_
  rintro e w' ⟨rfl, ⟨vs', k1, k2, k3⟩, hb, hq⟩
  exact ⟨rfl, ⟨vs', k1, hq pa _ hne h2, k2, k3⟩, hb⟩

set_option maxRecDepth 100000 in
theorem event (r : Int) (s : ByteArray) (w : World) :
    Calls Try.prog 40 #[.int .i64 r, .string s] w fun e w' => e = .returned (.agg #[.int .i64 r, .string ⟨#[107]⟩, .string s, .bool false]) ∧ Below w.heap.size w w' := by
  go_enter Try.func40, Try.ntmps40
  go_wp2
  have hz := heap_alloc_new w (.cells #[.int .i64 r, .string ⟨#[107]⟩, .string s, .bool false] 56)
  refine bodyPost_ret (v := .agg #[.int .i64 r, .string ⟨#[107]⟩, .string s, .bool false]) ?_ rfl ⟨rfl, (Below.refl _ _).alloc (Nat.le_refl _) _⟩
  have z0 : (w.alloc (.cells #[.int .i64 r, .string ⟨#[107]⟩, .string s, .bool false] 56)).cell? ⟨w.heap.size, 0, none⟩ = some (.int .i64 r) := by simp only [World.cell?, hz]; rfl
  have z1 : (w.alloc (.cells #[.int .i64 r, .string ⟨#[107]⟩, .string s, .bool false] 56)).cell? ⟨w.heap.size, 1, none⟩ = some (.string ⟨#[107]⟩) := by simp only [World.cell?, hz]; rfl
  have z2 : (w.alloc (.cells #[.int .i64 r, .string ⟨#[107]⟩, .string s, .bool false] 56)).cell? ⟨w.heap.size, 2, none⟩ = some (.string s) := by simp only [World.cell?, hz]; rfl
  have z3 : (w.alloc (.cells #[.int .i64 r, .string ⟨#[107]⟩, .string s, .bool false] 56)).cell? ⟨w.heap.size, 3, none⟩ = some (.bool false) := by simp only [World.cell?, hz]; rfl
  generalize (w.alloc (.cells #[.int .i64 r, .string ⟨#[107]⟩, .string s, .bool false] 56)) = wz at z0 z1 z2 z3 ⊢
  simp [results, Try.results40, go_sem, z0, z1, z2, z3]

/-- The example's puts. -/
def P0 : PutS := ⟨1, 3, ⟨#[107]⟩, ⟨#[120]⟩, false, 0, false, false⟩
def T0 : Two := ⟨[0, 0], [], P0, P0⟩
def Two.it : Nat → Two → Two
  | 0, t => t
  | k + 1, t => (Two.it k t).sA.sB
theorem T0_ok : ∀ k, k ≤ 1000 → (Two.it k T0).Ok (2 * k) := by
  intro k
  induction k with
  | zero => exact fun _ => ⟨by intro x hx; simp [Two.it, T0] at hx; omega, by simp [Two.it, T0, P0], by simp [Two.it, T0, P0], by simp [Two.it, T0]⟩
  | succ k ih => exact fun hk => ((ih (by omega)).sA (by omega)).sB (by omega)
def V1 : Ver := ⟨3, ⟨#[107]⟩, ⟨#[120]⟩, false, 0⟩
theorem T8 : Two.it 8 T0 = ⟨[0, 1], [V1, V1], ⟨1, 3, ⟨#[107]⟩, ⟨#[120]⟩, false, 0, false, true⟩, ⟨1, 3, ⟨#[107]⟩, ⟨#[120]⟩, false, 1, true, true⟩⟩ := by rfl
theorem acyc2 : Acyc [V1, V1] := by
  intro id ho
  have h := okV_true.1 ho
  have e : id = 1 ∨ id = 2 := by simp at h; omega
  rcases e with rfl | rfl
  · exact ⟨by decide, by decide⟩
  · exact ⟨by decide, by decide⟩

set_option maxHeartbeats 4000000 in
set_option maxRecDepth 1000000 in
theorem awake (W : World) : Calls Try.prog 27 #[] W fun e w' => e = .returned (.bool true) ∧ Below W.heap.size W w' := by
  go_enter Try.func27, Try.ntmps27
  go_wp2_with fail
  refine (New.new 1 (by omega) W).mono ?_
  rintro e w1 ⟨p, v, rfl, h1, hb1⟩
  have s1 := hb1.size
  have hb1 := Lib.hid hb1
  go_wp2_with fail
  refine (Chain.new h1 s1).mono ?_
  rintro e w2 ⟨sb, rfl, h2, hb2⟩
  have B2 := Lib.hid (hb1.out.trans (hb2.mono s1))
  have s2 := B2.out.size
  clear h1 hb2 hb1
  go_wp2_with fail
  refine (Chain.cell h2 s2 (by simp)).mono ?_
  rintro e w3 ⟨v3, rfl, h3, o3⟩
  have B3 := Lib.hid (B2.out.trans (footB h2.mem o3 s2))
  have s3 := B3.out.size
  have h3 : StoreAt W.heap.size sb p v3 [0, 0] 0 (.slice none 0 0) [] w3 := h3
  have h3 := Lib.hid h3
  rw [show ((List.replicate 1 (0:Int)).length : Int) = 1 by simp]
  clear h2 o3
  go_wp2_with fail
  refine (event 3 ⟨#[120]⟩ w3).mono ?_
  rintro e w4 ⟨rfl, hb4⟩
  have B4 := Lib.hid (B3.out.trans (hb4.mono s3))
  have s4 := B4.out.size
  have h4 := Lib.hid (h3.out.below hb4)
  clear hb4 h3
  go_wp2_with fail
  refine (Chain.put sb w4 1 3 ⟨#[107]⟩ ⟨#[120]⟩ false).mono ?_
  rintro e w5 ⟨pa, rfl, p5, l5, hb5⟩
  have B5 := Lib.hid (B4.out.trans (hb5.mono s4))
  have s5 := B5.out.size
  have h5 := Lib.hid (h4.out.below hb5)
  have hpa := lt_of_heap p5
  clear hb5 h4
  have p5 := Lib.hid p5
  go_wp2_with fail
  refine (event 3 ⟨#[120]⟩ w5).mono ?_
  rintro e w6 ⟨rfl, hb6⟩
  have B6 := Lib.hid (B5.out.trans (hb6.mono s5))
  have s6 := B6.out.size
  have h6 := Lib.hid (h5.out.below hb6)
  have p6 := Lib.hid (PutAt.below p5.out hb6)
  have s56 := hb6.size
  clear hb6 h5 p5
  go_wp2_with fail
  refine (Chain.put sb w6 1 3 ⟨#[107]⟩ ⟨#[120]⟩ false).mono ?_
  rintro e w7 ⟨pb, rfl, p7, l7, hb7⟩
  have B7 := Lib.hid (B6.out.trans (hb7.mono s6))
  have T7 : TwoAt W.heap.size sb p pa pb v3 0 (Two.it 0 T0) w7 := ⟨_, h6.out.below hb7, PutAt.below p6.out hb7, p7, B7.out.size⟩
  have T7 := Lib.hid T7
  have hne : pa ≠ pb := by omega
  have hpaB : W.heap.size ≤ pa := by omega
  have hpbB : W.heap.size ≤ pb := by omega
  clear hb7 h6 p6 p7
  go_wp2_with fail
  go_loopw [7] (fun i wr => ∃ (k : Nat) (n : Int), k ≤ 8 ∧ i = .int .i64 k ∧ 0 ≤ n ∧ n ≤ 2 * k ∧ Hid (TwoAt W.heap.size sb p pa pb v3 n (Two.it k T0) wr) ∧ Hid (Below W.heap.size W wr))
    (fun i _ => 8 - (intOf i).toNat)
  case atStart => exact ⟨0, 0, by omega, rfl, by omega, by omega, T7, B7⟩
  case round =>
    clear T7 B7
    obtain ⟨k, n, hk, rfl, hn0, hn1, hT, hb⟩ := hrel
    by_cases hlt : k < 8
    · have b1 : decide ((k : Int) < 8) = true := by simp; omega
      have ok := T0_ok k (by omega)
      have hN := stepN01 (Two.it k T0).C (Two.it k T0).a
      have hM := stepN01 (Two.it k T0).sA.C (Two.it k T0).sA.b
      have ok := Lib.hid ok
      go_wp2_with fail
      refine (stepA hT.out hpaB hne ok.out (by omega) (by omega)).mono ?_
      rintro e w8 ⟨rfl, t8, hb8⟩
      have t8 := Lib.hid t8
      have B8 := Lib.hid (hb.out.trans hb8)
      clear hb8 hT hb
      go_wp2_with fail
      refine (stepB t8.out hpbB hne (ok.out.sA (by omega)) (by omega) (by omega)).mono ?_
      rintro e w9 ⟨rfl, t9, hb9⟩
      have t9 : Hid (TwoAt W.heap.size sb p pa pb v3 (n + stepN (Two.it k T0).C (Two.it k T0).a + stepN (Two.it k T0).sA.C (Two.it k T0).sA.b) (Two.it (k + 1) T0) w9) := Lib.hid t9
      have B9 := Lib.hid (B8.out.trans hb9)
      generalize stepN (Two.it k T0).C (Two.it k T0).a = m1 at *
      generalize stepN (Two.it k T0).sA.C (Two.it k T0).sA.b = m2 at *
      clear hb9 t8 B8
      go_wp2
      go_roundw
      case rel => exact ⟨k + 1, n + m1 + m2, by omega, by go_num, by omega, by omega, t9, B9⟩
      case measure => simp [intOf]; omega
    · have b1 : decide ((k : Int) < 8) = false := by simp; omega
      obtain rfl : k = 8 := by omega
      have hT2 := hT.out
      rw [T8] at hT2
      obtain ⟨vs, L, -, -, sB⟩ := hT2
      dsimp only at L
      have L := Lib.hid L
      clear hT
      have rg : ∀ y ∈ [V1, V1], 0 ≤ y.ahead ∧ y.ahead ≤ 18446744073709551615 := by intro y hy; simp at hy; subst hy; decide
      have rg := Lib.hid rg
      go_wp2_with fail
      refine (Mem.load L.out.mem 1 (by omega) (by omega)).mono ?_
      rintro e w8 ⟨rfl, m8, o8⟩
      rw [show rdAt [0, 1] 1 = 1 from rfl, show errAt [0, 1] 1 = 0 from rfl]
      have L8 := Lib.hid (L.out.mems m8 o8)
      have B8 := Lib.hid (hb.out.trans (footB L.out.mem o8 sB))
      clear m8 o8 hb
      go_wp2_with fail
      refine (at_ L8.out acyc2 rg.out 1 5 (by omega) (by omega) (by simp)).mono ?_
      rintro e w9 ⟨rfl, hb9⟩
      rw [show kvOf (atR [V1, V1] 1 5) = .agg #[.string ⟨#[107]⟩, .string ⟨#[120]⟩, .int .i64 3] from rfl, show (atR [V1, V1] 1 5).isSome = true from rfl]
      have B9 := Lib.hid (B8.out.trans (hb9.mono B8.out.size))
      have s9 := B9.out.size
      have L9 := Lib.hid (L8.out.below hb9)
      have hbx := al9 w9 (.cells #[.string ⟨#[107]⟩, .string ⟨#[120]⟩, .int .i64 3] 63)
      have L9' := Lib.hid (L9.out.below hbx)
      have B9' := Lib.hid (B9.out.trans (hbx.mono s9))
      have x9 := Lib.hid (heap_alloc_new w9 (.cells #[.string ⟨#[107]⟩, .string ⟨#[120]⟩, .int .i64 3] 63))
      clear hb9 hbx L8
      go_wp2_with fail
      refine (at_ L9'.out acyc2 rg.out 1 2 (by omega) (by omega) (by simp)).mono ?_
      rintro e w10 ⟨rfl, hb10⟩
      rw [show kvOf (atR [V1, V1] 1 2) = .agg #[.string ⟨#[]⟩, .string ⟨#[]⟩, .int .i64 0] from rfl, show (atR [V1, V1] 1 2).isSome = false from rfl]
      have B10 := Lib.hid (B9'.out.trans (hb10.mono B9'.out.size))
      have s10 := B10.out.size
      have L10 := L9'.out.below hb10
      have x10 := (hb10.block _ (lt_of_heap x9.out)).trans x9.out
      have hbx := al9 w10 (.cells #[.string ⟨#[]⟩, .string ⟨#[]⟩, .int .i64 0] 63)
      have L11 := Lib.hid (L10.below hbx)
      have x11 := (hbx.block _ (lt_of_heap x10)).trans x10
      have B11 := Lib.hid (B10.out.trans (hbx.mono s10))
      have y0 : (w10.alloc (.cells #[.string ⟨#[]⟩, .string ⟨#[]⟩, .int .i64 0] 63)).cell? ⟨w9.heap.size, 0, none⟩ = some (.string ⟨#[107]⟩) := by simp only [World.cell?, x11]; rfl
      have y1 : (w10.alloc (.cells #[.string ⟨#[]⟩, .string ⟨#[]⟩, .int .i64 0] 63)).cell? ⟨w9.heap.size, 1, none⟩ = some (.string ⟨#[120]⟩) := by simp only [World.cell?, x11]; rfl
      have y2 : (w10.alloc (.cells #[.string ⟨#[]⟩, .string ⟨#[]⟩, .int .i64 0] 63)).cell? ⟨w9.heap.size, 2, none⟩ = some (.int .i64 3) := by simp only [World.cell?, x11]; rfl
      clear hb10 hbx L9 L9' B9 B9' x9 x10 x11 L10
      go_wp2_with fail
      refine (Chain.rev L11.out 1 (by omega) (by simp)).mono ?_
      rintro e w12 ⟨rfl, hb12⟩
      rw [show (ofV [V1, V1] 1).rev = 3 from rfl]
      have B12 := Lib.hid (B11.out.trans (hb12.mono B11.out.size))
      clear hb12 L11
      go_wp2
      go_ret
      exact ⟨rfl, B12.out⟩
end Go.Proofs.Ytllibgjajlgnbab.Chain

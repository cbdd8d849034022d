/- The store: a put to its end; one cell; a cell behind events. -/
import Derived.Test.YtllibgjajlgnbabChain4
import Derived.Test.YtllibgjajlgnbabArgsV
namespace Go.Proofs.Ytllibgjajlgnbab.Chain
open Go Go.RowKit Go.Proofs.Ytllibgjajlgnbab.Only Go.Proofs.Ytllibgjajlgnbab.Mem Go.Proofs.Ytllibgjajlgnbab.New Go.Proofs.Ytllibgjajlgnbab.Args
set_option linter.unusedVariables false
set_option linter.unusedSimpArgs false

section
variable {B pb sb p : Nat} {v : Value} {C : List Int} {n : Int} {vs : Value} {Vs : List Ver} {P : PutS} {w : World}
theorem step (h : StoreAt B sb p v C n vs Vs w) (hp : PutAt pb sb P w) (hB : B ≤ w.heap.size) (hC : ∀ x ∈ C, 0 ≤ x ∧ x ≤ 18446744073709551615) (hc : -9223372036854775808 ≤ P.c ∧ P.c ≤ 9223372036854775807) (hn : 0 ≤ n ∧ n < 4611686018427387904) (hl : Vs.length ≤ 1000000) :
    Calls Try.prog 33 #[.pointer (some ⟨pb, 0, none⟩)] w (Stepped B pb sb p v C n vs Vs P w) := by
  cases hd : P.done with
  | true => exact step_done h hp hd
  | false =>
    cases hs : P.seen with
    | true => exact step_cas h hp hd hs hB hc hn hl
    | false => exact step_load h hp hd hs hB hC hc hn hl
end

theorem hit01 (C : List Int) (a : Int) : 0 ≤ hit C a ∧ hit C a ≤ 1 := by unfold hit; split <;> omega
theorem stepN01 (C : List Int) (P : PutS) : 0 ≤ stepN C P ∧ stepN C P ≤ 1 := by
  have := hit01 C P.c
  unfold stepN; split <;> omega
theorem stepC_range {C : List Int} {Vs : List Ver} (hC : ∀ x ∈ C, 0 ≤ x ∧ x ≤ 18446744073709551615) (hl : Vs.length ≤ 1000000) (P : PutS) : ∀ x ∈ stepC C Vs P, 0 ≤ x ∧ x ≤ 18446744073709551615 := by
  unfold stepC
  split; exact hC
  split
  · unfold casAt; split
    · exact setAt_range hC _ _ (by omega)
    · exact hC
  · exact hC
theorem stepV_length (Vs : List Ver) (P : PutS) : Vs.length ≤ (stepV Vs P).length ∧ (stepV Vs P).length ≤ Vs.length + 1 := by
  unfold stepV
  split
  · omega
  · split
    · simp
    · omega
theorem stepP_c (C : List Int) (Vs : List Ver) (P : PutS) : (stepP C Vs P).c = P.c ∧ (stepP C Vs P).rev = P.rev ∧ (stepP C Vs P).key = P.key ∧ (stepP C Vs P).val = P.val ∧ (stepP C Vs P).del = P.del := by
  unfold stepP
  split; exact ⟨rfl, rfl, rfl, rfl, rfl⟩
  split <;> exact ⟨rfl, rfl, rfl, rfl, rfl⟩

/-- Cells, versions, a put. -/
structure One where
  C : List Int
  Vs : List Ver
  P : PutS
def One.step (s : One) : One := ⟨stepC s.C s.Vs s.P, stepV s.Vs s.P, stepP s.C s.Vs s.P⟩
/-- To the end: k steps at most. -/
def One.run : Nat → One → One
  | 0, s => s
  | k + 1, s => if s.step.P.done then s.step else s.step.run k

/-- A store and a put of it. -/
def OneAt (B sb p pb : Nat) (v : Value) (n : Int) (s : One) (w : World) : Prop :=
  ∃ vs, StoreAt B sb p v s.C n vs s.Vs w ∧ PutAt pb sb s.P w ∧ B ≤ w.heap.size
structure One.Ok (s : One) (m : Nat) : Prop where
  C : ∀ x ∈ s.C, 0 ≤ x ∧ x ≤ 18446744073709551615
  c : -9223372036854775808 ≤ s.P.c ∧ s.P.c ≤ 9223372036854775807
  l : s.Vs.length ≤ m
theorem One.Ok.step {s : One} {m : Nat} (h : s.Ok m) (hm : m ≤ 1000000) : s.step.Ok (m + 1) :=
  ⟨stepC_range h.C (by have := h.l; omega) _, by have := (stepP_c s.C s.Vs s.P).1; unfold One.step; rw [this]; exact h.c, by have := (stepV_length s.Vs s.P).2; have := h.l; unfold One.step; simp only; omega⟩

/-- What a step leaves: the store, the put; blocks of others stay. -/
def OneStep (B sb p pb : Nat) (v : Value) (n : Int) (s : One) (w : World) (e : Ending) (w' : World) : Prop :=
  e = .returned (.bool s.step.P.done) ∧ OneAt B sb p pb v (n + stepN s.C s.P) s.step w' ∧ Below B w w' ∧ ∀ q (Q : PutS), q ≠ pb → PutAt q sb Q w → PutAt q sb Q w'

theorem oneStep {B sb p pb : Nat} {v : Value} {n : Int} {s : One} {m : Nat} {w : World} (h : OneAt B sb p pb v n s w) (hpB : B ≤ pb) (ok : s.Ok m) (hm : m ≤ 1000000) (hn : 0 ≤ n ∧ n < 4611686018427387904) :
    Calls Try.prog 33 #[.pointer (some ⟨pb, 0, none⟩)] w (OneStep B sb p pb v n s w) := by
  obtain ⟨vs, hs, hp, hB⟩ := h
  refine (step hs hp hB ok.C ok.c hn (by have := ok.l; omega)).mono ?_
  rintro e w' ⟨vs', rfl, h1, h2, ho⟩
  have hlow : ∀ k, StepFoot pb sb p v vs k → B ≤ k := by
    intro k hk
    rcases hk with rfl | hk
    · exact hpB
    · rcases hk with hk | rfl | hk
      · rcases hk with rfl | e
        · exact hs.mem.base
        · exact MemAt.gbase hs.mem e
      · exact hs.base
      · exact (hs.own.lt k hk).1
  refine ⟨rfl, ⟨vs', h1, h2, Nat.le_trans hB ho.size⟩, ho.toBelow B hB (fun k _ hk => hlow k hk), fun q Q hq hQ => PutAt.next hQ ho (fun hf => ?_)⟩
  rcases hf with e | hf
  · exact hq e
  · exact put_far hs hQ hf

/-- What run leaves. -/
def Ran (B sb p pb : Nat) (v : Value) (n : Int) (s : One) (w : World) (e : Ending) (w' : World) : Prop :=
  e = .returned (.tuple #[]) ∧ ∃ n', n ≤ n' ∧ n' ≤ n + 10 ∧ OneAt B sb p pb v n' (s.run 10) w' ∧ Below B w w' ∧ ∀ q (Q : PutS), q ≠ pb → PutAt q sb Q w → PutAt q sb Q w'

set_option maxHeartbeats 4000000 in
set_option maxRecDepth 100000 in
theorem run {B sb p pb : Nat} {v : Value} {n : Int} {s : One} {m : Nat} {w : World} (h : OneAt B sb p pb v n s w) (hpB : B ≤ pb) (ok : s.Ok m) (hm : m ≤ 100000) (hn : 0 ≤ n ∧ n < 1000000000) :
    Calls Try.prog 35 #[.pointer (some ⟨pb, 0, none⟩)] w (Ran B sb p pb v n s w) := by
  have h := Lib.hid h
  have ok := Lib.hid ok
  go_enter Try.func35, Try.ntmps35
  go_wp2_with fail
  go_loopw [2] (fun i wr => ∃ (k : Nat) (t : One) (n' : Int), k ≤ 10 ∧ i = .int .i64 k ∧ n ≤ n' ∧ n' ≤ n + k ∧ t.run (10 - k) = s.run 10 ∧ Hid (t.Ok (m + k)) ∧ Hid (OneAt B sb p pb v n' t wr) ∧ Hid (Below B w wr) ∧ Hid (∀ q (Q : PutS), q ≠ pb → PutAt q sb Q w → PutAt q sb Q wr))
    (fun i _ => 10 - (intOf i).toNat)
  case atStart => exact ⟨0, s, n, by omega, rfl, by omega, by omega, rfl, ok, h, Lib.hid (Below.refl _ _), Lib.hid (fun _ _ _ hQ => hQ)⟩
  case round =>
    clear h ok
    obtain ⟨k, t, n', hk, rfl, hn1, hn2, hrun, ok, h, hb, hq⟩ := hrel
    replace hrun := Lib.hid hrun
    by_cases hlt : k < 10
    · have b1 : decide ((k : Int) < 10) = true := by simp; omega
      go_wp2_with fail
      refine (oneStep h.out hpB ok.out (by omega) (by omega)).mono ?_
      rintro e w1 ⟨rfl, h1, hb1, hq1⟩
      have h1 := Lib.hid h1
      have hb1 := Lib.hid (hb.out.trans hb1)
      have hq1 := Lib.hid (fun q Q hqp hQ => hq1 q Q hqp (hq.out q Q hqp hQ))
      have ok1 := Lib.hid (ok.out.step (by omega))
      have hN := stepN01 t.C t.P
      have hr : (t.step.P.done = true → s.run 10 = t.step) ∧ (t.step.P.done = false → t.step.run (10 - (k + 1)) = s.run 10) := by
        have e := hrun.out
        generalize s.run 10 = R at e ⊢
        rw [show 10 - k = (10 - (k + 1)) + 1 by omega] at e
        unfold One.run at e
        constructor
        · intro hd; rw [hd] at e; exact e.symm
        · intro hd; rw [hd] at e; simpa using e
      have hr := Lib.hid hr
      clear hb hq h ok hrun
      generalize hd : t.step.P.done = dn at *
      cases dn with
      | true =>
        have fin : Ran B sb p pb v n s w (.returned (.tuple #[])) w1 := ⟨rfl, n' + stepN t.C t.P, by omega, by omega, by rw [hr.out.1 rfl]; exact h1.out, hb1.out, hq1.out⟩
        have fin := Lib.hid fin
        clear hd
        go_wp2
        go_end0
        exact fin.out
      | false =>
        have e2 := Lib.hid (hr.out.2 rfl)
        clear hd
        go_wp2
        go_roundw
        case rel => exact ⟨k + 1, t.step, n' + stepN t.C t.P, by omega, by go_num, by omega, by omega, e2.out, ok1, h1, hb1, hq1⟩
        case measure => simp [intOf]; omega
    · have b1 : decide ((k : Int) < 10) = false := by simp; omega
      obtain rfl : k = 10 := by omega
      have fin : Ran B sb p pb v n s w (.returned (.tuple #[])) wr := ⟨rfl, n', hn1, by omega, by rw [← hrun.out]; exact h.out, hb.out, hq.out⟩
      have fin := Lib.hid fin
      clear h ok hb hq
      go_wp2
      go_end0
      exact fin.out
end Go.Proofs.Ytllibgjajlgnbab.Chain

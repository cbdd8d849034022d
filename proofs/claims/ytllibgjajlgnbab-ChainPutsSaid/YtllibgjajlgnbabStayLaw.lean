/- What there was at a revision stays: the plain law. -/
import Derived.Test.YtllibgjajlgnbabTwoLaw
namespace Go.Proofs.Ytllibgjajlgnbab.StayLaw
open Go Go.RowKit Go.Proofs.Ytllibgjajlgnbab.Only Go.Proofs.Ytllibgjajlgnbab.Mem Go.Proofs.Ytllibgjajlgnbab.New Go.Proofs.Ytllibgjajlgnbab.Chain Go.Proofs.Ytllibgjajlgnbab.TwoLaw
set_option linter.unusedVariables false
set_option linter.unusedSimpArgs false

/-- A put on its way. -/
structure On (Vs : List Ver) (P : PutS) : Prop where
  c : P.c = 0
  rr : -9223372036854775808 ≤ P.rev ∧ P.rev ≤ 9223372036854775807
  l : 0 ≤ P.last ∧ P.last ≤ Vs.length
  s : P.seen = true → P.done = false → (ofV Vs P.last).rev < P.rev
theorem On.old {Vs : List Ver} {P : PutS} (h : On Vs P) (y : Ver) : On (Vs ++ [y]) P :=
  ⟨h.c, h.rr, by have := h.l; simp; omega, fun h1 h2 => by rw [ofV_old h.l.2]; exact h.s h1 h2⟩
/-- What stays. -/
structure Stay (was r0 a0 : Int) (A0 : Option Ver) (x : Int) (Vs : List Ver) : Prop where
  good : Chain.Good x Vs
  wl : was ≤ Vs.length
  wr : (ofV Vs was).rev = r0
  ge : r0 ≤ (ofV Vs x).rev
  le : a0 ≤ r0
  eq : atR Vs x a0 = A0
theorem step {was r0 a0 : Int} {A0 : Option Ver} {x : Int} {Vs : List Ver} {P : PutS} (h : Stay was r0 a0 A0 x Vs) (hp : On Vs P) (hl : Vs.length ≤ 100000) :
    Stay was r0 a0 A0 (stepX x Vs P) (stepV Vs P) ∧ On (stepV Vs P) (stepP [x] Vs P) ∧ ∀ Q, On Vs Q → On (stepV Vs P) Q := by
  obtain ⟨g, wl, wr, ge, le, eq⟩ := h
  have e := stepP_X x Vs P hp.c
  obtain ⟨f1, f2, f3, f4, f5⟩ := stepP_c [x] Vs P
  cases hd : P.done with
  | true =>
    have e1 : stepX x Vs P = x := by simp [stepX, hd]
    have e2 : stepV Vs P = Vs := by simp [stepV, hd]
    have e3 : stepP [x] Vs P = P := by rw [e]; simp [hd]
    rw [e1, e2, e3]
    exact ⟨⟨g, wl, wr, ge, le, eq⟩, hp, fun _ h => h⟩
  | false =>
    cases hs : P.seen with
    | false =>
      have e1 : stepX x Vs P = x := by simp [stepX, hd, hs]
      have e2 : stepV Vs P = Vs := by simp [stepV, hd, hs]
      have e3 : (stepP [x] Vs P).done = decide (P.rev ≤ (ofV Vs x).rev) := by rw [e]; simp [hd, hs]
      have e4 : (stepP [x] Vs P).last = x := by rw [e]; simp [hd, hs]
      rw [e1, e2]
      refine ⟨⟨g, wl, wr, ge, le, eq⟩, ⟨f1.trans hp.c, by rw [f2]; exact hp.rr, by rw [e4]; exact ⟨g.x0, g.xl⟩, fun _ hdn => ?_⟩, fun _ h => h⟩
      rw [e3] at hdn
      rw [e4, f2]
      have := of_decide_eq_false hdn
      omega
    | true =>
      have hlt := hp.s hs hd
      have e2 : stepV Vs P = Vs ++ [P.ver] := by simp [stepV, hd, hs]
      have e4 : (stepP [x] Vs P).seen = false := by rw [e]; simp [hd, hs]
      have e5 : (stepP [x] Vs P).last = P.last := by rw [e]; simp [hd, hs]
      have e1 : stepX x Vs P = if x = P.last then ((Vs.length + 1 : Nat) : Int) else x := by simp [stepX, hd, hs]
      have hz : 0 ≤ stepX x Vs P ∧ stepX x Vs P ≤ Vs.length + 1 := by
        rw [e1]; have := g.x0; have := g.xl; split <;> omega
      rw [e2]
      refine ⟨⟨g.new (y := P.ver) hp.l hp.rr (by omega) hz, by simp; omega, by rw [ofV_old wl]; exact wr, ?_, le, ?_⟩, ⟨f1.trans hp.c, by rw [f2]; exact hp.rr, by rw [e5]; have := hp.l; simp; omega, fun h1 _ => by rw [e4] at h1; cases h1⟩, fun Q hQ => hQ.old _⟩
      · rw [e1]
        by_cases hx : x = P.last
        · rw [if_pos hx, ofV_new]
          show r0 ≤ P.rev
          rw [hx] at ge; omega
        · rw [if_neg hx, ofV_old g.xl]; exact ge
      · rw [e1]
        by_cases hx : x = P.last
        · rw [if_pos hx, atR_new g.ac (y := P.ver) hp.l]
          have : a0 < P.ver.rev := by
            show a0 < P.rev
            rw [hx] at ge; omega
          rw [if_pos this]
          show atR Vs P.last a0 = A0
          rw [← hx]; exact eq
        · rw [if_neg hx, atR_old g.ac g.xl]; exact eq
end Go.Proofs.Ytllibgjajlgnbab.StayLaw

/- Two events put at once: the plain law. -/
import Derived.Test.YtllibgjajlgnbabChain8
namespace Go.Proofs.Ytllibgjajlgnbab.TwoLaw
open Go Go.RowKit Go.Proofs.Ytllibgjajlgnbab.Only Go.Proofs.Ytllibgjajlgnbab.Mem Go.Proofs.Ytllibgjajlgnbab.New Go.Proofs.Ytllibgjajlgnbab.Chain
set_option linter.unusedVariables false
set_option linter.unusedSimpArgs false

/-- The cell behind a step. -/
def stepX (x : Int) (Vs : List Ver) (P : PutS) : Int := if P.done then x else if P.seen then (if x = P.last then ((Vs.length + 1 : Nat) : Int) else x) else x
theorem stepC_X (x : Int) (Vs : List Ver) (P : PutS) (hc : P.c = 0) : stepC [x] Vs P = [stepX x Vs P] := by
  unfold stepC stepX
  rw [hc, casAt1]
  split; rfl
  split <;> rfl
theorem stepP_X (x : Int) (Vs : List Ver) (P : PutS) (hc : P.c = 0) : stepP [x] Vs P = if P.done then P else if P.seen then { P with seen := false, done := x == P.last } else { P with last := x, seen := true, done := decide (P.rev ≤ (ofV Vs x).rev) } := by
  unfold stepP
  rw [hc, casB1, rd1]

/-- How many steps of its own a put still needs. -/
def need (P : PutS) (x : Int) : Nat := if P.done then 0 else if P.seen then (if P.last = x then 1 else 3) else 2
def needs (P Q : PutS) (x : Int) : Nat := need P x + (if Q.done then 0 else 2)
theorem needs_own (x : Int) (Vs : List Ver) (P Q : PutS) (hc : P.c = 0) (hd : P.done = false) : needs (stepP [x] Vs P) Q (stepX x Vs P) + 1 ≤ needs P Q x := by
  unfold needs need
  rw [stepP_X x Vs P hc]
  unfold stepX
  rw [hd]
  cases hs : P.seen with
  | true =>
    by_cases hx : x = P.last
    · simp [hx]
      omega
    · have : ¬ P.last = x := fun e => hx e.symm
      simp [hx, this]
      omega
  | false =>
    simp
    generalize decide (P.rev ≤ (ofV Vs x).rev) = dd
    cases dd
    all_goals (repeat' split) <;> first | omega | simp_all
theorem needs_other (x : Int) (Vs : List Ver) (P Q : PutS) (hc : Q.c = 0) : needs P (stepP [x] Vs Q) (stepX x Vs Q) ≤ needs P Q x := by
  unfold needs need
  rw [stepP_X x Vs Q hc]
  unfold stepX
  cases hd : Q.done with
  | true => simp [hd]
  | false =>
    cases hs : Q.seen with
    | true =>
      by_cases hx : x = Q.last
      · simp [hx, hd]
        repeat' split
        all_goals omega
      · simp [hx, hd]
    | false =>
      simp [hd]
      generalize decide (Q.rev ≤ (ofV Vs x).rev) = dd
      cases dd
      all_goals (repeat' split) <;> first | omega | simp_all

/-- The earlier event's version; the later one's. -/
def IsA (x0 r : Int) (s0 : ByteArray) (Vs : List Ver) (id : Int) : Prop := okV Vs id = true ∧ ofV Vs id = ⟨r + 1, ⟨#[107]⟩, s0, false, x0⟩
def IsB (r : Int) (s1 : ByteArray) (Vs : List Ver) (id al : Int) : Prop := okV Vs id = true ∧ ofV Vs id = ⟨r + 2, ⟨#[107]⟩, s1, false, al⟩
theorem IsA.old {x0 r : Int} {s0 : ByteArray} {Vs : List Ver} {id : Int} (h : IsA x0 r s0 Vs id) (y : Ver) : IsA x0 r s0 (Vs ++ [y]) id := by
  have hl := (okV_true.1 h.1).2
  exact ⟨by rw [okV_old hl]; exact h.1, by rw [ofV_old hl]; exact h.2⟩
theorem IsB.old {r : Int} {s1 : ByteArray} {Vs : List Ver} {id al : Int} (h : IsB r s1 Vs id al) (y : Ver) : IsB r s1 (Vs ++ [y]) id al := by
  have hl := (okV_true.1 h.1).2
  exact ⟨by rw [okV_old hl]; exact h.1, by rw [ofV_old hl]; exact h.2⟩

/-- What holds at each round. -/
structure Inv (x0 r : Int) (s0 s1 : ByteArray) (x : Int) (Vs : List Ver) (a b : PutS) : Prop where
  good : Chain.Good x Vs
  x00 : 0 ≤ x0
  x0l : x0 ≤ Vs.length
  x0v : (ofV Vs x0).rev = r
  ph : (x = x0 ∧ a.done = false ∧ b.done = false) ∨ (IsA x0 r s0 Vs x ∧ a.done = true ∧ b.done = false) ∨ (∃ al, IsB r s1 Vs x al ∧ (al = x0 ∨ IsA x0 r s0 Vs al) ∧ b.done = true)
  af : a.c = 0 ∧ a.rev = r + 1 ∧ a.key = ⟨#[107]⟩ ∧ a.val = s0 ∧ a.del = false
  bf : b.c = 0 ∧ b.rev = r + 2 ∧ b.key = ⟨#[107]⟩ ∧ b.val = s1 ∧ b.del = false
  asn : a.seen = true → a.done = false → a.last = x0
  bsn : b.seen = true → b.done = false → b.last = x0 ∨ IsA x0 r s0 Vs b.last
  rr : 0 ≤ r ∧ r ≤ 1099511627776
  len : Vs.length ≤ 1000

theorem keepA {x0 r : Int} {s0 s1 : ByteArray} {x : Int} {Vs : List Ver} {a b : PutS} (h : Inv x0 r s0 s1 x Vs a b) : (stepP [x] Vs a).c = 0 ∧ (stepP [x] Vs a).rev = r + 1 ∧ (stepP [x] Vs a).key = ⟨#[107]⟩ ∧ (stepP [x] Vs a).val = s0 ∧ (stepP [x] Vs a).del = false := by
  obtain ⟨h1, h2, h3, h4, h5⟩ := stepP_c [x] Vs a
  obtain ⟨k1, k2, k3, k4, k5⟩ := h.af
  exact ⟨h1.trans k1, h2.trans k2, h3.trans k3, h4.trans k4, h5.trans k5⟩
theorem keepB {x0 r : Int} {s0 s1 : ByteArray} {x : Int} {Vs : List Ver} {a b : PutS} (h : Inv x0 r s0 s1 x Vs a b) : (stepP [x] Vs b).c = 0 ∧ (stepP [x] Vs b).rev = r + 2 ∧ (stepP [x] Vs b).key = ⟨#[107]⟩ ∧ (stepP [x] Vs b).val = s1 ∧ (stepP [x] Vs b).del = false := by
  obtain ⟨h1, h2, h3, h4, h5⟩ := stepP_c [x] Vs b
  obtain ⟨k1, k2, k3, k4, k5⟩ := h.bf
  exact ⟨h1.trans k1, h2.trans k2, h3.trans k3, h4.trans k4, h5.trans k5⟩

theorem invA {x0 r : Int} {s0 s1 : ByteArray} {x : Int} {Vs : List Ver} {a b : PutS} (h : Inv x0 r s0 s1 x Vs a b) (hl : Vs.length < 1000) : Inv x0 r s0 s1 (stepX x Vs a) (stepV Vs a) (stepP [x] Vs a) b := by
  have hf := keepA h
  obtain ⟨g, x00, x0l, x0v, ph, af, bf, asn, bsn, rr, len⟩ := h
  obtain ⟨k1, k2, k3, k4, k5⟩ := af
  have e := stepP_X x Vs a k1
  cases hd : a.done with
  | true =>
    have e1 : stepX x Vs a = x := by simp [stepX, hd]
    have e2 : stepV Vs a = Vs := by simp [stepV, hd]
    have e3 : stepP [x] Vs a = a := by rw [e]; simp [hd]
    rw [e1, e2, e3]
    exact ⟨g, x00, x0l, x0v, ph, ⟨k1, k2, k3, k4, k5⟩, bf, asn, bsn, rr, len⟩
  | false =>
    cases hs : a.seen with
    | false =>
      have e1 : stepX x Vs a = x := by simp [stepX, hd, hs]
      have e2 : stepV Vs a = Vs := by simp [stepV, hd, hs]
      rw [e1, e2]
      have e3 : (stepP [x] Vs a).done = decide (r + 1 ≤ (ofV Vs x).rev) := by rw [e]; simp [hd, hs, k2]
      have e4 : (stepP [x] Vs a).last = x := by rw [e]; simp [hd, hs]
      refine ⟨g, x00, x0l, x0v, ?_, hf, bf, fun _ hdn => ?_, bsn, rr, len⟩
      · rcases ph with ⟨p1, p2, p3⟩ | ⟨p1, p2, p3⟩ | ⟨al, p1, p2, p3⟩
        · refine .inl ⟨p1, ?_, p3⟩
          rw [e3, p1, x0v]; simp; omega
        · rw [hd] at p2; cases p2
        · exact .inr (.inr ⟨al, p1, p2, p3⟩)
      · rw [e4]
        rw [e3] at hdn
        rcases ph with ⟨p1, p2, p3⟩ | ⟨p1, p2, p3⟩ | ⟨al, p1, p2, p3⟩
        · exact p1
        · rw [hd] at p2; cases p2
        · rw [p1.2] at hdn
          have hdn' := of_decide_eq_false hdn
          exact absurd (show r + 1 ≤ r + 2 by omega) hdn'
    | true =>
      have hlast := asn hs hd
      have e2 : stepV Vs a = Vs ++ [⟨r + 1, ⟨#[107]⟩, s0, false, x0⟩] := by simp [stepV, hd, hs, PutS.ver, k2, k3, k4, k5, hlast]
      have e3 : (stepP [x] Vs a).done = (x == x0) := by rw [e]; simp [hd, hs, hlast]
      have e4 : (stepP [x] Vs a).seen = false := by rw [e]; simp [hd, hs]
      have e1 : stepX x Vs a = if x = x0 then ((Vs.length + 1 : Nat) : Int) else x := by simp [stepX, hd, hs, hlast]
      rw [e2]
      have hnew : IsA x0 r s0 (Vs ++ [⟨r + 1, ⟨#[107]⟩, s0, false, x0⟩]) ((Vs.length + 1 : Nat) : Int) := ⟨okV_new _ _, ofV_new _ _⟩
      have hz : 0 ≤ stepX x Vs a ∧ stepX x Vs a ≤ Vs.length + 1 := by
        rw [e1]; have := g.x0; have := g.xl; split <;> omega
      refine ⟨g.new (y := ⟨r + 1, ⟨#[107]⟩, s0, false, x0⟩) ⟨x00, x0l⟩ (by simp; omega) (by omega) hz, x00, by simp; omega, by rw [ofV_old x0l]; exact x0v, ?_, hf, bf, fun hsn => (by rw [e4] at hsn; cases hsn), fun h1 h2 => (bsn h1 h2).imp id (fun k => k.old _), rr, by simp; omega⟩
      rw [e1, e3]
      by_cases hx : x = x0
      · rcases ph with ⟨p1, p2, p3⟩ | ⟨p1, p2, p3⟩ | ⟨al, p1, p2, p3⟩
        · rw [if_pos hx]
          exact .inr (.inl ⟨hnew, by simp [hx], p3⟩)
        · rw [hd] at p2; cases p2
        · exfalso
          have := p1.2
          rw [hx] at this
          rw [this] at x0v
          simp at x0v; omega
      · rw [if_neg hx]
        rcases ph with ⟨p1, p2, p3⟩ | ⟨p1, p2, p3⟩ | ⟨al, p1, p2, p3⟩
        · exact absurd p1 hx
        · rw [hd] at p2; cases p2
        · exact .inr (.inr ⟨al, p1.old _, p2.imp id (fun k => k.old _), p3⟩)

theorem invB {x0 r : Int} {s0 s1 : ByteArray} {x : Int} {Vs : List Ver} {a b : PutS} (h : Inv x0 r s0 s1 x Vs a b) (hl : Vs.length < 1000) : Inv x0 r s0 s1 (stepX x Vs b) (stepV Vs b) a (stepP [x] Vs b) := by
  have hf := keepB h
  obtain ⟨g, x00, x0l, x0v, ph, af, bf, asn, bsn, rr, len⟩ := h
  obtain ⟨k1, k2, k3, k4, k5⟩ := bf
  have e := stepP_X x Vs b k1
  cases hd : b.done with
  | true =>
    have e1 : stepX x Vs b = x := by simp [stepX, hd]
    have e2 : stepV Vs b = Vs := by simp [stepV, hd]
    have e3 : stepP [x] Vs b = b := by rw [e]; simp [hd]
    rw [e1, e2, e3]
    exact ⟨g, x00, x0l, x0v, ph, af, ⟨k1, k2, k3, k4, k5⟩, asn, bsn, rr, len⟩
  | false =>
    have ph2 : (x = x0 ∧ a.done = false) ∨ (IsA x0 r s0 Vs x ∧ a.done = true) := by
      rcases ph with ⟨p1, p2, p3⟩ | ⟨p1, p2, p3⟩ | ⟨al, p1, p2, p3⟩
      · exact .inl ⟨p1, p2⟩
      · exact .inr ⟨p1, p2⟩
      · rw [hd] at p3; cases p3
    cases hs : b.seen with
    | false =>
      have e1 : stepX x Vs b = x := by simp [stepX, hd, hs]
      have e2 : stepV Vs b = Vs := by simp [stepV, hd, hs]
      rw [e1, e2]
      have e3 : (stepP [x] Vs b).done = false := by
        rw [e]; simp only [hd, hs, Bool.false_eq_true, if_false, k2]
        rcases ph2 with ⟨p1, _⟩ | ⟨p1, _⟩
        · rw [p1, x0v]; simp; omega
        · rw [p1.2]; simp
      have e4 : (stepP [x] Vs b).last = x := by rw [e]; simp [hd, hs]
      refine ⟨g, x00, x0l, x0v, ?_, af, hf, asn, fun _ _ => ?_, rr, len⟩
      · rcases ph2 with ⟨p1, p2⟩ | ⟨p1, p2⟩
        · exact .inl ⟨p1, p2, e3⟩
        · exact .inr (.inl ⟨p1, p2, e3⟩)
      · rw [e4]
        exact ph2.imp (fun k => k.1) (fun k => k.1)
    | true =>
      have hlast := bsn hs hd
      have hl0 : 0 ≤ b.last ∧ b.last ≤ Vs.length := by
        rcases hlast with k | k
        · rw [k]; exact ⟨x00, x0l⟩
        · have := okV_true.1 k.1; omega
      have e2 : stepV Vs b = Vs ++ [⟨r + 2, ⟨#[107]⟩, s1, false, b.last⟩] := by simp [stepV, hd, hs, PutS.ver, k2, k3, k4, k5]
      have e3 : (stepP [x] Vs b).done = (x == b.last) := by rw [e]; simp [hd, hs]
      have e4 : (stepP [x] Vs b).seen = false := by rw [e]; simp [hd, hs]
      have e1 : stepX x Vs b = if x = b.last then ((Vs.length + 1 : Nat) : Int) else x := by simp [stepX, hd, hs]
      rw [e2]
      have hnew : IsB r s1 (Vs ++ [⟨r + 2, ⟨#[107]⟩, s1, false, b.last⟩]) ((Vs.length + 1 : Nat) : Int) b.last := ⟨okV_new _ _, ofV_new _ _⟩
      have hz : 0 ≤ stepX x Vs b ∧ stepX x Vs b ≤ Vs.length + 1 := by
        rw [e1]; have := g.x0; have := g.xl; split <;> omega
      refine ⟨g.new (y := ⟨r + 2, ⟨#[107]⟩, s1, false, b.last⟩) hl0 (by simp; omega) (by omega) hz, x00, by simp; omega, by rw [ofV_old x0l]; exact x0v, ?_, af, hf, asn, fun hsn => (by rw [e4] at hsn; cases hsn), rr, by simp; omega⟩
      rw [e1, e3]
      by_cases hx : x = b.last
      · rw [if_pos hx]
        exact .inr (.inr ⟨b.last, hnew, hlast.imp id (fun k => k.old _), by simp [hx]⟩)
      · rw [if_neg hx]
        have hb : (x == b.last) = false := beq_false_of_ne hx
        rcases ph2 with ⟨p1, p2⟩ | ⟨p1, p2⟩
        · exact .inl ⟨p1, p2, hb⟩
        · exact .inr (.inl ⟨p1.old _, p2, hb⟩)

/-- What there is at last. -/
theorem last {x0 r : Int} {s0 s1 : ByteArray} {x : Int} {Vs : List Ver} {a b : PutS} (h : Inv x0 r s0 s1 x Vs a b) (hb : b.done = true) :
    (ofV Vs x).rev = r + 2 ∧ (∃ al, atR Vs x (r + 2) = some ⟨r + 2, ⟨#[107]⟩, s1, false, al⟩) ∧ ((∃ al, atR Vs x (r + 1) = some ⟨r + 1, ⟨#[107]⟩, s0, false, al⟩) ∨ (atR Vs x (r + 1) = atR Vs x0 r ∧ ∀ y, atR Vs x0 r = some y → y.rev = r)) := by
  obtain ⟨g, x00, x0l, x0v, ph, af, bf, asn, bsn, rr, len⟩ := h
  rcases ph with ⟨p1, p2, p3⟩ | ⟨p1, p2, p3⟩ | ⟨al, p1, p2, p3⟩
  · rw [hb] at p3; cases p3
  · rw [hb] at p3; cases p3
  · refine ⟨by rw [p1.2], ⟨al, ?_⟩, ?_⟩
    · rw [atR_step g.ac p1.1, p1.2]; simp
    · have e : atR Vs x (r + 1) = atR Vs al (r + 1) := by
        rw [atR_step g.ac p1.1, p1.2, if_pos (show r + 1 < r + 2 by omega)]
      rcases p2 with p2 | p2
      · right
        rw [e, p2]
        cases ho : okV Vs x0 with
        | false =>
          rw [atR_none ho, atR_none ho]
          exact ⟨rfl, fun y hy => by cases hy⟩
        | true =>
          have e1 : ∀ q, r ≤ q → atR Vs x0 q = if (ofV Vs x0).del then none else some (ofV Vs x0) := fun q hq => by
            rw [atR_step g.ac ho, if_neg (by omega)]
          rw [e1 (r + 1) (by omega), e1 r (by omega)]
          refine ⟨rfl, fun y hy => ?_⟩
          split at hy
          · cases hy
          · cases hy; exact x0v
      · left
        refine ⟨x0, ?_⟩
        rw [e, atR_step g.ac p2.1, p2.2]; simp
end Go.Proofs.Ytllibgjajlgnbab.TwoLaw

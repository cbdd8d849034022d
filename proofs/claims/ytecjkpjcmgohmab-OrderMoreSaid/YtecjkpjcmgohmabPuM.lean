/- OrderMore, in plain words. -/
import Derived.Test.YtecjkpjcmgohmabOrMod
namespace Go.Proofs.Ytecjkpjcmgohmab.Or
open Go Go.RowKit Go.Maps Go.Proofs.Ytecjkpjcmgohmab.Only Go.Proofs.Ytecjkpjcmgohmab.Pu
set_option linter.unusedVariables false
set_option linter.unusedSimpArgs false

theorem lin_any {zs : List ByteArray} {x : List C} (h : Fit zs x) (k : ByteArray) : Lin does (mbr zs k) (grp x k) := by
  by_cases q : ∃ c ∈ x, c.key = k
  · obtain ⟨c, hc, rfl⟩ := q
    exact h.2.2 c hc
  · rw [grp_none (fun c hc e => q ⟨c, hc, e⟩)]
    exact ⟨[], [], List.Perm.refl _, fun c hc => by simp at hc, List.Pairwise.nil, trivial⟩
theorem lin_snoc {b : Bool} {g : List C} {d : C} (h : Lin does b g) (hd : opn d = true) : Lin does b (g ++ [d]) := by
  obtain ⟨s, r, h1, h2, h3, h4⟩ := h
  refine ⟨s, r ++ [d], ?_, fun c hc => ?_, h3, h4⟩
  · rw [← List.append_assoc]; exact h1.append_right _
  · rcases List.mem_append.1 hc with q | q
    · exact h2 c q
    · have : c = d := by simpa using q
      rw [this]; exact hd
theorem fit_more {zs : List ByteArray} {x : List C} {d : C} (hd : opn d = true) (hl : x.length ≤ 11) (h : fitsB zs x = true) : fitsB zs (x ++ [d]) = true := by
  rw [fitsB_iff] at h ⊢
  have key : ∀ k, Lin does (mbr zs k) (grp (x ++ [d]) k) := fun k => by
    rw [grp_snoc]
    split
    · exact lin_snoc (lin_any h k) hd
    · exact lin_any h k
  refine ⟨by simp; omega, fun c hc => ?_, fun c _ => key c.key⟩
  rcases List.mem_append.1 hc with q | q
  · exact h.2.1 c q
  · have : c = d := by simpa using q
    rw [this]; exact ahd_opn hd
theorem rn_swap {c c' : C} (h1 : c'.kind = c.kind) (ho : opn c' = true) (s2 : List C) : ∀ (s1 : List C) (b : Bool), rn does b (s1 ++ c :: s2) → rn does b (s1 ++ c' :: s2) := by
  have hd : ∀ b, does b c' = does b c := fun b => by unfold does; rw [h1]
  intro s1
  induction s1 with
  | nil =>
    intro b h
    rw [List.nil_append, rn_cons] at h ⊢
    exact ⟨.inl ho, by rw [hd]; exact h.2⟩
  | cons a s1 ih =>
    intro b h
    rw [List.cons_append, rn_cons] at h ⊢
    exact ⟨h.1, ih _ h.2⟩
theorem lin_open {b : Bool} {A B : List C} {c c' : C} (h1 : c'.kind = c.kind) (h2 : c'.inv = c.inv) (ho : opn c' = true) (h : Lin does b (A ++ c :: B)) : Lin does b (A ++ c' :: B) := by
  obtain ⟨s, r, p1, p2, p3, p4⟩ := h
  have ha : ∀ d, ahd d c' = ahd d c := fun d => by unfold ahd; rw [h2]
  have hm : c ∈ s ++ r := p1.mem_iff.2 (by simp)
  have swap : ∀ {S1 S2 : List C}, (S1 ++ c :: S2).Perm (A ++ c :: B) → (S1 ++ c' :: S2).Perm (A ++ c' :: B) := fun {S1 S2} p => by
    have q1 : (c :: (S1 ++ S2)).Perm (c :: (A ++ B)) := List.perm_middle.symm.trans (p.trans List.perm_middle)
    have q2 := q1.cons_inv
    exact List.perm_middle.trans ((q2.cons c').trans List.perm_middle.symm)
  rcases List.mem_append.1 hm with q | q
  · obtain ⟨s1, s2, rfl⟩ := List.append_of_mem q
    refine ⟨s1 ++ c' :: s2, r, ?_, p2, ?_, rn_swap h1 ho s2 s1 b p4⟩
    · have p1' : (s1 ++ c :: (s2 ++ r)).Perm (A ++ c :: B) := by simpa using p1
      simpa using swap p1'
    · rw [List.pairwise_append] at p3 ⊢
      obtain ⟨q1, q2, q3⟩ := p3
      obtain ⟨q4, q5⟩ := List.pairwise_cons.1 q2
      refine ⟨q1, List.pairwise_cons.2 ⟨fun d hd => by rw [ha]; exact q4 d hd, q5⟩, fun x hx y hy => ?_⟩
      rcases List.mem_cons.1 hy with rfl | hy
      · exact ahd_opn ho
      · exact q3 x hx y (List.mem_cons_of_mem _ hy)
  · obtain ⟨r1, r2, rfl⟩ := List.append_of_mem q
    refine ⟨s, r1 ++ c' :: r2, ?_, fun d hd => ?_, p3, p4⟩
    · have p1' : ((s ++ r1) ++ c :: r2).Perm (A ++ c :: B) := by simpa using p1
      simpa using swap p1'
    · rcases List.mem_append.1 hd with q | q
      · exact p2 d (List.mem_append_left _ q)
      · rcases List.mem_cons.1 q with rfl | q
        · exact ho
        · exact p2 d (List.mem_append_right _ (List.mem_cons_of_mem _ q))
theorem set_split {x : List C} {m : Nat} (hm : m < x.length) (c' : C) : x = x.take m ++ at' x m :: x.drop (m + 1) ∧ x.set m c' = x.take m ++ c' :: x.drop (m + 1) := by
  have e : at' x m = x[m] := by unfold at'; rw [List.getD_eq_getElem?_getD, List.getElem?_eq_getElem hm]; rfl
  constructor
  · rw [e, List.getElem_cons_drop, List.take_append_drop]
  · rw [List.set_eq_take_append_cons_drop, if_pos hm]
theorem fit_open {zs : List ByteArray} {x : List C} {m : Nat} (hm : m < x.length) (h : fitsB zs x = true) : fitsB zs (x.set m { at' x m with ret := -1 }) = true := by
  rw [fitsB_iff] at h ⊢
  have ho : opn { at' x m with ret := -1 } = true := by unfold opn; simp
  obtain ⟨e1, e2⟩ := set_split hm { at' x m with ret := -1 }
  have key : ∀ k, Lin does (mbr zs k) (grp (x.set m { at' x m with ret := -1 }) k) := fun k => by
    have hl := lin_any h k
    rw [e1] at hl
    rw [e2]
    rw [grp_append, grp_cons] at hl ⊢
    show Lin does (mbr zs k) (grp (x.take m) k ++ if (at' x m).key = k then _ else _)
    by_cases q : (at' x m).key = k
    · rw [if_pos q] at hl ⊢
      exact lin_open (c := at' x m) rfl rfl ho hl
    · rw [if_neg q] at hl ⊢
      exact hl
  refine ⟨by rw [List.length_set]; exact h.1, fun c hc => ?_, fun c _ => key c.key⟩
  rw [e2] at hc
  rcases List.mem_append.1 hc with q | q
  · exact h.2.1 c (by rw [e1]; exact List.mem_append_left _ q)
  · rcases List.mem_cons.1 q with rfl | q
    · exact ahd_opn ho
    · exact h.2.1 c (by rw [e1]; exact List.mem_append_right _ (List.mem_cons_of_mem _ q))
end Go.Proofs.Ytecjkpjcmgohmab.Or

/- The laws, plainly: what deeds leave. -/
import Derived.Test.YtecjkpjcmgohmacEpRan
namespace Go.Proofs.Ytecjkpjcmgohmac.EpDo
open Go Go.RowKit Go.Maps Go.Proofs.Ytecjkpjcmgohmac.Only Go.Proofs.Ytecjkpjcmgohmac.Ep Go.Proofs.Ytecjkpjcmgohmac.EpRef Go.Proofs.Ytecjkpjcmgohmac.Args
set_option linter.unusedVariables false
set_option linter.unusedSimpArgs false

/-! Who is inside. -/
def InOk (inn : List Int) (ep : Int) : Prop := ∀ a ∈ inn, a = -1 ∨ (0 ≤ a ∧ a ≤ ep ∧ ep ≤ a + 1)
theorem mem_set' {l : List Int} {i : Nat} {x a : Int} (h : a ∈ l.set i x) : a ∈ l ∨ a = x := by
  rcases List.mem_or_eq_of_mem_set h with h | h
  · exact .inl h
  · exact .inr h
theorem advB_iff {inn : List Int} {ep : Int} : advB inn ep = true ↔ ∀ a ∈ inn, a = -1 ∨ a = ep := by
  unfold advB
  simp only [Bool.not_eq_true', List.any_eq_false, Bool.and_eq_true, bne_iff_ne, ne_eq]
  constructor
  · intro h a ha
    have := h a ha
    by_cases e : a = -1
    · exact .inl e
    · exact .inr (Classical.byContradiction fun e2 => this ⟨e, e2⟩)
  · intro h a ha q
    rcases h a ha with e | e
    · exact q.1 e
    · exact q.2 e
theorem InOk.step {d : Dd} {inn inn2 : List Int} {ep ep2 : Int} {G G2 : List Grp} (h : InOk inn ep) (h0 : 0 ≤ ep) (hs : Sp d inn ep G inn2 ep2 G2) : InOk inn2 ep2 := by
  cases hs with
  | enter _ =>
    intro a ha
    unfold enterI at ha
    split at ha
    · rcases mem_set' ha with q | q
      · exact h a q
      · subst q; exact .inr ⟨h0, by omega, by omega⟩
    · exact h a ha
  | exit _ =>
    intro a ha
    unfold exitI at ha
    split at ha
    · rcases mem_set' ha with q | q
      · exact h a q
      · exact .inl q
    · exact h a ha
  | retire _ v => exact h
  | advance _ =>
    intro a ha
    unfold advE
    split
    · rename_i hb
      rcases advB_iff.1 hb a ha with e | e
      · exact .inl e
      · subst e; exact .inr ⟨h0, by omega, by omega⟩
    · exact h a ha
  | free _ _ _ _ => exact h
theorem Reach.ep0 {ds : List (List Int)} {k : Nat} {inn : List Int} {ep : Int} {G : List Grp} (h : Reach ds k inn ep G) : 0 ≤ ep := by
  induction h with
  | new => omega
  | step h hk hs ih =>
    cases hs with
    | advance _ => unfold advE; split <;> omega
    | enter _ => exact ih
    | exit _ => exact ih
    | retire _ _ => exact ih
    | free _ _ _ _ => exact ih
theorem InOk.new (c : Nat) : InOk (newI c) 0 := fun a ha => .inl (by unfold newI at ha; exact List.eq_of_mem_replicate ha)
theorem Reach.inOk {ds : List (List Int)} {k : Nat} {inn : List Int} {ep : Int} {G : List Grp} (h : Reach ds k inn ep G) : InOk inn ep := by
  induction h with
  | new => exact InOk.new 4
  | step h hk hs ih => exact ih.step h.ep0 hs
theorem xsOf_mem {G : List Grp} {e y : Int} (h : y ∈ xsOf G e) : ∃ g ∈ G, g.e = e ∧ y ∈ g.xs := by
  rcases find_at G e with ⟨g, hg, he, -, ex⟩ | ⟨-, ex⟩
  · rw [ex] at h; exact ⟨g, hg, he, h⟩
  · rw [ex] at h; simp at h
theorem mem_xsOf {G : List Grp} (ha : G.Pairwise (fun a b => a.e < b.e)) {g : Grp} (hg : g ∈ G) : xsOf G g.e = g.xs := by
  unfold xsOf
  cases hf : G.find? (fun x => x.e == g.e) with
  | none =>
    rw [List.find?_eq_none] at hf
    have := hf g hg
    simp at this
  | some g' =>
    have he : g'.e = g.e := by have := List.find?_some hf; simpa using this
    have hg' := List.mem_of_find?_eq_some hf
    show g'.xs = g.xs
    obtain ⟨i, hi, rfl⟩ := List.getElem_of_mem hg
    obtain ⟨j, hj, rfl⟩ := List.getElem_of_mem hg'
    rcases Nat.lt_trichotomy i j with h | h | h
    · have := List.pairwise_iff_getElem.1 ha i j hi hj h; omega
    · subst h; rfl
    · have := List.pairwise_iff_getElem.1 ha j i hj hi h; omega
theorem Reach.noX {ds : List (List Int)} {k : Nat} {inn : List Int} {ep : Int} {G : List Grp} (h : Reach ds k inn ep G) {y : Int} (hy : ∀ j, j < ds.length → (deedOf (ds.getD j [])).x ≠ y) : ∀ g ∈ G, y ∉ g.xs := by
  induction h with
  | new => intro g hg; simp at hg
  | @step k inn inn2 ep ep2 G G2 h hk hs ih =>
    cases hs with
    | enter _ => exact ih
    | exit _ => exact ih
    | advance _ => exact ih
    | free _ _ _ _ => exact fun g hg => ih g (List.mem_filter.1 hg).1
    | retire _ v =>
      intro g hg hyg
      rcases List.mem_append.1 hg with q | q
      · exact ih g (mem_cut.1 q).1 hyg
      · have q := List.mem_singleton.1 q
        subst q
        rcases List.mem_append.1 hyg with r | r
        · obtain ⟨g', hg', -, hy'⟩ := xsOf_mem r
          exact ih g' hg' hy'
        · exact hy k hk (List.mem_singleton.1 r).symm

/-! A thread that stays inside. -/
structure Stay (k : Nat) (v : Int) (inn : List Int) (ep : Int) : Prop where
  len : k < inn.length
  at_ : inn.getD k 0 = v
  v0 : 0 ≤ v
  le : v ≤ ep
  ge : ep ≤ v + 1
theorem getD_set_ne {l : List Int} {i k : Nat} {x : Int} (h : i ≠ k) : (l.set i x).getD k 0 = l.getD k 0 := by
  simp [List.getD, List.getElem?_set_ne h]
theorem Stay.step {k : Nat} {v : Int} {d : Dd} {inn inn2 : List Int} {ep ep2 : Int} {G G2 : List Grp} (h : Stay k v inn ep) (hs : Sp d inn ep G inn2 ep2 G2) (hn : ¬ (d.k = 2 ∧ d.t = k)) : Stay k v inn2 ep2 := by
  obtain ⟨h1, h2, h3, h4, h5⟩ := h
  cases hs with
  | enter _ =>
    unfold enterI
    split
    · rename_i hc
      obtain ⟨i, hi, hil⟩ := thereP_nat hc.1
      have hik : i ≠ k := by
        rintro rfl
        have := hc.2
        unfold inAt at this
        rw [hi, Int.toNat_natCast, h2] at this
        omega
      rw [hi, Int.toNat_natCast]
      exact ⟨by simpa using h1, by rw [getD_set_ne hik]; exact h2, h3, h4, h5⟩
    · exact ⟨h1, h2, h3, h4, h5⟩
  | exit hk =>
    unfold exitI
    split
    · rename_i hc
      obtain ⟨i, hi, hil⟩ := thereP_nat hc.1
      have hik : i ≠ k := by
        rintro rfl
        exact hn ⟨hk, hi⟩
      rw [hi, Int.toNat_natCast]
      exact ⟨by simpa using h1, by rw [getD_set_ne hik]; exact h2, h3, h4, h5⟩
    · exact ⟨h1, h2, h3, h4, h5⟩
  | retire _ v => exact ⟨h1, h2, h3, h4, h5⟩
  | advance _ =>
    unfold advE
    split
    · rename_i hb
      have hm : v ∈ inn := by
        rw [← h2]
        simp [List.getD, h1]
      rcases advB_iff.1 hb v hm with e | e
      · omega
      · exact ⟨h1, h2, h3, by omega, by omega⟩
    · exact ⟨h1, h2, h3, h4, h5⟩
  | free _ _ _ _ => exact ⟨h1, h2, h3, h4, h5⟩
theorem thereP_k {inn : List Int} {k : Nat} (h : k < inn.length) : thereP inn (k : Int) = true := by unfold thereP; simp; omega
theorem exit_at {inn : List Int} {k : Nat} (h : k < inn.length) : (exitI inn (k : Int)).getD k 0 = -1 ∧ (exitI inn (k : Int)).length = inn.length := by
  unfold exitI inAt
  rw [Int.toNat_natCast]
  split
  · simp [List.getD, h]
  · rename_i hc
    rw [thereP_k h] at hc
    simp at hc
    exact ⟨by rw [List.getD_eq_getElem?_getD]; exact hc, rfl⟩
/-- Behind Exit and Enter the thread is inside. -/
theorem Stay.fresh {inn : List Int} {ep : Int} {k : Nat} (h : k < inn.length) (h0 : 0 ≤ ep) : Stay k ep (enterI (exitI inn (k : Int)) ep (k : Int)) ep := by
  obtain ⟨e1, e2⟩ := exit_at h
  have hk : k < (exitI inn (k : Int)).length := by omega
  generalize exitI inn (k : Int) = l at *
  unfold enterI inAt
  rw [Int.toNat_natCast, if_pos ⟨thereP_k hk, e1⟩]
  exact ⟨by simp; omega, by simp [List.getD, hk], h0, by omega, by omega⟩
/-- Behind Enter alone. -/
theorem Stay.enter {inn : List Int} {ep : Int} {k : Nat} (h : k < inn.length) (h0 : 0 ≤ ep) (ok : InOk inn ep) : ∃ v, Stay k v (enterI inn ep (k : Int)) ep := by
  unfold enterI inAt
  rw [Int.toNat_natCast]
  by_cases hc : inn.getD k 0 = -1
  · rw [if_pos ⟨thereP_k h, hc⟩]
    exact ⟨ep, by simp; omega, by simp [List.getD, h], h0, by omega, by omega⟩
  · rw [if_neg (fun e => hc e.2)]
    have hm : inn.getD k 0 ∈ inn := by simp [List.getD, h]
    rcases ok _ hm with e | ⟨q1, q2, q3⟩
    · exact absurd e hc
    · exact ⟨_, h, rfl, q1, q2, q3⟩

/-! What is held. -/
structure Held (y v : Int) (G : List Grp) : Prop where
  is : ∃ g ∈ G, y ∈ g.xs
  ge : ∀ g ∈ G, y ∈ g.xs → v ≤ g.e
theorem Held.free {y v : Int} {G : List Grp} {ep : Int} (h : Held y v G) (he : ep ≤ v + 1) : Held y v (keptG ep G) ∧ y ∉ freedL ep G := by
  have key : ∀ g ∈ G, y ∈ g.xs → old ep g = false := fun g hg hy => by
    have := h.ge g hg hy
    unfold old
    rw [decide_eq_false]
    omega
  refine ⟨⟨?_, fun g hg => h.ge g (List.mem_filter.1 hg).1⟩, fun hm => ?_⟩
  · obtain ⟨g, hg, hy⟩ := h.is
    exact ⟨g, List.mem_filter.2 ⟨hg, by rw [key g hg hy]; rfl⟩, hy⟩
  · unfold freedL at hm
    obtain ⟨g, hg, hy⟩ := List.mem_flatMap.1 hm
    obtain ⟨q1, q2⟩ := List.mem_filter.1 hg
    rw [key g q1 hy] at q2
    simp at q2
theorem Held.step {k : Nat} {y v : Int} {d : Dd} {inn inn2 : List Int} {ep ep2 : Int} {G G2 : List Grp} (h : Held y v G) (hst : Stay k v inn ep) (ha : G.Pairwise (fun a b => a.e < b.e)) (hs : Sp d inn ep G inn2 ep2 G2) (hx : d.x ≠ y) : Held y v G2 := by
  cases hs with
  | enter _ => exact h
  | exit _ => exact h
  | advance _ => exact h
  | free _ _ _ _ => exact (h.free hst.ge).1
  | retire _ u =>
    refine ⟨?_, fun g hg hy => ?_⟩
    · obtain ⟨g, hg, hy⟩ := h.is
      by_cases e : g.e = ep
      · refine ⟨_, List.mem_append.2 (.inr (List.mem_singleton.2 rfl)), List.mem_append.2 (.inl ?_)⟩
        rw [← e, mem_xsOf ha hg]
        exact hy
      · exact ⟨g, List.mem_append.2 (.inl (mem_cut.2 ⟨hg, e⟩)), hy⟩
    · rcases List.mem_append.1 hg with q | q
      · exact h.ge g (mem_cut.1 q).1 hy
      · have q := List.mem_singleton.1 q
        subst q
        exact hst.le
theorem Held.new {y : Int} {v ep : Int} {G : List Grp} (u : Value) (hno : ∀ g ∈ G, y ∉ g.xs) (hv : v ≤ ep) : Held y v (cut G ep ++ [⟨ep, u, xsOf G ep ++ [y]⟩]) := by
  refine ⟨⟨_, List.mem_append.2 (.inr (List.mem_singleton.2 rfl)), List.mem_append.2 (.inr (List.mem_singleton.2 rfl))⟩, fun g hg hy => ?_⟩
  rcases List.mem_append.1 hg with q | q
  · exact absurd hy (hno g (mem_cut.1 q).1)
  · have q := List.mem_singleton.1 q
    subst q
    exact hv
theorem Held.sum {y v : Int} {G : List Grp} (h : Held y v G) : 1 ≤ sumL G := by
  obtain ⟨g, hg, hy⟩ := h.is
  obtain ⟨a, b, rfl⟩ := List.append_of_mem hg
  rw [sum_app]
  have : 1 ≤ g.xs.length := by
    have := List.length_pos_of_mem hy
    omega
  unfold sumL
  simp
  omega

/-! All is free at last. -/
theorem adv_all {inn : List Int} {ep : Int} (h : ∀ a ∈ inn, a = -1) : advB inn ep = true ∧ advE inn ep = ep + 1 := by
  have : advB inn ep = true := advB_iff.2 (fun a ha => .inl (h a ha))
  exact ⟨this, by unfold advE; rw [if_pos this]⟩
def outTo (inn : List Int) (k : Nat) : Prop := ∀ j, j < k → j < inn.length → inn.getD j 0 = -1
theorem outTo.step {inn : List Int} {k : Nat} (h : outTo inn k) : outTo (exitI inn (k : Int)) (k + 1) := by
  intro j hj hl
  have hlen : (exitI inn (k : Int)).length = inn.length := (set_len inn k 0).1
  rw [hlen] at hl
  by_cases e : j = k
  · subst e; exact (exit_at hl).1
  · unfold exitI
    rw [Int.toNat_natCast]
    split
    · rw [getD_set_ne (fun q => e q.symm)]; exact h j (by omega) hl
    · exact h j (by omega) hl
theorem outTo.all {inn : List Int} (h : outTo inn inn.length) : ∀ a ∈ inn, a = -1 := by
  intro a ha
  obtain ⟨j, hj, rfl⟩ := List.getElem_of_mem ha
  have := h j hj hj
  rwa [show inn.getD j 0 = inn[j] by simp [List.getD, hj]] at this
theorem kept_all {G : List Grp} {ep e : Int} (h : ∀ g ∈ G, g.e ≤ e) (he : e + 2 ≤ ep) : keptG ep G = [] := by
  unfold keptG
  rw [List.filter_eq_nil_iff]
  intro g hg
  have := h g hg
  unfold old
  simp; omega
/-- Behind retires of one epoch. -/
def Ones (e : Int) (l : List Int) (G : List Grp) : Prop := (G = [] ∧ l = []) ∨ ∃ v, G = [⟨e, v, l⟩]
theorem Ones.step {e : Int} {l : List Int} {G : List Grp} (h : Ones e l G) (v : Value) (x : Int) : Ones e (l ++ [x]) (cut G e ++ [⟨e, v, xsOf G e ++ [x]⟩]) := by
  rcases h with ⟨rfl, rfl⟩ | ⟨u, rfl⟩
  · exact .inr ⟨v, rfl⟩
  · refine .inr ⟨v, ?_⟩
    have e1 : cut [⟨e, u, l⟩] e = [] := by unfold cut; simp
    have e2 : xsOf [⟨e, u, l⟩] e = l := by unfold xsOf; simp
    rw [e1, e2]
    rfl
theorem Ones.young {e ep : Int} {l : List Int} {G : List Grp} (h : Ones e l G) (he : ep ≤ e + 1) : freedL ep G = [] ∧ keptG ep G = G := by
  rcases h with ⟨rfl, rfl⟩ | ⟨u, rfl⟩
  · exact ⟨rfl, rfl⟩
  · have : old ep ⟨e, u, l⟩ = false := by unfold old; simp; omega
    unfold freedL keptG
    simp [this]
theorem Ones.old {e ep : Int} {l : List Int} {G : List Grp} (h : Ones e l G) (he : e + 2 ≤ ep) : freedL ep G = l ∧ keptG ep G = [] := by
  rcases h with ⟨rfl, rfl⟩ | ⟨u, rfl⟩
  · exact ⟨rfl, rfl⟩
  · have : Ep.old ep ⟨e, u, l⟩ = true := by unfold Ep.old; simp; omega
    unfold freedL keptG
    simp [this]

/-! The reference's row is the groups'. -/
def rowOf (G : List Grp) : List (Int × Int) := G.flatMap fun g => g.xs.map fun x => (x, g.e)
theorem rowOf_app (G H : List Grp) : rowOf (G ++ H) = rowOf G ++ rowOf H := by unfold rowOf; rw [List.flatMap_append]
theorem row_free (ep : Int) (G : List Grp) : rfreed ep (rowOf G) = freedL ep G ∧ rkept ep (rowOf G) = rowOf (keptG ep G) := by
  induction G with
  | nil => exact ⟨rfl, rfl⟩
  | cons g G ih =>
    have e1 : rowOf (g :: G) = (g.xs.map fun x => (x, g.e)) ++ rowOf G := by unfold rowOf; rw [List.flatMap_cons]
    unfold rfreed rkept at ih ⊢
    rw [e1, List.filter_append, List.filter_append, List.map_append, ih.1, ih.2]
    by_cases h : old ep g = true
    · have h1 : (g.xs.map fun x => (x, g.e)).filter (rold ep) = g.xs.map fun x => (x, g.e) := by
        rw [List.filter_eq_self]
        intro t ht
        obtain ⟨x, -, rfl⟩ := List.mem_map.1 ht
        exact h
      have h2 : (g.xs.map fun x => (x, g.e)).filter (fun t => !rold ep t) = [] := by
        rw [List.filter_eq_nil_iff]
        intro t ht
        obtain ⟨x, -, rfl⟩ := List.mem_map.1 ht
        have : rold ep (x, g.e) = true := h
        simp [this]
      rw [h1, h2]
      unfold freedL keptG
      rw [List.filter_cons, List.filter_cons, if_pos h, if_neg (by rw [h]; simp)]
      rw [List.map_map, show (Prod.fst ∘ fun x : Int => (x, g.e)) = id from rfl]
      simp
    · have hf : old ep g = false := by simpa using h
      have h1 : (g.xs.map fun x => (x, g.e)).filter (rold ep) = [] := by
        rw [List.filter_eq_nil_iff]
        intro t ht
        obtain ⟨x, -, rfl⟩ := List.mem_map.1 ht
        have : rold ep (x, g.e) = false := hf
        simp [this]
      have h2 : (g.xs.map fun x => (x, g.e)).filter (fun t => !rold ep t) = g.xs.map fun x => (x, g.e) := by
        rw [List.filter_eq_self]
        intro t ht
        obtain ⟨x, -, rfl⟩ := List.mem_map.1 ht
        have : rold ep (x, g.e) = false := hf
        simp [this]
      rw [h1, h2]
      unfold freedL keptG
      rw [List.filter_cons, List.filter_cons, if_neg h, if_pos (by rw [hf]; rfl)]
      constructor
      · rfl
      · unfold rowOf; rw [List.flatMap_cons]
theorem row_len (G : List Grp) : (rowOf G).length = sumL G := by
  unfold rowOf sumL
  rw [List.length_flatMap]
  congr 1
  exact List.map_congr_left (fun g _ => by simp)
/-- The group of the epoch is the last one. -/
theorem row_cut {G : List Grp} (ha : G.Pairwise (fun a b => a.e < b.e)) {ep : Int} (ht : ∀ g ∈ G, g.e ≤ ep) : rowOf G = rowOf (cut G ep) ++ (xsOf G ep).map fun x => (x, ep) := by
  rcases List.eq_nil_or_concat G with rfl | ⟨H, g, rfl⟩
  · rfl
  · rw [List.concat_eq_append] at *
    have hlt : ∀ a ∈ H, a.e < g.e := fun a q => (List.pairwise_append.1 ha).2.2 a q g (List.mem_singleton.2 rfl)
    have hg := ht g (List.mem_append.2 (.inr (List.mem_singleton.2 rfl)))
    have hcH : ∀ e, g.e ≤ e → cut H e = H := fun e he => by
      unfold cut
      rw [List.filter_eq_self]
      intro a q
      have := hlt a q
      simp; omega
    by_cases e : g.e = ep
    · have e1 : cut (H ++ [g]) ep = H := by
        have : cut (H ++ [g]) ep = cut H ep ++ cut [g] ep := by unfold cut; rw [List.filter_append]
        rw [this, hcH ep hg]
        unfold cut; simp [e]
      have e2 : xsOf (H ++ [g]) ep = g.xs := by
        rw [← e]
        exact mem_xsOf ha (List.mem_append.2 (.inr (List.mem_singleton.2 rfl)))
      rw [e1, e2, rowOf_app, ← e]
      congr 1
      unfold rowOf; simp
    · have e1 : cut (H ++ [g]) ep = H ++ [g] := by
        unfold cut
        rw [List.filter_eq_self]
        intro a q
        rcases List.mem_append.1 q with r | r
        · have := hlt a r; simp; omega
        · have r := List.mem_singleton.1 r; subst r; simpa using e
      have e2 : xsOf (H ++ [g]) ep = [] := by
        rcases find_at (H ++ [g]) ep with ⟨a, q, ea, -, -⟩ | ⟨-, ex⟩
        · rcases List.mem_append.1 q with r | r
          · have := hlt a r; omega
          · have r := List.mem_singleton.1 r; subst r; exact absurd ea e
        · exact ex
      rw [e1, e2]
      simp
/-- Both pools are the same. -/
structure Cor (inn : List Int) (ep : Int) (G : List Grp) (rin : List Int) (rep : Int) (R : List (Int × Int)) : Prop where
  i : rin = inn
  e : rep = ep
  r : R = rowOf G
theorem in_at {inn : List Int} {ep t : Int} (ok : InOk inn ep) (ht : thereP inn t = true) : inAt inn t = -1 ∨ 0 ≤ inAt inn t := by
  obtain ⟨i, rfl, hi⟩ := thereP_nat ht
  have hm : inAt inn (i : Int) ∈ inn := by unfold inAt; simp [List.getD, hi]
  rcases ok _ hm with e | e
  · exact .inl e
  · exact .inr e.1
theorem Cor.agree {d : Dd} {inn : List Int} {ep : Int} {G : List Grp} {rin : List Int} {rep : Int} {R : List (Int × Int)} (h : Cor inn ep G rin rep R) (ok : InOk inn ep) : Agree d inn ep G rin rep R := by
  obtain ⟨rfl, rfl, rfl⟩ := h
  unfold Agree
  split
  · unfold enterE renterE
    split
    · rename_i ht
      rcases in_at ok ht with e | e
      · rw [if_pos e, if_pos (by omega)]
      · rw [if_neg (by omega), if_neg (by omega)]
    · rfl
  split
  · unfold exitE rexitE
    split
    · rename_i ht
      rcases in_at ok ht with e | e
      · rw [if_pos e, if_neg (by omega)]
      · rw [if_neg (by omega), if_pos (by omega)]
    · rfl
  split
  · trivial
  split
  · rw [Bool.eq_iff_iff, advB_iff]
    unfold radvB
    rw [List.all_eq_true]
    constructor
    · intro q a ha
      rcases q a ha with e | e <;> simp [e]
    · intro q a ha
      have := q a ha
      simp at this
      rcases ok a ha with e | e <;> omega
  · exact (row_free _ _).1.symm
theorem Cor.step {d : Dd} {inn inn2 : List Int} {ep ep2 : Int} {G G2 : List Grp} {rin : List Int} {rep : Int} {R : List (Int × Int)} (h : Cor inn ep G rin rep R) (ok : InOk inn ep) (ha : G.Pairwise (fun a b => a.e < b.e)) (ht : ∀ g ∈ G, g.e ≤ ep) (hs : Sp d inn ep G inn2 ep2 G2) : Cor inn2 ep2 G2 (rI d rin rep) (rE d rin rep) (rR d rep R) := by
  have hag := h.agree (d := d) ok
  obtain ⟨rfl, rfl, rfl⟩ := h
  cases hs with
  | enter h =>
    refine ⟨?_, ?_, ?_⟩
    · unfold rI renterI enterI
      rw [if_pos h]
      by_cases q : thereP rin d.t = true
      · rcases in_at ok q with e | e
        · rw [if_pos ⟨q, by omega⟩, if_pos ⟨q, e⟩]
        · rw [if_neg (fun r => by omega), if_neg (fun r => by omega)]
      · rw [if_neg (fun r => q r.1), if_neg (fun r => q r.1)]
    · unfold rE; rw [if_neg (by omega)]
    · unfold rR; rw [if_neg (by omega), if_pos (.inl h)]
  | exit h =>
    refine ⟨?_, ?_, ?_⟩
    · unfold rI rexitI exitI
      rw [if_neg (by omega), if_pos h]
      by_cases q : thereP rin d.t = true
      · rcases in_at ok q with e | e
        · rw [if_neg (fun r => by omega), if_neg (fun r => r.2 e)]
        · rw [if_pos ⟨q, by omega⟩, if_pos ⟨q, by omega⟩]
      · rw [if_neg (fun r => q r.1), if_neg (fun r => q r.1)]
    · unfold rE; rw [if_neg (by omega)]
    · unfold rR; rw [if_neg (by omega), if_pos (.inr (.inl h))]
  | retire h v =>
    refine ⟨?_, ?_, ?_⟩
    · unfold rI; rw [if_neg (by omega), if_neg (by omega)]
    · unfold rE; rw [if_neg (by omega)]
    · unfold rR
      rw [if_pos h, row_cut ha ht, rowOf_app]
      unfold rowOf
      simp
  | advance h =>
    refine ⟨?_, ?_, ?_⟩
    · unfold rI; rw [if_neg (by omega), if_neg (by omega)]
    · unfold rE radvE advE
      unfold Agree at hag
      rw [if_neg (by omega), if_neg (by omega), if_neg (by omega), if_pos h] at hag
      rw [if_pos h, hag]
    · unfold rR; rw [if_neg (by omega), if_pos (.inr (.inr h))]
  | free h1 h2 h3 h4 =>
    refine ⟨?_, ?_, ?_⟩
    · unfold rI; rw [if_neg h1, if_neg h2]
    · unfold rE; rw [if_neg h4]
    · unfold rR
      rw [if_neg h3, if_neg (by rintro (e | e | e); exact h1 e; exact h2 e; exact h4 e)]
      exact (row_free _ _).2
end Go.Proofs.Ytecjkpjcmgohmac.EpDo

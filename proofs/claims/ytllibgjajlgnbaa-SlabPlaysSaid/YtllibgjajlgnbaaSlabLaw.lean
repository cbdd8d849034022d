/- The slab's plain laws: what deeds come to. -/
import Derived.Test.YtllibgjajlgnbaaSlabDo1
namespace Go.Proofs.Ytllibgjajlgnbaa.SlabLaw
open Go.Proofs.Ytllibgjajlgnbaa.Mem Go.Proofs.Ytllibgjajlgnbaa.Slab Go.Proofs.Ytllibgjajlgnbaa.SlabDo
set_option linter.unusedVariables false
set_option linter.unusedSimpArgs false

structure St where
  C : List Int
  s : Sl
  L : List Int
structure Dd where
  k : Int
  i : Int
  N : Nat
  V : Int
  raw : Int
structure Dd.In (d : Dd) : Prop where
  i : -9223372036854775808 ≤ d.i ∧ d.i ≤ 9223372036854775807
  N : d.N ≤ 255
  raw : 0 ≤ d.raw ∧ d.raw ≤ 18446744073709551615

def freeS' (st : St) (r : Int) : St := if thereB st.s r then ⟨st.C, freeS st.s r, st.L⟩ else st
def allocS' (st : St) : St := match st.s.row with
  | [] => st
  | px :: t => ⟨zeros st.C (st.s.first + px * st.s.words) st.s.words.toNat, allocS st.s px t, st.L ++ [refOf px (st.s.gens.getD px.toNat 0 + 1)]⟩
def doS (st : St) (d : Dd) : St :=
  if d.k = 1 then allocS' st
  else if d.k = 2 then freeS' st (toldV st.L d.N)
  else if d.k = 5 then freeS' st d.raw
  else if d.k = 4 then (if cellE st.s (toldV st.L d.N) d.i = 0 then ⟨setAt st.C (cellN st.s (toldV st.L d.N) d.i) d.V, st.s, st.L⟩ else st)
  else st

theorem refOf_place (p g : Int) (hp : 0 ≤ p ∧ p < 65536) : placeOf (refOf p g) = p := by unfold placeOf refOf; omega
theorem refOf_gen (p g : Int) (hp : 0 ≤ p ∧ p < 65536) : genOf (refOf p g) = g := by unfold genOf refOf; omega
theorem ref_ext {r r' : Int} (hp : placeOf r = placeOf r') (hg : genOf r = genOf r') : r = r' := by unfold placeOf genOf at *; omega

/-- What holds behind j deeds. -/
structure Inv (f wd : Int) (most : Nat) (j : Nat) (st : St) : Prop where
  first : st.s.first = f
  words : st.s.words = wd
  gl : st.s.gens.length = most
  tl : st.s.taken.length = most
  cl : (st.C.length : Int) = f + most * wd
  gen : ∀ g ∈ st.s.gens, 0 ≤ g ∧ g ≤ (j : Int)
  ll : st.L.length ≤ j
  row : ∀ p ∈ st.s.row, ∃ i : Nat, p = i ∧ i < most ∧ st.s.taken[i]? = some false
  nod : st.s.row.Nodup
  fre : ∀ i : Nat, st.s.taken[i]? = some false → (i : Int) ∈ st.s.row
  cnt : st.s.row.length + st.s.taken.count true = most
  old : ∀ r ∈ st.L, ∃ i : Nat, i < most ∧ placeOf r = i ∧ 1 ≤ genOf r ∧ genOf r ≤ st.s.gens.getD i 0
  up : st.L.Pairwise (fun a b => placeOf a = placeOf b → genOf a < genOf b)
  has : ∀ i : Nat, st.s.taken[i]? = some true → ∃ r ∈ st.L, placeOf r = i ∧ genOf r = st.s.gens.getD i 0

/-- The slab's bounds. -/
structure Bd (f wd : Int) (most : Nat) : Prop where
  f0 : 0 ≤ f
  w1 : 1 ≤ wd
  fit : f + most * wd ≤ 65536
theorem Bd.most {f wd : Int} {most : Nat} (b : Bd f wd most) : most ≤ 65536 ∧ f ≤ 65536 ∧ (1 ≤ most → wd ≤ 65536) := by
  obtain ⟨h0, h1, h2⟩ := b
  have h3 : (most : Int) * 1 ≤ most * wd := Int.mul_le_mul_of_nonneg_left h1 (by omega)
  refine ⟨by omega, by omega, fun h => ?_⟩
  have h4 : (1 : Int) * wd ≤ most * wd := Int.mul_le_mul_of_nonneg_right (by omega) (by omega)
  omega
section
variable {f wd : Int} {most j : Nat} {st : St}
theorem Inv.ok (h : Inv f wd most j st) (b : Bd f wd most) (hm : 1 ≤ most) (hj : j ≤ 1000000) : st.s.Ok := by
  obtain ⟨m1, m2, m3⟩ := b.most
  have m4 := m3 hm
  refine ⟨by rw [h.first]; exact ⟨b.f0, m2⟩, by rw [h.words]; exact ⟨b.w1, m4⟩, by rw [h.gl, h.tl], by rw [h.gl]; omega, fun g hg => ?_, fun p hp => ?_, ?_, ?_⟩
  · have := h.gen g hg; omega
  · obtain ⟨i, e, hi, -⟩ := h.row p hp
    rw [h.gl]; omega
  · have := h.cnt; rw [h.gl]; omega
  · rw [h.first, h.words, h.gl]; exact b.fit
theorem Inv.mono {j' : Nat} (h : Inv f wd most j st) (hj : j ≤ j') : Inv f wd most j' st :=
  ⟨h.first, h.words, h.gl, h.tl, h.cl, fun g hg => by have := h.gen g hg; omega, Nat.le_trans h.ll hj, h.row, h.nod, h.fre, h.cnt, h.old, h.up, h.has⟩
theorem Inv.ref (h : Inv f wd most j st) (b : Bd f wd most) (hj : j ≤ 1000000) {r : Int} (hr : r ∈ st.L) : 0 ≤ r ∧ r ≤ 18446744073709551615 := by
  obtain ⟨i, hi, hp, h1, h2⟩ := h.old r hr
  have hg := h.gen (st.s.gens.getD i 0) (by rw [List.getD, List.getElem?_eq_getElem (by rw [h.gl]; exact hi)]; exact List.getElem_mem _)
  have := b.most.1
  unfold placeOf genOf at *
  omega
theorem toldV_mem (L : List Int) (N : Nat) : toldV L N = 0 ∨ toldV L N ∈ L := by
  unfold toldV
  split
  · exact .inl rfl
  · right
    rw [List.getD, List.getElem?_eq_getElem (by omega)]
    exact List.getElem_mem _
theorem Inv.told (h : Inv f wd most j st) (b : Bd f wd most) (hj : j ≤ 1000000) (N : Nat) : 0 ≤ toldV st.L N ∧ toldV st.L N ≤ 18446744073709551615 := by
  rcases toldV_mem st.L N with e | e
  · omega
  · exact h.ref b hj e
theorem zeros_len (C : List Int) (a : Int) (k : Nat) : (zeros C a k).length = C.length := by
  induction k with
  | zero => rfl
  | succ k ih => unfold zeros; rw [← ih]; unfold setAt; split <;> simp
theorem setAt_len (C : List Int) (a x : Int) : (setAt C a x).length = C.length := by unfold setAt; split <;> simp

/-- Where a ref is that is there. -/
theorem there_at (h : Inv f wd most j st) {r : Int} (ht : thereB st.s r = true) : ∃ i : Nat, i < most ∧ placeOf r = i ∧ st.s.taken[i]? = some true ∧ genOf r = st.s.gens.getD i 0 := by
  unfold thereB at ht
  simp only [Bool.and_eq_true, decide_eq_true_eq, beq_iff_eq] at ht
  obtain ⟨⟨h0, h1⟩, h2, h3⟩ := ht
  obtain ⟨i, hi⟩ := Int.eq_ofNat_of_zero_le h0
  rw [hi] at h2 h3 h1
  rw [h.gl] at h1
  simp only [Int.toNat_natCast] at h2 h3
  have hl : i < st.s.taken.length := by rw [h.tl]; omega
  refine ⟨i, by omega, hi, ?_, h3.symm⟩
  rw [List.getElem?_eq_getElem hl]
  rw [List.getD, List.getElem?_eq_getElem hl] at h2
  simpa using h2
theorem at_there (h : Inv f wd most j st) {r : Int} {i : Nat} (hi : i < most) (hp : placeOf r = i) (ht : st.s.taken[i]? = some true) (hg : genOf r = st.s.gens.getD i 0) : thereB st.s r = true := by
  unfold thereB
  rw [hp, h.gl]
  simp only [Bool.and_eq_true, decide_eq_true_eq, beq_iff_eq, Int.toNat_natCast]
  exact ⟨by omega, by simp [List.getD, ht], hg.symm⟩
theorem not_there_taken (h : Inv f wd most j st) {r : Int} {i : Nat} (hp : placeOf r = i) (ht : st.s.taken[i]? = some false) : thereB st.s r = false := by
  cases e : thereB st.s r with
  | false => rfl
  | true =>
    obtain ⟨i', -, hp', ht', -⟩ := there_at h e
    rw [hp] at hp'
    have : i = i' := by omega
    subst this
    rw [ht] at ht'; cases ht'

theorem Inv.free (h : Inv f wd most j st) (r : Int) : Inv f wd most j (freeS' st r) := by
  unfold freeS'
  split
  case isFalse => exact h
  rename_i ht
  obtain ⟨i, hi, hp, htk, hg⟩ := there_at h ht
  have hl : i < st.s.taken.length := by rw [h.tl]; omega
  have e : freeS st.s r = { st.s with taken := st.s.taken.set i false, row := st.s.row ++ [(i : Int)] } := by unfold freeS; rw [hp]; simp
  rw [e]
  have hti : st.s.taken[i] = true := by rw [List.getElem?_eq_getElem hl] at htk; simpa using htk
  have nin : (i : Int) ∉ st.s.row := fun hm => by
    obtain ⟨i', e', -, hf⟩ := h.row _ hm
    have : i = i' := by omega
    subst this
    rw [hf] at htk; cases htk
  refine ⟨h.first, h.words, h.gl, by simpa using h.tl, h.cl, h.gen, h.ll, fun p hp' => ?_, ?_, fun i' hf => ?_, ?_, h.old, h.up, fun i' ht' => ?_⟩
  · rcases List.mem_append.1 hp' with hp' | hp'
    · obtain ⟨i', e', hi', hf⟩ := h.row p hp'
      refine ⟨i', e', hi', ?_⟩
      show (st.s.taken.set i false)[i']? = _
      by_cases hii : i = i'
      · subst hii; simp [hl]
      · rw [List.getElem?_set_ne hii]; exact hf
    · have hp' : p = i := by simpa using hp'
      exact ⟨i, hp', hi, by show (st.s.taken.set i false)[i]? = _; simp [hl]⟩
  · show (st.s.row ++ [(i : Int)]).Nodup
    rw [List.nodup_append]
    refine ⟨h.nod, by simp, fun a ha b hb => ?_⟩
    have hb : b = i := by simpa using hb
    subst hb
    exact fun e => nin (e ▸ ha)
  · show (i' : Int) ∈ st.s.row ++ [(i : Int)]
    have hf : (st.s.taken.set i false)[i']? = some false := hf
    by_cases hii : i = i'
    · subst hii; simp
    · rw [List.getElem?_set_ne hii] at hf
      exact List.mem_append.2 (.inl (h.fre i' hf))
  · show (st.s.row ++ [(i : Int)]).length + (st.s.taken.set i false).count true = most
    have hc := h.cnt
    rw [List.count_set hl, hti]
    have : 1 ≤ st.s.taken.count true := List.count_pos_iff.2 (by rw [← hti]; exact List.getElem_mem _)
    simp
    omega
  · have ht' : (st.s.taken.set i false)[i']? = some true := ht'
    by_cases hii : i = i'
    · subst hii; simp [hl] at ht'
    · rw [List.getElem?_set_ne hii] at ht'
      exact h.has i' ht'

theorem Inv.alloc (h : Inv f wd most j st) (b : Bd f wd most) : Inv f wd most (j + 1) (allocS' st) := by
  unfold allocS'
  split
  · exact h.mono (by omega)
  rename_i px t hrow
  obtain ⟨i, rfl, hi, htk⟩ := h.row px (by rw [hrow]; simp)
  have hl : i < st.s.taken.length := by rw [h.tl]; omega
  have hlg : i < st.s.gens.length := by rw [h.gl]; omega
  have hmost := b.most.1
  have hti : st.s.taken[i] = false := by rw [List.getElem?_eq_getElem hl] at htk; simpa using htk
  obtain ⟨g, hg⟩ : ∃ g, st.s.gens.getD i 0 = g := ⟨_, rfl⟩
  have e : allocS st.s i t = { st.s with gens := st.s.gens.set i (g + 1), taken := st.s.taken.set i true, row := t } := by unfold allocS; simp only [Int.toNat_natCast]; rw [hg]
  rw [e]
  simp only [Int.toNat_natCast]
  rw [hg]
  have hgb := h.gen g (by rw [← hg, List.getD, List.getElem?_eq_getElem hlg]; exact List.getElem_mem _)
  have ep := refOf_place (i : Int) (g + 1) (by omega)
  have eg := refOf_gen (i : Int) (g + 1) (by omega)
  have nod := h.nod
  rw [hrow] at nod
  obtain ⟨nin, nod'⟩ := List.nodup_cons.1 nod
  have gset : ∀ i' : Nat, (st.s.gens.set i (g + 1)).getD i' 0 = if i = i' then g + 1 else st.s.gens.getD i' 0 := by
    intro i'
    by_cases hii : i = i'
    · subst hii; simp [List.getD, hlg]
    · rw [if_neg hii, List.getD, List.getD, List.getElem?_set_ne hii]
  refine ⟨h.first, h.words, by simpa using h.gl, by simpa using h.tl, by show ((zeros st.C _ _).length : Int) = _; rw [zeros_len]; exact h.cl, fun g' hg' => ?_, ?_, fun p hp => ?_, nod', fun i' hf => ?_, ?_, fun r hr => ?_, ?_, fun i' ht' => ?_⟩
  · have hg' : g' ∈ st.s.gens.set i (g + 1) := hg'
    rcases List.mem_or_eq_of_mem_set hg' with hm | hm
    · have := h.gen g' hm; omega
    · omega
  · show (st.L ++ [_]).length ≤ j + 1
    have := h.ll
    simp; omega
  · obtain ⟨i', e', hi', hf⟩ := h.row p (by rw [hrow]; exact List.mem_cons_of_mem _ hp)
    refine ⟨i', e', hi', ?_⟩
    show (st.s.taken.set i true)[i']? = _
    have hii : i ≠ i' := fun hii => nin (by rw [hii, ← e']; exact hp)
    rw [List.getElem?_set_ne hii]; exact hf
  · have hf : (st.s.taken.set i true)[i']? = some false := hf
    by_cases hii : i = i'
    · subst hii; simp [hl] at hf
    · rw [List.getElem?_set_ne hii] at hf
      have := h.fre i' hf
      rw [hrow] at this
      rcases List.mem_cons.1 this with q | q
      · omega
      · exact q
  · show t.length + (st.s.taken.set i true).count true = most
    have hc := h.cnt
    rw [hrow] at hc
    rw [List.count_set hl, hti]
    simp at hc ⊢
    omega
  · rcases List.mem_append.1 hr with hr | hr
    · obtain ⟨i', hi', hp', h1, h2⟩ := h.old r hr
      refine ⟨i', hi', hp', h1, ?_⟩
      show _ ≤ (st.s.gens.set i (g + 1)).getD i' 0
      rw [gset]
      split
      · rename_i hii; subst hii; omega
      · exact h2
    · have hr : r = refOf i (g + 1) := by simpa using hr
      subst hr
      refine ⟨i, hi, ep, by rw [eg]; omega, ?_⟩
      show _ ≤ (st.s.gens.set i (g + 1)).getD i 0
      rw [gset, if_pos rfl, eg]; omega
  · show (st.L ++ [refOf i (g + 1)]).Pairwise _
    rw [List.pairwise_append]
    refine ⟨h.up, by simp, fun a ha c hc => ?_⟩
    have hc : c = refOf i (g + 1) := by simpa using hc
    subst hc
    rw [ep, eg]
    intro hpa
    obtain ⟨i', hi', hp', h1, h2⟩ := h.old a ha
    have : i' = i := by omega
    subst this
    omega
  · have ht' : (st.s.taken.set i true)[i']? = some true := ht'
    show ∃ r ∈ st.L ++ [refOf i (g + 1)], placeOf r = i' ∧ genOf r = (st.s.gens.set i (g + 1)).getD i' 0
    rw [gset]
    by_cases hii : i = i'
    · subst hii
      exact ⟨_, List.mem_append.2 (.inr (List.mem_singleton.2 rfl)), ep, by rw [if_pos rfl]; exact eg⟩
    · rw [List.getElem?_set_ne hii] at ht'
      obtain ⟨r, hr, hp', hg'⟩ := h.has i' ht'
      exact ⟨r, List.mem_append.2 (.inl hr), hp', by rw [if_neg hii]; exact hg'⟩

theorem Inv.step (h : Inv f wd most j st) (b : Bd f wd most) (d : Dd) : Inv f wd most (j + 1) (doS st d) := by
  unfold doS
  split
  · exact h.alloc b
  split
  · exact (h.free _).mono (by omega)
  split
  · exact (h.free _).mono (by omega)
  split
  · split
    · have := h.mono (j' := j + 1) (by omega)
      exact ⟨this.first, this.words, this.gl, this.tl, by show ((setAt st.C _ _).length : Int) = _; rw [setAt_len]; exact this.cl, this.gen, this.ll, this.row, this.nod, this.fre, this.cnt, this.old, this.up, this.has⟩
    · exact h.mono (by omega)
  · exact h.mono (by omega)
end

theorem Inv.new (first words most : Nat) : Inv first words most 0 ⟨List.replicate (first + words * most) 0, newS first words most most, []⟩ := by
  refine ⟨rfl, rfl, by simp [newS], by simp [newS], ?_, fun g hg => ?_, by simp, fun p hp => ?_, ?_, fun i hf => ?_, ?_, fun r hr => ?_, by simp, fun i ht => ?_⟩
  · simp [Int.mul_comm]
  · simp [newS] at hg; omega
  · simp [newS] at hp
    obtain ⟨i, hi, rfl⟩ := hp
    exact ⟨i, rfl, hi, by simp [newS, hi]⟩
  · simp only [newS]
    exact List.pairwise_map.2 ((List.nodup_range (n := most)).imp (fun {a b} hab e => hab (by omega)))
  · simp only [newS] at hf ⊢
    have : i < most := by
      obtain ⟨hl, -⟩ := List.getElem?_eq_some_iff.1 hf
      simpa using hl
    simp only [List.mem_map, List.mem_range]
    exact ⟨i, this, rfl⟩
  · simp [newS, List.count_replicate]
  · simp at hr
  · simp only [newS] at ht
    obtain ⟨hl, e⟩ := List.getElem?_eq_some_iff.1 ht
    simp at e
end Go.Proofs.Ytllibgjajlgnbaa.SlabLaw

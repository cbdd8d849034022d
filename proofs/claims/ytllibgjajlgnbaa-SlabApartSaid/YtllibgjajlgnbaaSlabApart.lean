/- The plain law of SlabApart: records that aren't free, counted; their cells, apart. -/
import Derived.Test.YtllibgjajlgnbaaSlabLaw
namespace Go.Proofs.Ytllibgjajlgnbaa.SlabApart
open Go.Proofs.Ytllibgjajlgnbaa.Slab Go.Proofs.Ytllibgjajlgnbaa.SlabDo Go.Proofs.Ytllibgjajlgnbaa.SlabLaw
set_option linter.unusedVariables false
set_option linter.unusedSimpArgs false

theorem countP_flip {Q : List Nat} (hn : Q.Nodup) {i : Nat} (hi : i ∈ Q) {p p' : Nat → Bool} (h0 : p i = false) (h1 : p' i = true) (he : ∀ j ∈ Q, j ≠ i → p' j = p j) : Q.countP p' = Q.countP p + 1 := by
  induction Q with
  | nil => simp at hi
  | cons a Q ih =>
    obtain ⟨ha, hn'⟩ := List.nodup_cons.1 hn
    rw [List.countP_cons, List.countP_cons]
    by_cases e : a = i
    · subst e
      have : Q.countP p' = Q.countP p := List.countP_congr (fun j hj => by rw [he j (List.mem_cons_of_mem _ hj) (fun e => ha (e ▸ hj))])
      rw [this, h0, h1]; simp
    · have hi' : i ∈ Q := by rcases List.mem_cons.1 hi with q | q; exact absurd q.symm e; exact q
      rw [ih hn' hi' (fun j hj hne => he j (List.mem_cons_of_mem _ hj) hne), he a List.mem_cons_self e]
      omega
theorem count_range (T : List Bool) : (List.range T.length).countP (fun i => T[i]? == some true) = T.count true := by
  induction T with
  | nil => rfl
  | cons b T ih =>
    rw [List.length_cons, List.range_succ_eq_map, List.countP_cons, List.countP_map]
    have : (List.range T.length).countP ((fun i => (b :: T)[i]? == some true) ∘ Nat.succ) = T.count true := by
      rw [← ih]
      refine List.countP_congr (fun j _ => ?_)
      simp
    rw [this, List.count_cons]
    cases b <;> simp
section
variable {f wd : Int} {most j : Nat} {st : St}
def cov (s : Sl) (L : List Int) (i : Nat) : Bool := L.any (fun r => thereB s r && decide (placeOf r = (i : Int)))
theorem cov_true {s : Sl} {L : List Int} {i : Nat} : cov s L i = true ↔ ∃ r ∈ L, thereB s r = true ∧ placeOf r = i := by
  unfold cov
  simp [List.any_eq_true]
theorem count_cov (I : SlabLaw.Inv f wd most j st) (L : List Int) (hup : L.Pairwise (fun a b => placeOf a = placeOf b → genOf a < genOf b)) : L.countP (thereB st.s) = (List.range most).countP (cov st.s L) := by
  induction L with
  | nil => symm; show _ = 0; rw [List.countP_eq_zero]; intro a _ h; rw [cov_true] at h; simp at h
  | cons r L ih =>
    obtain ⟨h1, h2⟩ := List.pairwise_cons.1 hup
    rw [List.countP_cons, ih h2]
    cases ht : thereB st.s r with
    | false =>
      have : (List.range most).countP (cov st.s (r :: L)) = (List.range most).countP (cov st.s L) := by
        refine List.countP_congr (fun i _ => ?_)
        rw [cov_true, cov_true]
        constructor
        · rintro ⟨x, hx, q1, q2⟩
          rcases List.mem_cons.1 hx with e | e
          · subst e; rw [ht] at q1; cases q1
          · exact ⟨x, e, q1, q2⟩
        · rintro ⟨x, hx, q⟩; exact ⟨x, List.mem_cons_of_mem _ hx, q⟩
      rw [this]; simp
    | true =>
      obtain ⟨i, hi, hp, htk, hg⟩ := there_at I ht
      have fl := countP_flip (Q := List.range most) (p := cov st.s L) (p' := cov st.s (r :: L)) (i := i) List.nodup_range (List.mem_range.2 hi) ?_ ?_ ?_
      · rw [fl]; simp
      · cases e : cov st.s L i with
        | false => rfl
        | true =>
          obtain ⟨x, hx, q1, q2⟩ := cov_true.1 e
          obtain ⟨i', -, hp', -, hg'⟩ := there_at I q1
          have : i = i' := by omega
          subst this
          have := h1 x hx (by omega)
          omega
      · exact cov_true.2 ⟨r, List.mem_cons_self, ht, hp⟩
      · intro k _ hne
        have : (cov st.s (r :: L) k = true) ↔ (cov st.s L k = true) := by
          rw [cov_true, cov_true]
          constructor
          · rintro ⟨x, hx, q1, q2⟩
            rcases List.mem_cons.1 hx with e | e
            · subst e; omega
            · exact ⟨x, e, q1, q2⟩
          · rintro ⟨x, hx, q⟩; exact ⟨x, List.mem_cons_of_mem _ hx, q⟩
        cases e1 : cov st.s (r :: L) k <;> cases e2 : cov st.s L k <;> simp_all
/-- As many refs are there as there are records that aren't free. -/
theorem live_count (I : SlabLaw.Inv f wd most j st) : st.L.countP (thereB st.s) = st.s.taken.count true := by
  rw [count_cov I st.L I.up, ← count_range, I.tl]
  refine List.countP_congr (fun i hi => ?_)
  rw [cov_true]
  constructor
  · rintro ⟨r, hr, q1, q2⟩
    obtain ⟨i', -, hp, htk, -⟩ := there_at I q1
    have : i = i' := by omega
    subst this
    rw [htk]; rfl
  · intro h
    have h : st.s.taken[i]? = some true := by simpa using h
    obtain ⟨r, hr, hp, hg⟩ := I.has i h
    exact ⟨r, hr, at_there I (List.mem_range.1 hi) hp h hg, hp⟩

/-- Cells that were seen are those of refs ahead. -/
def Seen (s : Sl) (L : List Int) (i : Nat) (Sn : List Bool) : Prop := ∀ n, Sn.getD n false = true → ∃ k, k < i ∧ k < L.length ∧ thereB s (L.getD k 0) = true ∧ 3 + placeOf (L.getD k 0) * 3 ≤ n ∧ (n : Int) < 6 + placeOf (L.getD k 0) * 3
theorem seen0 (s : Sl) (L : List Int) (n : Nat) : Seen s L 0 (List.replicate n false) := by
  intro m h
  simp only [List.getD, List.getElem?_replicate] at h
  split at h <;> simp at h
def SeenIn (s : Sl) (L : List Int) (i : Nat) (p : Nat) (k2 : Nat) (Sn : List Bool) : Prop := ∀ n, Sn.getD n false = true → (∃ k, k < i ∧ k < L.length ∧ thereB s (L.getD k 0) = true ∧ 3 + placeOf (L.getD k 0) * 3 ≤ n ∧ (n : Int) < 6 + placeOf (L.getD k 0) * 3) ∨ (3 + p * 3 ≤ n ∧ n < 3 + p * 3 + k2)
theorem seenIn0 {s : Sl} {L : List Int} {i p : Nat} {Sn : List Bool} (h : Seen s L i Sn) : SeenIn s L i p 0 Sn := fun n hn => .inl (h n hn)
/-- The next cell wasn't seen. -/
theorem seenIn_free (I : SlabLaw.Inv f wd most j st) {i p k2 : Nat} {Sn : List Bool} (hi : i < st.L.length) (ht : thereB st.s (st.L.getD i 0) = true) (hp : placeOf (st.L.getD i 0) = p) (hk : k2 < 3) (h : SeenIn st.s st.L i p k2 Sn) : Sn.getD (3 + p * 3 + k2) false = false := by
  cases e : Sn.getD (3 + p * 3 + k2) false with
  | false => rfl
  | true =>
    rcases h _ e with ⟨k, hk1, hkl, q1, q2, q3⟩ | ⟨q1, q2⟩
    · obtain ⟨a, -, ha, -, hga⟩ := there_at I q1
      obtain ⟨b, -, hb, -, hgb⟩ := there_at I ht
      have hup := (List.pairwise_iff_getElem.1 I.up) k i hkl hi hk1
      have ek : st.L.getD k 0 = st.L[k] := by rw [List.getD, List.getElem?_eq_getElem hkl]; rfl
      have ei : st.L.getD i 0 = st.L[i] := by rw [List.getD, List.getElem?_eq_getElem hi]; rfl
      rw [← ek, ← ei] at hup
      have hab : a = b := by omega
      subst hab
      have := hup (by omega)
      omega
    · omega
theorem seenIn_next {s : Sl} {L : List Int} {i p k2 : Nat} {Sn : List Bool} (h : SeenIn s L i p k2 Sn) : SeenIn s L i p (k2 + 1) (Sn.set (3 + p * 3 + k2) true) := by
  intro n hn
  by_cases e : 3 + p * 3 + k2 = n
  · exact .inr (by omega)
  · rw [List.getD, List.getElem?_set_ne e] at hn
    rcases h n hn with q | q
    · exact .inl q
    · exact .inr (by omega)
theorem seenIn_all {s : Sl} {L : List Int} {i p : Nat} {Sn : List Bool} (hi : i < L.length) (ht : thereB s (L.getD i 0) = true) (hp : placeOf (L.getD i 0) = p) (h : SeenIn s L i p 3 Sn) : Seen s L (i + 1) Sn := by
  intro n hn
  rcases h n hn with ⟨k, hk, q⟩ | q
  · exact ⟨k, by omega, q⟩
  · exact ⟨i, by omega, hi, ht, by omega, by omega⟩
theorem seen_skip {s : Sl} {L : List Int} {i : Nat} {Sn : List Bool} (h : Seen s L i Sn) : Seen s L (i + 1) Sn := by
  intro n hn
  obtain ⟨k, hk, q⟩ := h n hn
  exact ⟨k, by omega, q⟩

theorem cell_at (I : SlabLaw.Inv 3 3 4 j st) {r : Int} {p0 : Nat} (ht : thereB st.s r = true) (hp : placeOf r = p0) (i : Int) (k2 : Nat) (hi : i = k2) (hk : k2 < 3) : cellN st.s r i = ((3 + p0 * 3 + k2 : Nat) : Int) ∧ cellE st.s r i = 0 := by
  subst hi
  unfold cellN cellE
  rw [if_pos ht, if_pos ht, I.words, I.first, hp, if_neg (by omega), if_neg (by omega)]
  exact ⟨by omega, rfl⟩
/-- How many of the first refs are there. -/
def lv (s : Sl) (L : List Int) (i : Nat) : Nat := (L.take i).countP (thereB s)
theorem lv_next {s : Sl} {L : List Int} {i : Nat} (hi : i < L.length) : lv s L (i + 1) = lv s L i + if thereB s (L.getD i 0) = true then 1 else 0 := by
  unfold lv
  have ei : L.getD i 0 = L[i] := by rw [List.getD, List.getElem?_eq_getElem hi]; rfl
  rw [ei, ← List.take_append_getElem hi, List.countP_append, List.countP_cons, List.countP_nil]
  simp
theorem lv_all (I : SlabLaw.Inv f wd most j st) : (lv st.s st.L st.L.length : Int) = (most : Int) - st.s.row.length := by
  unfold lv
  rw [List.take_length, live_count I]
  have := I.cnt
  omega
theorem lv_le {s : Sl} {L : List Int} (i : Nat) : lv s L i ≤ L.length := by
  unfold lv
  refine Nat.le_trans List.countP_le_length ?_
  simp
  omega
end
end Go.Proofs.Ytllibgjajlgnbaa.SlabApart

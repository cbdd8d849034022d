/- Calls that overlap, in plain words: when they can have been one behind the other. -/
import Derived.WalkKit
import Derived.Lib.SlicesS
namespace Go.Proofs.Ytecjkpjcmgohmab.Pu
set_option linter.unusedVariables false
set_option linter.unusedSimpArgs false

structure C where
  kind : Int
  key : ByteArray
  ok : Bool
  inv : Int
  ret : Int
def opn (c : C) : Bool := decide (c.ret < 0)
def ahd (a b : C) : Bool := decide (0 ≤ a.ret) && decide (a.ret < b.inv)
def does (b : Bool) (c : C) : Bool × Bool := if c.kind = 1 then (true, !b) else if c.kind = 2 then (false, b) else (b, b)
theorem ahd_opn {a b : C} (h : opn a = true) : ahd a b = false := by
  unfold opn at h; unfold ahd
  simp at h ⊢
  omega

section
variable {σ : Type} (step : σ → C → σ × Bool)
def rn : σ → List C → Prop
  | _, [] => True
  | b, c :: s => (opn c = true ∨ (step b c).2 = c.ok) ∧ rn (step b c).1 s
theorem rn_cons (b : σ) (c : C) (s : List C) : rn step b (c :: s) = ((opn c = true ∨ (step b c).2 = c.ok) ∧ rn step (step b c).1 s) := rfl
/-- Calls can stand in an order. -/
def Lin (b : σ) (l : List C) : Prop := ∃ s r, (s ++ r).Perm l ∧ (∀ c ∈ r, opn c = true) ∧ s.Pairwise (fun c d => ahd d c = false) ∧ rn step b s

def nilC : C := ⟨0, ⟨#[]⟩, false, 0, 0⟩
def at' (l : List C) (i : Nat) : C := l.getD i nilC
def rem (l : List C) (u : Nat → Bool) : List C := ((List.range l.length).filter u).map (at' l)
def fre (l : List C) (u : Nat → Bool) (i : Nat) : Bool := (List.range l.length).all (fun k => !u k || !ahd (at' l k) (at' l i))
def lft (l : List C) (u : Nat → Bool) : Bool := (List.range l.length).any (fun i => u i && !opn (at' l i))
def tke (u : Nat → Bool) (i : Nat) : Nat → Bool := fun j => u j && j != i
def tls (b : σ) (c : C) : Bool := opn c || ((step b c).2 == c.ok)
def can (l : List C) : Nat → (Nat → Bool) → σ → Bool
  | 0, u, _ => !lft l u
  | k + 1, u, b => (List.range l.length).any (fun i => u i && fre l u i && tls step b (at' l i) && can l k (tke u i) (step b (at' l i)).1) || !lft l u

theorem mbr_rem {l : List C} {u : Nat → Bool} {c : C} : c ∈ rem l u ↔ ∃ i, i < l.length ∧ u i = true ∧ at' l i = c := by
  unfold rem
  simp only [List.mem_map, List.mem_filter, List.mem_range]
  constructor
  · rintro ⟨i, ⟨h1, h2⟩, h3⟩; exact ⟨i, h1, h2, h3⟩
  · rintro ⟨i, h1, h2, h3⟩; exact ⟨i, ⟨h1, h2⟩, h3⟩
theorem filter_take {L : List Nat} (hd : L.Nodup) {u : Nat → Bool} {i : Nat} (hi : i ∈ L) (hu : u i = true) : (L.filter u).Perm (i :: L.filter (tke u i)) := by
  induction L with
  | nil => simp at hi
  | cons a L ih =>
    obtain ⟨h1, h2⟩ := List.nodup_cons.1 hd
    by_cases e : a = i
    · subst e
      have h3 : L.filter (tke u a) = L.filter u := by
        refine List.filter_congr (fun x hx => ?_)
        have : x ≠ a := fun e => h1 (e ▸ hx)
        simp [tke, this]
      rw [List.filter_cons_of_pos hu, List.filter_cons_of_neg (by simp [tke]), h3]
    · have hi' : i ∈ L := by rcases List.mem_cons.1 hi with q | q; exact absurd q.symm e; exact q
      by_cases ha : u a = true
      · rw [List.filter_cons_of_pos ha, List.filter_cons_of_pos (by simp [tke, ha, e])]
        exact ((ih h2 hi').cons a).trans (List.Perm.swap i a _)
      · rw [List.filter_cons_of_neg ha, List.filter_cons_of_neg (by simp [tke, ha])]
        exact ih h2 hi'
theorem rem_take {l : List C} {u : Nat → Bool} {i : Nat} (hi : i < l.length) (hu : u i = true) : (rem l u).Perm (at' l i :: rem l (tke u i)) := by
  unfold rem
  exact (filter_take (List.nodup_range) (List.mem_range.2 hi) hu).map (at' l)
theorem lft_false {l : List C} {u : Nat → Bool} : lft l u = false ↔ ∀ c ∈ rem l u, opn c = true := by
  unfold lft
  rw [List.any_eq_false]
  constructor
  · intro h c hc
    obtain ⟨i, h1, h2, rfl⟩ := mbr_rem.1 hc
    have := h i (List.mem_range.2 h1)
    simpa [h2] using this
  · intro h i hi
    simp only [Bool.and_eq_true, Bool.not_eq_true', not_and, Bool.not_eq_false]
    intro hu
    exact h _ (mbr_rem.2 ⟨i, List.mem_range.1 hi, hu, rfl⟩)
theorem fre_iff {l : List C} {u : Nat → Bool} {i : Nat} : fre l u i = true ↔ ∀ c ∈ rem l u, ahd c (at' l i) = false := by
  unfold fre
  rw [List.all_eq_true]
  constructor
  · intro h c hc
    obtain ⟨k, h1, h2, rfl⟩ := mbr_rem.1 hc
    have := h k (List.mem_range.2 h1)
    simpa [h2] using this
  · intro h k hk
    cases hu : u k with
    | false => rfl
    | true => simp [h _ (mbr_rem.2 ⟨k, List.mem_range.1 hk, hu, rfl⟩)]
theorem can_lin {l : List C} (hv : ∀ c ∈ l, ahd c c = false) : ∀ (k : Nat) (u : Nat → Bool) (b : σ), (rem l u).length ≤ k → (can step l k u b = true ↔ Lin step b (rem l u)) := by
  have hval : ∀ {u : Nat → Bool}, ∀ c ∈ rem l u, ahd c c = false := fun {u} c hc => by
    obtain ⟨i, h1, h2, rfl⟩ := mbr_rem.1 hc
    refine hv _ ?_
    unfold at'
    rw [List.getD_eq_getElem?_getD, List.getElem?_eq_getElem h1]
    exact List.getElem_mem h1
  have stop : ∀ (u : Nat → Bool) (b : σ), lft l u = false → Lin step b (rem l u) := fun u b h =>
    ⟨[], rem l u, List.Perm.refl _, lft_false.1 h, List.Pairwise.nil, trivial⟩
  intro k
  induction k with
  | zero =>
    intro u b hk
    have h0 : rem l u = [] := List.eq_nil_of_length_eq_zero (by omega)
    have h1 : lft l u = false := lft_false.2 (by rw [h0]; intro c hc; simp at hc)
    unfold can
    rw [h1]
    exact ⟨fun _ => stop u b h1, fun _ => rfl⟩
  | succ k ih =>
    intro u b hk
    unfold can
    rw [Bool.or_eq_true, List.any_eq_true]
    constructor
    · rintro (⟨i, hi, h⟩ | h)
      · simp only [Bool.and_eq_true] at h
        obtain ⟨⟨⟨hu, hf⟩, ht⟩, hc⟩ := h
        have hp := rem_take (List.mem_range.1 hi) hu
        have hlen := hp.length_eq
        rw [List.length_cons] at hlen
        obtain ⟨s, r, h1, h2, h3, h4⟩ := (ih _ _ (by omega)).1 hc
        refine ⟨at' l i :: s, r, (h1.cons _).trans hp.symm, h2, List.pairwise_cons.2 ⟨fun d hd => fre_iff.1 hf d ?_, h3⟩, ?_, h4⟩
        · exact hp.symm.mem_iff.1 (List.mem_cons_of_mem _ (h1.mem_iff.1 (List.mem_append_left _ hd)))
        · unfold tls at ht
          simpa using ht
      · exact stop u b (by simpa using h)
    · rintro ⟨s, r, h1, h2, h3, h4⟩
      match s, h1, h3, h4 with
      | [], h1, _, _ =>
        refine .inr ?_
        have : lft l u = false := lft_false.2 (fun c hc => h2 c (by simpa using h1.mem_iff.2 hc))
        rw [this]; rfl
      | c :: s, h1, h3, h4 =>
        refine .inl ?_
        obtain ⟨i, hi, hu, rfl⟩ := mbr_rem.1 (h1.mem_iff.1 (List.mem_append_left r List.mem_cons_self))
        have hp := rem_take hi hu
        have hlen := hp.length_eq
        rw [List.length_cons] at hlen
        refine ⟨i, List.mem_range.2 hi, ?_⟩
        simp only [Bool.and_eq_true]
        obtain ⟨h5, h6⟩ := List.pairwise_cons.1 h3
        refine ⟨⟨⟨hu, fre_iff.2 (fun d hd => ?_)⟩, ?_⟩, (ih _ _ (by omega)).2 ⟨s, r, ?_, h2, h6, h4.2⟩⟩
        · rcases List.mem_append.1 (h1.mem_iff.2 hd) with q | q
          · rcases List.mem_cons.1 q with rfl | q
            · exact hval _ hd
            · exact h5 d q
          · exact ahd_opn (h2 d q)
        · unfold tls
          simpa using h4.1
        · exact List.Perm.cons_inv (h1.trans hp)
theorem rem_all (l : List C) : rem l (fun _ => true) = l := by
  unfold rem
  rw [List.filter_eq_self.2 (fun _ _ => rfl)]
  refine List.ext_getElem? (fun i => ?_)
  rw [List.getElem?_map]
  by_cases h : i < l.length
  · rw [List.getElem?_range h]
    simp [at', List.getD_eq_getElem?_getD, List.getElem?_eq_getElem h]
  · rw [List.getElem?_eq_none (by simpa using h), List.getElem?_eq_none (by simpa using h)]
    rfl
theorem can_all {l : List C} (hv : ∀ c ∈ l, ahd c c = false) (b : σ) : can step l l.length (fun _ => true) b = true ↔ Lin step b l := by
  have := can_lin step hv l.length (fun _ => true) b (by rw [rem_all]; exact Nat.le_refl _)
  rwa [rem_all] at this
end

/-! A set. -/
def mbr (set : List ByteArray) (k : ByteArray) : Bool := set.any (fun x => decide (x = k))
theorem mbr_iff {set : List ByteArray} {k : ByteArray} : mbr set k = true ↔ k ∈ set := by unfold mbr; simp
theorem mbr_contains (set : List ByteArray) (k : ByteArray) : Lib.containsS set k = mbr set k := by rw [Bool.eq_iff_iff, Lib.containsS_iff, mbr_iff]
def doR (set : List ByteArray) (c : C) : List ByteArray × Bool :=
  if c.kind ≠ 1 ∧ c.kind ≠ 2 then (set, mbr set c.key)
  else if c.kind = 2 then (set.filter (fun k => decide (k ≠ c.key)), mbr set c.key)
  else (set.filter (fun k => decide (k ≠ c.key)) ++ [c.key], !mbr set c.key)
def grp (l : List C) (k : ByteArray) : List C := l.filter (fun c => decide (c.key = k))
theorem mbr_cut_own (set : List ByteArray) (k : ByteArray) : mbr (set.filter (fun x => decide (x ≠ k))) k = false := by
  rw [Bool.eq_false_iff]; simp [mbr_iff]
theorem mbr_cut_other (set : List ByteArray) {j k : ByteArray} (h : j ≠ k) : mbr (set.filter (fun x => decide (x ≠ j))) k = mbr set k := by
  rw [Bool.eq_iff_iff, mbr_iff, mbr_iff]; simp [Ne.symm h]
theorem mbr_snoc (set : List ByteArray) (j k : ByteArray) : mbr (set ++ [j]) k = (mbr set k || decide (j = k)) := by unfold mbr; simp
theorem doR_own (set : List ByteArray) (c : C) : mbr (doR set c).1 c.key = (does (mbr set c.key) c).1 ∧ (doR set c).2 = (does (mbr set c.key) c).2 := by
  unfold doR does
  by_cases h1 : c.kind = 1
  · simp [h1, mbr_snoc]
  · by_cases h2 : c.kind = 2
    · simp only [h2]; exact ⟨mbr_cut_own _ _, rfl⟩
    · simp [h1, h2]
theorem doR_other (set : List ByteArray) (c : C) {k : ByteArray} (h : c.key ≠ k) : mbr (doR set c).1 k = mbr set k := by
  unfold doR
  by_cases h1 : c.kind = 1
  · rw [if_neg (by simp [h1]), if_neg (by simp [h1])]
    show mbr (_ ++ [_]) k = _
    rw [mbr_snoc, mbr_cut_other set h]
    simp [h]
  · by_cases h2 : c.kind = 2
    · rw [if_neg (by simp [h2]), if_pos h2]
      exact mbr_cut_other set h
    · rw [if_pos ⟨h1, h2⟩]
theorem run_iff (s : List C) : ∀ set, rn doR set s ↔ ∀ k, rn does (mbr set k) (grp s k) := by
  induction s with
  | nil => intro set; exact ⟨fun _ _ => trivial, fun _ => trivial⟩
  | cons c s ih =>
    intro set
    obtain ⟨h1, h2⟩ := doR_own set c
    have hk : ∀ k, grp (c :: s) k = if c.key = k then c :: grp s k else grp s k := fun k => by
      unfold grp
      rw [List.filter_cons]
      simp
    rw [rn_cons, ih, h2]
    constructor
    · rintro ⟨h3, h4⟩ k
      rw [hk]
      by_cases e : c.key = k
      · subst e
        rw [if_pos rfl, rn_cons]
        refine ⟨h3, ?_⟩
        have := h4 c.key
        rwa [h1] at this
      · rw [if_neg e]
        have := h4 k
        rwa [doR_other set c e] at this
    · intro h
      have h3 := h c.key
      rw [hk, if_pos rfl, rn_cons] at h3
      refine ⟨h3.1, fun k => ?_⟩
      by_cases e : c.key = k
      · subst e
        rw [h1]; exact h3.2
      · have := h k
        rw [hk, if_neg e] at this
        rwa [doR_other set c e]
theorem grp_cons (c : C) (s : List C) (k : ByteArray) : grp (c :: s) k = if c.key = k then c :: grp s k else grp s k := by
  unfold grp
  rw [List.filter_cons]
  simp
theorem grp_append (a b : List C) (k : ByteArray) : grp (a ++ b) k = grp a k ++ grp b k := by unfold grp; simp
theorem mbr_grp {l : List C} {k : ByteArray} {c : C} : c ∈ grp l k ↔ c ∈ l ∧ c.key = k := by unfold grp; simp
theorem grp_none {l : List C} {k : ByteArray} (h : ∀ c ∈ l, c.key ≠ k) : grp l k = [] := by
  unfold grp
  rw [List.filter_eq_nil_iff]
  intro c hc
  simpa using h c hc

/-! Locality: an order of each key's calls gives an order of all. -/
def lastT (t : Int) : List C → List (Int × C)
  | [] => []
  | c :: s => (max t c.inv, c) :: lastT (max t c.inv) s
theorem lastT_snd (s : List C) : ∀ t, (lastT t s).map (·.2) = s := by
  induction s with
  | nil => intro t; rfl
  | cons c s ih => intro t; unfold lastT; rw [List.map_cons, ih]
theorem lastT_low (s : List C) : ∀ t, (∀ p ∈ lastT t s, t ≤ p.1 ∧ p.2.inv ≤ p.1) ∧ (lastT t s).Pairwise (fun p q => p.1 ≤ q.1) := by
  induction s with
  | nil => intro t; exact ⟨fun p hp => by simp [lastT] at hp, List.Pairwise.nil⟩
  | cons c s ih =>
    intro t
    obtain ⟨h1, h2⟩ := ih (max t c.inv)
    unfold lastT
    refine ⟨fun p hp => ?_, List.pairwise_cons.2 ⟨fun q hq => (h1 q hq).1, h2⟩⟩
    rcases List.mem_cons.1 hp with rfl | hp
    · simp only; omega
    · have := h1 p hp
      omega
theorem lastT_high (s : List C) : ∀ t, s.Pairwise (fun c d => ahd d c = false) → (∀ c ∈ s, ahd c c = false) → (∀ c ∈ s, opn c = true ∨ t ≤ c.ret) → ∀ p ∈ lastT t s, opn p.2 = true ∨ p.1 ≤ p.2.ret := by
  induction s with
  | nil => intro t _ _ _ p hp; simp [lastT] at hp
  | cons c s ih =>
    intro t hp hv ht p hm
    obtain ⟨h1, h2⟩ := List.pairwise_cons.1 hp
    have key : ∀ d, (opn d = true ∨ t ≤ d.ret) → ahd d c = false → opn d = true ∨ max t c.inv ≤ d.ret := by
      intro d h hd
      rcases h with h | h
      · exact .inl h
      · unfold ahd at hd; unfold opn
        simp at hd ⊢
        by_cases h0 : 0 ≤ d.ret
        · have := hd h0; omega
        · omega
    unfold lastT at hm
    rcases List.mem_cons.1 hm with rfl | hm
    · exact key c (ht c List.mem_cons_self) (hv c List.mem_cons_self)
    · exact ih _ h2 (fun d hd => hv d (List.mem_cons_of_mem _ hd)) (fun d hd => key d (ht d (List.mem_cons_of_mem _ hd)) (h1 d hd)) p hm
/-- Two of them, by time. -/
def insT (a : Int × C) : List (Int × C) → List (Int × C)
  | [] => [a]
  | b :: bs => if a.1 ≤ b.1 then a :: b :: bs else b :: insT a bs
def mrg : List (Int × C) → List (Int × C) → List (Int × C)
  | [], b => b
  | a :: as, b => insT a (mrg as b)
theorem ins_perm (a : Int × C) (b : List (Int × C)) : (insT a b).Perm (a :: b) := by
  induction b with
  | nil => exact List.Perm.refl _
  | cons b bs ih =>
    unfold insT
    split
    · exact List.Perm.refl _
    · exact (ih.cons b).trans (List.Perm.swap a b bs)
theorem mrg_perm (a b : List (Int × C)) : (mrg a b).Perm (a ++ b) := by
  induction a with
  | nil => exact List.Perm.refl _
  | cons a as ih => exact (ins_perm a _).trans (ih.cons a)
theorem ins_sorted (a : Int × C) {b : List (Int × C)} (h : b.Pairwise (fun p q => p.1 ≤ q.1)) : (insT a b).Pairwise (fun p q => p.1 ≤ q.1) := by
  induction b with
  | nil => exact List.pairwise_singleton _ _
  | cons b bs ih =>
    obtain ⟨h1, h2⟩ := List.pairwise_cons.1 h
    unfold insT
    split
    · rename_i hle
      refine List.pairwise_cons.2 ⟨fun q hq => ?_, h⟩
      rcases List.mem_cons.1 hq with rfl | hq
      · exact hle
      · have := h1 q hq; omega
    · rename_i hle
      refine List.pairwise_cons.2 ⟨fun q hq => ?_, ih h2⟩
      rcases List.mem_cons.1 ((ins_perm a bs).mem_iff.1 hq) with rfl | hq
      · omega
      · exact h1 q hq
theorem mrg_sorted {a b : List (Int × C)} (hb : b.Pairwise (fun p q => p.1 ≤ q.1)) : (mrg a b).Pairwise (fun p q => p.1 ≤ q.1) := by
  induction a with
  | nil => exact hb
  | cons a as ih => exact ins_sorted a ih
theorem ins_filter_no (f : Int × C → Bool) (a : Int × C) (h : f a = false) (b : List (Int × C)) : (insT a b).filter f = b.filter f := by
  induction b with
  | nil => simp [insT, h]
  | cons b bs ih =>
    unfold insT
    split
    · simp [List.filter_cons, h]
    · simp only [List.filter_cons, ih]
theorem mrg_filter_no (f : Int × C → Bool) {a : List (Int × C)} (h : ∀ p ∈ a, f p = false) (b : List (Int × C)) : (mrg a b).filter f = b.filter f := by
  induction a with
  | nil => rfl
  | cons a as ih =>
    show (insT a (mrg as b)).filter f = _
    rw [ins_filter_no f a (h a List.mem_cons_self), ih (fun p hp => h p (List.mem_cons_of_mem _ hp))]
theorem ins_filter_yes (f : Int × C → Bool) (a : Int × C) (b : List (Int × C)) (h : ∀ p ∈ b, f p = true → a.1 ≤ p.1) (ha : f a = true) : (insT a b).filter f = a :: b.filter f := by
  induction b with
  | nil => simp [insT, ha]
  | cons b bs ih =>
    unfold insT
    split
    · rw [List.filter_cons_of_pos ha]
    · rename_i hle
      have hb : f b = false := by
        cases hb : f b with
        | false => rfl
        | true => exact absurd (h b List.mem_cons_self hb) hle
      rw [List.filter_cons_of_neg (by simp [hb]), List.filter_cons_of_neg (by simp [hb]), ih (fun p hp => h p (List.mem_cons_of_mem _ hp))]
theorem mrg_filter_yes (f : Int × C → Bool) {a : List (Int × C)} (h : ∀ p ∈ a, f p = true) (hs : a.Pairwise (fun p q => p.1 ≤ q.1)) {b : List (Int × C)} (hb : ∀ p ∈ b, f p = false) : (mrg a b).filter f = a := by
  induction a with
  | nil => rw [show mrg [] b = b from rfl, List.filter_eq_nil_iff.2 (fun p hp => by simp [hb p hp])]
  | cons a as ih =>
    obtain ⟨h1, h2⟩ := List.pairwise_cons.1 hs
    show (insT a (mrg as b)).filter f = _
    have ih' := ih (fun p hp => h p (List.mem_cons_of_mem _ hp)) h2
    rw [ins_filter_yes f a _ (fun p hp hf => ?_) (h a List.mem_cons_self), ih']
    rcases List.mem_append.1 ((mrg_perm as b).mem_iff.1 hp) with q | q
    · exact h1 p q
    · rw [hb p q] at hf; cases hf
def Timed (set : List ByteArray) (l : List C) : Prop := ∃ (S : List (Int × C)) (r : List C), ((S.map (·.2)) ++ r).Perm l ∧ (∀ c ∈ r, opn c = true) ∧ S.Pairwise (fun p q => p.1 ≤ q.1) ∧
  (∀ p ∈ S, p.2.inv ≤ p.1 ∧ (opn p.2 = true ∨ p.1 ≤ p.2.ret)) ∧ ∀ k, rn does (mbr set k) ((S.filter (fun p => decide (p.2.key = k))).map (·.2))
theorem timed_lin {set : List ByteArray} {l : List C} (h : Timed set l) : Lin doR set l := by
  obtain ⟨S, r, h1, h2, h3, h4, h5⟩ := h
  refine ⟨S.map (·.2), r, h1, h2, ?_, (run_iff _ _).2 (fun k => ?_)⟩
  · rw [List.pairwise_map]
    refine List.Pairwise.imp_of_mem ?_ h3
    intro p q hp hq hpq
    have a1 := h4 p hp
    have a2 := h4 q hq
    rcases a2.2 with e | e
    · exact ahd_opn e
    · unfold ahd
      simp
      intro _
      omega
  · have := h5 k
    unfold grp
    rw [List.filter_map]
    exact this
theorem lin_timed {set : List ByteArray} {l : List C} (hv : ∀ c ∈ l, ahd c c = false) {k : ByteArray} (hk : ∀ c ∈ l, c.key = k) (h : Lin does (mbr set k) l) : Timed set l ∧ True := by
  obtain ⟨s, r, h1, h2, h3, h4⟩ := h
  refine ⟨?_, trivial⟩
  have hs : ∀ c ∈ s, c ∈ l := fun c hc => h1.mem_iff.1 (List.mem_append_left _ hc)
  -- a time ahd of all
  obtain ⟨t, ht⟩ : ∃ t : Int, ∀ c ∈ s, opn c = true ∨ t ≤ c.ret := ⟨0, fun c _ => by unfold opn; by_cases h : c.ret < 0; exact .inl (by simpa using h); exact .inr (by omega)⟩
  have l1 := lastT_low s t
  have l2 := lastT_high s t h3 (fun c hc => hv c (hs c hc)) ht
  refine ⟨lastT t s, r, by rw [lastT_snd]; exact h1, h2, l1.2, fun p hp => ⟨(l1.1 p hp).2, l2 p hp⟩, fun k' => ?_⟩
  have hmem : ∀ p ∈ lastT t s, p.2.key = k := fun p hp => by
    have : p.2 ∈ (lastT t s).map (·.2) := List.mem_map.2 ⟨p, hp, rfl⟩
    rw [lastT_snd] at this
    exact hk _ (hs _ this)
  by_cases e : k = k'
  · subst e
    rw [List.filter_eq_self.2 (fun p hp => by simpa using hmem p hp), lastT_snd]
    exact h4
  · rw [List.filter_eq_nil_iff.2 (fun p hp => by rw [hmem p hp]; simpa using e)]
    trivial
theorem timed_append {set : List ByteArray} {a b : List C} (ha : Timed set a) (hb : Timed set b) {k : ByteArray} (hka : ∀ c ∈ a, c.key = k) (hkb : ∀ c ∈ b, c.key ≠ k) : Timed set (a ++ b) := by
  obtain ⟨S, r, h1, h2, h3, h4, h5⟩ := ha
  obtain ⟨T, q, g1, g2, g3, g4, g5⟩ := hb
  have mS : ∀ p ∈ S, p.2.key = k := fun p hp => hka _ (h1.mem_iff.1 (List.mem_append_left _ (List.mem_map.2 ⟨p, hp, rfl⟩)))
  have mT : ∀ p ∈ T, p.2.key ≠ k := fun p hp => hkb _ (g1.mem_iff.1 (List.mem_append_left _ (List.mem_map.2 ⟨p, hp, rfl⟩)))
  refine ⟨mrg S T, r ++ q, ?_, fun c hc => ?_, mrg_sorted g3, fun p hp => ?_, fun k' => ?_⟩
  · refine ((mrg_perm S T).map (·.2) |>.append_right _).trans ?_
    rw [List.map_append]
    have e1 : (S.map (·.2) ++ T.map (·.2) ++ (r ++ q)).Perm ((S.map (·.2) ++ r) ++ (T.map (·.2) ++ q)) := by
      rw [List.append_assoc, List.append_assoc]
      refine List.Perm.append_left _ ?_
      rw [← List.append_assoc, ← List.append_assoc]
      exact (List.perm_append_comm).append_right q
    exact e1.trans (h1.append g1)
  · rcases List.mem_append.1 hc with x | x
    · exact h2 c x
    · exact g2 c x
  · rcases List.mem_append.1 ((mrg_perm S T).mem_iff.1 hp) with x | x
    · exact h4 p x
    · exact g4 p x
  · by_cases e : k = k'
    · subst e
      rw [mrg_filter_yes _ (fun p hp => by simpa using mS p hp) h3 (fun p hp => by simpa using mT p hp)]
      have := h5 k
      rwa [List.filter_eq_self.2 (fun p hp => by simpa using mS p hp)] at this
    · rw [mrg_filter_no _ (fun p hp => by rw [mS p hp]; simpa using e)]
      exact g5 k'
theorem timed_perm {set : List ByteArray} {a b : List C} (h : Timed set a) (hp : a.Perm b) : Timed set b := by
  obtain ⟨S, r, h1, h⟩ := h
  exact ⟨S, r, h1.trans hp, h⟩
theorem split_perm (l : List C) (k : ByteArray) : (grp l k ++ l.filter (fun c => !decide (c.key = k))).Perm l := by
  unfold grp
  exact List.filter_append_perm _ l
theorem local_ (set : List ByteArray) : ∀ (n : Nat) (l : List C), l.length ≤ n → (∀ c ∈ l, ahd c c = false) → (∀ c ∈ l, Lin does (mbr set c.key) (grp l c.key)) → Timed set l := by
  intro n
  induction n with
  | zero =>
    intro l hl _ _
    have h0 : l = [] := List.eq_nil_of_length_eq_zero (by omega)
    subst h0
    exact ⟨[], [], List.Perm.refl _, fun c hc => by simp at hc, List.Pairwise.nil, fun p hp => by simp at hp, fun k => trivial⟩
  | succ n ih =>
    intro l hl hv h
    match l, hl, hv, h with
    | [], _, _, _ => exact ih [] (by simp) (fun c hc => by simp at hc) (fun c hc => by simp at hc)
    | c :: l, hl, hv, h =>
      generalize hL : c :: l = L at *
      have hc : c ∈ L := by rw [← hL]; exact List.mem_cons_self
      have t1 : Timed set (grp L c.key) := (lin_timed (fun d hd => hv d (mbr_grp.1 hd).1) (fun d hd => (mbr_grp.1 hd).2) (h c hc)).1
      have hlen := (split_perm L c.key).length_eq
      have hpos : 0 < (grp L c.key).length := List.length_pos_of_mem (mbr_grp.2 ⟨hc, rfl⟩)
      rw [List.length_append] at hlen
      have t2 : Timed set (L.filter (fun d => !decide (d.key = c.key))) := by
        refine ih _ (by omega) (fun d hd => hv d (List.mem_filter.1 hd).1) (fun d hd => ?_)
        obtain ⟨q1, q2⟩ := List.mem_filter.1 hd
        have := h d q1
        have e : grp (L.filter (fun x => !decide (x.key = c.key))) d.key = grp L d.key := by
          unfold grp
          rw [List.filter_filter]
          refine List.filter_congr (fun x _ => ?_)
          by_cases e : x.key = d.key
          · rw [e]; simpa using q2
          · simp [e]
        rw [e]; exact this
      exact timed_perm (timed_append t1 t2 (fun d hd => (mbr_grp.1 hd).2) (fun d hd => by simpa using (List.mem_filter.1 hd).2)) (split_perm L c.key)
theorem lin_local {set : List ByteArray} {l : List C} (hv : ∀ c ∈ l, ahd c c = false) : Lin doR set l ↔ ∀ c ∈ l, Lin does (mbr set c.key) (grp l c.key) := by
  constructor
  · rintro ⟨s, r, h1, h2, h3, h4⟩ c hc
    refine ⟨grp s c.key, grp r c.key, ?_, fun d hd => h2 d (mbr_grp.1 hd).1, h3.filter _, (run_iff s set).1 h4 c.key⟩
    rw [← grp_append]
    exact h1.filter _
  · intro h
    exact timed_lin (local_ set l.length l (Nat.le_refl _) hv h)

/-! What the program and the reference tell. -/
def fitsB (first : List ByteArray) (l : List C) : Bool :=
  decide (l.length ≤ 12) && (!l.any (fun c => ahd c c) && l.all (fun c => can does (grp l c.key) (grp l c.key).length (fun _ => true) (mbr first c.key)))
def fitsR (first : List ByteArray) (l : List C) : Bool :=
  decide (l.length ≤ 12) && (!l.any (fun c => ahd c c) && can doR l l.length (fun _ => true) first)
def Fit (first : List ByteArray) (l : List C) : Prop := l.length ≤ 12 ∧ (∀ c ∈ l, ahd c c = false) ∧ ∀ c ∈ l, Lin does (mbr first c.key) (grp l c.key)
theorem fitsB_iff (first : List ByteArray) (l : List C) : fitsB first l = true ↔ Fit first l := by
  unfold fitsB Fit
  simp only [Bool.and_eq_true, decide_eq_true_eq, Bool.not_eq_true', List.any_eq_false, List.all_eq_true, Bool.not_eq_true]
  refine and_congr_right (fun _ => and_congr_right (fun hv => ?_))
  refine forall_congr' (fun c => forall_congr' (fun hc => ?_))
  exact can_all does (fun d hd => hv d (mbr_grp.1 hd).1) _
theorem fits_same (first : List ByteArray) (l : List C) : fitsB first l = fitsR first l := by
  rw [Bool.eq_iff_iff, fitsB_iff]
  unfold Fit fitsR
  simp only [Bool.and_eq_true, decide_eq_true_eq, Bool.not_eq_true', List.any_eq_false, Bool.not_eq_true]
  refine and_congr_right (fun _ => and_congr_right (fun hv => ?_))
  rw [can_all doR hv, lin_local hv]
end Go.Proofs.Ytecjkpjcmgohmab.Pu

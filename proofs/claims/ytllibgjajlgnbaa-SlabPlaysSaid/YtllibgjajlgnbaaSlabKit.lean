/- What the walks of the slab's laws share. -/
import Derived.Test.YtllibgjajlgnbaaSlabRan2
namespace Go.Proofs.Ytllibgjajlgnbaa.SlabKit
open Go Go.RowKit Go.Proofs.Ytllibgjajlgnbaa.Only Go.Proofs.Ytllibgjajlgnbaa.Mem Go.Proofs.Ytllibgjajlgnbaa.New Go.Proofs.Ytllibgjajlgnbaa.Ref Go.Proofs.Ytllibgjajlgnbaa.Slab Go.Proofs.Ytllibgjajlgnbaa.SlabRef Go.Proofs.Ytllibgjajlgnbaa.SlabDo Go.Proofs.Ytllibgjajlgnbaa.SlabLaw Go.Proofs.Ytllibgjajlgnbaa.SlabRan Go.Proofs.Ytllibgjajlgnbaa.Args
set_option linter.unusedVariables false
set_option linter.unusedSimpArgs false

theorem getD_mem {L : List Int} {j : Nat} (h : j < L.length) : L.getD j 0 ∈ L := by
  rw [List.getD, List.getElem?_eq_getElem h]; exact List.getElem_mem _

/-- A slab, and the law's own copy in block q. -/
structure Sd (q sb p : Nat) (v vg vt vr : Value) (bc : Array Value) (n : Int) (C : List Int) (s : Sl) (W wr : World) : Prop where
  sl : SlabAt W.heap.size sb p v C n vg vt vr s wr
  x : X10 q bc wr
  bel : Below W.heap.size W wr
section
variable {q sb p : Nat} {v vg vt vr : Value} {bc : Array Value} {n : Int} {C : List Int} {s : Sl} {W wr : World}
theorem Sd.below {w' : World} (h : Sd q sb p v vg vt vr bc n C s W wr) (hb : Below wr.heap.size wr w') : Sd q sb p v vg vt vr bc n C s W w' :=
  ⟨h.sl.below hb, (hb.block _ (lt_of_heap h.x)).trans h.x, h.bel.trans (hb.mono h.bel.size)⟩
theorem Sd.step {vr' : Value} {n' : Int} {C' : List Int} {s' : Sl} {w' : World} (h : Sd q sb p v vg vt vr bc n C s W wr) (sl : SlabAt W.heap.size sb p v C' n' vg vt vr' s' w') (ho : Only (SlF sb p v vg vt vr) wr w') : Sd q sb p v vg vt vr' bc n' C' s' W w' :=
  ⟨sl, (ho.block _ (lt_of_heap h.x) (slab_ty h.sl h.x)).trans h.x, h.bel.trans (SlabAwake.slabB h.sl ho h.bel.size)⟩
theorem Sd.load {n' : Int} {C' : List Int} {w' : World} (h : Sd q sb p v vg vt vr bc n C s W wr) (hm : MemAt W.heap.size p v C' n' w') (ho : Only (Foot p v) wr w') : Sd q sb p v vg vt vr bc n' C' s W w' :=
  h.step (h.sl.setM hm ho) (ho.mono (fun _ _ e => .inr (.inl e)))
end

section
variable {f wd : Int} {most j : Nat} {st : St}
/-- Freed it isn't there .. -/
theorem gone_free (I : SlabLaw.Inv f wd most j st) (r : Int) : thereB (freeS' st r).s r = false := by
  have I2 := I.free r
  revert I2
  unfold freeS'
  split
  · rename_i ht
    intro I2
    obtain ⟨i, hi, hp, -, -⟩ := there_at I ht
    refine not_there_taken I2 hp ?_
    show (st.s.taken.set (placeOf r).toNat false)[i]? = some false
    rw [hp]
    have : i < st.s.taken.length := by rw [I.tl]; exact hi
    simp [this]
  · rename_i ht
    intro _
    simpa using ht
/-- .. and isn't later, if it was told. -/
theorem gone_alloc (I : SlabLaw.Inv f wd most j st) (b : Bd f wd most) {r : Int} (hr : r = 0 ∨ r ∈ st.L) (h : thereB st.s r = false) : thereB (allocS' st).s r = false := by
  cases e : thereB (allocS' st).s r with
  | false => rfl
  | true =>
    obtain ⟨i, hi, hp, htk, hg⟩ := there_at (I.alloc b) e
    have hr : r ∈ st.L := by
      rcases hr with rfl | hr
      · unfold placeOf at hp; omega
      · exact hr
    obtain ⟨i', hi', hp', h1, h2⟩ := I.old r hr
    have hii : i' = i := by omega
    subst hii
    revert htk hg
    unfold allocS'
    split
    · intro htk hg
      rw [at_there I hi hp htk hg] at h; cases h
    · rename_i px t hrow
      obtain ⟨ip, rfl, hip, hf⟩ := I.row px (by rw [hrow]; simp)
      unfold allocS
      simp only [Int.toNat_natCast]
      intro htk hg
      have hl : ip < st.s.gens.length := by rw [I.gl]; exact hip
      by_cases hq : ip = i'
      · subst hq
        rw [List.getD, List.getElem?_set_self hl] at hg
        have hg : genOf r = st.s.gens.getD ip 0 + 1 := hg
        omega
      · rw [List.getElem?_set_ne hq] at htk
        rw [List.getD, List.getElem?_set_ne hq] at hg
        rw [at_there I hi hp htk (by rw [hg]; rfl)] at h; cases h
theorem alloc_mem {r : Int} (hr : r = 0 ∨ r ∈ st.L) : r = 0 ∨ r ∈ (allocS' st).L := by
  rcases hr with hr | hr
  · exact .inl hr
  · right
    unfold allocS'
    split
    · exact hr
    · exact List.mem_append.2 (.inl hr)
theorem free_mem {r x : Int} (hr : r = 0 ∨ r ∈ st.L) : r = 0 ∨ r ∈ (freeS' st x).L := by
  unfold freeS'
  split
  · exact hr
  · exact hr
theorem cellE_gone {s : Sl} {r i : Int} (h : thereB s r = false) : cellE s r i = 4 := by unfold cellE; rw [h]; rfl
theorem rd_zeros (C : List Int) (a : Int) (m k : Nat) (hk : k < m) (h0 : 0 ≤ a) (hin : a + m ≤ C.length) : rdAt (zeros C a m) (a + k) = 0 := by
  induction m with
  | zero => omega
  | succ m ih =>
    unfold zeros
    have hl : (zeros C a m).length = C.length := zeros_len C a m
    have hin2 : inR (zeros C a m) (a + m) = true := by unfold inR; rw [hl]; simp; omega
    by_cases hkm : k = m
    · subst hkm
      have e : inR (setAt (zeros C a k) (a + k) 0) (a + k) = true := by unfold inR; rw [setAt_len, hl]; simp; omega
      unfold rdAt
      rw [if_pos e]
      unfold setAt
      rw [if_pos hin2]
      have : (a + k).toNat < (zeros C a k).length := by rw [hl]; omega
      simp [List.getD, this]
    · have h1 := ih (by omega) (by omega)
      have e1 : inR (setAt (zeros C a m) (a + m) 0) (a + k) = true := by unfold inR; rw [setAt_len, hl]; simp; omega
      have e2 : inR (zeros C a m) (a + k) = true := by unfold inR; rw [hl]; simp; omega
      unfold rdAt at h1 ⊢
      rw [if_pos e2] at h1
      rw [if_pos e1]
      unfold setAt
      rw [if_pos hin2]
      have hne : (a + m).toNat ≠ (a + k).toNat := by omega
      simp only [List.getD, List.getElem?_set_ne hne]
      exact h1
end

/-- Free, of a state. -/
def FreedAny (q sb p : Nat) (v vg vt : Value) (bc : Array Value) (n : Int) (st : St) (r : Int) (W : World) (e : Ending) (w' : World) : Prop :=
  ∃ c vr', e = .returned (.int .i64 c) ∧ Sd q sb p v vg vt vr' bc n (freeS' st r).C (freeS' st r).s W w'
theorem freeAny {q sb p : Nat} {v vg vt vr : Value} {bc : Array Value} {n : Int} {st : St} {W wr : World} (h : Sd q sb p v vg vt vr bc n st.C st.s W wr) (ok : st.s.Ok) (r : Int) (hr : 0 ≤ r ∧ r ≤ 18446744073709551615) :
    Calls Try.prog 30 #[.pointer (some ⟨sb, 0, none⟩), .int .u64 r] wr (FreedAny q sb p v vg vt bc n st r W) := by
  cases ht : thereB st.s r with
  | true =>
    refine (Slab.free h.sl h.bel.size ok r hr ht).mono ?_
    rintro e w2 ⟨rfl, vr', sl2, on2, -⟩
    have h2 := h.step sl2 on2
    refine ⟨_, vr', rfl, ?_⟩
    unfold freeS'
    rw [if_pos ht]
    exact h2
  | false =>
    refine (Slab.free_no h.sl ok r hr ht).mono ?_
    rintro e w2 ⟨rfl, b2⟩
    refine ⟨_, vr, rfl, ?_⟩
    unfold freeS'
    rw [if_neg (by rw [ht]; simp)]
    exact h.below b2

/-- Alloc, of a state, whatever it answers. -/
def AllocdAny (q sb p : Nat) (v vg vt : Value) (bc : Array Value) (n : Int) (st : St) (W : World) (e : Ending) (w' : World) : Prop :=
  ∃ a c vr' n', e = .returned (.tuple #[.int .u64 a, .int .i64 c]) ∧ n ≤ n' ∧ n' ≤ n + st.s.words ∧ Sd q sb p v vg vt vr' bc n' (allocS' st).C (allocS' st).s W w'
theorem allocAny {q sb p : Nat} {v vg vt vr : Value} {bc : Array Value} {n : Int} {st : St} {W wr : World} (h : Sd q sb p v vg vt vr bc n st.C st.s W wr) (ok : st.s.Ok) (hn : 0 ≤ n ∧ n < 1000000000) :
    Calls Try.prog 31 #[.pointer (some ⟨sb, 0, none⟩)] wr (AllocdAny q sb p v vg vt bc n st W) := by
  have hw := ok.w0
  cases hr : st.s.row with
  | nil =>
    refine (Slab.alloc_no h.sl hr).mono ?_
    rintro e w2 ⟨rfl, rfl⟩
    refine ⟨_, _, vr, n, rfl, by omega, by omega, ?_⟩
    unfold allocS'
    rw [hr]
    exact h
  | cons px t =>
    refine (Slab.alloc h.sl ok hn px t hr (Nat.le_refl _)).mono ?_
    rintro e w2 ⟨rfl, vr', n', n1, n2, -, sl2, on2⟩
    refine ⟨_, _, vr', n', rfl, n1, n2, ?_⟩
    unfold allocS'
    rw [hr]
    exact h.step sl2 on2

/-- A record that is taken: it is there, and its cells are 0. -/
theorem fresh {f wd : Int} {most j : Nat} {st : St} (I : SlabLaw.Inv f wd most j st) (b : Bd f wd most) (hj : j ≤ 1000000) {px : Int} {t : List Int} (hrow : st.s.row = px :: t) :
    0 ≤ refOf px (st.s.gens.getD px.toNat 0 + 1) ∧ refOf px (st.s.gens.getD px.toNat 0 + 1) ≤ 18446744073709551615 ∧ ∀ k : Nat, (k : Int) < wd → ∃ cn, cellN (allocS' st).s (refOf px (st.s.gens.getD px.toNat 0 + 1)) k = cn ∧ cellE (allocS' st).s (refOf px (st.s.gens.getD px.toNat 0 + 1)) k = 0 ∧ rdAt (allocS' st).C cn = 0 ∧ errAt (allocS' st).C cn = 0 ∧ 0 ≤ cn ∧ cn ≤ 65536 := by
  obtain ⟨i, rfl, hi, htk⟩ := I.row px (by rw [hrow]; simp)
  have hmost := b.most.1
  have hlg : i < st.s.gens.length := by rw [I.gl]; exact hi
  have hl : i < st.s.taken.length := by rw [I.tl]; exact hi
  have hg := I.gen (st.s.gens.getD i 0) (by rw [List.getD, List.getElem?_eq_getElem hlg]; exact List.getElem_mem _)
  simp only [Int.toNat_natCast]
  generalize hgv : st.s.gens.getD i 0 = g at *
  have hp := refOf_place (i : Int) (g + 1) (by omega)
  have hgn := refOf_gen (i : Int) (g + 1) (by omega)
  have I2 := I.alloc b
  have es : (allocS' st).s = { st.s with gens := st.s.gens.set i (g + 1), taken := st.s.taken.set i true, row := t } := by unfold allocS'; rw [hrow]; unfold allocS; simp only [Int.toNat_natCast]; rw [hgv]
  have eC : (allocS' st).C = zeros st.C (f + i * wd) wd.toNat := by unfold allocS'; rw [hrow]; simp only []; rw [I.first, I.words]
  have ht : thereB (allocS' st).s (refOf i (g + 1)) = true := by
    refine at_there I2 hi hp ?_ ?_
    · rw [es]; simp [hl]
    · rw [es, hgn]; simp [List.getD, hlg]
  have h3 : ((i : Int) + 1) * wd ≤ most * wd := Int.mul_le_mul_of_nonneg_right (by omega) (by have := b.w1; omega)
  have h4 : (0 : Int) * wd ≤ i * wd := Int.mul_le_mul_of_nonneg_right (by omega) (by have := b.w1; omega)
  have h5 : ((i : Int) + 1) * wd = i * wd + wd := by rw [Int.add_mul, Int.one_mul]
  have h6 := b.fit
  have h7 := b.f0
  have h8 := I.cl
  refine ⟨by unfold refOf; omega, by unfold refOf; omega, fun k hk => ⟨f + i * wd + k, ?_, ?_, ?_, ?_, by omega, by omega⟩⟩
  · unfold cellN
    rw [if_pos ht, if_neg (by rw [I2.words]; omega), I2.first, I2.words, hp]
  · unfold cellE
    rw [if_pos ht, if_neg (by rw [I2.words]; omega)]
  · rw [eC]
    exact rd_zeros st.C _ _ _ (by omega) (by omega) (by omega)
  · rw [eC]
    unfold errAt
    rw [if_pos (by unfold inR; rw [zeros_len]; simp; omega)]
theorem row_alloc {st : St} {px : Int} {t : List Int} (hrow : st.s.row = px :: t) : (allocS' st).s.row = t := by unfold allocS'; rw [hrow]; rfl
end Go.Proofs.Ytllibgjajlgnbaa.SlabKit

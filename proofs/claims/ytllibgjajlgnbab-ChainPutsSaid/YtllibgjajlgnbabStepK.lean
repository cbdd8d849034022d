/- A step of one of two puts: boxes of answers stay. -/
import Derived.Test.YtllibgjajlgnbabStayLaw
namespace Go.Proofs.Ytllibgjajlgnbab.StayLaw
open Go Go.RowKit Go.Proofs.Ytllibgjajlgnbab.Only Go.Proofs.Ytllibgjajlgnbab.Mem Go.Proofs.Ytllibgjajlgnbab.New Go.Proofs.Ytllibgjajlgnbab.Chain Go.Proofs.Ytllibgjajlgnbab.TwoLaw
set_option linter.unusedVariables false
set_option linter.unusedSimpArgs false

def KvAt (q : Nat) (cs : Array Value) (w : World) : Prop := w.heap[q]? = some (.cells cs 63 (0, 0))
theorem kv_far {B pb sb p : Nat} {v : Value} {C : List Int} {n : Int} {vs : Value} {Vs : List Ver} {P : PutS} {w : World} (h : StoreAt B sb p v C n vs Vs w) (hp : PutAt pb sb P w) {q : Nat} {cs : Array Value} (hk : KvAt q cs w) : ¬ StepFoot pb sb p v vs q := by
  unfold KvAt at hk
  unfold PutAt at hp
  intro hf
  rcases hf with e | hf | e | e
  · rw [← e, hk] at hp; cases hp
  · rcases hf with e | e
    · have h1 := h.mem.blk; rw [← e, hk] at h1; cases h1
    · rcases h.mem.own.2 with ⟨h2, _⟩ | ⟨g, cap, cur, hg, hb, hgg, _⟩
      · rw [h2] at e; cases e
      · rw [hg] at e; cases e; rw [hgg] at hk; cases hk
  · have h1 := h.blk; rw [← e, hk] at h1; cases h1
  · rcases h.own.2 with ⟨h2, _⟩ | ⟨g, cap, cur, hg, hb, hgg, _⟩
    · rw [h2] at e; cases e
    · rw [hg] at e; cases e; rw [hgg] at hk; cases hk
theorem KvAt.below {q : Nat} {cs : Array Value} {w w' : World} (h : KvAt q cs w) (hb : Below w.heap.size w w') : KvAt q cs w' := (hb.block _ (lt_of_heap h)).trans h
def TwoStepK (B sb p pa pb : Nat) (v : Value) (n : Int) (t' : Two) (d : Bool) (w : World) (e : Ending) (w' : World) : Prop :=
  e = .returned (.bool d) ∧ TwoAt B sb p pa pb v n t' w' ∧ Below B w w' ∧ ∀ q cs, KvAt q cs w → KvAt q cs w'
theorem foot_low {B pb sb p : Nat} {v : Value} {C : List Int} {n : Int} {vs : Value} {Vs : List Ver} {w : World} (hs : StoreAt B sb p v C n vs Vs w) (hpB : B ≤ pb) : ∀ k, StepFoot pb sb p v vs k → B ≤ k := by
  intro k hk
  rcases hk with rfl | hk
  · exact hpB
  · rcases hk with hk | rfl | hk
    · rcases hk with rfl | e
      · exact hs.mem.base
      · exact MemAt.gbase hs.mem e
    · exact hs.base
    · exact (hs.own.lt k hk).1
theorem stepA {B sb p pa pb : Nat} {v : Value} {n : Int} {t : Two} {m : Nat} {w : World} (h : TwoAt B sb p pa pb v n t w) (hpB : B ≤ pa) (hne : pa ≠ pb) (ok : t.Ok m) (hm : m ≤ 1000000) (hn : 0 ≤ n ∧ n < 4611686018427387904) :
    Calls Try.prog 33 #[.pointer (some ⟨pa, 0, none⟩)] w (TwoStepK B sb p pa pb v (n + stepN t.C t.a) t.sA t.sA.a.done w) := by
  obtain ⟨vs, h1, h2, h3, h4⟩ := h
  refine (Chain.step h1 h2 h4 ok.C ok.ca hn (by have := ok.l; omega)).mono ?_
  rintro e w' ⟨vs', rfl, k1, k2, ho⟩
  refine ⟨rfl, ⟨vs', k1, k2, PutAt.next h3 ho (fun hf => ?_), Nat.le_trans h4 ho.size⟩, ho.toBelow B h4 (fun k _ hk => foot_low h1 hpB k hk), fun q cs hk => (ho.block _ (lt_of_heap hk) (kv_far h1 h2 hk)).trans hk⟩
  rcases hf with e | hf
  · exact hne e.symm
  · exact put_far h1 h3 hf
theorem stepB {B sb p pa pb : Nat} {v : Value} {n : Int} {t : Two} {m : Nat} {w : World} (h : TwoAt B sb p pa pb v n t w) (hpB : B ≤ pb) (hne : pa ≠ pb) (ok : t.Ok m) (hm : m ≤ 1000000) (hn : 0 ≤ n ∧ n < 4611686018427387904) :
    Calls Try.prog 33 #[.pointer (some ⟨pb, 0, none⟩)] w (TwoStepK B sb p pa pb v (n + stepN t.C t.b) t.sB t.sB.b.done w) := by
  obtain ⟨vs, h1, h2, h3, h4⟩ := h
  refine (Chain.step h1 h3 h4 ok.C ok.cb hn (by have := ok.l; omega)).mono ?_
  rintro e w' ⟨vs', rfl, k1, k2, ho⟩
  refine ⟨rfl, ⟨vs', k1, PutAt.next h2 ho (fun hf => ?_), k2, Nat.le_trans h4 ho.size⟩, ho.toBelow B h4 (fun k _ hk => foot_low h1 hpB k hk), fun q cs hk => (ho.block _ (lt_of_heap hk) (kv_far h1 h3 hk)).trans hk⟩
  rcases hf with e | hf
  · exact hne e
  · exact put_far h1 h2 hf
end Go.Proofs.Ytllibgjajlgnbab.StayLaw

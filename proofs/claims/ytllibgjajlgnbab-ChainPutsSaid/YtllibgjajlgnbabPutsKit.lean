/- A put to its end: blocks of other types stay. -/
import Derived.Test.YtllibgjajlgnbabRef17P
import Derived.Test.YtllibgjajlgnbabStepK
namespace Go.Proofs.Ytllibgjajlgnbab.PutsKit
open Go Go.RowKit Go.Proofs.Ytllibgjajlgnbab.Only Go.Proofs.Ytllibgjajlgnbab.Mem Go.Proofs.Ytllibgjajlgnbab.New Go.Proofs.Ytllibgjajlgnbab.Chain Go.Proofs.Ytllibgjajlgnbab.StayLaw Go.Proofs.Ytllibgjajlgnbab.Ref17
set_option linter.unusedVariables false
set_option linter.unusedSimpArgs false

def AtT (T : TypeId) (q : Nat) (cs : Array Value) (w : World) : Prop := w.heap[q]? = some (.cells cs T (0, 0))
/-- A type that no store's block has. -/
def Apart (T : TypeId) : Prop := T ≠ 110 ∧ T ≠ 28 ∧ T ≠ 114 ∧ T ≠ 116 ∧ T ≠ 120
theorem AtT.below {T : TypeId} {q : Nat} {cs : Array Value} {w w' : World} (h : AtT T q cs w) (hb : Below w.heap.size w w') : AtT T q cs w' := (hb.block _ (lt_of_heap h)).trans h
theorem AtT.ty {T U : TypeId} {q : Nat} {cs ds : Array Value} {w : World} (h : AtT T q cs w) (k : w.heap[q]? = some (.cells ds U (0, 0))) : T = U := by
  unfold AtT at h
  rw [h] at k
  injection k with k
  injection k
theorem sfar {B sb p : Nat} {v : Value} {C : List Int} {n : Int} {vs : Value} {Vs : List Ver} {w : World} (h : StoreAt B sb p v C n vs Vs w) {T : TypeId} (ha : Apart T) {q : Nat} {cs : Array Value} (hk : AtT T q cs w) : ¬ SFoot sb p v vs q := by
  obtain ⟨a1, a2, a3, a4, a5⟩ := ha
  intro hf
  rcases hf with hf | e | e
  · rcases hf with e | e
    · subst e; exact a1 (hk.ty h.mem.blk)
    · rcases h.mem.own.2 with ⟨h2, _⟩ | ⟨g, cap, cur, hg, hb, hgg, _⟩
      · rw [h2] at e; cases e
      · rw [hg] at e; cases e; exact a2 (hk.ty hgg)
  · subst e; exact a3 (hk.ty h.blk)
  · rcases h.own.2 with ⟨h2, _⟩ | ⟨g, cap, cur, hg, hb, hgg, _⟩
    · rw [h2] at e; cases e
    · rw [hg] at e; cases e; exact a4 (hk.ty hgg)
theorem stfar {B pb sb p : Nat} {v : Value} {C : List Int} {n : Int} {vs : Value} {Vs : List Ver} {P : PutS} {w : World} (h : StoreAt B sb p v C n vs Vs w) (hp : PutAt pb sb P w) {T : TypeId} (ha : Apart T) {q : Nat} {cs : Array Value} (hk : AtT T q cs w) : ¬ StepFoot pb sb p v vs q := by
  intro hf
  rcases hf with e | hf
  · subst e; unfold PutAt at hp; exact ha.2.2.2.2 (hk.ty hp)
  · exact sfar h ha hk hf
/-- Slices of such types stay, too. -/
theorem own_T {B : Nat} {T : TypeId} {size n : Nat} {v : Value} {xs : List Value} {w w' : World} (h : w.ownsRow B T size v n xs) (hq : ∀ q cs, AtT T q cs w → AtT T q cs w') : w'.ownsRow B T size v n xs := by
  refine ⟨h.1, ?_⟩
  rcases h.2 with h2 | ⟨g, cap, cur, hg, hB, hgg, r⟩
  · exact .inl h2
  · exact .inr ⟨g, cap, cur, hg, hB, hq g cur hgg, r⟩
theorem apartE : Apart 56 := by unfold Apart; decide
theorem apartI : Apart 3 := by unfold Apart; decide
theorem apartS : Apart 78 := by unfold Apart; decide
theorem RefS.T {B : Nat} {sE sA : Value} {Vs : List Ver} {w w' : World} (h : RefS B sE sA Vs w) (hq : ∀ T q cs, Apart T → AtT T q cs w → AtT T q cs w') : RefS B sE sA Vs w' :=
  ⟨own_T h.e (fun q cs => hq _ q cs apartE), own_T h.a (fun q cs => hq _ q cs apartI)⟩
theorem memsT {B sb p : Nat} {v : Value} {C : List Int} {n : Int} {vs : Value} {Vs : List Ver} {w w' : World} (h : StoreAt B sb p v C n vs Vs w) (ho : Only (Foot p v) w w') : ∀ T q cs, Apart T → AtT T q cs w → AtT T q cs w' :=
  fun T q cs ha hk => (ho.block _ (lt_of_heap hk) (fun hf => sfar h ha hk (.inl hf))).trans hk

/-- What a step leaves. -/
def OneStepT (B sb p pb : Nat) (v : Value) (n : Int) (s : One) (w : World) (e : Ending) (w' : World) : Prop :=
  e = .returned (.bool s.step.P.done) ∧ OneAt B sb p pb v (n + stepN s.C s.P) s.step w' ∧ Below B w w' ∧ ∀ T q cs, Apart T → AtT T q cs w → AtT T q cs w'
theorem oneStepT {B sb p pb : Nat} {v : Value} {n : Int} {s : One} {m : Nat} {w : World} (h : OneAt B sb p pb v n s w) (hpB : B ≤ pb) (ok : s.Ok m) (hm : m ≤ 1000000) (hn : 0 ≤ n ∧ n < 4611686018427387904) :
    Calls Try.prog 33 #[.pointer (some ⟨pb, 0, none⟩)] w (OneStepT B sb p pb v n s w) := by
  obtain ⟨vs, hs, hp, hB⟩ := h
  refine (Chain.step hs hp hB ok.C ok.c hn (by have := ok.l; omega)).mono ?_
  rintro e w' ⟨vs', rfl, h1, h2, ho⟩
  exact ⟨rfl, ⟨vs', h1, h2, Nat.le_trans hB ho.size⟩, ho.toBelow B hB (fun k _ hk => foot_low hs hpB k hk), fun T q cs ha hk => (ho.block _ (lt_of_heap hk) (stfar hs hp ha hk)).trans hk⟩

/-- What run leaves. -/
def RanT (B sb p pb : Nat) (v : Value) (n : Int) (s : One) (w : World) (e : Ending) (w' : World) : Prop :=
  e = .returned (.tuple #[]) ∧ ∃ n', n ≤ n' ∧ n' ≤ n + 10 ∧ OneAt B sb p pb v n' (s.run 10) w' ∧ Below B w w' ∧ ∀ T q cs, Apart T → AtT T q cs w → AtT T q cs w'

set_option maxHeartbeats 4000000 in
set_option maxRecDepth 100000 in
theorem runT {B sb p pb : Nat} {v : Value} {n : Int} {s : One} {m : Nat} {w : World} (h : OneAt B sb p pb v n s w) (hpB : B ≤ pb) (ok : s.Ok m) (hm : m ≤ 100000) (hn : 0 ≤ n ∧ n < 1000000000) :
    Calls Try.prog 35 #[.pointer (some ⟨pb, 0, none⟩)] w (RanT B sb p pb v n s w) := by
  have h := Lib.hid h
  have ok := Lib.hid ok
  go_enter Try.func35, Try.ntmps35
  go_wp2_with fail
  go_loopw [2] (fun i wr => ∃ (k : Nat) (t : One) (n' : Int), k ≤ 10 ∧ i = .int .i64 k ∧ n ≤ n' ∧ n' ≤ n + k ∧ t.run (10 - k) = s.run 10 ∧ Hid (t.Ok (m + k)) ∧ Hid (OneAt B sb p pb v n' t wr) ∧ Hid (Below B w wr) ∧ Hid (∀ T q cs, Apart T → AtT T q cs w → AtT T q cs wr))
    (fun i _ => 10 - (intOf i).toNat)
  case atStart => exact ⟨0, s, n, by omega, rfl, by omega, by omega, rfl, ok, h, Lib.hid (Below.refl _ _), Lib.hid (fun _ _ _ _ hQ => hQ)⟩
  case round =>
    clear h ok
    obtain ⟨k, t, n', hk, rfl, hn1, hn2, hrun, ok, h, hb, hq⟩ := hrel
    replace hrun := Lib.hid hrun
    by_cases hlt : k < 10
    · have b1 : decide ((k : Int) < 10) = true := by simp; omega
      go_wp2_with fail
      refine (oneStepT h.out hpB ok.out (by omega) (by omega)).mono ?_
      rintro e w1 ⟨rfl, h1, hb1, hq1⟩
      have h1 := Lib.hid h1
      have hb1 := Lib.hid (hb.out.trans hb1)
      have hq1 := Lib.hid (fun T q cs ha hQ => hq1 T q cs ha (hq.out T q cs ha hQ))
      have ok1 := Lib.hid (ok.out.step (by omega))
      have hN := stepN01 t.C t.P
      have hr : (t.step.P.done = true → s.run 10 = t.step) ∧ (t.step.P.done = false → t.step.run (10 - (k + 1)) = s.run 10) := by
        have e := hrun.out
        generalize s.run 10 = R at e ⊢
        rw [show 10 - k = (10 - (k + 1)) + 1 by omega] at e
        unfold One.run at e
        constructor
        · intro hd; rw [hd] at e; exact e.symm
        · intro hd; rw [hd] at e; simpa using e
      have hr := Lib.hid hr
      clear hb hq h ok hrun
      generalize hd : t.step.P.done = dn at *
      cases dn with
      | true =>
        have fin : RanT B sb p pb v n s w (.returned (.tuple #[])) w1 := ⟨rfl, n' + stepN t.C t.P, by omega, by omega, by rw [hr.out.1 rfl]; exact h1.out, hb1.out, hq1.out⟩
        have fin := Lib.hid fin
        clear hd
        go_wp2
        go_end0
        exact fin.out
      | false =>
        have e2 := Lib.hid (hr.out.2 rfl)
        clear hd
        go_wp2
        go_roundw
        case rel => exact ⟨k + 1, t.step, n' + stepN t.C t.P, by omega, by go_num, by omega, by omega, e2.out, ok1, h1, hb1, hq1⟩
        case measure => simp [intOf]; omega
    · have b1 : decide ((k : Int) < 10) = false := by simp; omega
      obtain rfl : k = 10 := by omega
      have fin : RanT B sb p pb v n s w (.returned (.tuple #[])) wr := ⟨rfl, n', hn1, by omega, by rw [← hrun.out]; exact h.out, hb.out, hq.out⟩
      have fin := Lib.hid fin
      clear h ok hb hq
      go_wp2
      go_end0
      exact fin.out
end Go.Proofs.Ytllibgjajlgnbab.PutsKit

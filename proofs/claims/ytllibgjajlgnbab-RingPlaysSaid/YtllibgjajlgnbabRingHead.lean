/- package ring: Head. -/
import Derived.Test.YtllibgjajlgnbabRingNew
import Derived.Test.YtllibgjajlgnbabWords
import Derived.Deep.RegionHeld3
namespace Go.Proofs.Ytllibgjajlgnbab.RingHead
open Go Go.RowKit Go.Proofs.Ytllibgjajlgnbab.Only Go.Proofs.Ytllibgjajlgnbab.Mem Go.Proofs.Ytllibgjajlgnbab.New Go.Proofs.Ytllibgjajlgnbab.Ring
set_option linter.unusedVariables false
set_option linter.unusedSimpArgs false

theorem LogAt.below {B b p : Nat} {v : Value} {C : List Int} {n : Int} {w w' : World} (h : LogAt B b p v C n w) (hb : Below w.heap.size w w') : LogAt B b p v C n w' :=
  ⟨h.mem.below hb, (hb.block _ (lt_of_heap h.blk)).trans h.blk, h.base, h.far, h.len⟩
theorem LogAt.drew {B b p : Nat} {v : Value} {C : List Int} {n : Int} {w : World} (h : LogAt B b p v C n w) : LogAt B b p v C n w.drew :=
  ⟨⟨h.mem.base, h.mem.blk, h.mem.own, h.mem.ne⟩, h.blk, h.base, h.far, h.len⟩

/-- What Head leaves. -/
def Headed (B b p : Nat) (v : Value) (C : List Int) (n : Int) (w : World) (e : Ending) (w' : World) : Prop :=
  e = .returned (Words.opened (rdAt C 2)) ∧ LogAt B b p v C (n + 1) w' ∧ Only (Foot p v) w w'

set_option maxHeartbeats 2000000 in
set_option maxRecDepth 100000 in
theorem head {B b p : Nat} {v : Value} {C : List Int} {n : Int} {w : World} (h : LogAt B b p v C n w) (hC : ∀ x ∈ C, 0 ≤ x ∧ x ≤ 18446744073709551615) (hn : 0 ≤ n ∧ n < 4611686018427387904) :
    Calls Try.prog 20 #[.pointer (some ⟨b, 0, none⟩)] w (Headed B b p v C n w) := by
  have hb1 : Below w.heap.size w (w.alloc (.cells #[.int .i64 0, .int .i64 0, .int .i64 0] 41)) := (Below.refl _ _).alloc (Nat.le_refl _) _
  have h1 := LogAt.drew (LogAt.below h hb1)
  obtain ⟨c0, c1⟩ := (LogAt.below h hb1).cells
  have hlen := h.len
  have hin : inR C 2 = true := by rw [inR_true]; omega
  have hx := rdAt_range hC 2
  have eh : hit C 2 = 1 := by unfold hit; rw [if_pos hin]
  have hbl := lt_of_heap h.blk
  have H1 := Lib.hid h1
  have hb1 := Lib.hid hb1
  have H := Lib.hid h
  clear h h1
  go_enter Try.func20, Try.ntmps20
  go_wp2_with fail
  go_region_held3 (fun w' => w'.cell? ⟨b, 0, none⟩ = some (.pointer (some ⟨p, 0, none⟩)) ∧ w'.cell? ⟨b, 1, none⟩ = some (.int .i64 2))
    (first | go_keep | exact S5)
    (first | (go_at_call 50 ; refine (Mem.load H1.out.mem 2 (by omega) hn).mono ?_ ; rintro e w2 ⟨rfl, h2, ho2⟩ ; have L2 := H1.out.next (by rw [eh] at h2 ; exact h2) ho2 hlen ; have S5 := L2.cells ; have K2 := Lib.hid (And.intro L2 ho2) ; clear h2 ho2 L2))
  go_wp2_with fail
  obtain ⟨L2, ho2⟩ := K2.out
  have nf : ¬ Foot p v w.heap.size := fun hf => by
    rcases hf with e | e
    · have := H.out.mem.lt; omega
    · rcases H.out.mem.own.2 with ⟨h2, _⟩ | ⟨g, cap, cur, hg, hb, hgg, _⟩
      · rw [h2] at e; cases e
      · have e2 : g = w.heap.size := by simpa [hg, Value.ownBlock] using e
        have := lt_of_heap hgg; omega
  have t2 : w2.heap[w.heap.size]? = some (.cells #[.int .i64 0, .int .i64 0, .int .i64 0] 41 (0, 0)) := (ho2.block _ (by simp) nf).trans (heap_alloc_new w (.cells #[.int .i64 0, .int .i64 0, .int .i64 0] 41))
  have t2 := Lib.hid t2
  have fin : ∀ w', Only (fun k => k = w.heap.size) w2 w' → Headed B b p v C n w (.returned (Words.opened (rdAt C 2))) w' := fun w' o => by
    have hlow := H.out.mem.lt
    have hf2 : ∀ k, Foot p v k → k ≠ w.heap.size := fun k hk e => nf (e ▸ hk)
    refine ⟨rfl, ⟨L2.mem.keep o (hf2 p (.inl rfl)) (fun k hk => hf2 k (.inr hk)), (o.block _ (lt_of_heap L2.blk) (by omega)).trans L2.blk, L2.base, L2.far, L2.len⟩, ?_⟩
    exact ((ofBelow (S := Foot p v) hb1.out.drew).trans ho2 (fun _ _ x => x)).trans o (fun k hk e => by omega)
  have fin := Lib.hid fin
  clear L2 ho2 nf
  generalize rdAt C 2 = x at *
  refine (Words.openW w2 x hx).mono ?_
  rintro e w3 ⟨rfl, hb3⟩
  have t3 := (hb3.block _ (lt_of_heap t2.out)).trans t2.out
  have o3 : Only (fun k => k = w.heap.size) w2 w3 := ofBelow hb3
  have q : ∀ u0 u1 u2 : Value, (((w3.setCell ⟨w.heap.size, 0, none⟩ u0).setCell ⟨w.heap.size, 1, none⟩ u1).setCell ⟨w.heap.size, 2, none⟩ u2).heap[w.heap.size]? = some (.cells #[u0, u1, u2] 41 (0, 0)) := by
    intro u0 u1 u2
    simp [World.setCell, Array.getElem?_modify, t3]
  have r0 : w3.cell? ⟨w.heap.size, 0, none⟩ = some (.int .i64 0) := by simp [World.cell?, t3]
  have r1 : w3.cell? ⟨w.heap.size, 1, none⟩ = some (.int .i64 0) := by simp [World.cell?, t3]
  have r2 : w3.cell? ⟨w.heap.size, 2, none⟩ = some (.int .i64 0) := by simp [World.cell?, t3]
  have f0 : w3.frozen? ⟨w.heap.size, 0, none⟩ = false := by simp [World.frozen?, t3]
  have f1 : w3.frozen? ⟨w.heap.size, 1, none⟩ = false := by simp [World.frozen?, t3]
  have f2 : w3.frozen? ⟨w.heap.size, 2, none⟩ = false := by simp [World.frozen?, t3]
  have q := Lib.hid q
  have o3 := Lib.hid o3
  clear hb3 t3
  unfold Words.opened
  go_wp2
  have z := q.out (.int .i64 (x / 1099511627776)) (.int .i64 (x / 1048576 % 1048576)) (.int .i64 (x % 1048576))
  refine bodyPost_ret (v := Words.opened x) ?_ rfl (fin.out _ (((o3.out.setCell (p := ⟨w.heap.size, 0, none⟩) (fun _ => rfl) _).setCell (p := ⟨w.heap.size, 1, none⟩) (fun _ => rfl) _).setCell (p := ⟨w.heap.size, 2, none⟩) (fun _ => rfl) _))
  generalize (((w3.setCell ⟨w.heap.size, 0, none⟩ (.int .i64 (x / 1099511627776))).setCell ⟨w.heap.size, 1, none⟩ (.int .i64 (x / 1048576 % 1048576))).setCell ⟨w.heap.size, 2, none⟩ (.int .i64 (x % 1048576))) = wz at z ⊢
  have z0 : wz.cell? ⟨w.heap.size, 0, none⟩ = some (.int .i64 (x / 1099511627776)) := by simp only [World.cell?, z]; rfl
  have z1 : wz.cell? ⟨w.heap.size, 1, none⟩ = some (.int .i64 (x / 1048576 % 1048576)) := by simp only [World.cell?, z]; rfl
  have z2 : wz.cell? ⟨w.heap.size, 2, none⟩ = some (.int .i64 (x % 1048576)) := by simp only [World.cell?, z]; rfl
  simp [results, Try.results20, go_sem, Words.opened, z0, z1, z2]
end Go.Proofs.Ytllibgjajlgnbab.RingHead

/- MemPlays' step: one deed, of both. Laid by gendo.py. -/
import Derived.Test.YtllibgjajlgnbaaGrow
import Derived.Test.YtllibgjajlgnbaaRefCas
import Derived.Test.YtllibgjajlgnbaaRefLoad
import Derived.Test.YtllibgjajlgnbaaRefGrow
namespace Go.Proofs.Ytllibgjajlgnbaa.Do
open Go Go.RowKit Go.Proofs.Ytllibgjajlgnbaa.Only Go.Proofs.Ytllibgjajlgnbaa.Mem Go.Proofs.Ytllibgjajlgnbaa.New
set_option linter.unusedVariables false
set_option linter.unusedSimpArgs false

/-- The cells behind a deed. -/
def doC (C : List Int) (k a o x : Int) : List Int :=
  if k = 1 then C else if k = 2 then setAt C a x else if k = 3 then casAt C a o x else if k = 4 then addAt C a x else
  if min a 40 < 0 ∨ 65536 < C.length + min a 40 then C else C ++ List.replicate (min a 40).toNat 0
/-- How often they were asked behind a deed. -/
def doN (C : List Int) (k a n : Int) : Int := if k = 1 ∨ k = 2 ∨ k = 3 ∨ k = 4 then n + hit C a else n

/-- The reference's slice lies apart from the cells. -/
def Apart (p : Nat) (v s : Value) : Prop := ∀ k, s.ownBlock = some k → k ≠ p ∧ v.ownBlock ≠ some k

/-- The three blocks of a deed: the reference's cells, the deed, the result. -/
structure DF (w0 : World) (s : Value) (cnt k a o x : Int) (w : World) : Prop where
  arg : w.heap[w0.heap.size]? = some (.cells #[s, .int .i64 cnt] 37 (0, 0))
  deed : w.heap[w0.heap.size + 1]? = some (.cells #[.int .i64 k, .int .i64 a, .int .u64 o, .int .u64 x] 34 (0, 0))
  res : w.heap[w0.heap.size + 1 + 1]? = some (.cells #[.slice none 0 0, .int .i64 0] 37 (0, 0))

theorem DF.start (w0 : World) (s : Value) (cnt k a o x : Int) : DF w0 s cnt k a o x (((w0.alloc (.cells #[s, .int .i64 cnt] 37)).alloc (.cells #[.int .i64 k, .int .i64 a, .int .u64 o, .int .u64 x] 34)).alloc (.cells #[.slice none 0 0, .int .i64 0] 37)) := by
  refine ⟨?_, ?_, ?_⟩
  · rw [heap_alloc_old _ _ (by simp; omega), heap_alloc_old _ _ (by simp), heap_alloc_new]
  · rw [heap_alloc_old _ _ (by simp)]
    have := heap_alloc_new (w0.alloc (.cells #[s, .int .i64 cnt] 37)) (.cells #[.int .i64 k, .int .i64 a, .int .u64 o, .int .u64 x] 34)
    simpa using this
  · have := heap_alloc_new ((w0.alloc (.cells #[s, .int .i64 cnt] 37)).alloc (.cells #[.int .i64 k, .int .i64 a, .int .u64 o, .int .u64 x] 34)) (.cells #[.slice none 0 0, .int .i64 0] 37)
    simpa using this
theorem DF.next {w0 w w' : World} {s : Value} {cnt k a o x : Int} {S : Nat → Prop} (h : DF w0 s cnt k a o x w) (ho : Only S w w') (hS : ∀ j, w0.heap.size ≤ j → ¬ S j) : DF w0 s cnt k a o x w' := by
  refine ⟨?_, ?_, ?_⟩
  · rw [ho.block _ (lt_of_heap h.arg) (hS _ (by omega))]; exact h.arg
  · rw [ho.block _ (lt_of_heap h.deed) (hS _ (by omega))]; exact h.deed
  · rw [ho.block _ (lt_of_heap h.res) (hS _ (by omega))]; exact h.res
theorem cell4 {w : World} {k : Nat} {c0 c1 c2 c3 : Value} {T : TypeId} (h : w.heap[k]? = some (.cells #[c0, c1, c2, c3] T (0, 0))) :
    w.cell? ⟨k, 0, none⟩ = some c0 ∧ w.cell? ⟨k, 1, none⟩ = some c1 ∧ w.cell? ⟨k, 2, none⟩ = some c2 ∧ w.cell? ⟨k, 3, none⟩ = some c3 := by
  simp [World.cell?, h]

/-- What a deed leaves. -/
def Did (B p : Nat) (v : Value) (C' : List Int) (n' : Int) (w : World) (e : Ending) (w' : World) : Prop :=
  ∃ v' s' cnt' D' ok, e = .returned (.tuple #[.agg #[s', .int .i64 cnt'], .bool ok]) ∧ MemAt B p v' C' n' w' ∧ Ref.RefAt B s' D' w' ∧ Apart p v' s' ∧ Only (Foot p v) w w' ∧ (v'.ownBlock = v.ownBlock ∨ ∃ k, v'.ownBlock = some k ∧ w.heap.size ≤ k)

theorem foot_lt {B p : Nat} {v : Value} {C : List Int} {n : Int} {w : World} (h : MemAt B p v C n w) : ∀ j, w.heap.size ≤ j → ¬ Foot p v j := by
  intro j hj hf
  rcases hf with e | e
  · have := h.lt; omega
  · rcases h.own.2 with ⟨h2, _⟩ | ⟨g, cap, cur, hg, hb, hgg, r⟩
    · subst h2; cases e
    · have e2 : g = j := by simpa [hg, Value.ownBlock] using e
      have := lt_of_heap hgg; omega
theorem ref_lt {B : Nat} {s : Value} {D : List Int} {w : World} (h : Ref.RefAt B s D w) : ∀ j, s.ownBlock = some j → j < w.heap.size := by
  intro j e
  rcases h.own.2 with ⟨h2, _⟩ | ⟨g, cap, cur, hg, hb, hgg, r⟩
  · subst h2; cases e
  · have e2 : g = j := by simpa [hg, Value.ownBlock] using e
    rw [← e2]; exact lt_of_heap hgg

set_option maxHeartbeats 4000000 in
set_option maxRecDepth 100000 in
theorem load {B p : Nat} {v s : Value} {C D : List Int} {n : Int} {w : World} (h : MemAt B p v C n w) (hr : Ref.RefAt B s D w) (hap : Apart p v s) (hB : B ≤ w.heap.size) (cnt a o x : Int) (ha : -9223372036854775808 ≤ a ∧ a ≤ 9223372036854775807) (hn : 0 ≤ n ∧ n < 4611686018427387904) :
    Calls Try.prog 18 #[.pointer (some ⟨p, 0, none⟩), .agg #[s, .int .i64 cnt], .agg #[.int .i64 1, .int .i64 a, .int .u64 o, .int .u64 x]] w (Did B p v (C) (n + hit C a) w) := by
  obtain ⟨A, cap, rfl, hcap⟩ := own_any hr.own
  have hlow := foot_lt h
  have hrl := ref_lt hr
  have hb2 : Below w.heap.size w (((w.alloc (.cells #[.slice A D.length cap, .int .i64 cnt] 37)).alloc (.cells #[.int .i64 1, .int .i64 a, .int .u64 o, .int .u64 x] 34)).alloc (.cells #[.slice none 0 0, .int .i64 0] 37)) :=
    (((Below.refl _ _).alloc (Nat.le_refl _) _).alloc (by simp) _).alloc (by simp; omega) _
  have F := DF.start w (.slice A D.length cap) cnt 1 a o x
  have h2 := h.below hb2
  have hr2 := hr.below hb2
  obtain ⟨a0, a1, a2, a3⟩ := Ref.cell2 F.arg
  obtain ⟨d0, d1, d2, d3⟩ := cell4 F.deed
  have hS := Lib.hid h2
  have hR := Lib.hid hr2
  have F := Lib.hid F
  have hb2 := Lib.hid hb2
  have hlow := Lib.hid hlow
  have hrl := Lib.hid hrl
  have hap := Lib.hid hap
  clear h h2 hr hr2
  go_enter Try.func18, Try.ntmps18
  go_wp2_with fail
  refine (Mem.load hS.out a ha hn).mono ?_
  rintro e w3 ⟨rfl, h3, ho3⟩
  have F3 := F.out.next ho3 hlow.out
  have hr3 := hR.out.keep ho3 (fun k hk hf => by
    rcases hf with e | e
    · exact (hap.out k hk).1 e
    · exact (hap.out k hk).2 e)
  obtain ⟨a0, a1, a2, a3⟩ := Ref.cell2 F3.arg
  obtain ⟨d0, d1, d2, d3⟩ := cell4 F3.deed
  have h3 := Lib.hid h3
  have ho3 := Lib.hid ho3
  have F3 := Lib.hid F3
  have hr3 := Lib.hid hr3
  have hs3 := ho3.out.size
  simp at hs3
  clear F
  go_wp2_with fail
  refine (Ref.load _ D w3 B hr3.out (by omega) cnt a).mono ?_
  rintro e w5 ⟨s', cnt', D', y, bad, rfl, h5⟩
  obtain ⟨A', cap', hs', hcap'⟩ := own_any h5.ref.own
  subst hs'
  have F5 := F3.out.next (ofBelow (S := fun _ => False) h5.bel) (fun _ _ x => x)
  have hnew5 : (w5.alloc (.cells #[.slice A' D'.length cap', .int .i64 cnt'] 37)).heap[w.heap.size + 1 + 1]? = some (.cells #[.slice none 0 0, .int .i64 0] 37 (0, 0)) := (heap_alloc_old w5 _ (lt_of_heap F5.res)).trans F5.res
  obtain ⟨r0, r1, r2, r3⟩ := Ref.cell2 hnew5
  have Z := Ref.cell2 (Ref.put2 hnew5 (.slice A' D'.length cap') (.int .i64 cnt'))
  have Z := Lib.hid Z
  clear hnew5
  have h5 := Lib.hid h5
  have F5 := Lib.hid F5
  have hs5 := h5.out.bel.size
  clear F3 a0 a1 a2 a3 d0 d1 d2 d3
  have fin : ∀ (u0 u1 : Value) (T : TypeId) (ok : Bool), Did B p v (C) (n + hit C a) w (.returned (.tuple #[.agg #[.slice A' D'.length cap', .int .i64 cnt'], .bool ok])) (((w5.alloc (.cells #[.slice A' D'.length cap', .int .i64 cnt'] T)).setCell ⟨w.heap.size + 1 + 1, 0, none⟩ u0).setCell ⟨w.heap.size + 1 + 1, 1, none⟩ u1) := by
    intro u0 u1 T ok
    have o6 : Only (fun k => w.heap.size ≤ k ∧ k = w.heap.size + 1 + 1) w5 (((w5.alloc (.cells #[.slice A' D'.length cap', .int .i64 cnt'] T)).setCell ⟨w.heap.size + 1 + 1, 0, none⟩ u0).setCell ⟨w.heap.size + 1 + 1, 1, none⟩ u1) :=
      (((refl _ w5).alloc _).setCell (p := ⟨w.heap.size + 1 + 1, 0, none⟩) (fun _ => ⟨by simp; omega, rfl⟩) u0).setCell (p := ⟨w.heap.size + 1 + 1, 1, none⟩) (fun _ => ⟨by simp; omega, rfl⟩) u1
    have m5 := h3.out.below h5.out.bel
    have hl2 : ∀ k, Foot p v k → k < w.heap.size := fun k hk => Nat.lt_of_not_le (fun hh => hlow.out k hh hk)
    refine ⟨v, _, cnt', D', ok, rfl, ?_, ?_, ?_, ?_, .inl rfl⟩
    · exact m5.keep o6 (fun hh => by have := hl2 p (.inl rfl); omega) (fun k hk hh => by have := hl2 k (.inr hk); omega)
    · refine h5.out.ref.keep o6 (fun k hk hh => ?_)
      rcases h5.out.new with e | e
      · rw [e] at hk; have := hrl.out k hk; omega
      · have := e k hk; omega
    · intro k hk
      rcases h5.out.new with e | e
      · rw [e] at hk; exact hap.out k hk
      · have hk2 := e k hk
        exact ⟨fun hh => by have := hl2 p (.inl rfl); omega, fun hh => by have := hl2 k (.inr hh); omega⟩
    · have q1 : Only (Foot p v) w w3 := (ofBelow hb2.out).trans ho3.out (fun _ _ x => x)
      have q2 : Only (Foot p v) w w5 := q1.trans (ofBelow (S := fun _ => False) h5.out.bel) (fun _ _ x => x.elim)
      exact q2.trans o6 (fun k hk hh => by omega)
  have fin := Lib.hid fin
  cases hq : (rdAt C a == y) with
  | true =>
    go_wp2
    have Z := Z.out
    refine bodyPost_ret (v := .tuple #[.agg #[.slice A' D'.length cap', .int .i64 cnt'], .bool (errAt C a == bad)]) ?_ rfl (fin.out _ _ _ _)
    generalize (((w5.alloc (.cells #[.slice A' D'.length cap', .int .i64 cnt'] 37)).setCell ⟨w.heap.size + 1 + 1, 0, none⟩ (.slice A' D'.length cap')).setCell ⟨w.heap.size + 1 + 1, 1, none⟩ (.int .i64 cnt')) = wz at Z ⊢
    simp [results, Try.results18, go_sem, Z]
  | false =>
    go_wp2
    have Z := Z.out
    refine bodyPost_ret (v := .tuple #[.agg #[.slice A' D'.length cap', .int .i64 cnt'], .bool false]) ?_ rfl (fin.out _ _ _ _)
    generalize (((w5.alloc (.cells #[.slice A' D'.length cap', .int .i64 cnt'] 37)).setCell ⟨w.heap.size + 1 + 1, 0, none⟩ (.slice A' D'.length cap')).setCell ⟨w.heap.size + 1 + 1, 1, none⟩ (.int .i64 cnt')) = wz at Z ⊢
    simp [results, Try.results18, go_sem, Z]

set_option maxHeartbeats 4000000 in
set_option maxRecDepth 100000 in
theorem store {B p : Nat} {v s : Value} {C D : List Int} {n : Int} {w : World} (h : MemAt B p v C n w) (hr : Ref.RefAt B s D w) (hap : Apart p v s) (hB : B ≤ w.heap.size) (cnt a o x : Int) (ha : -9223372036854775808 ≤ a ∧ a ≤ 9223372036854775807) (hn : 0 ≤ n ∧ n < 4611686018427387904) :
    Calls Try.prog 18 #[.pointer (some ⟨p, 0, none⟩), .agg #[s, .int .i64 cnt], .agg #[.int .i64 2, .int .i64 a, .int .u64 o, .int .u64 x]] w (Did B p v (setAt C a x) (n + hit C a) w) := by
  obtain ⟨A, cap, rfl, hcap⟩ := own_any hr.own
  have hlow := foot_lt h
  have hrl := ref_lt hr
  have hb2 : Below w.heap.size w (((w.alloc (.cells #[.slice A D.length cap, .int .i64 cnt] 37)).alloc (.cells #[.int .i64 2, .int .i64 a, .int .u64 o, .int .u64 x] 34)).alloc (.cells #[.slice none 0 0, .int .i64 0] 37)) :=
    (((Below.refl _ _).alloc (Nat.le_refl _) _).alloc (by simp) _).alloc (by simp; omega) _
  have F := DF.start w (.slice A D.length cap) cnt 2 a o x
  have h2 := h.below hb2
  have hr2 := hr.below hb2
  obtain ⟨a0, a1, a2, a3⟩ := Ref.cell2 F.arg
  obtain ⟨d0, d1, d2, d3⟩ := cell4 F.deed
  have hS := Lib.hid h2
  have hR := Lib.hid hr2
  have F := Lib.hid F
  have hb2 := Lib.hid hb2
  have hlow := Lib.hid hlow
  have hrl := Lib.hid hrl
  have hap := Lib.hid hap
  clear h h2 hr hr2
  go_enter Try.func18, Try.ntmps18
  go_wp2_with fail
  refine (Mem.store hS.out a x ha hn).mono ?_
  rintro e w3 ⟨rfl, h3, ho3⟩
  have F3 := F.out.next ho3 hlow.out
  have hr3 := hR.out.keep ho3 (fun k hk hf => by
    rcases hf with e | e
    · exact (hap.out k hk).1 e
    · exact (hap.out k hk).2 e)
  obtain ⟨a0, a1, a2, a3⟩ := Ref.cell2 F3.arg
  obtain ⟨d0, d1, d2, d3⟩ := cell4 F3.deed
  have h3 := Lib.hid h3
  have ho3 := Lib.hid ho3
  have F3 := Lib.hid F3
  have hr3 := Lib.hid hr3
  have hs3 := ho3.out.size
  simp at hs3
  clear F
  go_wp2_with fail
  refine (Ref.store _ D w3 B hr3.out (by omega) cnt a x).mono ?_
  rintro e w5 ⟨s', cnt', D', bad, rfl, h5⟩
  obtain ⟨A', cap', hs', hcap'⟩ := own_any h5.ref.own
  subst hs'
  have F5 := F3.out.next (ofBelow (S := fun _ => False) h5.bel) (fun _ _ x => x)
  have hnew5 : (w5.alloc (.cells #[.slice A' D'.length cap', .int .i64 cnt'] 37)).heap[w.heap.size + 1 + 1]? = some (.cells #[.slice none 0 0, .int .i64 0] 37 (0, 0)) := (heap_alloc_old w5 _ (lt_of_heap F5.res)).trans F5.res
  obtain ⟨r0, r1, r2, r3⟩ := Ref.cell2 hnew5
  have Z := Ref.cell2 (Ref.put2 hnew5 (.slice A' D'.length cap') (.int .i64 cnt'))
  have Z := Lib.hid Z
  clear hnew5
  have h5 := Lib.hid h5
  have F5 := Lib.hid F5
  have hs5 := h5.out.bel.size
  clear F3 a0 a1 a2 a3 d0 d1 d2 d3
  have fin : ∀ (u0 u1 : Value) (T : TypeId) (ok : Bool), Did B p v (setAt C a x) (n + hit C a) w (.returned (.tuple #[.agg #[.slice A' D'.length cap', .int .i64 cnt'], .bool ok])) (((w5.alloc (.cells #[.slice A' D'.length cap', .int .i64 cnt'] T)).setCell ⟨w.heap.size + 1 + 1, 0, none⟩ u0).setCell ⟨w.heap.size + 1 + 1, 1, none⟩ u1) := by
    intro u0 u1 T ok
    have o6 : Only (fun k => w.heap.size ≤ k ∧ k = w.heap.size + 1 + 1) w5 (((w5.alloc (.cells #[.slice A' D'.length cap', .int .i64 cnt'] T)).setCell ⟨w.heap.size + 1 + 1, 0, none⟩ u0).setCell ⟨w.heap.size + 1 + 1, 1, none⟩ u1) :=
      (((refl _ w5).alloc _).setCell (p := ⟨w.heap.size + 1 + 1, 0, none⟩) (fun _ => ⟨by simp; omega, rfl⟩) u0).setCell (p := ⟨w.heap.size + 1 + 1, 1, none⟩) (fun _ => ⟨by simp; omega, rfl⟩) u1
    have m5 := h3.out.below h5.out.bel
    have hl2 : ∀ k, Foot p v k → k < w.heap.size := fun k hk => Nat.lt_of_not_le (fun hh => hlow.out k hh hk)
    refine ⟨v, _, cnt', D', ok, rfl, ?_, ?_, ?_, ?_, .inl rfl⟩
    · exact m5.keep o6 (fun hh => by have := hl2 p (.inl rfl); omega) (fun k hk hh => by have := hl2 k (.inr hk); omega)
    · refine h5.out.ref.keep o6 (fun k hk hh => ?_)
      rcases h5.out.new with e | e
      · rw [e] at hk; have := hrl.out k hk; omega
      · have := e k hk; omega
    · intro k hk
      rcases h5.out.new with e | e
      · rw [e] at hk; exact hap.out k hk
      · have hk2 := e k hk
        exact ⟨fun hh => by have := hl2 p (.inl rfl); omega, fun hh => by have := hl2 k (.inr hh); omega⟩
    · have q1 : Only (Foot p v) w w3 := (ofBelow hb2.out).trans ho3.out (fun _ _ x => x)
      have q2 : Only (Foot p v) w w5 := q1.trans (ofBelow (S := fun _ => False) h5.out.bel) (fun _ _ x => x.elim)
      exact q2.trans o6 (fun k hk hh => by omega)
  have fin := Lib.hid fin
  go_wp2
  have Z := Z.out
  refine bodyPost_ret (v := .tuple #[.agg #[.slice A' D'.length cap', .int .i64 cnt'], .bool (errAt C a == bad)]) ?_ rfl (fin.out _ _ _ _)
  generalize (((w5.alloc (.cells #[.slice A' D'.length cap', .int .i64 cnt'] 37)).setCell ⟨w.heap.size + 1 + 1, 0, none⟩ (.slice A' D'.length cap')).setCell ⟨w.heap.size + 1 + 1, 1, none⟩ (.int .i64 cnt')) = wz at Z ⊢
  simp [results, Try.results18, go_sem, Z]

set_option maxHeartbeats 4000000 in
set_option maxRecDepth 100000 in
theorem cas {B p : Nat} {v s : Value} {C D : List Int} {n : Int} {w : World} (h : MemAt B p v C n w) (hr : Ref.RefAt B s D w) (hap : Apart p v s) (hB : B ≤ w.heap.size) (cnt a o x : Int) (ha : -9223372036854775808 ≤ a ∧ a ≤ 9223372036854775807) (hn : 0 ≤ n ∧ n < 4611686018427387904) :
    Calls Try.prog 18 #[.pointer (some ⟨p, 0, none⟩), .agg #[s, .int .i64 cnt], .agg #[.int .i64 3, .int .i64 a, .int .u64 o, .int .u64 x]] w (Did B p v (casAt C a o x) (n + hit C a) w) := by
  obtain ⟨A, cap, rfl, hcap⟩ := own_any hr.own
  have hlow := foot_lt h
  have hrl := ref_lt hr
  have hb2 : Below w.heap.size w (((w.alloc (.cells #[.slice A D.length cap, .int .i64 cnt] 37)).alloc (.cells #[.int .i64 3, .int .i64 a, .int .u64 o, .int .u64 x] 34)).alloc (.cells #[.slice none 0 0, .int .i64 0] 37)) :=
    (((Below.refl _ _).alloc (Nat.le_refl _) _).alloc (by simp) _).alloc (by simp; omega) _
  have F := DF.start w (.slice A D.length cap) cnt 3 a o x
  have h2 := h.below hb2
  have hr2 := hr.below hb2
  obtain ⟨a0, a1, a2, a3⟩ := Ref.cell2 F.arg
  obtain ⟨d0, d1, d2, d3⟩ := cell4 F.deed
  have hS := Lib.hid h2
  have hR := Lib.hid hr2
  have F := Lib.hid F
  have hb2 := Lib.hid hb2
  have hlow := Lib.hid hlow
  have hrl := Lib.hid hrl
  have hap := Lib.hid hap
  clear h h2 hr hr2
  go_enter Try.func18, Try.ntmps18
  go_wp2_with fail
  refine (Mem.cas hS.out a o x ha hn).mono ?_
  rintro e w3 ⟨rfl, h3, ho3⟩
  have F3 := F.out.next ho3 hlow.out
  have hr3 := hR.out.keep ho3 (fun k hk hf => by
    rcases hf with e | e
    · exact (hap.out k hk).1 e
    · exact (hap.out k hk).2 e)
  obtain ⟨a0, a1, a2, a3⟩ := Ref.cell2 F3.arg
  obtain ⟨d0, d1, d2, d3⟩ := cell4 F3.deed
  have h3 := Lib.hid h3
  have ho3 := Lib.hid ho3
  have F3 := Lib.hid F3
  have hr3 := Lib.hid hr3
  have hs3 := ho3.out.size
  simp at hs3
  clear F
  go_wp2_with fail
  refine (Ref.cas _ D w3 B hr3.out (by omega) cnt a o x).mono ?_
  rintro e w5 ⟨s', cnt', D', y, bad, rfl, h5⟩
  obtain ⟨A', cap', hs', hcap'⟩ := own_any h5.ref.own
  subst hs'
  have F5 := F3.out.next (ofBelow (S := fun _ => False) h5.bel) (fun _ _ x => x)
  have hnew5 : (w5.alloc (.cells #[.slice A' D'.length cap', .int .i64 cnt'] 37)).heap[w.heap.size + 1 + 1]? = some (.cells #[.slice none 0 0, .int .i64 0] 37 (0, 0)) := (heap_alloc_old w5 _ (lt_of_heap F5.res)).trans F5.res
  obtain ⟨r0, r1, r2, r3⟩ := Ref.cell2 hnew5
  have Z := Ref.cell2 (Ref.put2 hnew5 (.slice A' D'.length cap') (.int .i64 cnt'))
  have Z := Lib.hid Z
  clear hnew5
  have h5 := Lib.hid h5
  have F5 := Lib.hid F5
  have hs5 := h5.out.bel.size
  clear F3 a0 a1 a2 a3 d0 d1 d2 d3
  have fin : ∀ (u0 u1 : Value) (T : TypeId) (ok : Bool), Did B p v (casAt C a o x) (n + hit C a) w (.returned (.tuple #[.agg #[.slice A' D'.length cap', .int .i64 cnt'], .bool ok])) (((w5.alloc (.cells #[.slice A' D'.length cap', .int .i64 cnt'] T)).setCell ⟨w.heap.size + 1 + 1, 0, none⟩ u0).setCell ⟨w.heap.size + 1 + 1, 1, none⟩ u1) := by
    intro u0 u1 T ok
    have o6 : Only (fun k => w.heap.size ≤ k ∧ k = w.heap.size + 1 + 1) w5 (((w5.alloc (.cells #[.slice A' D'.length cap', .int .i64 cnt'] T)).setCell ⟨w.heap.size + 1 + 1, 0, none⟩ u0).setCell ⟨w.heap.size + 1 + 1, 1, none⟩ u1) :=
      (((refl _ w5).alloc _).setCell (p := ⟨w.heap.size + 1 + 1, 0, none⟩) (fun _ => ⟨by simp; omega, rfl⟩) u0).setCell (p := ⟨w.heap.size + 1 + 1, 1, none⟩) (fun _ => ⟨by simp; omega, rfl⟩) u1
    have m5 := h3.out.below h5.out.bel
    have hl2 : ∀ k, Foot p v k → k < w.heap.size := fun k hk => Nat.lt_of_not_le (fun hh => hlow.out k hh hk)
    refine ⟨v, _, cnt', D', ok, rfl, ?_, ?_, ?_, ?_, .inl rfl⟩
    · exact m5.keep o6 (fun hh => by have := hl2 p (.inl rfl); omega) (fun k hk hh => by have := hl2 k (.inr hk); omega)
    · refine h5.out.ref.keep o6 (fun k hk hh => ?_)
      rcases h5.out.new with e | e
      · rw [e] at hk; have := hrl.out k hk; omega
      · have := e k hk; omega
    · intro k hk
      rcases h5.out.new with e | e
      · rw [e] at hk; exact hap.out k hk
      · have hk2 := e k hk
        exact ⟨fun hh => by have := hl2 p (.inl rfl); omega, fun hh => by have := hl2 k (.inr hh); omega⟩
    · have q1 : Only (Foot p v) w w3 := (ofBelow hb2.out).trans ho3.out (fun _ _ x => x)
      have q2 : Only (Foot p v) w w5 := q1.trans (ofBelow (S := fun _ => False) h5.out.bel) (fun _ _ x => x.elim)
      exact q2.trans o6 (fun k hk hh => by omega)
  have fin := Lib.hid fin
  cases hq : (rdAt C a == y) with
  | true =>
    go_wp2
    have Z := Z.out
    refine bodyPost_ret (v := .tuple #[.agg #[.slice A' D'.length cap', .int .i64 cnt'], .bool (casB C a o == bad)]) ?_ rfl (fin.out _ _ _ _)
    generalize (((w5.alloc (.cells #[.slice A' D'.length cap', .int .i64 cnt'] 37)).setCell ⟨w.heap.size + 1 + 1, 0, none⟩ (.slice A' D'.length cap')).setCell ⟨w.heap.size + 1 + 1, 1, none⟩ (.int .i64 cnt')) = wz at Z ⊢
    simp [results, Try.results18, go_sem, Z]
  | false =>
    go_wp2
    have Z := Z.out
    refine bodyPost_ret (v := .tuple #[.agg #[.slice A' D'.length cap', .int .i64 cnt'], .bool false]) ?_ rfl (fin.out _ _ _ _)
    generalize (((w5.alloc (.cells #[.slice A' D'.length cap', .int .i64 cnt'] 37)).setCell ⟨w.heap.size + 1 + 1, 0, none⟩ (.slice A' D'.length cap')).setCell ⟨w.heap.size + 1 + 1, 1, none⟩ (.int .i64 cnt')) = wz at Z ⊢
    simp [results, Try.results18, go_sem, Z]

set_option maxHeartbeats 4000000 in
set_option maxRecDepth 100000 in
theorem add {B p : Nat} {v s : Value} {C D : List Int} {n : Int} {w : World} (h : MemAt B p v C n w) (hr : Ref.RefAt B s D w) (hap : Apart p v s) (hB : B ≤ w.heap.size) (cnt a o x : Int) (ha : -9223372036854775808 ≤ a ∧ a ≤ 9223372036854775807) (hn : 0 ≤ n ∧ n < 4611686018427387904) :
    Calls Try.prog 18 #[.pointer (some ⟨p, 0, none⟩), .agg #[s, .int .i64 cnt], .agg #[.int .i64 4, .int .i64 a, .int .u64 o, .int .u64 x]] w (Did B p v (addAt C a x) (n + hit C a) w) := by
  obtain ⟨A, cap, rfl, hcap⟩ := own_any hr.own
  have hlow := foot_lt h
  have hrl := ref_lt hr
  have hb2 : Below w.heap.size w (((w.alloc (.cells #[.slice A D.length cap, .int .i64 cnt] 37)).alloc (.cells #[.int .i64 4, .int .i64 a, .int .u64 o, .int .u64 x] 34)).alloc (.cells #[.slice none 0 0, .int .i64 0] 37)) :=
    (((Below.refl _ _).alloc (Nat.le_refl _) _).alloc (by simp) _).alloc (by simp; omega) _
  have F := DF.start w (.slice A D.length cap) cnt 4 a o x
  have h2 := h.below hb2
  have hr2 := hr.below hb2
  obtain ⟨a0, a1, a2, a3⟩ := Ref.cell2 F.arg
  obtain ⟨d0, d1, d2, d3⟩ := cell4 F.deed
  have hS := Lib.hid h2
  have hR := Lib.hid hr2
  have F := Lib.hid F
  have hb2 := Lib.hid hb2
  have hlow := Lib.hid hlow
  have hrl := Lib.hid hrl
  have hap := Lib.hid hap
  clear h h2 hr hr2
  go_enter Try.func18, Try.ntmps18
  go_wp2_with fail
  refine (Mem.add hS.out a x ha hn).mono ?_
  rintro e w3 ⟨rfl, h3, ho3⟩
  have F3 := F.out.next ho3 hlow.out
  have hr3 := hR.out.keep ho3 (fun k hk hf => by
    rcases hf with e | e
    · exact (hap.out k hk).1 e
    · exact (hap.out k hk).2 e)
  obtain ⟨a0, a1, a2, a3⟩ := Ref.cell2 F3.arg
  obtain ⟨d0, d1, d2, d3⟩ := cell4 F3.deed
  have h3 := Lib.hid h3
  have ho3 := Lib.hid ho3
  have F3 := Lib.hid F3
  have hr3 := Lib.hid hr3
  have hs3 := ho3.out.size
  simp at hs3
  clear F
  go_wp2_with fail
  refine (Ref.add _ D w3 B hr3.out (by omega) cnt a x).mono ?_
  rintro e w5 ⟨s', cnt', D', y, bad, rfl, h5⟩
  obtain ⟨A', cap', hs', hcap'⟩ := own_any h5.ref.own
  subst hs'
  have F5 := F3.out.next (ofBelow (S := fun _ => False) h5.bel) (fun _ _ x => x)
  have hnew5 : (w5.alloc (.cells #[.slice A' D'.length cap', .int .i64 cnt'] 37)).heap[w.heap.size + 1 + 1]? = some (.cells #[.slice none 0 0, .int .i64 0] 37 (0, 0)) := (heap_alloc_old w5 _ (lt_of_heap F5.res)).trans F5.res
  obtain ⟨r0, r1, r2, r3⟩ := Ref.cell2 hnew5
  have Z := Ref.cell2 (Ref.put2 hnew5 (.slice A' D'.length cap') (.int .i64 cnt'))
  have Z := Lib.hid Z
  clear hnew5
  have h5 := Lib.hid h5
  have F5 := Lib.hid F5
  have hs5 := h5.out.bel.size
  clear F3 a0 a1 a2 a3 d0 d1 d2 d3
  have fin : ∀ (u0 u1 : Value) (T : TypeId) (ok : Bool), Did B p v (addAt C a x) (n + hit C a) w (.returned (.tuple #[.agg #[.slice A' D'.length cap', .int .i64 cnt'], .bool ok])) (((w5.alloc (.cells #[.slice A' D'.length cap', .int .i64 cnt'] T)).setCell ⟨w.heap.size + 1 + 1, 0, none⟩ u0).setCell ⟨w.heap.size + 1 + 1, 1, none⟩ u1) := by
    intro u0 u1 T ok
    have o6 : Only (fun k => w.heap.size ≤ k ∧ k = w.heap.size + 1 + 1) w5 (((w5.alloc (.cells #[.slice A' D'.length cap', .int .i64 cnt'] T)).setCell ⟨w.heap.size + 1 + 1, 0, none⟩ u0).setCell ⟨w.heap.size + 1 + 1, 1, none⟩ u1) :=
      (((refl _ w5).alloc _).setCell (p := ⟨w.heap.size + 1 + 1, 0, none⟩) (fun _ => ⟨by simp; omega, rfl⟩) u0).setCell (p := ⟨w.heap.size + 1 + 1, 1, none⟩) (fun _ => ⟨by simp; omega, rfl⟩) u1
    have m5 := h3.out.below h5.out.bel
    have hl2 : ∀ k, Foot p v k → k < w.heap.size := fun k hk => Nat.lt_of_not_le (fun hh => hlow.out k hh hk)
    refine ⟨v, _, cnt', D', ok, rfl, ?_, ?_, ?_, ?_, .inl rfl⟩
    · exact m5.keep o6 (fun hh => by have := hl2 p (.inl rfl); omega) (fun k hk hh => by have := hl2 k (.inr hk); omega)
    · refine h5.out.ref.keep o6 (fun k hk hh => ?_)
      rcases h5.out.new with e | e
      · rw [e] at hk; have := hrl.out k hk; omega
      · have := e k hk; omega
    · intro k hk
      rcases h5.out.new with e | e
      · rw [e] at hk; exact hap.out k hk
      · have hk2 := e k hk
        exact ⟨fun hh => by have := hl2 p (.inl rfl); omega, fun hh => by have := hl2 k (.inr hh); omega⟩
    · have q1 : Only (Foot p v) w w3 := (ofBelow hb2.out).trans ho3.out (fun _ _ x => x)
      have q2 : Only (Foot p v) w w5 := q1.trans (ofBelow (S := fun _ => False) h5.out.bel) (fun _ _ x => x.elim)
      exact q2.trans o6 (fun k hk hh => by omega)
  have fin := Lib.hid fin
  cases hq : (rdAt C a == y) with
  | true =>
    go_wp2
    have Z := Z.out
    refine bodyPost_ret (v := .tuple #[.agg #[.slice A' D'.length cap', .int .i64 cnt'], .bool (errAt C a == bad)]) ?_ rfl (fin.out _ _ _ _)
    generalize (((w5.alloc (.cells #[.slice A' D'.length cap', .int .i64 cnt'] 37)).setCell ⟨w.heap.size + 1 + 1, 0, none⟩ (.slice A' D'.length cap')).setCell ⟨w.heap.size + 1 + 1, 1, none⟩ (.int .i64 cnt')) = wz at Z ⊢
    simp [results, Try.results18, go_sem, Z]
  | false =>
    go_wp2
    have Z := Z.out
    refine bodyPost_ret (v := .tuple #[.agg #[.slice A' D'.length cap', .int .i64 cnt'], .bool false]) ?_ rfl (fin.out _ _ _ _)
    generalize (((w5.alloc (.cells #[.slice A' D'.length cap', .int .i64 cnt'] 37)).setCell ⟨w.heap.size + 1 + 1, 0, none⟩ (.slice A' D'.length cap')).setCell ⟨w.heap.size + 1 + 1, 1, none⟩ (.int .i64 cnt')) = wz at Z ⊢
    simp [results, Try.results18, go_sem, Z]
end Go.Proofs.Ytllibgjajlgnbaa.Do

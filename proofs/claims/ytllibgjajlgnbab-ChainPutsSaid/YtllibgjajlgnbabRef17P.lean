/- The reference's versions: Put. Laid by genput17.py. -/
import Derived.Test.YtllibgjajlgnbabRef17
import Derived.Laws.AppendOwnNone
import Derived.Deep.Onto
namespace Go.Proofs.Ytllibgjajlgnbab.Ref17
open Go Go.RowKit Go.Proofs.Ytllibgjajlgnbab.Only Go.Proofs.Ytllibgjajlgnbab.Mem Go.Proofs.Ytllibgjajlgnbab.New Go.Proofs.Ytllibgjajlgnbab.Chain
set_option linter.unusedVariables false
set_option linter.unusedSimpArgs false

theorem info_ev : (Try.prog.info? 56).map (fun i => (i.zero, i.size, i.bytes)) = some (some (.agg #[.int .i64 0, .string ⟨#[]⟩, .string ⟨#[]⟩, .bool false]), 4, 48) := by kernel_rfl
theorem info_int : (Try.prog.info? 3).map (fun i => (i.zero, i.size, i.bytes)) = some (some (.int .i64 0), 1, 8) := by kernel_rfl

/-- The three blocks of Put. -/
structure Fp (w0 : World) (sE sA : Value) (r : Int) (key val : ByteArray) (del : Bool) (w : World) : Prop where
  arg : w.heap[w0.heap.size]? = some (.cells #[sE, sA] 78 (0, 0))
  ev : w.heap[w0.heap.size + 1]? = some (.cells #[.int .i64 r, .string key, .string val, .bool del] 56 (0, 0))
  res : w.heap[w0.heap.size + 1 + 1]? = some (.cells #[.slice none 0 0, .slice none 0 0] 78 (0, 0))
  bel : Below w0.heap.size w0 w
theorem Fp.start (w0 : World) (sE sA : Value) (r : Int) (key val : ByteArray) (del : Bool) : Fp w0 sE sA r key val del (((w0.alloc (.cells #[sE, sA] 78)).alloc (.cells #[.int .i64 r, .string key, .string val, .bool del] 56)).alloc (.cells #[.slice none 0 0, .slice none 0 0] 78)) := by
  refine ⟨?_, ?_, ?_, (((Below.refl _ _).alloc (Nat.le_refl _) _).alloc (by simp) _).alloc (by simp <;> omega) _⟩
  · rw [heap_alloc_old _ _ (by simp <;> omega), heap_alloc_old _ _ (by simp), heap_alloc_new]
  · rw [heap_alloc_old _ _ (by simp)]
    have := heap_alloc_new (w0.alloc (.cells #[sE, sA] 78)) (.cells #[.int .i64 r, .string key, .string val, .bool del] 56)
    simpa using this
  · have := heap_alloc_new ((w0.alloc (.cells #[sE, sA] 78)).alloc (.cells #[.int .i64 r, .string key, .string val, .bool del] 56)) (.cells #[.slice none 0 0, .slice none 0 0] 78)
    simpa using this
theorem Fp.grown {w0 w w' : World} {sE sA : Value} {r : Int} {key val : ByteArray} {del : Bool} {row : Option Nat} (h : Fp w0 sE sA r key val del w) (hg : w.grownBy w' row) (hr : ∀ k, row = some k → w0.heap.size + 1 + 1 + 1 ≤ k) : Fp w0 sE sA r key val del w' := by
  refine ⟨?_, ?_, ?_, h.bel.grown hg h.bel.size (fun k hk => by have := hr k hk; omega)⟩
  · rw [hg.block _ (lt_of_heap h.arg) (fun e => by have := hr _ e.symm; omega)]; exact h.arg
  · rw [hg.block _ (lt_of_heap h.ev) (fun e => by have := hr _ e.symm; omega)]; exact h.ev
  · rw [hg.block _ (lt_of_heap h.res) (fun e => by have := hr _ e.symm; omega)]; exact h.res
theorem newOwnE (w : World) : (w.alloc (.cells #[] 56)).ownsRow w.heap.size 56 4 (.slice (some ⟨w.heap.size, 0, none⟩) 0 0) 0 [] := by
  have := World.ownsRow_lit (base := w.heap.size) w #[] (size := 4) (e := 56) 0 (Nat.le_refl _) (by simp [maxLen]) rfl
  simpa using this
theorem newOwnI (w : World) : (w.alloc (.cells #[] 3)).ownsRow w.heap.size 3 1 (.slice (some ⟨w.heap.size, 0, none⟩) 0 0) 0 [] := by
  have := World.ownsRow_lit (base := w.heap.size) w #[] (size := 1) (e := 3) 0 (Nat.le_refl _) (by simp [maxLen]) rfl
  simpa using this

/-- What Put leaves. -/
def RPut17 (Vs : List Ver) (x : Ver) (w : World) (e : Ending) (w' : World) : Prop :=
  ∃ sE' sA', e = .returned (.tuple #[.agg #[sE', sA'], .int .i64 (Vs.length + 1 : Nat)]) ∧ RefS w.heap.size sE' sA' (Vs ++ [x]) w' ∧ Below w.heap.size w w'

theorem evs_one (Vs : List Ver) : ∀ u ∈ flatE Vs, u.oneCell' = true := by
  intro u hu
  obtain ⟨x, _, hx⟩ := List.mem_flatMap.1 hu
  simp [evs] at hx
  rcases hx with rfl | rfl | rfl | rfl <;> rfl
theorem flatE_length (Vs : List Ver) : (flatE Vs).length = Vs.length * 4 := by
  unfold flatE
  induction Vs with
  | nil => rfl
  | cons x t ih => rw [List.flatMap_cons, List.length_append, ih]; simp [evs]; omega

set_option maxHeartbeats 8000000 in
set_option maxRecDepth 100000 in
theorem rput {B : Nat} {sE sA : Value} {Vs : List Ver} {w : World} (h : RefS B sE sA Vs w) (hpos : 0 < Vs.length) (hl : Vs.length ≤ 1000) (al r : Int) (key val : ByteArray) (del : Bool) :
    Calls Try.prog 37 #[.agg #[sE, sA], .int .i64 al, .agg #[.int .i64 r, .string key, .string val, .bool del]] w (RPut17 Vs ⟨r, key, val, del, al⟩ w) := by
  obtain ⟨i0, hi, hzz⟩ := Option.map_eq_some_iff.1 info_ev
  simp only [Prod.mk.injEq] at hzz
  obtain ⟨hz0, hz1, hz2⟩ := hzz
  obtain ⟨i1, hi1, hzz1⟩ := Option.map_eq_some_iff.1 info_int
  simp only [Prod.mk.injEq] at hzz1
  obtain ⟨hy0, hy1, hy2⟩ := hzz1
  obtain ⟨g, cap, f, cap', hv, hv', hg, hf, -⟩ := refCells h 0 hpos
  subst hv
  subst hv'
  have F := Fp.start w (.slice (some ⟨g, 0, none⟩) Vs.length cap) (.slice (some ⟨f, 0, none⟩) Vs.length cap') r key val del
  have hownE := newOwnE (((w.alloc (.cells #[.slice (some ⟨g, 0, none⟩) Vs.length cap, .slice (some ⟨f, 0, none⟩) Vs.length cap'] 78)).alloc (.cells #[.int .i64 r, .string key, .string val, .bool del] 56)).alloc (.cells #[.slice none 0 0, .slice none 0 0] 78))
  have hb3 := F.bel
  have hnews : ∀ j u, (flatE Vs)[j]? = some u → ((((w.alloc (.cells #[.slice (some ⟨g, 0, none⟩) Vs.length cap, .slice (some ⟨f, 0, none⟩) Vs.length cap'] 78)).alloc (.cells #[.int .i64 r, .string key, .string val, .bool del] 56)).alloc (.cells #[.slice none 0 0, .slice none 0 0] 78)).alloc (.cells #[] 56)).cell? ((⟨g, 0, none⟩ : Addr).add j) = some u := by
    intro j u hj
    have h1 := h.e.cells (g := g) rfl j u hj
    rw [(hb3.alloc hb3.size (.cells #[] 56)).cell (by simp [Addr.add]; split <;> simpa using hg)]
    exact h1
  have F2 := F.grown (World.grownBy_alloc _ (.cells #[] 56) none) (by simp)
  have hownE := Lib.hid hownE
  have hnews := Lib.hid hnews
  have F2 := Lib.hid F2
  have H := Lib.hid h
  clear h F hb3
  simp at hownE
  go_enter Try.func37, Try.ntmps37
  go_wp2_with (at_builtin; refine wpList_append_own_at _ rfl _ _ 70 rfl (w.heap.size + 1 + 1 + 1) 56 i0 (.agg #[.int .i64 0, .string ⟨#[]⟩, .string ⟨#[]⟩, .bool false]) 4 48 Try.underlying70 hi hz0 hz1 hz2 rfl (by decide) _ _ _ rfl hownE.out ⟨g, 0, none⟩ Vs.length cap (flatE Vs) rfl (flatE_length Vs) hnews.out (evs_one Vs) (by simp [maxLen]; omega) (by omega) (by simp) ?_)
  intro v1 w4 hown4 hg4 _ hat4
  have F4 := Lib.hid (F2.out.grown hg4 (by intro k hk; simp [Value.ownBlock] at hk; omega))
  have hown4 := Lib.hid hown4
  have hat4 := Lib.hid hat4
  clear hg4 hownE hnews F2
  obtain ⟨e0, e1, e2, e3⟩ : w4.cell? ⟨w.heap.size + 1, 0, none⟩ = some (.int .i64 r) ∧ w4.cell? ⟨w.heap.size + 1, 1, none⟩ = some (.string key) ∧ w4.cell? ⟨w.heap.size + 1, 2, none⟩ = some (.string val) ∧ w4.cell? ⟨w.heap.size + 1, 3, none⟩ = some (.bool del) := by
    have := F4.out.ev
    simp [World.cell?, this]
  have hown4a := hown4.out.kept (row := none) (World.grownBy_alloc w4 (.cells #[.int .i64 r, .string key, .string val, .bool del] 56) none) (Classical.em _)
  have hnews5 : ∀ j u, (evs ⟨r, key, val, del, al⟩)[j]? = some u → (w4.alloc (.cells #[.int .i64 r, .string key, .string val, .bool del] 56)).cell? ((⟨w4.heap.size, 0, none⟩ : Addr).add j) = some u := by
    intro j u hj
    have hadd : (⟨w4.heap.size, 0, none⟩ : Addr).add j = ⟨w4.heap.size, j, none⟩ := by unfold Addr.add; split <;> simp_all
    have hn := heap_alloc_new w4 (.cells #[.int .i64 r, .string key, .string val, .bool del] 56)
    rw [hadd]
    simp only [World.cell?, hn]
    simpa [evs] using hj
  have hone5 : ∀ u ∈ evs ⟨r, key, val, del, al⟩, u.oneCell' = true := by
    intro u hu
    simp [evs] at hu
    rcases hu with rfl | rfl | rfl | rfl <;> rfl
  have q4 := F4.out.bel.size
  have q4r := lt_of_heap F4.out.res
  have hown4a := Lib.hid hown4a
  have hnews5 := Lib.hid hnews5
  have hone5 := Lib.hid hone5
  go_wp2_with (at_builtin; refine wpList_append_own_at _ rfl _ _ 70 rfl (w.heap.size + 1 + 1 + 1) 56 i0 (.agg #[.int .i64 0, .string ⟨#[]⟩, .string ⟨#[]⟩, .bool false]) 4 48 Try.underlying70 hi hz0 hz1 hz2 rfl (by decide) _ _ _ rfl hown4a.out ⟨w4.heap.size, 0, none⟩ 1 1 (evs ⟨r, key, val, del, al⟩) rfl rfl hnews5.out hone5.out (by simp [maxLen]; omega) (by omega) (by simp; omega) ?_)
  intro v2 w5 hown5 hg5 _ hat5
  have F5 := Lib.hid ((F4.out.grown (World.grownBy_alloc w4 (.cells #[.int .i64 r, .string key, .string val, .bool del] 56) none) (by simp)).grown hg5 (by
    intro k hk
    exact (hown4.out.lt k hk).1))
  have hown5 := Lib.hid hown5
  clear hg5 hown4a hnews5 hone5 e0 e1 e2 e3 hat4 hat5
  have hownI := newOwnI w5
  have q5 := F5.out.bel.size
  have q5r := lt_of_heap F5.out.res
  have hb5 := F5.out.bel
  have hnews6 : ∀ j u, (Vs.map (fun x => Value.int .i64 x.ahead))[j]? = some u → (w5.alloc (.cells #[] 3)).cell? ((⟨f, 0, none⟩ : Addr).add j) = some u := by
    intro j u hj
    have h1 := H.out.a.cells (g := f) rfl j u hj
    rw [(hb5.alloc hb5.size (.cells #[] 3)).cell (by simp [Addr.add]; split <;> simpa using hf)]
    exact h1
  have hone6 : ∀ u ∈ Vs.map (fun x => Value.int .i64 x.ahead), u.oneCell' = true := by
    intro u hu
    obtain ⟨x, _, rfl⟩ := List.mem_map.1 hu
    rfl
  have F6 := Lib.hid (F5.out.grown (World.grownBy_alloc w5 (.cells #[] 3) none) (by simp))
  obtain ⟨a0, a1⟩ : (w5.alloc (.cells #[] 3)).cell? ⟨w.heap.size, 0, none⟩ = some (.slice (some ⟨g, 0, none⟩) Vs.length cap) ∧ (w5.alloc (.cells #[] 3)).cell? ⟨w.heap.size, 1, none⟩ = some (.slice (some ⟨f, 0, none⟩) Vs.length cap') := by
    have := F6.out.arg
    simp [World.cell?, this]
  have n6 : (w5.alloc (.cells #[] 3)).heap[w5.heap.size]? = some (.cells #[] 3 (0, 0)) := heap_alloc_new w5 _
  have O6 := Lib.hid (hown5.out.kept (row := none) (World.grownBy_alloc w5 (.cells #[] 3) none) (Classical.em _))
  have hownI := Lib.hid hownI
  have hnews6 := Lib.hid hnews6
  have hone6 := Lib.hid hone6
  clear hb5
  go_wp2_with (at_builtin; refine wpList_append_own_at _ rfl _ _ 76 rfl w5.heap.size 3 i1 (.int .i64 0) 1 8 Try.underlying76 hi1 hy0 hy1 hy2 rfl (by decide) _ _ _ rfl hownI.out ⟨f, 0, none⟩ Vs.length cap' (Vs.map (fun x => Value.int .i64 x.ahead)) rfl (by simp) hnews6.out hone6.out (by simp [maxLen]; omega) (by omega) (by simp) ?_)
  intro v3 w6 hown6 hg6 _ hat6
  have F7 := Lib.hid (F6.out.grown hg6 (by intro k hk; simp [Value.ownBlock] at hk; omega))
  have O7 := Lib.hid (O6.out.kept hg6 (by
    right
    intro e
    have := hown5.out.lt _ (e.trans rfl)
    simp [Value.ownBlock] at this))
  have hown6 := Lib.hid hown6
  have q65 : w5.heap.size < w6.heap.size := by
    have := hg6.size
    simp at this
    omega
  clear hg6 hnews6 hone6 a0 a1 n6 hat6 hownI
  have hown6a := Lib.hid (hown6.out.kept (row := none) (World.grownBy_alloc w6 (.cells #[.int .i64 al] 3) none) (Classical.em _))
  have hnews7 : ∀ j u, ([Value.int .i64 al])[j]? = some u → (w6.alloc (.cells #[.int .i64 al] 3)).cell? ((⟨w6.heap.size, 0, none⟩ : Addr).add j) = some u := by
    intro j u hj
    have hadd : (⟨w6.heap.size, 0, none⟩ : Addr).add j = ⟨w6.heap.size, j, none⟩ := by unfold Addr.add; split <;> simp_all
    have hn := heap_alloc_new w6 (.cells #[.int .i64 al] 3)
    rw [hadd]
    simp only [World.cell?, hn]
    simpa using hj
  have hone7 : ∀ u ∈ ([Value.int .i64 al] : List Value), u.oneCell' = true := by
    intro u hu
    simp at hu
    subst hu
    rfl
  have q6 := F7.out.bel.size
  have q6r := lt_of_heap F7.out.res
  have F8 := Lib.hid (F7.out.grown (World.grownBy_alloc w6 (.cells #[.int .i64 al] 3) none) (by simp))
  have O8 := Lib.hid (O7.out.kept (row := none) (World.grownBy_alloc w6 (.cells #[.int .i64 al] 3) none) (Classical.em _))
  have hnews7 := Lib.hid hnews7
  have hone7 := Lib.hid hone7
  go_wp2_with (at_builtin; refine wpList_append_own_at _ rfl _ _ 76 rfl w5.heap.size 3 i1 (.int .i64 0) 1 8 Try.underlying76 hi1 hy0 hy1 hy2 rfl (by decide) _ _ _ rfl hown6a.out ⟨w6.heap.size, 0, none⟩ 1 1 [Value.int .i64 al] rfl rfl hnews7.out hone7.out (by simp [maxLen]; omega) (by omega) (by simp; omega) ?_)
  intro v4 w7 hown7 hg7 _ hat7
  have F9 := Lib.hid (F8.out.grown hg7 (by
    intro k hk
    have := (hown6.out.lt k hk).1
    omega))
  have O9 := Lib.hid (O8.out.kept hg7 (by
    cases hk : v2.ownBlock with
    | none => exact .inl rfl
    | some k =>
      right
      intro e
      have h1 := (hown5.out.lt k hk).2
      have h2 := (hown6.out.lt k e.symm).1
      omega))
  have hown7 := Lib.hid hown7
  clear hg7 hown6a hnews7 hone7 hat7
  have q7r := lt_of_heap F9.out.res
  obtain ⟨r0, r1, r2, r3⟩ : w7.cell? ⟨w.heap.size + 1 + 1, 0, none⟩ = some (.slice none 0 0) ∧ w7.cell? ⟨w.heap.size + 1 + 1, 1, none⟩ = some (.slice none 0 0) ∧ w7.frozen? ⟨w.heap.size + 1 + 1, 0, none⟩ = false ∧ w7.frozen? ⟨w.heap.size + 1 + 1, 1, none⟩ = false := by
    have := F9.out.res
    simp [World.cell?, World.frozen?, this]
  obtain ⟨A2, c2, e2, hc2⟩ := own_any' O9.out
  obtain ⟨A4, c4, e4, hc4⟩ := own_any' hown7.out
  subst e2
  subst e4
  have res8 : ((w7.setCell ⟨w.heap.size + 1 + 1, 0, none⟩ (.slice A2 (Vs.length + 1) c2)).setCell ⟨w.heap.size + 1 + 1, 1, none⟩ (.slice A4 (Vs.length + 1) c4)).heap[w.heap.size + 1 + 1]? = some (.cells #[.slice A2 (Vs.length + 1) c2, .slice A4 (Vs.length + 1) c4] 78 (0, 0)) := by
    have kk := F9.out.res
    simp [World.setCell, Array.getElem?_modify, kk]
  have bel8 : Below w.heap.size w ((w7.setCell ⟨w.heap.size + 1 + 1, 0, none⟩ (.slice A2 (Vs.length + 1) c2)).setCell ⟨w.heap.size + 1 + 1, 1, none⟩ (.slice A4 (Vs.length + 1) c4)) := (F9.out.bel.setCell (by simp; omega) _).setCell (by simp; omega) _
  have on8 : Only (fun k => k = w.heap.size + 1 + 1) w7 ((w7.setCell ⟨w.heap.size + 1 + 1, 0, none⟩ (.slice A2 (Vs.length + 1) c2)).setCell ⟨w.heap.size + 1 + 1, 1, none⟩ (.slice A4 (Vs.length + 1) c4)) := ((Only.refl (fun k => k = w.heap.size + 1 + 1) w7).setCell (p := ⟨w.heap.size + 1 + 1, 0, none⟩) (fun _ => rfl) _).setCell (p := ⟨w.heap.size + 1 + 1, 1, none⟩) (fun _ => rfl) _
  have E8 := own_keep O9.out on8 (fun k hk e => by have e1 : k = w.heap.size + 1 + 1 := e; have := (O9.out.lt k hk).1; omega)
  have A8 := own_keep hown7.out on8 (fun k hk e => by have e1 : k = w.heap.size + 1 + 1 := e; have := (hown7.out.lt k hk).1; omega)
  have R8 : RefS w.heap.size (.slice A2 (Vs.length + 1) c2) (.slice A4 (Vs.length + 1) c4) (Vs ++ [⟨r, key, val, del, al⟩]) ((w7.setCell ⟨w.heap.size + 1 + 1, 0, none⟩ (.slice A2 (Vs.length + 1) c2)).setCell ⟨w.heap.size + 1 + 1, 1, none⟩ (.slice A4 (Vs.length + 1) c4)) := ⟨by
    have := E8.mono (base' := w.heap.size) (by omega)
    simpa [flatE] using this, by
    have := A8.mono (base' := w.heap.size) (by omega)
    simpa using this⟩
  have R8 := Lib.hid R8
  have bel8 := Lib.hid bel8
  have res8 := Lib.hid res8
  clear E8 A8 on8 O9 hown7
  go_wp2
  generalize hw8 : ((w7.setCell ⟨w.heap.size + 1 + 1, 0, none⟩ (.slice A2 (Vs.length + 1) c2)).setCell ⟨w.heap.size + 1 + 1, 1, none⟩ (.slice A4 (Vs.length + 1) c4)) = w8 at *
  have r4 : w8.cell? ⟨w.heap.size + 1 + 1, 0, none⟩ = some (.slice A2 (Vs.length + 1) c2) := by simp [World.cell?, res8.out]
  have r5 : w8.cell? ⟨w.heap.size + 1 + 1, 1, none⟩ = some (.slice A4 (Vs.length + 1) c4) := by simp [World.cell?, res8.out]
  refine bodyPost_ret (v := .tuple #[.agg #[.slice A2 (Vs.length + 1) c2, .slice A4 (Vs.length + 1) c4], .int .i64 (Vs.length + 1 : Nat)]) ?_ rfl ⟨_, _, rfl, R8.out, bel8.out⟩
  simp [results, Try.results37, go_sem, r4, r5]
theorem rcells4 (w : World) (a b c d : Value) (t : TypeId) (k : Nat) (hk : k = w.heap.size) : ∀ j u, [a, b, c, d][j]? = some u → (w.alloc (.cells #[a, b, c, d] t)).cell? ((⟨k, 0, none⟩ : Addr).add j) = some u := by
  intro j u hj
  subst hk
  have hadd : (⟨w.heap.size, 0, none⟩ : Addr).add j = ⟨w.heap.size, j, none⟩ := by unfold Addr.add; split <;> simp_all
  have hn := heap_alloc_new w (.cells #[a, b, c, d] t)
  rw [hadd]
  simp only [World.cell?, hn]
  simpa using hj
theorem rcells1 (w : World) (a : Value) (t : TypeId) (k : Nat) (hk : k = w.heap.size) : ∀ j u, [a][j]? = some u → (w.alloc (.cells #[a] t)).cell? ((⟨k, 0, none⟩ : Addr).add j) = some u := by
  intro j u hj
  subst hk
  have hadd : (⟨w.heap.size, 0, none⟩ : Addr).add j = ⟨w.heap.size, j, none⟩ := by unfold Addr.add; split <;> simp_all
  have hn := heap_alloc_new w (.cells #[a] t)
  rw [hadd]
  simp only [World.cell?, hn]
  simpa using hj
set_option maxHeartbeats 8000000 in
set_option maxRecDepth 100000 in
theorem rput0 (w : World) (al r : Int) (key val : ByteArray) (del : Bool) :
    Calls Try.prog 37 #[.agg #[.slice none 0 0, .slice none 0 0], .int .i64 al, .agg #[.int .i64 r, .string key, .string val, .bool del]] w (RPut17 [] ⟨r, key, val, del, al⟩ w) := by
  obtain ⟨i0, hi, hzz⟩ := Option.map_eq_some_iff.1 info_ev
  simp only [Prod.mk.injEq] at hzz
  obtain ⟨hz0, hz1, hz2⟩ := hzz
  obtain ⟨i1, hi1, hzz1⟩ := Option.map_eq_some_iff.1 info_int
  simp only [Prod.mk.injEq] at hzz1
  obtain ⟨hy0, hy1, hy2⟩ := hzz1
  have F := Fp.start w (.slice none 0 0) (.slice none 0 0) r key val del
  have hown4 := newOwnE (((w.alloc (.cells #[.slice none 0 0, .slice none 0 0] 78)).alloc (.cells #[.int .i64 r, .string key, .string val, .bool del] 56)).alloc (.cells #[.slice none 0 0, .slice none 0 0] 78))
  rw [show (((w.alloc (.cells #[.slice none 0 0, .slice none 0 0] 78)).alloc (.cells #[.int .i64 r, .string key, .string val, .bool del] 56)).alloc (.cells #[.slice none 0 0, .slice none 0 0] 78)).heap.size = w.heap.size + 1 + 1 + 1 by simp] at hown4
  have F4 := Lib.hid (F.grown (World.grownBy_alloc _ (.cells #[] 56) none) (by simp))
  have hown4a := Lib.hid (hown4.alloc (.cells #[.int .i64 r, .string key, .string val, .bool del] 56))
  have hnews5 := Lib.hid (rcells4 ((((w.alloc (.cells #[.slice none 0 0, .slice none 0 0] 78)).alloc (.cells #[.int .i64 r, .string key, .string val, .bool del] 56)).alloc (.cells #[.slice none 0 0, .slice none 0 0] 78)).alloc (.cells #[] 56)) (.int .i64 r) (.string key) (.string val) (.bool del) 56 (w.heap.size + 1 + 1 + 1 + 1) (by simp))
  have hone5 : ∀ u ∈ evs ⟨r, key, val, del, al⟩, u.oneCell' = true := by
    intro u hu
    simp [evs] at hu
    rcases hu with rfl | rfl | rfl | rfl <;> rfl
  have hone5 := Lib.hid hone5
  have hown4 := Lib.hid hown4
  clear F
  go_enter Try.func37, Try.ntmps37
  go_wp2_with (at_builtin; refine wpList_append_own_at _ rfl _ _ 70 rfl (w.heap.size + 1 + 1 + 1) 56 i0 (.agg #[.int .i64 0, .string ⟨#[]⟩, .string ⟨#[]⟩, .bool false]) 4 48 Try.underlying70 hi hz0 hz1 hz2 rfl (by decide) _ _ _ rfl hown4a.out ⟨w.heap.size + 1 + 1 + 1 + 1, 0, none⟩ 1 1 (evs ⟨r, key, val, del, al⟩) rfl rfl hnews5.out hone5.out (by simp [maxLen]) (by omega) (by simp) ?_)
  intro v2 w5 hown5 hg5 _ hat5
  have F5 := Lib.hid ((F4.out.grown (World.grownBy_alloc _ (.cells #[.int .i64 r, .string key, .string val, .bool del] 56) none) (by simp)).grown hg5 (by
    intro k hk
    simp [Value.ownBlock] at hk
    omega))
  have hown5 := Lib.hid hown5
  clear hg5 hown4a hnews5 hone5 hat5 F4 hown4
  have q5 := F5.out.bel.size
  have q5r := lt_of_heap F5.out.res
  have hownI := newOwnI w5
  have F7 := Lib.hid (F5.out.grown (World.grownBy_alloc w5 (.cells #[] 3) none) (by simp))
  have O7 := Lib.hid (hown5.out.kept (row := none) (World.grownBy_alloc w5 (.cells #[] 3) none) (Classical.em _))
  obtain ⟨a0, a1⟩ : (w5.alloc (.cells #[] 3)).cell? ⟨w.heap.size, 0, none⟩ = some (.slice none 0 0) ∧ (w5.alloc (.cells #[] 3)).cell? ⟨w.heap.size, 1, none⟩ = some (.slice none 0 0) := by
    have := F7.out.arg
    simp [World.cell?, this]
  have n6 : (w5.alloc (.cells #[] 3)).heap[w5.heap.size]? = some (.cells #[] 3 (0, 0)) := heap_alloc_new w5 _
  have q65 : w5.heap.size < (w5.alloc (.cells #[] 3)).heap.size := by simp
  have hown6 := Lib.hid hownI
  have hown6a := Lib.hid (hownI.alloc (.cells #[.int .i64 al] 3))
  have hnews7 := Lib.hid (rcells1 (w5.alloc (.cells #[] 3)) (.int .i64 al) 3 (w5.heap.size + 1) (by simp))
  have hone7 : ∀ u ∈ ([Value.int .i64 al] : List Value), u.oneCell' = true := by
    intro u hu
    simp at hu
    subst hu
    rfl
  have hone7 := Lib.hid hone7
  have F8 := Lib.hid (F7.out.grown (World.grownBy_alloc _ (.cells #[.int .i64 al] 3) none) (by simp))
  have O8 := Lib.hid (O7.out.kept (row := none) (World.grownBy_alloc _ (.cells #[.int .i64 al] 3) none) (Classical.em _))
  clear hownI
  go_wp2_with (at_builtin; refine wpList_append_own_at _ rfl _ _ 76 rfl w5.heap.size 3 i1 (.int .i64 0) 1 8 Try.underlying76 hi1 hy0 hy1 hy2 rfl (by decide) _ _ _ rfl hown6a.out ⟨w5.heap.size + 1, 0, none⟩ 1 1 [Value.int .i64 al] rfl rfl hnews7.out hone7.out (by simp [maxLen]) (by omega) (by simp <;> omega) ?_)
  intro v4 w7 hown7 hg7 _ hat7
  have F9 := Lib.hid (F8.out.grown hg7 (by
    intro k hk
    have := (hown6.out.lt k hk).1
    omega))
  have O9 := Lib.hid (O8.out.kept hg7 (by
    cases hk : v2.ownBlock with
    | none => exact .inl rfl
    | some k =>
      right
      intro e
      have h1 := (hown5.out.lt k hk).2
      have h2 := (hown6.out.lt k e.symm).1
      omega))
  have hown7 := Lib.hid hown7
  clear hg7 hown6a hnews7 hone7 hat7
  have q7r := lt_of_heap F9.out.res
  obtain ⟨r0, r1, r2, r3⟩ : w7.cell? ⟨w.heap.size + 1 + 1, 0, none⟩ = some (.slice none 0 0) ∧ w7.cell? ⟨w.heap.size + 1 + 1, 1, none⟩ = some (.slice none 0 0) ∧ w7.frozen? ⟨w.heap.size + 1 + 1, 0, none⟩ = false ∧ w7.frozen? ⟨w.heap.size + 1 + 1, 1, none⟩ = false := by
    have := F9.out.res
    simp [World.cell?, World.frozen?, this]
  obtain ⟨A2, c2, e2, hc2⟩ := own_any' O9.out
  obtain ⟨A4, c4, e4, hc4⟩ := own_any' hown7.out
  subst e2
  subst e4
  have res8 : ((w7.setCell ⟨w.heap.size + 1 + 1, 0, none⟩ (.slice A2 1 c2)).setCell ⟨w.heap.size + 1 + 1, 1, none⟩ (.slice A4 1 c4)).heap[w.heap.size + 1 + 1]? = some (.cells #[.slice A2 1 c2, .slice A4 1 c4] 78 (0, 0)) := by
    have kk := F9.out.res
    simp [World.setCell, Array.getElem?_modify, kk]
  have bel8 : Below w.heap.size w ((w7.setCell ⟨w.heap.size + 1 + 1, 0, none⟩ (.slice A2 1 c2)).setCell ⟨w.heap.size + 1 + 1, 1, none⟩ (.slice A4 1 c4)) := (F9.out.bel.setCell (by simp; omega) _).setCell (by simp; omega) _
  have on8 : Only (fun k => k = w.heap.size + 1 + 1) w7 ((w7.setCell ⟨w.heap.size + 1 + 1, 0, none⟩ (.slice A2 1 c2)).setCell ⟨w.heap.size + 1 + 1, 1, none⟩ (.slice A4 1 c4)) := ((Only.refl (fun k => k = w.heap.size + 1 + 1) w7).setCell (p := ⟨w.heap.size + 1 + 1, 0, none⟩) (fun _ => rfl) _).setCell (p := ⟨w.heap.size + 1 + 1, 1, none⟩) (fun _ => rfl) _
  have E8 := own_keep O9.out on8 (fun k hk e => by have e1 : k = w.heap.size + 1 + 1 := e; have := (O9.out.lt k hk).1; omega)
  have A8 := own_keep hown7.out on8 (fun k hk e => by have e1 : k = w.heap.size + 1 + 1 := e; have := (hown7.out.lt k hk).1; omega)
  have R8 : RefS w.heap.size (.slice A2 1 c2) (.slice A4 1 c4) [⟨r, key, val, del, al⟩] ((w7.setCell ⟨w.heap.size + 1 + 1, 0, none⟩ (.slice A2 1 c2)).setCell ⟨w.heap.size + 1 + 1, 1, none⟩ (.slice A4 1 c4)) := ⟨by
    have := E8.mono (base' := w.heap.size) (by omega)
    exact this, by
    have := A8.mono (base' := w.heap.size) (by omega)
    exact this⟩
  have R8 := Lib.hid R8
  have bel8 := Lib.hid bel8
  have res8 := Lib.hid res8
  clear E8 A8 on8 O9 hown7
  go_wp2
  generalize hw8 : ((w7.setCell ⟨w.heap.size + 1 + 1, 0, none⟩ (.slice A2 1 c2)).setCell ⟨w.heap.size + 1 + 1, 1, none⟩ (.slice A4 1 c4)) = w8 at *
  have r4 : w8.cell? ⟨w.heap.size + 1 + 1, 0, none⟩ = some (.slice A2 1 c2) := by simp [World.cell?, res8.out]
  have r5 : w8.cell? ⟨w.heap.size + 1 + 1, 1, none⟩ = some (.slice A4 1 c4) := by simp [World.cell?, res8.out]
  refine bodyPost_ret (v := .tuple #[.agg #[.slice A2 1 c2, .slice A4 1 c4], .int .i64 1]) ?_ rfl ⟨_, _, rfl, R8.out, bel8.out⟩
  simp [results, Try.results37, go_sem, r4, r5]
end Go.Proofs.Ytllibgjajlgnbab.Ref17

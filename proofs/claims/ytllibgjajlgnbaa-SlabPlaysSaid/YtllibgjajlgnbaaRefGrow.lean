/- The reference's cells: Grow. -/
import Derived.Test.YtllibgjajlgnbaaRef
import Derived.Test.YtllibgjajlgnbaaRefLoad
import Derived.Laws.AppendOwnNone
import Derived.LoopTactic
namespace Go.Proofs.Ytllibgjajlgnbaa.Ref
open Go Go.RowKit Go.Proofs.Ytllibgjajlgnbaa.Only Go.Proofs.Ytllibgjajlgnbaa.Mem Go.Proofs.Ytllibgjajlgnbaa.New
set_option linter.unusedVariables false
set_option linter.unusedSimpArgs false
theorem Fr.grown {w0 w w' : World} {x0 x1 y0 y1 : Value} {row : Option Nat} (h : Fr w0 x0 x1 y0 y1 w) (hg : w.grownBy w' row) (hr : ∀ k, row = some k → w0.heap.size + 2 ≤ k) : Fr w0 x0 x1 y0 y1 w' := by
  refine ⟨?_, ?_, h.bel.grown hg h.bel.size (fun k hk => by have := hr k hk; omega)⟩
  · rw [hg.block _ (lt_of_heap h.arg) (fun e => by have := hr _ e.symm; omega)]; exact h.arg
  · rw [hg.block _ (lt_of_heap h.res) (fun e => by have := hr _ e.symm; omega)]; exact h.res

/-- What Grow answers. -/
def Grown (B : Nat) (s : Value) (w : World) (e : Ending) (w' : World) : Prop := ∃ s' cnt' D' y bad, e = .returned (.tuple #[.agg #[s', .int .i64 cnt'], .int .i64 y, .int .i64 bad]) ∧ RefNext B s s' D' w w'

set_option maxHeartbeats 4000000 in
set_option maxRecDepth 100000 in
theorem grow (s : Value) (D : List Int) (w : World) (B : Nat) (h : RefAt B s D w) (hB : B ≤ w.heap.size) (cnt n : Int) (hn : -9223372036854775808 ≤ n ∧ n ≤ 9223372036854775807) :
    Calls Try.prog 45 #[.agg #[s, .int .i64 cnt], .int .i64 n] w (Grown B s w) := by
  obtain ⟨i0, hi, hzz⟩ := Option.map_eq_some_iff.1 info_u64
  simp only [Prod.mk.injEq] at hzz
  obtain ⟨hz0, hz1, hz2⟩ := hzz
  obtain ⟨g, cap, hv, hBg, hc0, hm0, hgw, hcell, hf0⟩ := own_shape h.own h.pos
  subst hv
  have hpos := h.pos
  have hmost := h.most
  have H := Lib.hid h
  have F := Lib.hid (Fr.start w (.slice (some ⟨g, 0, none⟩) D.length cap) (.int .i64 cnt) (.slice none 0 0) (.int .i64 0))
  clear hcell hf0 h
  by_cases t0 : n < 0
  · have b0 : decide (n < 0) = true := by simpa using t0
    go_enter Try.func45, Try.ntmps45
    go_wp2
    have F4 := Fr.start w (.slice (some ⟨g, 0, none⟩) D.length cap) (.int .i64 cnt) (.slice (some ⟨g, 0, none⟩) D.length cap) (.int .i64 cnt)
    have hz := cell2 F4.res
    refine bodyPost_ret (v := .tuple #[.agg #[.slice (some ⟨g, 0, none⟩) D.length cap, .int .i64 cnt], .int .i64 0, .int .i64 7]) ?_ rfl ⟨_, cnt, D, 0, 7, rfl, ?_, .inl rfl, F4.bel⟩
    · generalize ((w.alloc (.cells #[.slice (some ⟨g, 0, none⟩) D.length cap, .int .i64 cnt] 37)).alloc (.cells #[.slice (some ⟨g, 0, none⟩) D.length cap, .int .i64 cnt] 37)) = wz at hz ⊢
      simp [results, Try.results45, go_sem, hz]
    · exact H.out.below F4.bel
  by_cases t1 : 65536 < n
  · have b0 : decide (n < 0) = false := by simpa using t0
    have b1 : decide (65536 < n) = true := by simpa using t1
    go_enter Try.func45, Try.ntmps45
    go_wp2
    have F4 := Fr.start w (.slice (some ⟨g, 0, none⟩) D.length cap) (.int .i64 cnt) (.slice (some ⟨g, 0, none⟩) D.length cap) (.int .i64 cnt)
    have hz := cell2 F4.res
    refine bodyPost_ret (v := .tuple #[.agg #[.slice (some ⟨g, 0, none⟩) D.length cap, .int .i64 cnt], .int .i64 0, .int .i64 7]) ?_ rfl ⟨_, cnt, D, 0, 7, rfl, ?_, .inl rfl, F4.bel⟩
    · generalize ((w.alloc (.cells #[.slice (some ⟨g, 0, none⟩) D.length cap, .int .i64 cnt] 37)).alloc (.cells #[.slice (some ⟨g, 0, none⟩) D.length cap, .int .i64 cnt] 37)) = wz at hz ⊢
      simp [results, Try.results45, go_sem, hz]
    · exact H.out.below F4.bel
  obtain ⟨N, rfl⟩ := Int.eq_ofNat_of_zero_le (Int.not_lt.1 t0)
  have b0 : decide ((N : Int) < 0) = false := by simp
  have b1 : decide (65536 < (N : Int)) = false := by simpa using t1
  by_cases t2 : 65536 < (D.length : Int) + N
  · have b2 : decide (65536 < (D.length : Int) + N) = true := by simpa using t2
    go_enter Try.func45, Try.ntmps45
    go_wp2
    have F4 := Fr.start w (.slice (some ⟨g, 0, none⟩) D.length cap) (.int .i64 cnt) (.slice (some ⟨g, 0, none⟩) D.length cap) (.int .i64 cnt)
    have hz := cell2 F4.res
    refine bodyPost_ret (v := .tuple #[.agg #[.slice (some ⟨g, 0, none⟩) D.length cap, .int .i64 cnt], .int .i64 0, .int .i64 7]) ?_ rfl ⟨_, cnt, D, 0, 7, rfl, ?_, .inl rfl, F4.bel⟩
    · generalize ((w.alloc (.cells #[.slice (some ⟨g, 0, none⟩) D.length cap, .int .i64 cnt] 37)).alloc (.cells #[.slice (some ⟨g, 0, none⟩) D.length cap, .int .i64 cnt] 37)) = wz at hz ⊢
      simp [results, Try.results45, go_sem, hz]
    · exact H.out.below F4.bel
  have b2 : decide (65536 < (D.length : Int) + N) = false := by simpa using t2
  have hown := newOwn ((w.alloc (.cells #[.slice (some ⟨g, 0, none⟩) D.length cap, .int .i64 cnt] 37)).alloc (.cells #[.slice none 0 0, .int .i64 0] 37))
  have hb3 := F.out.bel.alloc (F.out.bel.size) (.cells #[] 26)
  have hnews : ∀ j u, (D.map (Value.int .u64))[j]? = some u → (((w.alloc (.cells #[.slice (some ⟨g, 0, none⟩) D.length cap, .int .i64 cnt] 37)).alloc (.cells #[.slice none 0 0, .int .i64 0] 37)).alloc (.cells #[] 26)).cell? ((⟨g, 0, none⟩ : Addr).add j) = some u := by
    intro j u hj
    have h1 := H.out.own.cells (g := g) rfl j u hj
    rw [hb3.cell (by simp [Addr.add]; split <;> simpa using hgw)]
    exact h1
  have F2 := F.out.grown (World.grownBy_alloc _ (.cells #[] 26) none) (by simp)
  have hown := Lib.hid hown
  have hnews := Lib.hid hnews
  have F2 := Lib.hid F2
  clear hb3
  simp at hown
  go_enter Try.func45, Try.ntmps45
  go_wp2_with (at_builtin; refine wpList_append_own_at _ rfl _ _ 22 rfl (w.heap.size + 1 + 1) 26 i0 (.int .u64 0) 1 8 Try.underlying22 hi hz0 hz1 hz2 rfl (by decide) _ _ _ rfl hown.out ⟨g, 0, none⟩ D.length cap (D.map (Value.int .u64)) rfl (by simp) hnews.out (u64_one D) (by simp [maxLen]; omega) (by omega) (by simp) ?_)
  intro v' w4 hown4 hg4 _ _
  have F4 := F2.out.grown hg4 (by intro k hk; simp [Value.ownBlock] at hk; omega)
  have hown4 := Lib.hid hown4
  have F4 := Lib.hid F4
  clear hg4 hown hnews F2 F
  go_wp2_with fail
  go_loopw [7, 8] (fun c i wr => ∃ k : Nat, k ≤ N ∧ i = .int .i64 k ∧ Hid (wr.ownsRow (w.heap.size + 1 + 1) 26 1 c (D.length + k) ((D ++ List.replicate k 0).map (Value.int .u64))) ∧ Hid (Fr w (.slice (some ⟨g, 0, none⟩) D.length cap) (.int .i64 cnt) (.slice none 0 0) (.int .i64 0) wr))
    (fun _ i _ => N - (intOf i).toNat)
  case atStart => exact ⟨0, by omega, rfl, by simpa using hown4, F4⟩
  case round =>
    obtain ⟨k, hk, rfl, hc, hF⟩ := hrel
    by_cases hlt : k < N
    · have b3 : decide ((k : Int) < N) = true := by simp; omega
      have hsz := hF.out.bel.size
      have hsz2 := lt_of_heap hF.out.res
      go_wp2_with (at_builtin; refine wpList_append_own_at _ rfl _ _ 22 rfl (w.heap.size + 1 + 1) 26 i0 (.int .u64 0) 1 8 Try.underlying22 hi hz0 hz1 hz2 rfl (by decide) _ _ _ rfl (hc.out.kept (row := none) (World.grownBy_alloc _ _ none) ?k1) ⟨_, 0, none⟩ 1 1 [.int .u64 0] rfl rfl (cell_one_new _ _ _) ?k2 ?k3 ?k4 ?k5 ?_)
      case k1 => exact Classical.em _
      case k2 => intro u hu; simp at hu; subst hu; rfl
      case k3 => simp [maxLen]; omega
      case k4 => omega
      case k5 => simp; omega
      intro v2 w5 h5 hg5 _ _
      have h5 : w5.ownsRow (w.heap.size + 1 + 1) 26 1 v2 (D.length + (k + 1)) ((D ++ List.replicate (k + 1) 0).map (Value.int .u64)) := by
        have e : (D ++ List.replicate (k + 1) 0).map (Value.int .u64) = List.map (Value.int IntKind.u64) D ++ (List.replicate k (Value.int IntKind.u64 0) ++ [Value.int IntKind.u64 0]) := by simp [List.replicate_succ']
        rw [e, ← Nat.add_assoc]; exact h5
      have F5 := (hF.out.grown (World.grownBy_alloc wr (.cells #[.int .u64 0] 26) none) (by simp)).grown hg5 (by
        intro j hj
        rcases hc.out.2 with ⟨e, _⟩ | ⟨g7, _, _, e, hb7, _⟩
        · rw [e] at hj; cases hj
        · rw [e] at hj; cases hj; omega)
      have h5 := Lib.hid h5
      have F5 := Lib.hid F5
      clear hg5
      go_wp2
      go_roundw
      case rel => exact ⟨k + 1, by omega, by go_num, h5, F5⟩
      case measure => simp [intOf]; omega
    · have b3 : decide ((k : Int) < N) = false := by simp; omega
      obtain rfl : k = N := by omega
      obtain ⟨a0, a1, a2, a3⟩ := cell2 hF.out.arg
      obtain ⟨r0, r1, r2, r3⟩ := cell2 hF.out.res
      obtain ⟨A', cap', hs', hcap'⟩ := own_any hc.out
      subst hs'
      go_wp2_with fail
      go_region_held3 (fun w' => w'.cell? ⟨w.heap.size, 0, none⟩ = some (.slice (some ⟨g, 0, none⟩) D.length cap) ∧ w'.cell? ⟨w.heap.size, 1, none⟩ = some (.int .i64 cnt))
        (first | go_keep) (fail)
      go_wp2
      have F6 := (hF.out.put (.slice A' (D.length + k) cap') (.int .i64 cnt)).drew
      have hz := cell2 F6.res
      refine bodyPost_ret (v := .tuple #[.agg #[.slice A' (D.length + k) cap', .int .i64 cnt], .int .i64 D.length, .int .i64 0]) ?_ rfl ⟨_, cnt, D ++ List.replicate k 0, D.length, 0, rfl, ?_, ?_, F6.bel⟩
      · generalize ((wr.setCell ⟨w.heap.size + 1, 0, none⟩ (.slice A' (D.length + k) cap')).setCell ⟨w.heap.size + 1, 1, none⟩ (.int .i64 cnt)).drew = wz at hz ⊢
        simp [results, Try.results45, go_sem, hz]
      · have q : RefAt (w.heap.size + 1 + 1) (.slice A' (D.length + k) cap') (D ++ List.replicate k 0) wr := ⟨by simpa using hc.out, by simp; omega, by simp; omega⟩
        exact ((q.put2 (k := w.heap.size + 1) (by omega) _ _).drew).lower (by omega)
      · refine .inr (fun j hj => ?_)
        have q : RefAt (w.heap.size + 1 + 1) (.slice A' (D.length + k) cap') (D ++ List.replicate k 0) wr := ⟨by simpa using hc.out, by simp; omega, by simp; omega⟩
        have := q.gbase hj
        omega
end Go.Proofs.Ytllibgjajlgnbaa.Ref

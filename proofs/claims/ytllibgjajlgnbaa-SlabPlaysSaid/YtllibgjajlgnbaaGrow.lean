/- package mem: Grow. -/
import Derived.Test.YtllibgjajlgnbaaNew
namespace Go.Proofs.Ytllibgjajlgnbaa.Grow
open Go Go.RowKit Go.Proofs.Ytllibgjajlgnbaa.Only Go.Proofs.Ytllibgjajlgnbaa.Mem Go.Proofs.Ytllibgjajlgnbaa.New
set_option linter.unusedVariables false
set_option linter.unusedSimpArgs false

theorem u64_zero (N : Nat) : ∀ u ∈ List.replicate N (Value.int .u64 0), u.oneCell' = true := by
  intro u hu
  rw [List.eq_of_mem_replicate hu]
  rfl

/-- What add leaves. -/
def Added (B p : Nat) (v : Value) (C : List Int) (n : Int) (N : Nat) (w : World) (e : Ending) (w' : World) : Prop :=
  e = .returned (.tuple #[]) ∧ ∃ v', MemAt B p v' (C ++ List.replicate N 0) n w' ∧ Only (Foot p v) w w' ∧ (v'.ownBlock = v.ownBlock ∨ v'.ownBlock = some w.heap.size)

set_option maxHeartbeats 1000000 in
set_option maxRecDepth 100000 in
theorem add {B p : Nat} {v : Value} {C : List Int} {n : Int} {w : World} (h : MemAt B p v C n w) (hB : B ≤ w.heap.size) (f N : Nat) (hN : C.length + N ≤ 65536)
    (hnews : ∀ j u, (List.replicate N (Value.int .u64 0))[j]? = some u → w.cell? ((⟨f, 0, none⟩ : Addr).add j) = some u) :
    Calls Try.prog 53 #[.pointer (some ⟨p, 0, none⟩), .slice (some ⟨f, 0, none⟩) N N] w (Added B p v C n N w) := by
  obtain ⟨i0, hi, hzz⟩ := Option.map_eq_some_iff.1 info_u64
  simp only [Prod.mk.injEq] at hzz
  obtain ⟨hz0, hz1, hz2⟩ := hzz
  have c0 := h.c0
  have H := Lib.hid h
  have hnews := Lib.hid hnews
  clear h
  go_enter Try.func53, Try.ntmps53
  go_wp2_with (at_builtin; refine wpList_append_own_at _ rfl _ _ 22 rfl B 26 i0 (.int .u64 0) 1 8 Try.underlying22 hi hz0 hz1 hz2 rfl (by decide) v C.length (C.map (Value.int .u64)) rfl H.out.own ⟨f, 0, none⟩ N N (List.replicate N (Value.int .u64 0)) rfl (by simp) hnews.out (u64_zero N) (by simp [maxLen]; omega) (by omega) hB ?_)
  intro v' w4 hown4 hg4 _ hat
  have hl := H.out.lt
  have hpv : v'.ownBlock ≠ some p := by
    rcases hat with e | e
    · rw [e]; exact H.out.ne
    · rw [e]; intro e2; cases e2; omega
  have hblk : w4.heap[p]? = some (.cells #[v, .int .i64 n] 80 (0, 0)) := by rw [hg4.block _ hl (fun e => H.out.ne e.symm)]; exact H.out.blk
  have d0 : w4.cell? ⟨p, 0, none⟩ = some v := by simp [World.cell?, hblk]
  have d1 : w4.frozen? ⟨p, 0, none⟩ = false := by simp [World.frozen?, hblk]
  have ho4 : Only (Foot p v) w w4 := (refl _ w).grown hg4 (fun k hk _ => .inr hk)
  have hown4 := Lib.hid hown4
  have ho4 := Lib.hid ho4
  have hat := Lib.hid hat
  have hpv := Lib.hid hpv
  have hblk := Lib.hid hblk
  obtain ⟨A', cap', hs', hcap'⟩ := own_any hown4.out
  subst hs'
  clear hg4 c0
  go_wp2
  go_end0
  refine ⟨rfl, _, ⟨H.out.base, ?_, ?_, hpv.out⟩, ho4.out.setCell (p := ⟨p, 0, none⟩) (fun _ => .inl rfl) _, hat.out⟩
  · have hb := hblk.out
    simp [World.setCell, Array.getElem?_modify, hb]
  · have q := hown4.out.kept (w' := w4.setCell ⟨p, 0, none⟩ (.slice A' (C.length + N) cap')) (row := some p) ⟨rfl, rfl, rfl, by simp [World.setCell], fun k _ hk => Below.heap_setCell _ _ _ _ (fun e => hk (by simp [e]))⟩ (.inr hpv.out)
    simpa using q

set_option maxRecDepth 100000 in
theorem grow_bad {B p : Nat} {v : Value} {C : List Int} {n : Int} {w : World} (h : MemAt B p v C n w) (hC : C.length ≤ 65536) (N : Int) (hN : -9223372036854775808 ≤ N ∧ N ≤ 9223372036854775807) (hb : N < 0 ∨ 65536 < C.length + N) :
    Calls Try.prog 44 #[.pointer (some ⟨p, 0, none⟩), .int .i64 N] w fun e w' => e = .returned (.tuple #[.int .i64 0, .int .i64 7]) ∧ w = w' := by
  have c0 := h.c0
  obtain ⟨A, cap, rfl, hc⟩ := own_any h.own
  clear h
  by_cases h0 : N < 0
  · have b0 : decide (N < 0) = true := by simpa using h0
    clear hb
    go_enter Try.func44, Try.ntmps44
    go_wp2
    go_ret2
    exact ⟨rfl, rfl⟩
  · have b0 : decide (N < 0) = false := by simpa using h0
    have hb2 : 65536 - (C.length : Int) < N := by omega
    have b1 : decide (65536 - (C.length : Int) < N) = true := by simpa using hb2
    clear hb
    go_enter Try.func44, Try.ntmps44
    go_wp2
    go_ret2
    exact ⟨rfl, rfl⟩

/-- What Grow leaves. -/
def Grown (B p : Nat) (v : Value) (C : List Int) (n : Int) (N : Nat) (w : World) (e : Ending) (w' : World) : Prop :=
  e = .returned (.tuple #[.int .i64 C.length, .int .i64 0]) ∧ ∃ v', MemAt B p v' (C ++ List.replicate N 0) n w' ∧ Only (Foot p v) w w' ∧ (v'.ownBlock = v.ownBlock ∨ v'.ownBlock = some (w.heap.size + 1))

set_option maxHeartbeats 1000000 in
set_option maxRecDepth 100000 in
theorem grow {B p : Nat} {v : Value} {C : List Int} {n : Int} {w : World} (h : MemAt B p v C n w) (hB : B ≤ w.heap.size) (N : Nat) (hN : C.length + N ≤ 65536) :
    Calls Try.prog 44 #[.pointer (some ⟨p, 0, none⟩), .int .i64 N] w (Grown B p v C n N w) := by
  have c0 := h.c0
  have hmk := run_make_row' (P := Try.prog) 22 26 (.int .u64 0) 8 Try.underlying22 info_u64 rfl .i64 .i64 N (by omega) (by omega)
  have hbw : Below w.heap.size w (w.alloc (.cells (madeCells #[.int .u64 0] N) 26)) := (Below.refl _ _).alloc (Nat.le_refl _) _
  have hw2 := Lib.hid (h.below hbw)
  have hnews : ∀ j u, (List.replicate N (Value.int .u64 0))[j]? = some u → (w.alloc (.cells (madeCells #[.int .u64 0] N) 26)).cell? ((⟨w.heap.size, 0, none⟩ : Addr).add j) = some u := by
    intro j u hj
    have hadd : (⟨w.heap.size, 0, none⟩ : Addr).add j = ⟨w.heap.size, j, none⟩ := by unfold Addr.add; split <;> simp_all
    have hn := heap_alloc_new w (.cells (madeCells #[.int .u64 0] N) 26)
    rw [← toList_madeCells_one] at hj
    simp only [World.cell?, hadd, hn]
    simpa using hj
  obtain ⟨A, cap, hv, hc⟩ := own_any h.own
  have hb := Lib.hid hbw
  have H := Lib.hid h
  have hnews := Lib.hid hnews
  have b0 : decide ((N : Int) < 0) = false := by simp
  have b1 : decide (65536 - (C.length : Int) < N) = false := by simp; omega
  subst hv
  clear h hbw
  go_enter Try.func44, Try.ntmps44
  go_wp2_with fail
  refine (add hw2.out (by simp; omega) w.heap.size N hN hnews.out).mono ?_
  rintro e w3 ⟨rfl, v', h3, ho, hat⟩
  have K := Lib.hid (And.intro h3 (And.intro ho hat))
  clear h3 ho hat hnews hw2
  go_wp2
  go_ret2
  obtain ⟨h3, ho, hat⟩ := K.out
  refine ⟨rfl, v', h3, ?_, by simpa using hat⟩
  exact ((ofBelow hb.out).trans ho (fun _ _ x => x))
end Go.Proofs.Ytllibgjajlgnbaa.Grow

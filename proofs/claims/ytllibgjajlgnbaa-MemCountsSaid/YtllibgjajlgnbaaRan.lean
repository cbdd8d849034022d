/- A deed of any kind; cells behind deeds. -/
import Derived.Test.YtllibgjajlgnbaaDoGrow
import Derived.Test.YtllibgjajlgnbaaArgs
import Derived.LoopTactic
import Derived.Deep.RegionHeld3
namespace Go.Proofs.Ytllibgjajlgnbaa.Ran
open Go Go.RowKit Go.Proofs.Ytllibgjajlgnbaa.Only Go.Proofs.Ytllibgjajlgnbaa.Mem Go.Proofs.Ytllibgjajlgnbaa.New Go.Proofs.Ytllibgjajlgnbaa.Do Go.Proofs.Ytllibgjajlgnbaa.Args
set_option linter.unusedVariables false
set_option linter.unusedSimpArgs false

theorem deed {B p : Nat} {v s : Value} {C D : List Int} {n : Int} {w : World} (h : MemAt B p v C n w) (hC : C.length ≤ 65536) (hr : Ref.RefAt B s D w) (hap : Apart p v s) (hB : B ≤ w.heap.size) (cnt k a o x : Int) (ha : -9223372036854775808 ≤ a ∧ a ≤ 9223372036854775807) (hn : 0 ≤ n ∧ n < 4611686018427387904) :
    Calls Try.prog 18 #[.pointer (some ⟨p, 0, none⟩), .agg #[s, .int .i64 cnt], .agg #[.int .i64 k, .int .i64 a, .int .u64 o, .int .u64 x]] w (Did B p v (doC C k a o x) (doN C k a n) w) := by
  by_cases h1 : k = 1
  · subst h1; exact Do.load h hr hap hB cnt a o x ha hn
  by_cases h2 : k = 2
  · subst h2; exact Do.store h hr hap hB cnt a o x ha hn
  by_cases h3 : k = 3
  · subst h3; exact Do.cas h hr hap hB cnt a o x ha hn
  by_cases h4 : k = 4
  · subst h4; exact Do.add h hr hap hB cnt a o x ha hn
  have e : doN C k a n = n := by unfold doN; rw [if_neg (by omega)]
  rw [e]
  exact Do.grows h hC hr hap hB cnt k a o x ha (by omega)

theorem hit_range (C : List Int) (a : Int) : 0 ≤ hit C a ∧ hit C a ≤ 1 := by unfold hit; split <;> omega
theorem doN_range (C : List Int) (k a n : Int) : n ≤ doN C k a n ∧ doN C k a n ≤ n + 1 := by
  have := hit_range C a
  unfold doN; split <;> omega
theorem doC_length (C : List Int) (k a o x : Int) (h8 : 8 ≤ C.length) (hm : C.length ≤ 65536) : 8 ≤ (doC C k a o x).length ∧ (doC C k a o x).length ≤ 65536 := by
  have e1 : (casAt C a o x).length = C.length := by unfold casAt; split; exact setAt_length _ _ _; rfl
  have e2 : (addAt C a x).length = C.length := by unfold addAt; exact setAt_length _ _ _
  have e3 := setAt_length C a x
  unfold doC
  split; omega
  split; omega
  split; omega
  split; omega
  split
  · omega
  · simp; omega

theorem Open_i64 {n : Int} (h : IntKind.i64.has n) : -9223372036854775808 ≤ n ∧ n ≤ 9223372036854775807 := h

/-- What ran leaves. -/
def RanTo (W : World) (e : Ending) (w' : World) : Prop :=
  ∃ p v C n, e = .returned (.pointer (some ⟨p, 0, none⟩)) ∧ MemAt W.heap.size p v C n w' ∧ 8 ≤ C.length ∧ C.length ≤ 65536 ∧ 0 ≤ n ∧ n ≤ 60 ∧ Below W.heap.size W w'

/-- What holds at each round: the cells, the reference's, which lie in block q, and the counter. -/
structure Round (W : World) (p q : Nat) (k : Nat) (v s : Value) (cnt : Int) (C D : List Int) (n : Int) (wr : World) : Prop where
  mem : MemAt W.heap.size p v C n wr
  ref : Ref.RefAt W.heap.size s D wr
  ap : Apart p v s
  x : wr.heap[q]? = some (.cells #[s, .int .i64 cnt] 37 (0, 0))
  qB : W.heap.size ≤ q
  qf : ¬ Foot p v q
  qs : s.ownBlock ≠ some q
  c8 : 8 ≤ C.length
  cm : C.length ≤ 65536
  n0 : 0 ≤ n
  nk : n ≤ k
  bel : Below W.heap.size W wr

theorem Round.drew {W : World} {p q k : Nat} {v s : Value} {cnt : Int} {C D : List Int} {n : Int} {wr : World} (h : Round W p q k v s cnt C D n wr) : Round W p q k v s cnt C D n wr.drew :=
  ⟨⟨h.mem.base, h.mem.blk, h.mem.own, h.mem.ne⟩, h.ref.drew, h.ap, h.x, h.qB, h.qf, h.qs, h.c8, h.cm, h.n0, h.nk, h.bel.drew⟩

theorem Round.next {W : World} {p q k : Nat} {v s : Value} {cnt : Int} {C D : List Int} {n : Int} {wr w' : World} (h : Round W p q k v s cnt C D n wr) (hb : Below wr.heap.size wr w') : Round W p q k v s cnt C D n w' :=
  ⟨h.mem.below hb, h.ref.below hb, h.ap, (hb.block _ (lt_of_heap h.x)).trans h.x, h.qB, h.qf, h.qs, h.c8, h.cm, h.n0, h.nk, h.bel.trans (hb.mono h.bel.size)⟩

/-- A block of the reference's structs is none of the others. -/
theorem apart37 {B p j : Nat} {v s : Value} {C D : List Int} {n : Int} {w : World} {cs : Array Value} (m : MemAt B p v C n w) (r : Ref.RefAt B s D w) (hj : w.heap.size ≤ j ∨ w.heap[j]? = some (.cells cs 37 (0, 0))) : ¬ Foot p v j ∧ s.ownBlock ≠ some j := by
  rcases hj with hj | hj
  · exact ⟨foot_lt m j hj, fun e => by have := ref_lt r j e; omega⟩
  · refine ⟨fun hf => ?_, fun e => ?_⟩
    · rcases hf with e | e
      · rw [e, m.blk] at hj; cases hj
      · rcases m.own.2 with ⟨h2, _⟩ | ⟨g, cap, cur, hg, hb, hgg, _⟩
        · rw [h2] at e; cases e
        · rw [hg] at e; cases e; rw [hgg] at hj; cases hj
    · rcases r.own.2 with ⟨h2, _⟩ | ⟨g, cap, cur, hg, hb, hgg, _⟩
      · rw [h2] at e; cases e
      · rw [hg] at e; cases e; rw [hgg] at hj; cases hj

theorem Round.step {W w5 w7 : World} {p q k t : Nat} {v s : Value} {cnt n : Int} {C D : List Int} {cs ct : Array Value} (m : MemAt W.heap.size p v C n w5) (r : Ref.RefAt W.heap.size s D w5) (ap : Apart p v s) (x5 : w5.heap[q]? = some (.cells cs 37 (0, 0))) (qB : W.heap.size ≤ q)
    (B5 : Below W.heap.size W w5) (c8 : 8 ≤ C.length) (cm : C.length ≤ 65536) (n0 : 0 ≤ n) (nk : n ≤ k) (ht : w5.heap.size ≤ t ∨ w5.heap[t]? = some (.cells ct 37 (0, 0))) (tB : W.heap.size ≤ t)
    (o7 : Only (fun j => j = q ∨ j = t) w5 w7) (x7 : w7.heap[q]? = some (.cells #[s, .int .i64 cnt] 37 (0, 0))) : Round W p q k v s cnt C D n w7 := by
  obtain ⟨a1, a2⟩ := apart37 m r (.inr x5)
  obtain ⟨b1, b2⟩ := apart37 m r ht
  have hp : ∀ j, Foot p v j → ¬ (j = q ∨ j = t) := fun j hj e => by rcases e with e | e <;> subst e; exact a1 hj; exact b1 hj
  refine ⟨m.keep o7 (hp p (.inl rfl)) (fun j hj => hp j (.inr hj)), r.keep o7 (fun j hj e => by rcases e with e | e <;> subst e; exact a2 hj; exact b2 hj), ap, x7, qB, a1, a2, c8, cm, n0, nk, B5.trans (o7.toBelow _ B5.size (fun j _ e => by rcases e with e | e <;> omega))⟩

set_option maxHeartbeats 4000000 in
set_option maxRecDepth 100000 in
theorem ran (V : Value) (ds : List (List Int)) (W : World) (hV : Structs [.i64, .i64, .u64, .u64] W V ds) :
    Calls Try.prog 17 #[.int .i64 8, V] W (RanTo W) := by
  obtain ⟨⟨A, cap, rfl, hl, hx⟩, hr⟩ := hV
  unfold maxLen at hl
  have hx := Lib.hid hx
  have hr := Lib.hid hr
  have hmk : ∀ w : World, (Instr.makeSlice 22 (.int .i64 8) (.int .i64 8)).run Try.prog w = .ok (.slice (some ⟨w.heap.size, 0, none⟩) 8 8) (w.alloc (.cells (madeCells #[.int .u64 0] 8) 26)) := run_make_row' (P := Try.prog) 22 26 (.int .u64 0) 8 Try.underlying22 info_u64 rfl .i64 .i64 8 (by omega) (by omega)
  go_enter Try.func17, Try.ntmps17
  go_wp2_with fail
  refine (New.new 8 (by omega) W).mono ?_
  rintro e w1 ⟨p, v, rfl, h1, hb1⟩
  have h1 := Lib.hid h1
  have hb1 := Lib.hid hb1
  go_wp2_with fail
  have hb2 : Below w1.heap.size w1 ((w1.alloc (.cells (madeCells #[.int .u64 0] 8) 26)).alloc (.cells #[.slice (some ⟨w1.heap.size, 0, none⟩) 8 8, .int .i64 0] 37)) := ((Below.refl _ _).alloc (Nat.le_refl _) _).alloc (by simp) _
  have R : Round W p (w1.heap.size + 1) 0 v (.slice (some ⟨w1.heap.size, 0, none⟩) 8 8) 0 (List.replicate 8 0) (List.replicate 8 0) 0 ((w1.alloc (.cells (madeCells #[.int .u64 0] 8) 26)).alloc (.cells #[.slice (some ⟨w1.heap.size, 0, none⟩) 8 8, .int .i64 0] 37)) := by
    have hlow := foot_lt h1.out
    have hs1 := hb1.out.size
    refine ⟨h1.out.below hb2, ⟨?_, by simp, by simp⟩, ?_, ?_, by omega, fun hf => hlow _ (by omega) hf, by simp [Value.ownBlock], by simp, by simp, by omega, by omega, hb1.out.trans (hb2.mono hs1)⟩
    · have h := World.ownsRow_lit (base := W.heap.size) w1 (madeCells #[.int .u64 0] 8) (size := 1) (e := 26) 8 hs1 (by simp [maxLen]) (by rw [size_madeCells])
      rw [toList_madeCells_one] at h
      have h2 := h.kept (row := none) (World.grownBy_alloc _ (.cells #[.slice (some ⟨w1.heap.size, 0, none⟩) 8 8, .int .i64 0] 37) none) (.inr (by simp [Value.ownBlock]))
      simpa using h2
    · intro k hk
      have e : w1.heap.size = k := by simpa [Value.ownBlock] using hk
      exact ⟨fun hh => hlow k (by omega) (.inl hh), fun hh => hlow k (by omega) (.inr hh)⟩
    · have h := heap_alloc_new (w1.alloc (.cells (madeCells #[.int .u64 0] 8) 26)) (.cells #[.slice (some ⟨w1.heap.size, 0, none⟩) 8 8, .int .i64 0] 37)
      simpa using h
  have R := Lib.hid R
  clear hb2
  go_loopw [7] (fun i wr => ∃ k v s cnt C D n, k ≤ ds.length ∧ k ≤ 60 ∧ i = .int .i64 k ∧ Hid (Round W p (w1.heap.size + 1) k v s cnt C D n wr))
    (fun i _ => 60 - (intOf i).toNat)
  case atStart => exact ⟨0, v, _, 0, _, _, 0, by omega, by omega, rfl, R⟩
  case round =>
    clear R
    obtain ⟨k, v, s, cnt, C, D, n, hk, hk60, rfl, R⟩ := hrel
    obtain ⟨A1, cap1, hs1, hcap1⟩ := own_any R.out.ref.own
    subst hs1
    obtain ⟨a0, a1, a2, a3⟩ := Ref.cell2 R.out.x
    by_cases hlt : k < ds.length ∧ k < 60
    · obtain ⟨hlt, hlt60⟩ := hlt
      obtain ⟨x, rfl, hxb, hxc⟩ := hx.out k hlt
      have b1 : decide ((k : Int) < ds.length) = true := by simp; omega
      have b2 : decide ((k : Int) < 60) = true := by simp; omega
      go_wp2_with fail
      have c0 := hxc 0 .i64 rfl
      have c1 := hxc 1 .i64 rfl
      have c2 := hxc 2 .u64 rfl
      have c3 := hxc 3 .u64 rfl
      have g1 := hr.out k hlt 1 .i64 rfl
      generalize (ds.getD k []).getD 0 0 = dk at *
      generalize (ds.getD k []).getD 1 0 = da at *
      generalize (ds.getD k []).getD 2 0 = dold at *
      generalize (ds.getD k []).getD 3 0 = dx at *
      clear hxc
      have hcell : ∀ (w' : World), Below W.heap.size W w' → w'.cell? (x.add (k * 4)) = some (.int .i64 dk) ∧ w'.cell? ⟨(x.add (k * 4)).block, (x.add (k * 4)).off + 1, none⟩ = some (.int .i64 da) ∧ w'.cell? ⟨(x.add (k * 4)).block, (x.add (k * 4)).off + 2, none⟩ = some (.int .u64 dold) ∧ w'.cell? ⟨(x.add (k * 4)).block, (x.add (k * 4)).off + 3, none⟩ = some (.int .u64 dx) := by
        intro w' hb
        refine ⟨?_, ?_, ?_, ?_⟩
        · rw [hb.cell (by simpa [add_block] using hxb)]; simpa [Addr.add] using c0
        · rw [hb.cell (by simpa [add_block] using hxb)]; exact c1
        · rw [hb.cell (by simpa [add_block] using hxb)]; exact c2
        · rw [hb.cell (by simpa [add_block] using hxb)]; exact c3
      obtain ⟨e0, e1, e2, e3⟩ := hcell wr R.out.bel
      have hcell := Lib.hid hcell
      clear c0 c1 c2 c3
      have Rd := Lib.hid R.out.drew
      have Rd2 := Lib.hid (R.out.next ((Below.refl _ _).alloc (Nat.le_refl _) (.cells #[.slice none 0 0, .int .i64 0] 37))).drew
      have g1 := Open_i64 g1
      have hqw := lt_of_heap R.out.x
      have hWw := R.out.bel.size
      have ne1 : ¬ wr.heap.size = w1.heap.size + 1 := by omega
      have ne2 : ¬ wr.heap.size = (x.add (k * 4)).block := by rw [add_block]; omega
      have ne3 : ∀ o, ¬ (⟨wr.heap.size, o, none⟩ : Addr) = x.add (k * 4) := fun o e => ne2 (by rw [← e])
      have ne4 : ¬ w1.heap.size + 1 = wr.heap.size := by omega
      have ne5 : ¬ (x.add (k * 4)).block = wr.heap.size := fun e => ne2 e.symm
      have ne6 : ∀ o, ¬ x.add (k * 4) = (⟨wr.heap.size, o, none⟩ : Addr) := fun o e => ne3 o e.symm
      go_wp2_with fail
      go_region_held3 (fun w' => w'.cell? ⟨w1.heap.size + 1, 0, none⟩ = some (.slice A1 D.length cap1) ∧ w'.cell? ⟨w1.heap.size + 1, 1, none⟩ = some (.int .i64 cnt) ∧ w'.cell? (x.add (k * 4)) = some (.int .i64 dk) ∧ w'.cell? ⟨(x.add (k * 4)).block, (x.add (k * 4)).off + 1, none⟩ = some (.int .i64 da) ∧ w'.cell? ⟨(x.add (k * 4)).block, (x.add (k * 4)).off + 2, none⟩ = some (.int .u64 dold) ∧ w'.cell? ⟨(x.add (k * 4)).block, (x.add (k * 4)).off + 3, none⟩ = some (.int .u64 dx))
        (first | go_keep | exact S5)
        (first
                | (go_at_call 18; refine (deed Rd.out.mem Rd.out.cm Rd.out.ref Rd.out.ap Rd.out.bel.size cnt dk da dold dx g1 ?_).mono ?_; (have := Rd.out.n0; have := Rd.out.nk; omega); rintro e w5 ⟨v', s', cnt', D', ok, rfl, m5, r5, ap5, o5, hv5⟩ ; obtain ⟨A5, cap5, hs5, hcap5⟩ := own_any r5.own ; subst hs5 ; have x5 := (o5.block _ (lt_of_heap Rd.out.x) Rd.out.qf).trans Rd.out.x ; obtain ⟨y0, y1, y2, y3⟩ := Ref.cell2 x5 ; have B5 := Rd.out.bel.trans (footB Rd.out.mem o5 Rd.out.bel.size) ; obtain ⟨z0, z1, z2, z3⟩ := hcell.out w5 B5 ; have S5 := And.intro y0 (And.intro y1 (And.intro z0 (And.intro z1 (And.intro z2 z3)))) ; have K5 := Lib.hid (And.intro m5 (And.intro r5 (And.intro ap5 (And.intro o5 (And.intro hv5 (And.intro x5 B5)))))) ; clear m5 r5 ap5 o5 hv5 x5 B5)
                | (go_at_call 18; refine (deed Rd2.out.mem Rd2.out.cm Rd2.out.ref Rd2.out.ap Rd2.out.bel.size cnt dk da dold dx g1 ?_).mono ?_; (have := Rd2.out.n0; have := Rd2.out.nk; omega); rintro e w5 ⟨v', s', cnt', D', ok, rfl, m5, r5, ap5, o5, hv5⟩ ; obtain ⟨A5, cap5, hs5, hcap5⟩ := own_any r5.own ; subst hs5 ; have x5 := (o5.block _ (lt_of_heap Rd2.out.x) Rd2.out.qf).trans Rd2.out.x ; obtain ⟨y0, y1, y2, y3⟩ := Ref.cell2 x5 ; have B5 := Rd2.out.bel.trans (footB Rd2.out.mem o5 Rd2.out.bel.size) ; obtain ⟨z0, z1, z2, z3⟩ := hcell.out w5 B5 ; have x6 := (o5.block wr.heap.size (by simp) (fun hh => by have := foot_lt2 R.out.mem hh; omega)).trans (Ref.new2 wr (.slice none 0 0) (.int .i64 0) 37) ; obtain ⟨t0, t1, t2, t3⟩ := Ref.cell2 x6 ; have S5 := And.intro y0 (And.intro y1 (And.intro z0 (And.intro z1 (And.intro z2 z3)))) ; have K5 := Lib.hid (And.intro m5 (And.intro r5 (And.intro ap5 (And.intro o5 (And.intro hv5 (And.intro x5 B5)))))) ; clear m5 r5 ap5 o5 hv5 x5 B5))
      · obtain ⟨m5, r5, ap5, o5, hv5, x5, B5⟩ := K5.out
        have y6 := Ref.new2 w5 (.slice A5 D'.length cap5) (.int .i64 cnt') 37
        have q6 : (w5.alloc (.cells #[.slice A5 D'.length cap5, .int .i64 cnt'] 37)).heap[w1.heap.size + 1]? = some (.cells #[.slice A1 D.length cap1, .int .i64 cnt] 37 (0, 0)) := (heap_alloc_old w5 _ (lt_of_heap x5)).trans x5
        have ht : w5.heap.size ≤ w5.heap.size ∨ w5.heap[w5.heap.size]? = some (.cells #[.slice none 0 0, .int .i64 0] 37 (0, 0)) := .inl (Nat.le_refl _)
        have hB5 := B5.size
        obtain ⟨u0, u1, u2, u3⟩ := Ref.cell2 y6
        obtain ⟨v0, v1, v2, v3⟩ := Ref.cell2 q6
        have hl5 := doC_length C dk da dold dx R.out.c8 R.out.cm
        have hn5 := doN_range C dk da n
        have hn6 := R.out.n0
        have hn7 := R.out.nk
        have hqB := R.out.qB
        have x7 := Ref.put2 q6 (.slice A5 D'.length cap5) (.int .i64 cnt')
        have o7 : Only (fun j => j = w1.heap.size + 1 ∨ j = w5.heap.size) w5 (((w5.alloc (.cells #[.slice A5 D'.length cap5, .int .i64 cnt'] 37)).setCell ⟨w1.heap.size + 1, 0, none⟩ (.slice A5 D'.length cap5)).setCell ⟨w1.heap.size + 1, 1, none⟩ (.int .i64 cnt')) :=
          (((refl _ w5).alloc (.cells #[.slice A5 D'.length cap5, .int .i64 cnt'] 37)).setCell (p := ⟨w1.heap.size + 1, 0, none⟩) (fun _ => .inl rfl) _).setCell (p := ⟨w1.heap.size + 1, 1, none⟩) (fun _ => .inl rfl) _
        have fin := Lib.hid (Round.step (k := k + 1) m5 r5 ap5 x5 hqB B5 hl5.1 hl5.2 (by omega) (by omega) ht (by omega) o7 x7)
        clear m5 r5 ap5 o5 hv5 x5 o7 x7 ht y6 q6
        have e := K5
        go_wp2
        go_roundw
        case rel => exact ⟨k + 1, v', _, cnt', _, D', _, by omega, by omega, by go_num, fin⟩
        case measure => simp [intOf]; omega
      · obtain ⟨m5, r5, ap5, o5, hv5, x5, B5⟩ := K5.out
        have y6 := Ref.put2 x6 (.slice A5 D'.length cap5) (.int .i64 cnt')
        have q6 : ((w5.setCell ⟨wr.heap.size, 0, none⟩ (.slice A5 D'.length cap5)).setCell ⟨wr.heap.size, 1, none⟩ (.int .i64 cnt')).heap[w1.heap.size + 1]? = some (.cells #[.slice A1 D.length cap1, .int .i64 cnt] 37 (0, 0)) := by
          rw [Below.heap_setCell _ _ _ _ ne4, Below.heap_setCell _ _ _ _ ne4]; exact x5
        have ht : w5.heap.size ≤ wr.heap.size ∨ w5.heap[wr.heap.size]? = some (.cells #[.slice none 0 0, .int .i64 0] 37 (0, 0)) := .inr x6
        obtain ⟨u0, u1, u2, u3⟩ := Ref.cell2 y6
        obtain ⟨v0, v1, v2, v3⟩ := Ref.cell2 q6
        have hl5 := doC_length C dk da dold dx R.out.c8 R.out.cm
        have hn5 := doN_range C dk da n
        have hn6 := R.out.n0
        have hn7 := R.out.nk
        have hqB := R.out.qB
        have x7 := Ref.put2 q6 (.slice A5 D'.length cap5) (.int .i64 cnt')
        have o7 : Only (fun j => j = w1.heap.size + 1 ∨ j = wr.heap.size) w5 ((((w5.setCell ⟨wr.heap.size, 0, none⟩ (.slice A5 D'.length cap5)).setCell ⟨wr.heap.size, 1, none⟩ (.int .i64 cnt')).setCell ⟨w1.heap.size + 1, 0, none⟩ (.slice A5 D'.length cap5)).setCell ⟨w1.heap.size + 1, 1, none⟩ (.int .i64 cnt')) :=
          ((((refl _ w5).setCell (p := ⟨wr.heap.size, 0, none⟩) (fun _ => .inr rfl) (.slice A5 D'.length cap5)).setCell (p := ⟨wr.heap.size, 1, none⟩) (fun _ => .inr rfl) (.int .i64 cnt')).setCell (p := ⟨w1.heap.size + 1, 0, none⟩) (fun _ => .inl rfl) _).setCell (p := ⟨w1.heap.size + 1, 1, none⟩) (fun _ => .inl rfl) _
        have fin := Lib.hid (Round.step (k := k + 1) m5 r5 ap5 x5 hqB B5 hl5.1 hl5.2 (by omega) (by omega) ht (by omega) o7 x7)
        clear m5 r5 ap5 o5 hv5 x5 o7 x7 ht y6 q6
        have e := K5
        go_wp2
        go_roundw
        case rel => exact ⟨k + 1, v', _, cnt', _, D', _, by omega, by omega, by go_num, fin⟩
        case measure => simp [intOf]; omega
    · have fin : RanTo W (.returned (.pointer (some ⟨p, 0, none⟩))) wr := ⟨p, v, C, n, rfl, R.out.mem, R.out.c8, R.out.cm, R.out.n0, by have := R.out.nk; omega, R.out.bel⟩
      have fin := Lib.hid fin
      by_cases hlt2 : k < ds.length
      · have b1 : decide ((k : Int) < ds.length) = true := by simp; omega
        have b2 : decide ((k : Int) < 60) = false := by simp; omega
        go_wp2
        go_ret
        exact fin.out
      · have b1 : decide ((k : Int) < ds.length) = false := by simp; omega
        go_wp2
        go_ret
        exact fin.out
end Go.Proofs.Ytllibgjajlgnbaa.Ran

/- OrderRuns: calls that were one behind the other fit just if each told what it tells. -/
import Derived.Test.YtecjkpjcmgohmabOrMod
namespace Go.Proofs.Ytecjkpjcmgohmab.WalkOrderRuns
open Go Go.RowKit Go.Maps Go.Proofs.Ytecjkpjcmgohmab.Only Go.Proofs.Ytecjkpjcmgohmab.Pu Go.Proofs.Ytecjkpjcmgohmab.Or Go.Proofs.Ytecjkpjcmgohmab.Args
set_option linter.unusedVariables false
set_option linter.unusedSimpArgs false

def fR (j : Nat) (c : C) : C := { c with inv := 2 * (j : Int), ret := 2 * (j : Int) + 1 }
def okI (zs : List ByteArray) (l : List C) (j : Nat) : Bool := (doR (setI zs l j) (at' l j)).2 == (at' l j).ok
def fitsI (zs : List ByteArray) (l : List C) (i : Nat) : Bool := (List.range i).all (okI zs l)
theorem fitsI_succ (zs : List ByteArray) (l : List C) (i : Nat) : fitsI zs l (i + 1) = (fitsI zs l i && okI zs l i) := by
  unfold fitsI
  rw [List.range_succ, List.all_append]
  simp
theorem fit_runs {zs : List ByteArray} {l X : List C} (hl : l.length ≤ 12) (h : Mod fR l l.length X) : fitsB zs X = fitsI zs l l.length := by
  have hat := fun {j} (hj : j < l.length) => h.done hj
  have hlen := h.len
  have hv : ∀ c ∈ X, ahd c c = false := all_at (fun j hj => by
    rw [hat (by omega)]; unfold ahd fR; simp; omega)
  have hc : ∀ c ∈ X, opn c = false := all_at (fun j hj => by
    rw [hat (by omega)]; unfold opn fR; simp; omega)
  rw [Bool.eq_iff_iff, fit_lin (by omega) hv, lin_turn hc, rn_all]
  · unfold fitsI
    rw [List.all_eq_true]
    have key : ∀ j, j < l.length → ((opn (at' X j) = true ∨ (doR (setI zs X j) (at' X j)).2 = (at' X j).ok) ↔ okI zs l j = true) := fun j hj => by
      have q1 : opn (at' X j) = false := hc _ (at_mem (by omega))
      have q2 := setI_congr zs hlen (fun j hj => by rw [hat hj]; exact ⟨rfl, rfl⟩) j (by omega)
      have q3 : doR (setI zs l j) (at' X j) = doR (setI zs l j) (at' l j) := doR_congr _ (by rw [hat hj]; rfl) (by rw [hat hj]; rfl)
      have q4 : (at' X j).ok = (at' l j).ok := by rw [hat hj]; rfl
      rw [q1, q2, q3, q4]
      unfold okI
      simp
    constructor
    · intro q j hj
      have hj := List.mem_range.1 hj
      exact (key j hj).1 (q j (by omega))
    · intro q j hj
      exact (key j (by omega)).2 (q j (List.mem_range.2 (by omega)))
  · exact pair_at (fun i j hij hj => by rw [hat (by omega), hat (by omega)]; unfold ahd fR; simp; omega)
  · exact pair_at (fun i j hij hj => by rw [hat (by omega), hat (by omega)]; unfold ahd fR; simp; omega)
/-- What holds at each round. -/
structure Rd (W W1 : World) (v6 : Value) (zs : List ByteArray) (ax : Option Addr) (n cx : Nat) (l X : List C) (i : Nat) (wr : World) : Prop where
  st : Strs wr v6 (setI zs l i)
  x : Own wr W1.heap.size (.slice ax n cx) X
  m : Mod fR l i X
  bel : Below W1.heap.size W1 wr
theorem Rd.below {W W1 : World} {v6 : Value} {zs : List ByteArray} {ax : Option Addr} {n cx : Nat} {l X : List C} {i : Nat} {wr w' : World} (h : Rd W W1 v6 zs ax n cx l X i wr) (hb : Below wr.heap.size wr w') : Rd W W1 v6 zs ax n cx l X i w' :=
  ⟨h.st.below hb, own_below h.x hb, h.m, h.bel.trans (hb.mono h.bel.size)⟩
theorem Rd.step {W W1 : World} {v6 v7 : Value} {zs : List ByteArray} {gx : Nat} {n cx : Nat} {l X : List C} {i : Nat} {wr w3 : World} (hn : n = l.length) (h : Rd W W1 v6 zs (some ⟨gx, 0, none⟩) n cx l X i wr) (hi : i < l.length) (hb : Below wr.heap.size wr w3) (hs : Strs w3 v7 (doR (setI zs l i) (at' l i)).1) :
    Rd W W1 v7 zs (some ⟨gx, 0, none⟩) n cx l (X.set i (fR i (at' l i))) (i + 1) ((w3.setCell ⟨gx, i * 5 + 3, none⟩ (.int .i64 (2 * (i : Int)))).setCell ⟨gx, i * 5 + 4, none⟩ (.int .i64 (2 * (i : Int) + 1))) := by
  have h3 := h.below hb
  have hX := h.m.len
  have hiX : i < X.length := by omega
  have hcur := h.m.cur hi
  obtain ⟨g', c', hv', hB, hg, hc⟩ := own_cells h3.x hiX
  injection hv' with e1 _ _
  injection e1 with e1
  injection e1 with e1
  subst e1
  have o1 := own_set5 (by omega) h3.x hiX { at' X i with inv := 2 * (i : Int) } 3 (.int .i64 (2 * (i : Int))) (by omega) rfl
  have hi1 : i < (X.set i { at' X i with inv := 2 * (i : Int) }).length := by rw [List.length_set]; exact hiX
  have o2 := own_set5 (by rw [List.length_set]; omega) o1 hi1 (fR i (at' l i)) 4 (.int .i64 (2 * (i : Int) + 1)) (by omega) (by rw [at_set hiX, if_pos rfl, hcur]; rfl)
  rw [List.set_set] at o2
  refine ⟨?_, o2, h.m.step hi, below_set (below_set h3.bel hB _) hB _⟩
  rw [setI_succ zs hi]
  refine (hs.setCell (fun s e => ?_) _).setCell (fun s e => ?_) _
  · rw [hc.c3] at e; simp at e
  · rw [cell_set_ne _ (by intro q; injection q with _ q _; omega), hc.c4] at e; simp at e
set_option maxHeartbeats 8000000 in
set_option maxRecDepth 100000 in
theorem core {W : World} {vf v : Value} {zs : List ByteArray} {l : List C} (hF : Strs W vf zs) (hL : SlR W v l) (hk : ∀ c ∈ l, c.key.size ≤ maxLen) :
    Calls Try.prog 4 #[vf, v] W fun e w' => e = .returned (.bool true) ∧ Below W.heap.size W w' := by
  obtain ⟨af, capf, rfl, hfl, -⟩ := hF.shape
  obtain ⟨av, capv, rfl, hvl, hx⟩ := hL.shape
  unfold maxLen at hfl hvl
  replace hx := Lib.hid hx
  have hAw := Lib.hid (awake W)
  by_cases h1 : 20 < zs.length
  · have q1 : decide ((20 : Int) < (zs.length : Int)) = true := by simp; omega
    go_enter Try.func4, Try.ntmps4
    go_wp2_with fail
    refine hAw.out.mono ?_
    rintro e w1 ⟨rfl, b1⟩
    go_wp2_with fail
    go_ret
    exact ⟨rfl, b1⟩
  by_cases h2 : 12 < l.length
  · have q1 : decide ((20 : Int) < (zs.length : Int)) = false := by simp; omega
    have q2 : decide ((12 : Int) < (l.length : Int)) = true := by simp; omega
    go_enter Try.func4, Try.ntmps4
    go_wp2_with fail
    refine hAw.out.mono ?_
    rintro e w1 ⟨rfl, b1⟩
    go_wp2_with fail
    go_ret
    exact ⟨rfl, b1⟩
  have q1 : decide ((20 : Int) < (zs.length : Int)) = false := by simp; omega
  have q2 : decide ((12 : Int) < (l.length : Int)) = false := by simp; omega
  have hl12 : l.length ≤ 12 := by omega
  replace hF := Lib.hid hF
  replace hL := Lib.hid hL
  go_enter Try.func4, Try.ntmps4
  go_wp2_with fail
  refine hAw.out.mono ?_
  rintro e w1 ⟨rfl, b1⟩
  have hM := Lib.hid (madeC (hL.out.below b1) (by omega))
  go_wp2_with fail
  refine hM.out.mono ?_
  rintro e w2 ⟨vx, rfl, ox, b2⟩
  obtain ⟨ax, cx, ex, -, -⟩ := own_any ox
  subst ex
  have R0 : Rd W w1 (.slice af zs.length capf) zs ax l.length cx l l 0 w2 := ⟨(hF.out.below b1).below b2, ox, Mod.new _ _, b2⟩
  replace R0 := Lib.hid R0
  have b1' := Lib.hid b1
  clear hM hAw b1 b2 ox
  go_wp2_with fail
  go_loopg [6, 7, 9] l.length (fun g s6 s7 s9 wr => ∃ (i : Nat) (X : List C), i + g = l.length ∧ s9 = .int .i64 i ∧ s7 = .bool (fitsI zs l i) ∧ Aside (Rd W w1 s6 zs ax l.length cx l X i wr))
  case atStart => exact ⟨0, l, by omega, rfl, rfl, R0⟩
  case round =>
    clear R0
    obtain ⟨i, X, hig, rfl, rfl, P⟩ := hrel
    have hbelW : Below W.heap.size W wr := b1'.out.trans (P.out.bel.mono b1'.out.size)
    have hXl := P.out.m.len
    cases gk with
    | zero =>
      obtain rfl : i = l.length := by omega
      have FX := fitsAll (hF.out.below hbelW) P.out.x (all_at (fun j hj => by rw [P.out.m.done (by omega)]; exact hk (at' l j) (at_mem (by omega))))
      rw [fit_runs hl12 P.out.m] at FX
      replace FX := Lib.hid FX
      replace hbelW := Lib.hid hbelW
      generalize fitsI zs l l.length = A at *
      go_wp2_with fail
      refine FX.out.mono ?_
      rintro e w3 ⟨rfl, b3⟩
      go_wp2_with fail
      go_ret
      exact ⟨by simp, hbelW.out.trans (b3.mono hbelW.out.size)⟩
    | succ g =>
      have hil : i < l.length := by omega
      obtain ⟨gl, ol, rfl, hgl, hcl⟩ := hx.out i hil
      obtain ⟨c0, c1, c2, c3, c4⟩ := hcl.below hbelW
      obtain ⟨gx, cap', hvX, -, hgx, hcx⟩ := own_cells P.out.x (by omega : i < X.length)
      injection hvX with hvX hvn hvc
      clear hvn
      subst hvc
      subst hvX
      have hlen := setI_len zs l i (by omega)
      have hDo := doC P.out.st (by omega) (at' l i)
      unfold V Done at hDo
      have hs := fitsI_succ zs l i
      have hok : okI zs l i = ((doR (setI zs l i) (at' l i)).2 == (at' l i).ok) := rfl
      obtain ⟨A6, C6, e6, -, -⟩ := P.out.st.shape
      subst e6
      replace hDo := Lib.hid hDo
      clear hcl hcx
      go_wp2_with fail
      refine hDo.out.mono ?_
      rintro e w3 ⟨v7, rfl, s7, b3⟩
      have d2 := (b3.cell (p := ⟨gl, ol + i * 5 + 2, none⟩) (cell_lt c2)).trans c2
      obtain ⟨gx', cap2, hvX, -, hgx3, hcx⟩ := own_cells (P.out.below b3).x (by omega : i < X.length)
      injection hvX with hvX hvn hvc
      injection hvX with hvX
      injection hvX with hvX
      clear hvn
      subst hvc
      subst hvX
      have hXf := own_frozen (P.out.below b3).x
      obtain ⟨x0, x1, x2, x3, x4⟩ := hcx
      have f3 := hXf (i * 5 + 3)
      have nx := P.out.step rfl hil b3 s7
      have hw3 := s7
      replace nx := Lib.hid nx
      replace s7 := Lib.hid s7
      have g4 : (w3.setCell ⟨gx, i * 5 + 3, none⟩ (.int .i64 (2 * (i : Int)))).cell? ⟨gx, i * 5 + 4, none⟩ = some (.int .i64 (at' X i).ret) := by rw [cell_set_ne _ (by intro q; injection q with _ q _; omega)]; exact x4
      have f4 : (w3.setCell ⟨gx, i * 5 + 3, none⟩ (.int .i64 (2 * (i : Int)))).frozen? ⟨gx, i * 5 + 4, none⟩ = false := own_frozen (own_set5 (by omega) (P.out.below b3).x (by omega : i < X.length) { at' X i with inv := 2 * (i : Int) } 3 (.int .i64 (2 * (i : Int))) (by omega) rfl) _
      clear hXf hw3 c0 c1 c2 c3 c4 b3 hDo x0 x1 x2
      generalize (doR (setI zs l i) (at' l i)).2 = ok at *
      cases hA : fitsI zs l i with
      | true =>
        rw [hA, Bool.true_and, hok] at hs
        replace hs := Lib.hid hs
        clear hA hok
        go_wp2_with fail
        go_roundg g
        case measure => omega
        case rel => exact ⟨i + 1, _, by omega, by go_num, by rw [hs.out], nx.out⟩
      | false =>
        rw [hA, Bool.false_and] at hs
        replace hs := Lib.hid hs
        clear hA hok
        go_wp2_with fail
        go_roundg g
        case measure => omega
        case rel => exact ⟨i + 1, _, by omega, by go_num, by rw [hs.out], nx.out⟩
theorem walk (V1 : Value) (zs1 : List (List Value)) (V2 : Value) (zs2 : List (List Value)) (W : World) (h1 : StructsV [.str] W V1 zs1) (h2 : StructsV [.int .i64, .str, .bool, .int .i64, .int .i64] W V2 zs2) :
    Calls Try.prog 4 #[V1, V2] W fun e w' => e = .returned (.bool true) ∧ Below W.heap.size W w' :=
  core (strs_of h1) (slR_of h2).1 (slR_of h2).2
end Go.Proofs.Ytecjkpjcmgohmab.WalkOrderRuns

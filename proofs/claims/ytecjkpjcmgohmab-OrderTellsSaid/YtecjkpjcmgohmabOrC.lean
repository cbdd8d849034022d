/- The reference: can. Laid by genorc.py. -/
import Derived.Test.YtecjkpjcmgohmabOrMod
namespace Go.Proofs.Ytecjkpjcmgohmab.Or
open Go Go.RowKit Go.Maps Go.Proofs.Ytecjkpjcmgohmab.Only Go.Proofs.Ytecjkpjcmgohmab.Pu Go.Proofs.YtecjkpjcmgohmabW.PrintLast
set_option linter.unusedVariables false
set_option linter.unusedSimpArgs false
set_option maxRecDepth 100000 in
theorem aheadRC (a b : C) (w : World) : Calls Try.prog 12 #[V a, V b] w fun e w' => e = .returned (.bool (ahd a b)) ∧ Below w.heap.size w w' := by
  unfold ahd V
  by_cases h0 : 0 ≤ a.ret
  · have b0 : decide (0 ≤ a.ret) = true := decide_eq_true h0
    rw [b0, Bool.true_and]
    generalize hb1 : decide (a.ret < b.inv) = b1
    go_enter Try.func12, Try.ntmps12
    go_wp2
    go_ret
    exact ⟨by first | rfl | (rw [← hb1]), (((Below.refl _ _).alloc (Nat.le_refl _) _).alloc (by simp) _)⟩
  · have b0 : decide (0 ≤ a.ret) = false := decide_eq_false h0
    rw [b0, Bool.false_and]
    go_enter Try.func12, Try.ntmps12
    go_wp2
    go_ret
    exact ⟨rfl, (((Below.refl _ _).alloc (Nat.le_refl _) _).alloc (by simp) _)⟩

/-! What is done, as a list. -/
def uD (D : List Bool) : Nat → Bool := fun i => !D.getD i false
theorem uD_set {D : List Bool} {i : Nat} (hi : i < D.length) : uD (D.set i true) = tke (uD D) i := by
  funext j
  show (!(D.set i true).getD j false) = ((!D.getD j false) && j != i)
  rw [List.getD_eq_getElem?_getD, List.getD_eq_getElem?_getD, List.getElem?_set]
  by_cases e : i = j
  · subst e; simp [hi]
  · rw [if_neg e]
    have : (j != i) = true := by simp; exact fun q => e q.symm
    rw [this, Bool.and_true]
def okR (l : List C) (D : List Bool) (set : List ByteArray) : Bool := can doR l l.length (uD D) set
def goR (l : List C) (D : List Bool) (set : List ByteArray) (i : Nat) : Bool := uD D i && fre l (uD D) i && tls doR set (at' l i) && okR l (D.set i true) (doR set (at' l i)).1
theorem okR_step {l : List C} {D : List Bool} (hD : D.length = l.length) (hv : ∀ c ∈ l, ahd c c = false) (set : List ByteArray) : okR l D set = ((List.range l.length).any (goR l D set) || !lft l (uD D)) := by
  have h1 := can_lin doR hv l.length (uD D) set (rem_le _ _)
  have h2 := can_lin doR hv (l.length + 1) (uD D) set (Nat.le_succ_of_le (rem_le _ _))
  have e : okR l D set = can doR l (l.length + 1) (uD D) set := by
    unfold okR
    rw [Bool.eq_iff_iff, h1, h2]
  rw [e]
  unfold can
  congr 1
  rw [Bool.eq_iff_iff, List.any_eq_true, List.any_eq_true]
  have key : ∀ i, i < l.length → (uD D i && fre l (uD D) i && tls doR set (at' l i) && can doR l l.length (tke (uD D) i) (doR set (at' l i)).1) = goR l D set i := fun i hi => by
    unfold goR okR
    rw [uD_set (by omega)]
  constructor
  · rintro ⟨i, hi, h⟩; exact ⟨i, hi, by rw [← key i (List.mem_range.1 hi)]; exact h⟩
  · rintro ⟨i, hi, h⟩; exact ⟨i, hi, by rw [key i (List.mem_range.1 hi)]; exact h⟩
def allI (l : List C) (D : List Bool) (i : Nat) : Bool := (List.range i).all (fun j => !uD D j || opn (at' l j))
theorem allI_succ (l : List C) (D : List Bool) (i : Nat) : allI l D (i + 1) = (allI l D i && (!uD D i || opn (at' l i))) := by
  unfold allI
  rw [List.range_succ, List.all_append]
  simp
theorem allI_all (l : List C) (D : List Bool) : allI l D l.length = !lft l (uD D) := by
  unfold allI lft
  rw [Bool.eq_iff_iff, List.all_eq_true, Bool.not_eq_true', List.any_eq_false]
  constructor
  · intro h i hi
    have := h i hi
    simp at this ⊢
    intro hu
    rcases this with q | q
    · rw [hu] at q; cases q
    · exact q
  · intro h i hi
    have := h i hi
    cases hu : uD D i <;> simp [hu] at this ⊢
    exact this
def frI (l : List C) (D : List Bool) (i m : Nat) : Bool := (List.range m).all (fun k => !uD D k || !ahd (at' l k) (at' l i))
theorem frI_succ (l : List C) (D : List Bool) (i m : Nat) : frI l D i (m + 1) = (frI l D i m && (!uD D m || !ahd (at' l m) (at' l i))) := by
  unfold frI
  rw [List.range_succ, List.all_append]
  simp
def OwnB (w : World) (B : Nat) (v : Value) (D : List Bool) : Prop := w.ownsRow B 4 1 v D.length (D.map Value.bool)
theorem ownB_cell {w : World} {B : Nat} {v : Value} {D : List Bool} (h : OwnB w B v D) {i : Nat} (hi : i < D.length) : ∃ g cap, v = .slice (some ⟨g, 0, none⟩) D.length cap ∧ g < w.heap.size ∧ w.cell? ⟨g, i, none⟩ = some (.bool (D.getD i false)) ∧ w.frozen? ⟨g, i, none⟩ = false ∧ cap ≤ maxLen := by
  rcases h.2 with ⟨hv, h0⟩ | ⟨g, cap, cur, hv, hB, hg, hc, hm, hz, hx⟩
  · omega
  · refine ⟨g, cap, hv, lt_of_heap hg, ?_, by simp [World.frozen?, hg], hm⟩
    have hi2 : i < cur.size := by omega
    have e : (cur.toList.take (D.length * 1))[i]? = some (.bool (D.getD i false)) := by
      rw [hx, List.getElem?_map, List.getD_eq_getElem?_getD, List.getElem?_eq_getElem hi]; rfl
    rw [List.getElem?_take_of_lt (by omega)] at e
    simp only [World.cell?, hg]
    rw [← Array.getElem?_toList]
    exact e
theorem ownB_any {w : World} {B : Nat} {v : Value} {D : List Bool} (h : OwnB w B v D) : ∃ a cap, v = .slice a D.length cap := by
  rcases h.2 with ⟨hv, h0⟩ | ⟨g, cap, cur, hv, _⟩
  · exact ⟨none, 0, by rw [hv, h0]⟩
  · exact ⟨_, cap, hv⟩
theorem addr_add (g j : Nat) : (⟨g, 0, none⟩ : Addr).add j = ⟨g, j, none⟩ := by
  unfold Addr.add
  by_cases h : j = 0
  · rw [if_pos h, h]
  · rw [if_neg h]; simp
theorem newsB {w : World} {B gd n cap : Nat} {D : List Bool} (h : OwnB w B (.slice (some ⟨gd, 0, none⟩) n cap) D) : ∀ j y, (D.map Value.bool)[j]? = some y → w.cell? ((⟨gd, 0, none⟩ : Addr).add j) = some y := fun j y hj => by
  have hjD : j < D.length := by
    have := (List.getElem?_eq_some_iff.1 hj).1
    simpa using this
  obtain ⟨gd', cap', e', -, hc', -, -⟩ := ownB_cell h hjD
  injection e' with e' _ _
  injection e' with e'
  injection e' with e'
  subst e'
  rw [addr_add, hc', ← hj, List.getElem?_map, List.getD_eq_getElem?_getD, List.getElem?_eq_getElem hjD]
  rfl
theorem oneB (D : List Bool) : ∀ u ∈ D.map Value.bool, u.oneCell' = true := fun u hu => by
  obtain ⟨x, -, rfl⟩ := List.mem_map.1 hu
  rfl
theorem infoB : (Try.prog.info? 4).map (fun i => (i.zero, i.size, i.bytes)) = some (some (.bool false), 1, 1) := by kernel_rfl
theorem newEmpty (w : World) (T : TypeId) (B : Nat) (size : Nat) (hB : B ≤ w.heap.size) : (w.alloc (.cells #[] T)).ownsRow B T size (.slice (some ⟨w.heap.size, 0, none⟩) 0 0) 0 [] :=
  ⟨by simp, .inr ⟨w.heap.size, 0, #[], rfl, hB, heap_alloc_new w _, Nat.le_refl _, by simp [maxLen], by simp, by simp⟩⟩
set_option maxHeartbeats 8000000 in
set_option maxRecDepth 2000000 in
theorem canC {l : List C} (hl : l.length ≤ 12) (hv : ∀ c ∈ l, ahd c c = false) : ∀ (k : Nat) (D : List Bool) (set : List ByteArray) (w : World) (vs vl vd : Value),
    (rem l (uD D)).length ≤ k → D.length = l.length → set.length + k ≤ 100 → Strs w vs set → SlR w vl l → OwnB w 0 vd D →
    Calls Try.prog 20 #[vs, vl, vd] w fun e w' => e = .returned (.bool (okR l D set)) ∧ Below w.heap.size w w' := by
  obtain ⟨i0, hi, hzz⟩ := Option.map_eq_some_iff.1 infoB
  simp only [Prod.mk.injEq] at hzz
  obtain ⟨hz0, hz1, hz2⟩ := hzz
  intro k
  induction k using Nat.strongRecOn with
  | _ k ih =>
    intro D set w vs vl vd hk hD hs hF hL hB
    obtain ⟨a_s, caps, rfl, -, -⟩ := hF.shape
    obtain ⟨al, capl, rfl, -, hx⟩ := hL.shape
    obtain ⟨ab, capb, eb⟩ := ownB_any hB
    rw [hD] at eb
    subst eb
    generalize hQ : (fun (e : Ending) (w' : World) => e = .returned (.bool (okR l D set)) ∧ Below w.heap.size w w') = Q
    have hQ' : ∀ b w', b = okR l D set → Below w.heap.size w w' → Q (.returned (.bool b)) w' := fun b w' h1 h2 => by rw [← hQ]; exact ⟨by rw [h1], h2⟩
    replace hQ' := Lib.hid hQ'
    clear hQ
    replace ih := Lib.hid ih
    replace hk := Lib.hid hk
    replace hF := Lib.hid hF
    replace hL := Lib.hid hL
    replace hB := Lib.hid hB
    replace hx := Lib.hid hx
    have hst := okR_step hD hv set
    replace hst := Lib.hid hst
    replace hD := Lib.hid hD
    go_enter Try.func20, Try.ntmps20
    go_wp2_with fail
    go_loopg [7, 8] l.length (fun g s7 s8 wr => ∃ i : Nat, i + g = l.length ∧ s8 = .int .i64 i ∧ s7 = .bool (allI l D i) ∧ Aside ((∀ j, j < i → goR l D set j = false) ∧ Below w.heap.size w wr))
    case atStart => exact ⟨0, by omega, rfl, rfl, fun j hj => by omega, Below.refl _ _⟩
    case round =>
      obtain ⟨i, hig, rfl, rfl, R⟩ := hrel
      cases gk with
      | zero =>
        obtain rfl : i = l.length := by omega
        have F := hQ'.out (allI l D l.length) wr (by
          rw [hst.out, allI_all]
          have : (List.range l.length).any (goR l D set) = false := by
            rw [List.any_eq_false]
            intro j hj
            rw [R.out.1 j (List.mem_range.1 hj)]; simp
          rw [this, Bool.false_or]) R.out.2
        replace F := Lib.hid F
        go_wp2_with fail
        exact F.out
      | succ g =>
        have hil : i < l.length := by omega
        obtain ⟨gl, ol, rfl, hgl, hcl⟩ := hx.out i hil
        obtain ⟨gd, capd, evd, hgd, hcd, hfd, hmd⟩ := ownB_cell hB.out (by rw [hD.out]; exact hil : i < D.length)
        injection evd with evd hvn hvc
        clear hvn
        subst hvc
        subst evd
        have d0 := (R.out.2.cell (p := ⟨gd, i, none⟩) hgd).trans hcd
        obtain ⟨c0, c1, c2, c3, c4⟩ := hcl.below R.out.2
        have has := allI_succ l D i
        cases hdi : D.getD i false with
        | true =>
          have hu : uD D i = false := by unfold uD; rw [hdi]; rfl
          rw [hdi] at d0
          rw [hu] at has
          simp only [Bool.not_false, Bool.true_or, Bool.and_true] at has
          replace has := Lib.hid has
          replace hu := Lib.hid hu
          replace hdi := Lib.hid hdi
          clear hcd hcl
          go_wp2_with fail
          go_roundg g
          case measure => omega
          case rel => exact ⟨i + 1, by omega, by go_num, by rw [has.out], fun j hj => by
            by_cases e : j = i
            · subst e; unfold goR; rw [hu.out]; rfl
            · exact R.out.1 j (by omega), R.out.2⟩
        | false =>
          have hu : uD D i = true := by unfold uD; rw [hdi]; rfl
          rw [hdi] at d0
          rw [hu] at has
          simp only [Bool.not_true, Bool.false_or] at has
          have hopn : opn (at' l i) = decide ((at' l i).ret < 0) := rfl
          rw [hopn] at has
          replace hu := Lib.hid hu
          replace hdi := Lib.hid hdi
          clear hcd hcl
          cases hal : allI l D i
          all_goals rw [hal] at has
          all_goals simp only [Bool.false_and, Bool.true_and] at has
          all_goals replace has := Lib.hid has
          all_goals clear hal
          all_goals (
            go_upto_region 9 with fail
            go_loopg [9, 10] l.length (fun g s9 s10 wx => ∃ m : Nat, m + g = l.length ∧ s10 = .int .i64 m ∧ s9 = .bool (frI l D i m) ∧ Aside (Below w.heap.size w wx))
            case atStart => exact ⟨0, by omega, rfl, rfl, R.out.2⟩
            case round =>
              obtain ⟨m, hmg, rfl, rfl, BX⟩ := hrel
              obtain ⟨gl', ol', eal, -, hcl⟩ := hx.out i hil
              injection eal with eal
              injection eal with eal1 eal2
              subst eal1 eal2
              clear c0 c1 c2 c3 c4 d0
              obtain ⟨c0, c1, c2, c3, c4⟩ := hcl.below BX.out
              cases gk with
              | zero =>
                obtain rfl : m = l.length := by omega
                have hDo := doC (hF.out.below BX.out) (by omega) (at' l i)
                unfold V Done at hDo
                have hfr : frI l D i l.length = fre l (uD D) i := rfl
                have hgo : goR l D set i = (fre l (uD D) i && tls doR set (at' l i) && okR l (D.set i true) (doR set (at' l i)).1) := by unfold goR; rw [hu.out, Bool.true_and]
                have htl : tls doR set (at' l i) = (opn (at' l i) || ((doR set (at' l i)).2 == (at' l i).ok)) := rfl
                have hSl := doR_len set (at' l i)
                generalize hok : (doR set (at' l i)).2 = ok at *
                generalize hsn : (doR set (at' l i)).1 = sn at *
                replace hDo := Lib.hid hDo
                replace hok := Lib.hid hok
                replace hsn := Lib.hid hsn
                go_upto_region 12 with fail
                go_wp2_with fail
                refine hDo.out.mono ?_
                rintro e w3 ⟨v11, rfl, s11, b3⟩
                have B3 := BX.out.trans (b3.mono BX.out.size)
                have y2 := (b3.cell (p := ⟨gl, ol + i * 5 + 2, none⟩) (cell_lt c2)).trans c2
                have y4 := (b3.cell (p := ⟨gl, ol + i * 5 + 4, none⟩) (cell_lt c4)).trans c4
                clear hDo c0 c1 c2 c3 c4 b3
                replace B3 := Lib.hid B3
                cases hf : fre l (uD D) i with
                | false =>
                  rw [hf, Bool.false_and, Bool.false_and] at hgo
                  clear hfr htl hSl
                  replace hgo := Lib.hid hgo
                  replace hf := Lib.hid hf
                  replace s11 := Lib.hid s11
                  go_wp2_with fail
                  go_roundg g
                  case measure => omega
                  case rel => exact ⟨i + 1, by omega, by go_num, by rw [has.out], fun j hj => by
                    by_cases e : j = i
                    · subst e; exact hgo.out
                    · exact R.out.1 j (by omega), B3.out⟩
                | true =>
                  rw [hf, Bool.true_and] at hgo
                  replace hf := Lib.hid hf
                  clear hfr
                  have hopn : opn (at' l i) = decide ((at' l i).ret < 0) := rfl
                  cases ho : opn (at' l i) with
                  | true =>
                    have ho2 : decide (0 ≤ (at' l i).ret) = false := by
                      rw [hopn] at ho; simp at ho ⊢; omega
                    rw [htl, ho, Bool.true_or, Bool.true_and] at hgo
                    clear htl ho hopn
                    go_upto_region 14 with fail
                    have hE := newEmpty w3 4 w.heap.size 1 B3.out.size
                    have oE : Below w3.heap.size w3 (w3.alloc (.cells #[] 4)) := (Below.refl _ _).alloc (Nat.le_refl _) _
                    have BE := B3.out.trans (oE.mono B3.out.size)
                    have hBE := own_below hB.out BE
                    have hnewsD := newsB hBE
                    have hlenD : (D.map Value.bool).length = l.length * 1 := by rw [List.length_map, hD.out, Nat.mul_one]
                    have oneD := oneB D
                    have h63 : 0 + l.length ≤ maxLen := by unfold maxLen; omega
                    have h64 : (0 + l.length) * 1 ≤ 140737488355328 := by omega
                    have hB1 := BE.size
                    have fin : ∀ v' w4, w4.ownsRow w.heap.size 4 1 v' (0 + l.length) ([] ++ D.map Value.bool) → (w3.alloc (.cells #[] 4)).grownBy w4 (Value.slice (some ⟨w3.heap.size, 0, none⟩) 0 0).ownBlock → OwnB w4 w.heap.size v' D ∧ Below w.heap.size w w4 ∧ Strs w4 v11 sn := fun v' w4 hr hg => by
                      have b4 : Below w3.heap.size w3 w4 := oE.grown hg oE.size (fun k hk => by
                        simp [Value.ownBlock] at hk; omega)
                      refine ⟨?_, B3.out.trans (b4.mono B3.out.size), s11.below b4⟩
                      unfold OwnB
                      rw [Nat.zero_add, List.nil_append] at hr
                      rw [hD.out]; exact hr
                    replace fin := Lib.hid fin
                    replace hnewsD := Lib.hid hnewsD
                    replace hlenD := Lib.hid hlenD
                    replace oneD := Lib.hid oneD
                    replace h63 := Lib.hid h63
                    replace h64 := Lib.hid h64
                    replace s11 := Lib.hid s11
                    clear oE BE hBE
                    go_upto_region 15 with (first
                      | (at_builtin; refine wpList_append_own_at _ rfl _ _ 46 rfl w.heap.size 4 i0 (.bool false) 1 1 Try.underlying46 hi hz0 hz1 hz2 rfl (by decide) _ _ _ rfl hE ⟨gd, 0, none⟩ l.length _ (D.map Value.bool) rfl hlenD.out hnewsD.out oneD.out h63.out h64.out hB1 ?_; intro v13 w4 hr4 hg4 hn4 hat4)
                      | go_in)
                    obtain ⟨fB, f1, f2⟩ := fin.out v13 w4 hr4 hg4
                    obtain ⟨gn, cn, en, -, -, -, hgn, hxn, hfn⟩ := own_shape hr4 (by omega)
                    subst en
                    have n0 := hxn i (by omega)
                    have n1 := hfn i
                    have hset : OwnB (w4.setCell ⟨gn, i, none⟩ (.bool true)) w.heap.size (.slice (some ⟨gn, 0, none⟩) (0 + l.length) cn) (D.set i true) := by
                      unfold OwnB at fB ⊢
                      rw [List.length_set, List.map_set, hD.out]
                      rw [hD.out] at fB
                      have q : (.slice (some ⟨gn, 0, none⟩) (0 + l.length) cn : Value) = .slice (some ⟨gn, 0, none⟩) l.length cn := by rw [Nat.zero_add]
                      rw [q] at fB ⊢
                      exact own_set fB i hil (.bool true)
                    have hgnB : w.heap.size ≤ gn := (own_blk fB rfl).1
                    have nIH : ∀ w5, w5 = w4.setCell ⟨gn, i, none⟩ (.bool true) → Calls Try.prog 20 #[v11, .slice (some ⟨gl, ol, none⟩) l.length capl, .slice (some ⟨gn, 0, none⟩) (0 + l.length) cn] w5 fun e w' => e = .returned (.bool (okR l (D.set i true) sn)) ∧ Below w5.heap.size w5 w' := fun w5 e5 => by
                      have b5 : Below w.heap.size w w5 := by rw [e5]; exact below_set f1 hgnB _
                      have hi2 : i < D.length := by rw [hD.out]; exact hil
                      have hrm : (rem l (uD (D.set i true))).length + 1 = (rem l (uD D)).length := by rw [uD_set hi2, (rem_take hil hu.out).length_eq, List.length_cons]
                      have hkk := hk.out
                      have hs5 : Strs w5 v11 sn := by
                        rw [e5]
                        refine f2.setCell (fun s e => ?_) _
                        have h1 := n0
                        rw [e] at h1
                        rw [List.nil_append, List.getD_eq_getElem?_getD, List.getElem?_map, List.getElem?_eq_getElem hi2] at h1
                        simp at h1
                      exact ih.out (k - 1) (by omega) (D.set i true) sn w5 v11 _ _ (by omega) (by rw [List.length_set]; exact hD.out) (by omega) hs5 (hL.out.below b5) (own_mono (e5 ▸ hset) (Nat.zero_le _))
                    generalize hrr : okR l (D.set i true) sn = r at *
                    have b5 : ∀ w5, w5 = w4.setCell ⟨gn, i, none⟩ (.bool true) → Below w.heap.size w w5 := fun w5 e5 => by rw [e5]; exact below_set f1 hgnB _
                    replace b5 := Lib.hid b5
                    replace nIH := Lib.hid nIH
                    replace hgo := Lib.hid hgo
                    clear fB f1 f2 hset hr4 hg4 hn4 hat4 hxn hfn hE hB1
                    rw [Nat.zero_add] at nIH
                    go_upto_region 16 with fail
                    obtain ⟨w5, e5⟩ : ∃ w5, w5 = w4.setCell ⟨gn, i, none⟩ (.bool true) := ⟨_, rfl⟩
                    rw [← e5]
                    have IH := nIH.out w5 e5
                    have b5' := b5.out w5 e5
                    replace IH := Lib.hid IH
                    replace b5' := Lib.hid b5'
                    clear nIH b5 e5
                    cases r with
                    | true =>
                      have F : ∀ w6, Below w5.heap.size w5 w6 → Q (.returned (.bool true)) w6 := fun w6 b6 => hQ'.out true w6 (by
                        rw [hst.out]
                        have : (List.range l.length).any (goR l D set) = true := List.any_eq_true.2 ⟨i, List.mem_range.2 hil, hgo.out⟩
                        rw [this]; rfl) (b5'.out.trans (b6.mono b5'.out.size))
                      replace F := Lib.hid F
                      go_wp2_with fail
                      refine IH.out.mono ?_
                      rintro e w6 ⟨rfl, b6⟩
                      go_wp2_with fail
                      exact F.out w6 b6
                    | false =>
                      go_wp2_with fail
                      refine IH.out.mono ?_
                      rintro e w6 ⟨rfl, b6⟩
                      go_wp2_with fail
                      go_roundg g
                      case measure => omega
                      case rel => exact ⟨i + 1, by omega, by go_num, by rw [has.out], fun j hj => by
                        by_cases e : j = i
                        · subst e; exact hgo.out
                        · exact R.out.1 j (by omega), b5'.out.trans (b6.mono b5'.out.size)⟩
                  | false =>
                    cases hne : (ok == (at' l i).ok) with
                    | false =>
                      have htn : tls doR set (at' l i) = false := by rw [htl, ho, hne]; rfl
                      rw [htn, Bool.false_and] at hgo
                      have ho2 : decide (0 ≤ (at' l i).ret) = true := by
                        rw [hopn] at ho; simp at ho ⊢; omega
                      have hne2 : (ok != (at' l i).ok) = true := by unfold bne; rw [hne]; rfl
                      clear htl htn hSl ho hopn
                      replace hgo := Lib.hid hgo
                      replace s11 := Lib.hid s11
                      go_wp2_with fail
                      go_roundg g
                      case measure => omega
                      case rel => exact ⟨i + 1, by omega, by go_num, by rw [has.out], fun j hj => by
                        by_cases e : j = i
                        · subst e; exact hgo.out
                        · exact R.out.1 j (by omega), B3.out⟩
                    | true =>
                      have ho2 : decide (0 ≤ (at' l i).ret) = true := by
                        rw [hopn] at ho; simp at ho ⊢; omega
                      have hne2 : (ok != (at' l i).ok) = false := by unfold bne; rw [hne]; rfl
                      rw [htl, ho, hne, Bool.false_or, Bool.true_and] at hgo
                      clear htl ho hopn
                      go_upto_region 14 with fail
                      have hE := newEmpty w3 4 w.heap.size 1 B3.out.size
                      have oE : Below w3.heap.size w3 (w3.alloc (.cells #[] 4)) := (Below.refl _ _).alloc (Nat.le_refl _) _
                      have BE := B3.out.trans (oE.mono B3.out.size)
                      have hBE := own_below hB.out BE
                      have hnewsD := newsB hBE
                      have hlenD : (D.map Value.bool).length = l.length * 1 := by rw [List.length_map, hD.out, Nat.mul_one]
                      have oneD := oneB D
                      have h63 : 0 + l.length ≤ maxLen := by unfold maxLen; omega
                      have h64 : (0 + l.length) * 1 ≤ 140737488355328 := by omega
                      have hB1 := BE.size
                      have fin : ∀ v' w4, w4.ownsRow w.heap.size 4 1 v' (0 + l.length) ([] ++ D.map Value.bool) → (w3.alloc (.cells #[] 4)).grownBy w4 (Value.slice (some ⟨w3.heap.size, 0, none⟩) 0 0).ownBlock → OwnB w4 w.heap.size v' D ∧ Below w.heap.size w w4 ∧ Strs w4 v11 sn := fun v' w4 hr hg => by
                        have b4 : Below w3.heap.size w3 w4 := oE.grown hg oE.size (fun k hk => by
                          simp [Value.ownBlock] at hk; omega)
                        refine ⟨?_, B3.out.trans (b4.mono B3.out.size), s11.below b4⟩
                        unfold OwnB
                        rw [Nat.zero_add, List.nil_append] at hr
                        rw [hD.out]; exact hr
                      replace fin := Lib.hid fin
                      replace hnewsD := Lib.hid hnewsD
                      replace hlenD := Lib.hid hlenD
                      replace oneD := Lib.hid oneD
                      replace h63 := Lib.hid h63
                      replace h64 := Lib.hid h64
                      replace s11 := Lib.hid s11
                      clear oE BE hBE
                      go_upto_region 15 with (first
                        | (at_builtin; refine wpList_append_own_at _ rfl _ _ 46 rfl w.heap.size 4 i0 (.bool false) 1 1 Try.underlying46 hi hz0 hz1 hz2 rfl (by decide) _ _ _ rfl hE ⟨gd, 0, none⟩ l.length _ (D.map Value.bool) rfl hlenD.out hnewsD.out oneD.out h63.out h64.out hB1 ?_; intro v13 w4 hr4 hg4 hn4 hat4)
                        | go_in)
                      obtain ⟨fB, f1, f2⟩ := fin.out v13 w4 hr4 hg4
                      obtain ⟨gn, cn, en, -, -, -, hgn, hxn, hfn⟩ := own_shape hr4 (by omega)
                      subst en
                      have n0 := hxn i (by omega)
                      have n1 := hfn i
                      have hset : OwnB (w4.setCell ⟨gn, i, none⟩ (.bool true)) w.heap.size (.slice (some ⟨gn, 0, none⟩) (0 + l.length) cn) (D.set i true) := by
                        unfold OwnB at fB ⊢
                        rw [List.length_set, List.map_set, hD.out]
                        rw [hD.out] at fB
                        have q : (.slice (some ⟨gn, 0, none⟩) (0 + l.length) cn : Value) = .slice (some ⟨gn, 0, none⟩) l.length cn := by rw [Nat.zero_add]
                        rw [q] at fB ⊢
                        exact own_set fB i hil (.bool true)
                      have hgnB : w.heap.size ≤ gn := (own_blk fB rfl).1
                      have nIH : ∀ w5, w5 = w4.setCell ⟨gn, i, none⟩ (.bool true) → Calls Try.prog 20 #[v11, .slice (some ⟨gl, ol, none⟩) l.length capl, .slice (some ⟨gn, 0, none⟩) (0 + l.length) cn] w5 fun e w' => e = .returned (.bool (okR l (D.set i true) sn)) ∧ Below w5.heap.size w5 w' := fun w5 e5 => by
                        have b5 : Below w.heap.size w w5 := by rw [e5]; exact below_set f1 hgnB _
                        have hi2 : i < D.length := by rw [hD.out]; exact hil
                        have hrm : (rem l (uD (D.set i true))).length + 1 = (rem l (uD D)).length := by rw [uD_set hi2, (rem_take hil hu.out).length_eq, List.length_cons]
                        have hkk := hk.out
                        have hs5 : Strs w5 v11 sn := by
                          rw [e5]
                          refine f2.setCell (fun s e => ?_) _
                          have h1 := n0
                          rw [e] at h1
                          rw [List.nil_append, List.getD_eq_getElem?_getD, List.getElem?_map, List.getElem?_eq_getElem hi2] at h1
                          simp at h1
                        exact ih.out (k - 1) (by omega) (D.set i true) sn w5 v11 _ _ (by omega) (by rw [List.length_set]; exact hD.out) (by omega) hs5 (hL.out.below b5) (own_mono (e5 ▸ hset) (Nat.zero_le _))
                      generalize hrr : okR l (D.set i true) sn = r at *
                      have b5 : ∀ w5, w5 = w4.setCell ⟨gn, i, none⟩ (.bool true) → Below w.heap.size w w5 := fun w5 e5 => by rw [e5]; exact below_set f1 hgnB _
                      replace b5 := Lib.hid b5
                      replace nIH := Lib.hid nIH
                      replace hgo := Lib.hid hgo
                      clear fB f1 f2 hset hr4 hg4 hn4 hat4 hxn hfn hE hB1
                      rw [Nat.zero_add] at nIH
                      go_upto_region 16 with fail
                      obtain ⟨w5, e5⟩ : ∃ w5, w5 = w4.setCell ⟨gn, i, none⟩ (.bool true) := ⟨_, rfl⟩
                      rw [← e5]
                      have IH := nIH.out w5 e5
                      have b5' := b5.out w5 e5
                      replace IH := Lib.hid IH
                      replace b5' := Lib.hid b5'
                      clear nIH b5 e5
                      cases r with
                      | true =>
                        have F : ∀ w6, Below w5.heap.size w5 w6 → Q (.returned (.bool true)) w6 := fun w6 b6 => hQ'.out true w6 (by
                          rw [hst.out]
                          have : (List.range l.length).any (goR l D set) = true := List.any_eq_true.2 ⟨i, List.mem_range.2 hil, hgo.out⟩
                          rw [this]; rfl) (b5'.out.trans (b6.mono b5'.out.size))
                        replace F := Lib.hid F
                        go_wp2_with fail
                        refine IH.out.mono ?_
                        rintro e w6 ⟨rfl, b6⟩
                        go_wp2_with fail
                        exact F.out w6 b6
                      | false =>
                        go_wp2_with fail
                        refine IH.out.mono ?_
                        rintro e w6 ⟨rfl, b6⟩
                        go_wp2_with fail
                        go_roundg g
                        case measure => omega
                        case rel => exact ⟨i + 1, by omega, by go_num, by rw [has.out], fun j hj => by
                          by_cases e : j = i
                          · subst e; exact hgo.out
                          · exact R.out.1 j (by omega), b5'.out.trans (b6.mono b5'.out.size)⟩
              | succ g' =>
                have hml : m < l.length := by omega
                obtain ⟨gl', ol', eal, -, hcm⟩ := hx.out m hml
                injection eal with eal
                injection eal with eal1 eal2
                subst eal1 eal2
                obtain ⟨e0, e1, e2, e3, e4⟩ := hcm.below BX.out
                obtain ⟨gd', capd', evd, -, hcd, -, -⟩ := ownB_cell hB.out (by rw [hD.out]; exact hml : m < D.length)
                injection evd with evd hvn hvc
                injection evd with evd
                injection evd with evd
                clear hvn
                subst hvc
                subst evd
                have f0 := (BX.out.cell (p := ⟨gd, m, none⟩) hgd).trans hcd
                have hfs := frI_succ l D i m
                clear hcd hcm hcl
                cases hfr : frI l D i m with
                | false =>
                  rw [hfr, Bool.false_and] at hfs
                  replace hfs := Lib.hid hfs
                  replace hfr := Lib.hid hfr
                  go_wp2_with fail
                  refine start_ (n := 20) (S := fun w' => w'.cell? ⟨gl, ol + m * 5, none⟩ = some (.int .i64 (at' l m).kind) ∧ w'.cell? ⟨gl, ol + m * 5 + 1, none⟩ = some (.string (at' l m).key) ∧ w'.cell? ⟨gl, ol + m * 5 + 2, none⟩ = some (.bool (at' l m).ok) ∧ w'.cell? ⟨gl, ol + m * 5 + 3, none⟩ = some (.int .i64 (at' l m).inv) ∧ w'.cell? ⟨gl, ol + m * 5 + 4, none⟩ = some (.int .i64 (at' l m).ret) ∧ w'.cell? ⟨gl, ol + i * 5, none⟩ = some (.int .i64 (at' l i).kind) ∧ w'.cell? ⟨gl, ol + i * 5 + 1, none⟩ = some (.string (at' l i).key) ∧ w'.cell? ⟨gl, ol + i * 5 + 2, none⟩ = some (.bool (at' l i).ok) ∧ w'.cell? ⟨gl, ol + i * 5 + 3, none⟩ = some (.int .i64 (at' l i).inv) ∧ w'.cell? ⟨gl, ol + i * 5 + 4, none⟩ = some (.int .i64 (at' l i).ret) ∧ w'.cell? ⟨gd, m, none⟩ = some (.bool (D.getD m false))) (ds := []) #[false, false, false, false, false, false, false, false, false, false, false, false, false, false, false, false, false, false, false, false] (by kernel_rfl) rfl rfl ⟨e0, e1, e2, e3, e4, c0, c1, c2, c3, c4, f0⟩ (fun hHeld => ?_)
                  refine pure_ (i := 0) (N := some 39) (v := ?_) (a' := ?_) #[true, false, false, false, false, false, false, false, false, false, false, false, false, false, false, false, false, false, false, false] rfl rfl (by kernel_rfl) (fun _ _ _ h => h) (Or.inl ⟨by rfl, ?_⟩) ?_ ?_
                  rotate_left
                  · intro w'
                    go_simp
                    with_reducible rfl
                  rotate_left
                  · simp only [Act.put, List.setIfInBounds_toArray, List.set_cons_zero, List.set_cons_succ, i64_w, i32_w]
                    rfl
                  refine pure_ (i := 1) (N := some 40) (v := ?_) (a' := ?_) #[true, true, false, false, false, false, false, false, false, false, false, false, false, false, false, false, false, false, false, false] rfl rfl (by kernel_rfl) (fun _ _ _ h => h) (Or.inl ⟨by rfl, ?_⟩) ?_ ?_
                  rotate_left
                  · intro w'
                    go_simp
                    with_reducible rfl
                  rotate_left
                  · simp only [Act.put, List.setIfInBounds_toArray, List.set_cons_zero, List.set_cons_succ, i64_w, i32_w]
                    rfl
                  refine pure_ (i := 2) (N := some 41) (v := undef) (a' := ?_) #[true, true, true, false, false, false, false, false, false, false, false, false, false, false, false, false, false, false, false, false] rfl rfl (by kernel_rfl) (fun _ _ _ h => h) (Or.inr ⟨by rfl, rfl⟩) ?_ ?_
                  rotate_left
                  (focus (simp only [Act.put, List.setIfInBounds_toArray, List.set_cons_zero, List.set_cons_succ, i64_w, i32_w]; rfl))
                  refine pure_ (i := 3) (N := some 42) (v := undef) (a' := ?_) #[true, true, true, true, false, false, false, false, false, false, false, false, false, false, false, false, false, false, false, false] rfl rfl (by kernel_rfl) (fun _ _ _ h => h) (Or.inr ⟨by rfl, rfl⟩) ?_ ?_
                  rotate_left
                  (focus (simp only [Act.put, List.setIfInBounds_toArray, List.set_cons_zero, List.set_cons_succ, i64_w, i32_w]; rfl))
                  refine pure_ (i := 4) (N := some 43) (v := undef) (a' := ?_) #[true, true, true, true, true, false, false, false, false, false, false, false, false, false, false, false, false, false, false, false] rfl rfl (by kernel_rfl) (fun _ _ _ h => h) (Or.inr ⟨by rfl, rfl⟩) ?_ ?_
                  rotate_left
                  (focus (simp only [Act.put, List.setIfInBounds_toArray, List.set_cons_zero, List.set_cons_succ, i64_w, i32_w]; rfl))
                  refine pure_ (i := 5) (N := some 44) (v := undef) (a' := ?_) #[true, true, true, true, true, true, false, false, false, false, false, false, false, false, false, false, false, false, false, false] rfl rfl (by kernel_rfl) (fun _ _ _ h => h) (Or.inr ⟨by rfl, rfl⟩) ?_ ?_
                  rotate_left
                  (focus (simp only [Act.put, List.setIfInBounds_toArray, List.set_cons_zero, List.set_cons_succ, i64_w, i32_w]; rfl))
                  refine pure_ (i := 6) (N := some 45) (v := undef) (a' := ?_) #[true, true, true, true, true, true, true, false, false, false, false, false, false, false, false, false, false, false, false, false] rfl rfl (by kernel_rfl) (fun _ _ _ h => h) (Or.inr ⟨by rfl, rfl⟩) ?_ ?_
                  rotate_left
                  (focus (simp only [Act.put, List.setIfInBounds_toArray, List.set_cons_zero, List.set_cons_succ, i64_w, i32_w]; rfl))
                  refine pure_ (i := 7) (N := some 46) (v := undef) (a' := ?_) #[true, true, true, true, true, true, true, true, false, false, false, false, false, false, false, false, false, false, false, false] rfl rfl (by kernel_rfl) (fun _ _ _ h => h) (Or.inr ⟨by rfl, rfl⟩) ?_ ?_
                  rotate_left
                  (focus (simp only [Act.put, List.setIfInBounds_toArray, List.set_cons_zero, List.set_cons_succ, i64_w, i32_w]; rfl))
                  refine pure_ (i := 8) (N := some 47) (v := undef) (a' := ?_) #[true, true, true, true, true, true, true, true, true, false, false, false, false, false, false, false, false, false, false, false] rfl rfl (by kernel_rfl) (fun _ _ _ h => h) (Or.inr ⟨by rfl, rfl⟩) ?_ ?_
                  rotate_left
                  (focus (simp only [Act.put, List.setIfInBounds_toArray, List.set_cons_zero, List.set_cons_succ, i64_w, i32_w]; rfl))
                  refine pure_ (i := 9) (N := some 48) (v := undef) (a' := ?_) #[true, true, true, true, true, true, true, true, true, true, false, false, false, false, false, false, false, false, false, false] rfl rfl (by kernel_rfl) (fun _ _ _ h => h) (Or.inr ⟨by rfl, rfl⟩) ?_ ?_
                  rotate_left
                  (focus (simp only [Act.put, List.setIfInBounds_toArray, List.set_cons_zero, List.set_cons_succ, i64_w, i32_w]; rfl))
                  refine pure_ (i := 10) (N := some 49) (v := undef) (a' := ?_) #[true, true, true, true, true, true, true, true, true, true, true, false, false, false, false, false, false, false, false, false] rfl rfl (by kernel_rfl) (fun _ _ _ h => h) (Or.inr ⟨by rfl, rfl⟩) ?_ ?_
                  rotate_left
                  (focus (simp only [Act.put, List.setIfInBounds_toArray, List.set_cons_zero, List.set_cons_succ, i64_w, i32_w]; rfl))
                  refine pure_ (i := 11) (N := some 50) (v := undef) (a' := ?_) #[true, true, true, true, true, true, true, true, true, true, true, true, false, false, false, false, false, false, false, false] rfl rfl (by kernel_rfl) (fun _ _ _ h => h) (Or.inr ⟨by rfl, rfl⟩) ?_ ?_
                  rotate_left
                  (focus (simp only [Act.put, List.setIfInBounds_toArray, List.set_cons_zero, List.set_cons_succ, i64_w, i32_w]; rfl))
                  refine pure_ (i := 12) (N := some 51) (v := undef) (a' := ?_) #[true, true, true, true, true, true, true, true, true, true, true, true, true, false, false, false, false, false, false, false] rfl rfl (by kernel_rfl) (fun _ _ _ h => h) (Or.inr ⟨by rfl, rfl⟩) ?_ ?_
                  rotate_left
                  (focus (simp only [Act.put, List.setIfInBounds_toArray, List.set_cons_zero, List.set_cons_succ, i64_w, i32_w]; rfl))
                  refine pure_ (i := 13) (N := some 52) (v := undef) (a' := ?_) #[true, true, true, true, true, true, true, true, true, true, true, true, true, true, false, false, false, false, false, false] rfl rfl (by kernel_rfl) (fun _ _ _ h => h) (Or.inr ⟨by rfl, rfl⟩) ?_ ?_
                  rotate_left
                  (focus (simp only [Act.put, List.setIfInBounds_toArray, List.set_cons_zero, List.set_cons_succ, i64_w, i32_w]; rfl))
                  refine pure_ (i := 14) (N := some 53) (v := undef) (a' := ?_) #[true, true, true, true, true, true, true, true, true, true, true, true, true, true, true, false, false, false, false, false] rfl rfl (by kernel_rfl) (fun _ _ _ h => h) (Or.inr ⟨by rfl, rfl⟩) ?_ ?_
                  rotate_left
                  (focus (simp only [Act.put, List.setIfInBounds_toArray, List.set_cons_zero, List.set_cons_succ, i64_w, i32_w]; rfl))
                  refine pure_ (i := 15) (N := some 54) (v := undef) (a' := ?_) #[true, true, true, true, true, true, true, true, true, true, true, true, true, true, true, true, false, false, false, false] rfl rfl (by kernel_rfl) (fun _ _ _ h => h) (Or.inr ⟨by rfl, rfl⟩) ?_ ?_
                  rotate_left
                  (focus (simp only [Act.put, List.setIfInBounds_toArray, List.set_cons_zero, List.set_cons_succ, i64_w, i32_w]; rfl))
                  refine pure_ (i := 16) (N := some 55) (v := undef) (a' := ?_) #[true, true, true, true, true, true, true, true, true, true, true, true, true, true, true, true, true, false, false, false] rfl rfl (by kernel_rfl) (fun _ _ _ h => h) (Or.inr ⟨by rfl, rfl⟩) ?_ ?_
                  rotate_left
                  (focus (simp only [Act.put, List.setIfInBounds_toArray, List.set_cons_zero, List.set_cons_succ, i64_w, i32_w]; rfl))
                  refine pure_ (i := 17) (N := some 56) (v := undef) (a' := ?_) #[true, true, true, true, true, true, true, true, true, true, true, true, true, true, true, true, true, true, false, false] rfl rfl (by kernel_rfl) (fun _ _ _ h => h) (Or.inr ⟨by rfl, rfl⟩) ?_ ?_
                  rotate_left
                  (focus (simp only [Act.put, List.setIfInBounds_toArray, List.set_cons_zero, List.set_cons_succ, i64_w, i32_w]; rfl))
                  refine pure_ (i := 18) (N := some 57) (v := ?_) (a' := ?_) #[true, true, true, true, true, true, true, true, true, true, true, true, true, true, true, true, true, true, true, false] rfl rfl (by kernel_rfl) (fun _ _ _ h => h) (Or.inl ⟨by rfl, ?_⟩) ?_ ?_
                  rotate_left
                  · intro w'
                    go_simp
                    with_reducible rfl
                  rotate_left
                  · simp only [Act.put, List.setIfInBounds_toArray, List.set_cons_zero, List.set_cons_succ, i64_w, i32_w]
                    rfl
                  refine pure_ (i := 19) (N := some 9) (v := ?_) (a' := ?_) #[true, true, true, true, true, true, true, true, true, true, true, true, true, true, true, true, true, true, true, true] rfl rfl (by kernel_rfl) (fun _ _ _ h => h) (Or.inl ⟨by rfl, ?_⟩) ?_ ?_
                  rotate_left
                  · intro w'
                    go_simp
                    with_reducible rfl
                  rotate_left
                  · simp only [Act.put, List.setIfInBounds_toArray, List.set_cons_zero, List.set_cons_succ, i64_w, i32_w]
                    rfl
                  refine done_ (by kernel_rfl) ?_
                  go_wp2_with fail
                  go_roundg g'
                  case measure => omega
                  case rel => exact ⟨m + 1, by omega, by go_num, by rw [hfs.out], below_drew BX.out⟩
                | true =>
                  rw [hfr, Bool.true_and] at hfs
                  replace hfr := Lib.hid hfr
                  cases hdm : D.getD m false with
                  | true =>
                    have hum : uD D m = false := by unfold uD; rw [hdm]; rfl
                    rw [hum] at hfs
                    simp only [Bool.not_false, Bool.true_or] at hfs
                    rw [hdm] at f0
                    replace hfs := Lib.hid hfs
                    replace hdm := Lib.hid hdm
                    clear hum
                    go_wp2_with fail
                    refine start_ (n := 20) (S := fun w' => w'.cell? ⟨gl, ol + m * 5, none⟩ = some (.int .i64 (at' l m).kind) ∧ w'.cell? ⟨gl, ol + m * 5 + 1, none⟩ = some (.string (at' l m).key) ∧ w'.cell? ⟨gl, ol + m * 5 + 2, none⟩ = some (.bool (at' l m).ok) ∧ w'.cell? ⟨gl, ol + m * 5 + 3, none⟩ = some (.int .i64 (at' l m).inv) ∧ w'.cell? ⟨gl, ol + m * 5 + 4, none⟩ = some (.int .i64 (at' l m).ret) ∧ w'.cell? ⟨gl, ol + i * 5, none⟩ = some (.int .i64 (at' l i).kind) ∧ w'.cell? ⟨gl, ol + i * 5 + 1, none⟩ = some (.string (at' l i).key) ∧ w'.cell? ⟨gl, ol + i * 5 + 2, none⟩ = some (.bool (at' l i).ok) ∧ w'.cell? ⟨gl, ol + i * 5 + 3, none⟩ = some (.int .i64 (at' l i).inv) ∧ w'.cell? ⟨gl, ol + i * 5 + 4, none⟩ = some (.int .i64 (at' l i).ret) ∧ w'.cell? ⟨gd, m, none⟩ = some (.bool true)) (ds := []) #[false, false, false, false, false, false, false, false, false, false, false, false, false, false, false, false, false, false, false, false] (by kernel_rfl) rfl rfl ⟨e0, e1, e2, e3, e4, c0, c1, c2, c3, c4, f0⟩ (fun hHeld => ?_)
                    refine pure_ (i := 0) (N := some 39) (v := ?_) (a' := ?_) #[true, false, false, false, false, false, false, false, false, false, false, false, false, false, false, false, false, false, false, false] rfl rfl (by kernel_rfl) (fun _ _ _ h => h) (Or.inl ⟨by rfl, ?_⟩) ?_ ?_
                    rotate_left
                    · intro w'
                      go_simp
                      with_reducible rfl
                    rotate_left
                    · simp only [Act.put, List.setIfInBounds_toArray, List.set_cons_zero, List.set_cons_succ, i64_w, i32_w]
                      rfl
                    refine pure_ (i := 1) (N := some 40) (v := ?_) (a' := ?_) #[true, true, false, false, false, false, false, false, false, false, false, false, false, false, false, false, false, false, false, false] rfl rfl (by kernel_rfl) (fun _ _ _ h => h) (Or.inl ⟨by rfl, ?_⟩) ?_ ?_
                    rotate_left
                    · intro w'
                      go_simp
                      with_reducible rfl
                    rotate_left
                    · simp only [Act.put, List.setIfInBounds_toArray, List.set_cons_zero, List.set_cons_succ, i64_w, i32_w]
                      rfl
                    refine pure_ (i := 2) (N := some 41) (v := ?_) (a' := ?_) #[true, true, true, false, false, false, false, false, false, false, false, false, false, false, false, false, false, false, false, false] rfl rfl (by kernel_rfl) (fun _ _ _ h => h) (Or.inl ⟨by rfl, ?_⟩) ?_ ?_
                    rotate_left
                    · intro w'
                      go_simp
                      with_reducible rfl
                    rotate_left
                    · simp only [Act.put, List.setIfInBounds_toArray, List.set_cons_zero, List.set_cons_succ, i64_w, i32_w]
                      rfl
                    refine pure_ (i := 3) (N := some 42) (v := ?_) (a' := ?_) #[true, true, true, true, false, false, false, false, false, false, false, false, false, false, false, false, false, false, false, false] rfl rfl (by kernel_rfl) (fun _ _ _ h => h) (Or.inl ⟨by rfl, ?_⟩) ?_ ?_
                    rotate_left
                    · intro w'
                      go_simp
                      with_reducible rfl
                    rotate_left
                    · simp only [Act.put, List.setIfInBounds_toArray, List.set_cons_zero, List.set_cons_succ, i64_w, i32_w]
                      rfl
                    refine pure_ (i := 4) (N := some 43) (v := ?_) (a' := ?_) #[true, true, true, true, true, false, false, false, false, false, false, false, false, false, false, false, false, false, false, false] rfl rfl (by kernel_rfl) (fun _ _ _ h => h) (Or.inl ⟨by rfl, ?_⟩) ?_ ?_
                    rotate_left
                    · intro w'
                      go_simp
                      with_reducible rfl
                    rotate_left
                    · simp only [Act.put, List.setIfInBounds_toArray, List.set_cons_zero, List.set_cons_succ, i64_w, i32_w]
                      rfl
                    refine take_ (i := 5) (N := some 44) (v := ?_) (a' := ?_) #[true, true, true, true, true, true, false, false, false, false, false, false, false, false, false, false, false, false, false, false] rfl rfl (by kernel_rfl) (fun _ _ _ h => h) (Or.inl ⟨by rfl, ?_⟩) hHeld ?_ ?_
                    rotate_left
                    · rintro w' ⟨s0, s1, s2, s3, s4, s5, s6, s7, s8, s9, s10⟩
                      go_simp
                      with_reducible rfl
                    rotate_left
                    · simp only [Act.put, List.setIfInBounds_toArray, List.set_cons_zero, List.set_cons_succ, i64_w, i32_w]
                      rfl
                    refine pure_ (i := 6) (N := some 45) (v := ?_) (a' := ?_) #[true, true, true, true, true, true, true, false, false, false, false, false, false, false, false, false, false, false, false, false] rfl rfl (by kernel_rfl) (fun _ _ _ h => h) (Or.inl ⟨by rfl, ?_⟩) ?_ ?_
                    rotate_left
                    · intro w'
                      go_simp
                      with_reducible rfl
                    rotate_left
                    · simp only [Act.put, List.setIfInBounds_toArray, List.set_cons_zero, List.set_cons_succ, i64_w, i32_w]
                      rfl
                    refine pure_ (i := 7) (N := some 46) (v := undef) (a' := ?_) #[true, true, true, true, true, true, true, true, false, false, false, false, false, false, false, false, false, false, false, false] rfl rfl (by kernel_rfl) (fun _ _ _ h => h) (Or.inr ⟨by rfl, rfl⟩) ?_ ?_
                    rotate_left
                    (focus (simp only [Act.put, List.setIfInBounds_toArray, List.set_cons_zero, List.set_cons_succ, i64_w, i32_w]; rfl))
                    refine pure_ (i := 8) (N := some 47) (v := undef) (a' := ?_) #[true, true, true, true, true, true, true, true, true, false, false, false, false, false, false, false, false, false, false, false] rfl rfl (by kernel_rfl) (fun _ _ _ h => h) (Or.inr ⟨by rfl, rfl⟩) ?_ ?_
                    rotate_left
                    (focus (simp only [Act.put, List.setIfInBounds_toArray, List.set_cons_zero, List.set_cons_succ, i64_w, i32_w]; rfl))
                    refine pure_ (i := 9) (N := some 48) (v := undef) (a' := ?_) #[true, true, true, true, true, true, true, true, true, true, false, false, false, false, false, false, false, false, false, false] rfl rfl (by kernel_rfl) (fun _ _ _ h => h) (Or.inr ⟨by rfl, rfl⟩) ?_ ?_
                    rotate_left
                    (focus (simp only [Act.put, List.setIfInBounds_toArray, List.set_cons_zero, List.set_cons_succ, i64_w, i32_w]; rfl))
                    refine pure_ (i := 10) (N := some 49) (v := undef) (a' := ?_) #[true, true, true, true, true, true, true, true, true, true, true, false, false, false, false, false, false, false, false, false] rfl rfl (by kernel_rfl) (fun _ _ _ h => h) (Or.inr ⟨by rfl, rfl⟩) ?_ ?_
                    rotate_left
                    (focus (simp only [Act.put, List.setIfInBounds_toArray, List.set_cons_zero, List.set_cons_succ, i64_w, i32_w]; rfl))
                    refine pure_ (i := 11) (N := some 50) (v := undef) (a' := ?_) #[true, true, true, true, true, true, true, true, true, true, true, true, false, false, false, false, false, false, false, false] rfl rfl (by kernel_rfl) (fun _ _ _ h => h) (Or.inr ⟨by rfl, rfl⟩) ?_ ?_
                    rotate_left
                    (focus (simp only [Act.put, List.setIfInBounds_toArray, List.set_cons_zero, List.set_cons_succ, i64_w, i32_w]; rfl))
                    refine pure_ (i := 12) (N := some 51) (v := undef) (a' := ?_) #[true, true, true, true, true, true, true, true, true, true, true, true, true, false, false, false, false, false, false, false] rfl rfl (by kernel_rfl) (fun _ _ _ h => h) (Or.inr ⟨by rfl, rfl⟩) ?_ ?_
                    rotate_left
                    (focus (simp only [Act.put, List.setIfInBounds_toArray, List.set_cons_zero, List.set_cons_succ, i64_w, i32_w]; rfl))
                    refine pure_ (i := 13) (N := some 52) (v := undef) (a' := ?_) #[true, true, true, true, true, true, true, true, true, true, true, true, true, true, false, false, false, false, false, false] rfl rfl (by kernel_rfl) (fun _ _ _ h => h) (Or.inr ⟨by rfl, rfl⟩) ?_ ?_
                    rotate_left
                    (focus (simp only [Act.put, List.setIfInBounds_toArray, List.set_cons_zero, List.set_cons_succ, i64_w, i32_w]; rfl))
                    refine pure_ (i := 14) (N := some 53) (v := undef) (a' := ?_) #[true, true, true, true, true, true, true, true, true, true, true, true, true, true, true, false, false, false, false, false] rfl rfl (by kernel_rfl) (fun _ _ _ h => h) (Or.inr ⟨by rfl, rfl⟩) ?_ ?_
                    rotate_left
                    (focus (simp only [Act.put, List.setIfInBounds_toArray, List.set_cons_zero, List.set_cons_succ, i64_w, i32_w]; rfl))
                    refine pure_ (i := 15) (N := some 54) (v := undef) (a' := ?_) #[true, true, true, true, true, true, true, true, true, true, true, true, true, true, true, true, false, false, false, false] rfl rfl (by kernel_rfl) (fun _ _ _ h => h) (Or.inr ⟨by rfl, rfl⟩) ?_ ?_
                    rotate_left
                    (focus (simp only [Act.put, List.setIfInBounds_toArray, List.set_cons_zero, List.set_cons_succ, i64_w, i32_w]; rfl))
                    refine pure_ (i := 16) (N := some 55) (v := undef) (a' := ?_) #[true, true, true, true, true, true, true, true, true, true, true, true, true, true, true, true, true, false, false, false] rfl rfl (by kernel_rfl) (fun _ _ _ h => h) (Or.inr ⟨by rfl, rfl⟩) ?_ ?_
                    rotate_left
                    (focus (simp only [Act.put, List.setIfInBounds_toArray, List.set_cons_zero, List.set_cons_succ, i64_w, i32_w]; rfl))
                    refine pure_ (i := 17) (N := some 56) (v := ?_) (a' := ?_) #[true, true, true, true, true, true, true, true, true, true, true, true, true, true, true, true, true, true, false, false] rfl rfl (by kernel_rfl) (fun _ _ _ h => h) (Or.inl ⟨by rfl, ?_⟩) ?_ ?_
                    rotate_left
                    · intro w'
                      go_simp
                      with_reducible rfl
                    rotate_left
                    · simp only [Act.put, List.setIfInBounds_toArray, List.set_cons_zero, List.set_cons_succ, i64_w, i32_w]
                      rfl
                    refine pure_ (i := 18) (N := some 57) (v := ?_) (a' := ?_) #[true, true, true, true, true, true, true, true, true, true, true, true, true, true, true, true, true, true, true, false] rfl rfl (by kernel_rfl) (fun _ _ _ h => h) (Or.inl ⟨by rfl, ?_⟩) ?_ ?_
                    rotate_left
                    · intro w'
                      go_simp
                      with_reducible rfl
                    rotate_left
                    · simp only [Act.put, List.setIfInBounds_toArray, List.set_cons_zero, List.set_cons_succ, i64_w, i32_w]
                      rfl
                    refine pure_ (i := 19) (N := some 9) (v := ?_) (a' := ?_) #[true, true, true, true, true, true, true, true, true, true, true, true, true, true, true, true, true, true, true, true] rfl rfl (by kernel_rfl) (fun _ _ _ h => h) (Or.inl ⟨by rfl, ?_⟩) ?_ ?_
                    rotate_left
                    · intro w'
                      go_simp
                      with_reducible rfl
                    rotate_left
                    · simp only [Act.put, List.setIfInBounds_toArray, List.set_cons_zero, List.set_cons_succ, i64_w, i32_w]
                      rfl
                    refine done_ (by kernel_rfl) ?_
                    go_wp2_with fail
                    go_roundg g'
                    case measure => omega
                    case rel => exact ⟨m + 1, by omega, by go_num, by rw [hfs.out], below_drew BX.out⟩
                  | false =>
                    have hum : uD D m = true := by unfold uD; rw [hdm]; rfl
                    rw [hum] at hfs
                    simp only [Bool.not_true, Bool.false_or] at hfs
                    rw [hdm] at f0
                    have hAh := aheadRC (at' l m) (at' l i)
                    unfold V at hAh
                    replace hAh := Lib.hid hAh
                    replace hfs := Lib.hid hfs
                    replace hdm := Lib.hid hdm
                    clear hum
                    go_wp2_with fail
                    refine start_ (n := 20) (S := fun w' => w'.cell? ⟨gl, ol + m * 5, none⟩ = some (.int .i64 (at' l m).kind) ∧ w'.cell? ⟨gl, ol + m * 5 + 1, none⟩ = some (.string (at' l m).key) ∧ w'.cell? ⟨gl, ol + m * 5 + 2, none⟩ = some (.bool (at' l m).ok) ∧ w'.cell? ⟨gl, ol + m * 5 + 3, none⟩ = some (.int .i64 (at' l m).inv) ∧ w'.cell? ⟨gl, ol + m * 5 + 4, none⟩ = some (.int .i64 (at' l m).ret) ∧ w'.cell? ⟨gl, ol + i * 5, none⟩ = some (.int .i64 (at' l i).kind) ∧ w'.cell? ⟨gl, ol + i * 5 + 1, none⟩ = some (.string (at' l i).key) ∧ w'.cell? ⟨gl, ol + i * 5 + 2, none⟩ = some (.bool (at' l i).ok) ∧ w'.cell? ⟨gl, ol + i * 5 + 3, none⟩ = some (.int .i64 (at' l i).inv) ∧ w'.cell? ⟨gl, ol + i * 5 + 4, none⟩ = some (.int .i64 (at' l i).ret) ∧ w'.cell? ⟨gd, m, none⟩ = some (.bool false)) (ds := []) #[false, false, false, false, false, false, false, false, false, false, false, false, false, false, false, false, false, false, false, false] (by kernel_rfl) rfl rfl ⟨e0, e1, e2, e3, e4, c0, c1, c2, c3, c4, f0⟩ (fun hHeld => ?_)
                    refine pure_ (i := 0) (N := some 39) (v := ?_) (a' := ?_) #[true, false, false, false, false, false, false, false, false, false, false, false, false, false, false, false, false, false, false, false] rfl rfl (by kernel_rfl) (fun _ _ _ h => h) (Or.inl ⟨by rfl, ?_⟩) ?_ ?_
                    rotate_left
                    · intro w'
                      go_simp
                      with_reducible rfl
                    rotate_left
                    · simp only [Act.put, List.setIfInBounds_toArray, List.set_cons_zero, List.set_cons_succ, i64_w, i32_w]
                      rfl
                    refine pure_ (i := 1) (N := some 40) (v := ?_) (a' := ?_) #[true, true, false, false, false, false, false, false, false, false, false, false, false, false, false, false, false, false, false, false] rfl rfl (by kernel_rfl) (fun _ _ _ h => h) (Or.inl ⟨by rfl, ?_⟩) ?_ ?_
                    rotate_left
                    · intro w'
                      go_simp
                      with_reducible rfl
                    rotate_left
                    · simp only [Act.put, List.setIfInBounds_toArray, List.set_cons_zero, List.set_cons_succ, i64_w, i32_w]
                      rfl
                    refine pure_ (i := 2) (N := some 41) (v := ?_) (a' := ?_) #[true, true, true, false, false, false, false, false, false, false, false, false, false, false, false, false, false, false, false, false] rfl rfl (by kernel_rfl) (fun _ _ _ h => h) (Or.inl ⟨by rfl, ?_⟩) ?_ ?_
                    rotate_left
                    · intro w'
                      go_simp
                      with_reducible rfl
                    rotate_left
                    · simp only [Act.put, List.setIfInBounds_toArray, List.set_cons_zero, List.set_cons_succ, i64_w, i32_w]
                      rfl
                    refine pure_ (i := 3) (N := some 42) (v := ?_) (a' := ?_) #[true, true, true, true, false, false, false, false, false, false, false, false, false, false, false, false, false, false, false, false] rfl rfl (by kernel_rfl) (fun _ _ _ h => h) (Or.inl ⟨by rfl, ?_⟩) ?_ ?_
                    rotate_left
                    · intro w'
                      go_simp
                      with_reducible rfl
                    rotate_left
                    · simp only [Act.put, List.setIfInBounds_toArray, List.set_cons_zero, List.set_cons_succ, i64_w, i32_w]
                      rfl
                    refine pure_ (i := 4) (N := some 43) (v := ?_) (a' := ?_) #[true, true, true, true, true, false, false, false, false, false, false, false, false, false, false, false, false, false, false, false] rfl rfl (by kernel_rfl) (fun _ _ _ h => h) (Or.inl ⟨by rfl, ?_⟩) ?_ ?_
                    rotate_left
                    · intro w'
                      go_simp
                      with_reducible rfl
                    rotate_left
                    · simp only [Act.put, List.setIfInBounds_toArray, List.set_cons_zero, List.set_cons_succ, i64_w, i32_w]
                      rfl
                    refine take_ (i := 5) (N := some 44) (v := ?_) (a' := ?_) #[true, true, true, true, true, true, false, false, false, false, false, false, false, false, false, false, false, false, false, false] rfl rfl (by kernel_rfl) (fun _ _ _ h => h) (Or.inl ⟨by rfl, ?_⟩) hHeld ?_ ?_
                    rotate_left
                    · rintro w' ⟨s0, s1, s2, s3, s4, s5, s6, s7, s8, s9, s10⟩
                      go_simp
                      with_reducible rfl
                    rotate_left
                    · simp only [Act.put, List.setIfInBounds_toArray, List.set_cons_zero, List.set_cons_succ, i64_w, i32_w]
                      rfl
                    refine pure_ (i := 6) (N := some 45) (v := ?_) (a' := ?_) #[true, true, true, true, true, true, true, false, false, false, false, false, false, false, false, false, false, false, false, false] rfl rfl (by kernel_rfl) (fun _ _ _ h => h) (Or.inl ⟨by rfl, ?_⟩) ?_ ?_
                    rotate_left
                    · intro w'
                      go_simp
                      with_reducible rfl
                    rotate_left
                    · simp only [Act.put, List.setIfInBounds_toArray, List.set_cons_zero, List.set_cons_succ, i64_w, i32_w]
                      rfl
                    refine pure_ (i := 7) (N := some 46) (v := ?_) (a' := ?_) #[true, true, true, true, true, true, true, true, false, false, false, false, false, false, false, false, false, false, false, false] rfl rfl (by kernel_rfl) (fun _ _ _ h => h) (Or.inl ⟨by rfl, ?_⟩) ?_ ?_
                    rotate_left
                    · intro w'
                      go_simp
                      with_reducible rfl
                    rotate_left
                    · simp only [Act.put, List.setIfInBounds_toArray, List.set_cons_zero, List.set_cons_succ, i64_w, i32_w]
                      rfl
                    refine pure_ (i := 8) (N := some 47) (v := ?_) (a' := ?_) #[true, true, true, true, true, true, true, true, true, false, false, false, false, false, false, false, false, false, false, false] rfl rfl (by kernel_rfl) (fun _ _ _ h => h) (Or.inl ⟨by rfl, ?_⟩) ?_ ?_
                    rotate_left
                    · intro w'
                      go_simp
                      with_reducible rfl
                    rotate_left
                    · simp only [Act.put, List.setIfInBounds_toArray, List.set_cons_zero, List.set_cons_succ, i64_w, i32_w]
                      rfl
                    refine pure_ (i := 9) (N := some 48) (v := ?_) (a' := ?_) #[true, true, true, true, true, true, true, true, true, true, false, false, false, false, false, false, false, false, false, false] rfl rfl (by kernel_rfl) (fun _ _ _ h => h) (Or.inl ⟨by rfl, ?_⟩) ?_ ?_
                    rotate_left
                    · intro w'
                      go_simp
                      with_reducible rfl
                    rotate_left
                    · simp only [Act.put, List.setIfInBounds_toArray, List.set_cons_zero, List.set_cons_succ, i64_w, i32_w]
                      rfl
                    refine pure_ (i := 11) (N := some 50) (v := ?_) (a' := ?_) #[true, true, true, true, true, true, true, true, true, true, false, true, false, false, false, false, false, false, false, false] rfl rfl (by kernel_rfl) (fun _ _ _ h => h) (Or.inl ⟨by rfl, ?_⟩) ?_ ?_
                    rotate_left
                    · intro w'
                      go_simp
                      with_reducible rfl
                    rotate_left
                    · simp only [Act.put, List.setIfInBounds_toArray, List.set_cons_zero, List.set_cons_succ, i64_w, i32_w]
                      rfl
                    refine pure_ (i := 12) (N := some 51) (v := ?_) (a' := ?_) #[true, true, true, true, true, true, true, true, true, true, false, true, true, false, false, false, false, false, false, false] rfl rfl (by kernel_rfl) (fun _ _ _ h => h) (Or.inl ⟨by rfl, ?_⟩) ?_ ?_
                    rotate_left
                    · intro w'
                      go_simp
                      with_reducible rfl
                    rotate_left
                    · simp only [Act.put, List.setIfInBounds_toArray, List.set_cons_zero, List.set_cons_succ, i64_w, i32_w]
                      rfl
                    refine pure_ (i := 13) (N := some 52) (v := ?_) (a' := ?_) #[true, true, true, true, true, true, true, true, true, true, false, true, true, true, false, false, false, false, false, false] rfl rfl (by kernel_rfl) (fun _ _ _ h => h) (Or.inl ⟨by rfl, ?_⟩) ?_ ?_
                    rotate_left
                    · intro w'
                      go_simp
                      with_reducible rfl
                    rotate_left
                    · simp only [Act.put, List.setIfInBounds_toArray, List.set_cons_zero, List.set_cons_succ, i64_w, i32_w]
                      rfl
                    refine take_ (i := 10) (N := some 49) (v := ?_) (a' := ?_) #[true, true, true, true, true, true, true, true, true, true, true, true, true, true, false, false, false, false, false, false] rfl rfl (by kernel_rfl) (fun _ _ _ h => h) (Or.inl ⟨by rfl, ?_⟩) hHeld ?_ ?_
                    rotate_left
                    · rintro w' ⟨s0, s1, s2, s3, s4, s5, s6, s7, s8, s9, s10⟩
                      go_simp
                      with_reducible rfl
                    rotate_left
                    · simp only [Act.put, List.setIfInBounds_toArray, List.set_cons_zero, List.set_cons_succ, i64_w, i32_w]
                      rfl
                    refine take_ (i := 14) (N := some 53) (v := ?_) (a' := ?_) #[true, true, true, true, true, true, true, true, true, true, true, true, true, true, true, false, false, false, false, false] rfl rfl (by kernel_rfl) (fun _ _ _ h => h) (Or.inl ⟨by rfl, ?_⟩) hHeld ?_ ?_
                    rotate_left
                    · rintro w' ⟨s0, s1, s2, s3, s4, s5, s6, s7, s8, s9, s10⟩
                      go_simp
                      with_reducible rfl
                    rotate_left
                    · simp only [Act.put, List.setIfInBounds_toArray, List.set_cons_zero, List.set_cons_succ, i64_w, i32_w]
                      rfl
                    refine one_ (i := 15) (N := some 54) #[true, true, true, true, true, true, true, true, true, true, true, true, true, true, true, true, false, false, false, false] rfl rfl (by kernel_rfl) (by decide) (fun K hK => ?_)
                    refine goes_ Try.func12 (by kernel_rfl) rfl #[.agg #[.int .i64 (at' l m).kind, .string (at' l m).key, .bool (at' l m).ok, .int .i64 (at' l m).inv, .int .i64 (at' l m).ret], .agg #[.int .i64 (at' l i).kind, .string (at' l i).key, .bool (at' l i).ok, .int .i64 (at' l i).inv, .int .i64 (at' l i).ret]] (by rfl) rfl rfl (by simp only [List.map_toArray, List.map_cons, List.map_nil]; rfl) ?_
                    with_reducible refine (hAh.out _).mono ?_
                    rintro e wq ⟨rfl, hq⟩
                    refine ⟨_, rfl, ?_⟩
                    have bq := (below_drew BX.out).trans (hq.mono (below_drew BX.out).size)
                    have hb := fun (o : Nat) => hq.cell (p := ⟨gl, o, none⟩) (cell_lt e0)
                    have hb2 := hq.cell (p := ⟨gd, m, none⟩) (cell_lt f0)
                    have k0 := (hb _).trans e0
                    have k1 := (hb _).trans e1
                    have k2 := (hb _).trans e2
                    have k3 := (hb _).trans e3
                    have k4 := (hb _).trans e4
                    have n0 := (hb _).trans c0
                    have n1 := (hb _).trans c1
                    have n2 := (hb _).trans c2
                    have n3 := (hb _).trans c3
                    have n4 := (hb _).trans c4
                    have n5 := hb2.trans f0
                    replace bq := Lib.hid bq
                    clear hb hb2 hq
                    refine hK.out _ _ ⟨k0, k1, k2, k3, k4, n0, n1, n2, n3, n4, n5⟩ (fun hHeld => ?_)
                    clear hK K
                    refine norm_ (a' := ?_) ?_ ?_
                    rotate_left
                    · show Act.put _ (some 54) _ = _
                      simp only [Act.put, List.setIfInBounds_toArray, List.set_cons_zero, List.set_cons_succ, i64_w, i32_w]
                      rfl
                    refine pure_ (i := 16) (N := some 55) (v := ?_) (a' := ?_) #[true, true, true, true, true, true, true, true, true, true, true, true, true, true, true, true, true, false, false, false] rfl rfl (by kernel_rfl) (fun _ _ _ h => h) (Or.inl ⟨by rfl, ?_⟩) ?_ ?_
                    rotate_left
                    · intro w'
                      go_simp
                      with_reducible rfl
                    rotate_left
                    · simp only [Act.put, List.setIfInBounds_toArray, List.set_cons_zero, List.set_cons_succ, i64_w, i32_w]
                      rfl
                    refine pure_ (i := 17) (N := some 56) (v := ?_) (a' := ?_) #[true, true, true, true, true, true, true, true, true, true, true, true, true, true, true, true, true, true, false, false] rfl rfl (by kernel_rfl) (fun _ _ _ h => h) (Or.inl ⟨by rfl, ?_⟩) ?_ ?_
                    rotate_left
                    · intro w'
                      go_simp
                      with_reducible rfl
                    rotate_left
                    · simp only [Act.put, List.setIfInBounds_toArray, List.set_cons_zero, List.set_cons_succ, i64_w, i32_w]
                      rfl
                    refine pure_ (i := 18) (N := some 57) (v := ?_) (a' := ?_) #[true, true, true, true, true, true, true, true, true, true, true, true, true, true, true, true, true, true, true, false] rfl rfl (by kernel_rfl) (fun _ _ _ h => h) (Or.inl ⟨by rfl, ?_⟩) ?_ ?_
                    rotate_left
                    · intro w'
                      go_simp
                      with_reducible rfl
                    rotate_left
                    · simp only [Act.put, List.setIfInBounds_toArray, List.set_cons_zero, List.set_cons_succ, i64_w, i32_w]
                      rfl
                    refine pure_ (i := 19) (N := some 9) (v := ?_) (a' := ?_) #[true, true, true, true, true, true, true, true, true, true, true, true, true, true, true, true, true, true, true, true] rfl rfl (by kernel_rfl) (fun _ _ _ h => h) (Or.inl ⟨by rfl, ?_⟩) ?_ ?_
                    rotate_left
                    · intro w'
                      go_simp
                      with_reducible rfl
                    rotate_left
                    · simp only [Act.put, List.setIfInBounds_toArray, List.set_cons_zero, List.set_cons_succ, i64_w, i32_w]
                      rfl
                    refine done_ (by kernel_rfl) ?_
                    go_wp2_with fail
                    go_roundg g'
                    case measure => omega
                    case rel => exact ⟨m + 1, by omega, by go_num, by rw [hfs.out], bq.out⟩)
end Go.Proofs.Ytecjkpjcmgohmab.Or

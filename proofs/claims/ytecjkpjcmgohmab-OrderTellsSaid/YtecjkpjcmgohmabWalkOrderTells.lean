/- OrderTells: whether any calls fit any set, and whether any one is ahead of another one. Laid by gentells.py. -/
import Derived.Test.YtecjkpjcmgohmabOrF
namespace Go.Proofs.Ytecjkpjcmgohmab.WalkOrderTells
open Go Go.RowKit Go.Maps Go.Proofs.Ytecjkpjcmgohmab.Only Go.Proofs.Ytecjkpjcmgohmab.Pu Go.Proofs.Ytecjkpjcmgohmab.Or Go.Proofs.Ytecjkpjcmgohmab.Args Go.Proofs.YtecjkpjcmgohmabW.PrintLast
set_option linter.unusedVariables false
set_option linter.unusedSimpArgs false

/-- What is read at a pair: both calls, in both slices. -/
structure Pr (gx gl ol : Nat) (i m : Nat) (a b : C) (w : World) : Prop where
  x : CellsC w gx (i * 5) a
  y : CellsC w gx (m * 5) b
  u : CellsC w gl (ol + i * 5) a
  v : CellsC w gl (ol + m * 5) b
theorem Pr.below {gx gl ol i m : Nat} {a b : C} {w w' : World} (h : Pr gx gl ol i m a b w) (hb : Below w.heap.size w w') : Pr gx gl ol i m a b w' := ⟨h.x.below hb, h.y.below hb, h.u.below hb, h.v.below hb⟩
set_option maxHeartbeats 8000000 in
set_option maxRecDepth 2000000 in
theorem core {W : World} {vf v : Value} {zs : List ByteArray} {l : List C} (hF : Strs W vf zs) (hL : SlR W v l) (hk : ∀ c ∈ l, c.key.size ≤ maxLen) :
    Calls Try.prog 3 #[vf, v] W fun e w' => e = .returned (.bool true) ∧ Below W.heap.size W w' := by
  obtain ⟨af, capf, rfl, hfl, -⟩ := hF.shape
  obtain ⟨av, capv, rfl, hvl, hx⟩ := hL.shape
  unfold maxLen at hfl hvl
  replace hx := Lib.hid hx
  have hAw := Lib.hid (awake W)
  by_cases h0 : 20 < zs.length ∨ (7 < l.length ∧ l.length ≤ 12) ∨ 20 < l.length
  · have stop : ∀ w1, Below W.heap.size W w1 → True := fun _ _ => trivial
    by_cases h1 : 20 < zs.length
    · have q1 : decide ((20 : Int) < (zs.length : Int)) = true := by simp; omega
      go_enter Try.func3, Try.ntmps3
      go_wp2_with fail
      refine hAw.out.mono ?_
      rintro e w1 ⟨rfl, b1⟩
      go_wp2_with fail
      go_ret
      exact ⟨rfl, b1⟩
    have q1 : decide ((20 : Int) < (zs.length : Int)) = false := by simp; omega
    by_cases h2 : 20 < l.length
    · have q2 : decide ((7 : Int) < (l.length : Int)) = true := by simp; omega
      have q3 : decide ((l.length : Int) ≤ 12) = false := by simp; omega
      have q4 : decide ((20 : Int) < (l.length : Int)) = true := by simp; omega
      go_enter Try.func3, Try.ntmps3
      go_wp2_with fail
      refine hAw.out.mono ?_
      rintro e w1 ⟨rfl, b1⟩
      go_wp2_with fail
      go_ret
      exact ⟨rfl, b1⟩
    have q2 : decide ((7 : Int) < (l.length : Int)) = true := by simp; omega
    have q3 : decide ((l.length : Int) ≤ 12) = true := by simp; omega
    go_enter Try.func3, Try.ntmps3
    go_wp2_with fail
    refine hAw.out.mono ?_
    rintro e w1 ⟨rfl, b1⟩
    go_wp2_with fail
    go_ret
    exact ⟨rfl, b1⟩
  have q1 : decide ((20 : Int) < (zs.length : Int)) = false := by simp; omega
  have q4 : decide ((20 : Int) < (l.length : Int)) = false := by simp; omega
  have hl20 : l.length ≤ 20 := by omega
  have hz20 : zs.length ≤ 20 := by omega
  have q23 : (decide ((7 : Int) < (l.length : Int)) = true ∧ decide ((l.length : Int) ≤ 12) = false) ∨ decide ((7 : Int) < (l.length : Int)) = false := by
    by_cases h : 7 < l.length
    · exact .inl ⟨by simp; omega, by simp; omega⟩
    · exact .inr (by simp; omega)
  replace hF := Lib.hid hF
  replace hL := Lib.hid hL
  have hA1 := fun (i m : Nat) => aheadC (at' l i) (at' l m)
  have hA2 := fun (i m : Nat) => aheadRC (at' l i) (at' l m)
  unfold V at hA1 hA2
  replace hA1 := Lib.hid hA1
  replace hA2 := Lib.hid hA2
  clear h0
  have main : ∀ w1, Below W.heap.size W w1 → Calls Try.prog 10 #[.slice av l.length capv] w1 fun e w' => ∃ v', e = .returned v' ∧ Own w' w1.heap.size v' l ∧ Below w1.heap.size w1 w' := fun w1 b1 => madeC (hL.out.below b1) (by omega)
  replace main := Lib.hid main
  go_enter Try.func3, Try.ntmps3
  go_wp2_with fail
  refine hAw.out.mono ?_
  rintro e w1 ⟨rfl, b1⟩
  have hM := Lib.hid (main.out w1 b1)
  have b1' := Lib.hid b1
  clear hAw b1 main
  rcases q23 with ⟨q2, q3⟩ | q2
  all_goals (
    go_wp2_with fail
    refine hM.out.mono ?_
    rintro e w2 ⟨vx, rfl, ox, b2⟩
    have B2 := b1'.out.trans (b2.mono b1'.out.size)
    obtain ⟨ax, cx, ex, -, -⟩ := own_any ox
    subst ex
    replace B2 := Lib.hid B2
    replace ox := Lib.hid ox
    clear b2 hM
    go_wp2_with fail
    go_loopg [7] l.length (fun g s7 wr => ∃ i : Nat, i + g = l.length ∧ s7 = .int .i64 i ∧ Aside (Below w2.heap.size w2 wr))
    case atStart => exact ⟨0, by omega, rfl, Below.refl _ _⟩
    case round =>
      obtain ⟨i, hig, rfl, P⟩ := hrel
      cases gk with
      | zero =>
        obtain rfl : i = l.length := by omega
        have hbW := B2.out.trans (P.out.mono B2.out.size)
        have FX := fitsAll (hF.out.below hbW) (own_below ox.out P.out) hk
        rw [fits_same] at FX
        have FR := fun (w3 : World) (b3 : Below W.heap.size W w3) => fitsRC (hF.out.below b3) (by omega) (hL.out.below b3)
        generalize fitsR zs l = r at FX FR
        replace FX := Lib.hid FX
        replace FR := Lib.hid FR
        replace hbW := Lib.hid hbW
        go_wp2_with fail
        refine FX.out.mono ?_
        rintro e w3 ⟨rfl, b3⟩
        have B3 := hbW.out.trans (b3.mono hbW.out.size)
        have FR3 := FR.out w3 B3
        replace FR3 := Lib.hid FR3
        replace B3 := Lib.hid B3
        clear b3 FR
        go_wp2_with fail
        refine FR3.out.mono ?_
        rintro e w4 ⟨rfl, b4⟩
        go_wp2_with fail
        go_ret
        exact ⟨by simp, B3.out.trans (b4.mono B3.out.size)⟩
      | succ g =>
        have hil : i < l.length := by omega
        obtain ⟨gl, ol, rfl, hgl, hcl⟩ := hx.out i hil
        obtain ⟨gx, cap', hvX, -, hgx, hcx⟩ := own_cells ox.out hil
        injection hvX with hvX hvn hvc
        clear hvn
        subst hvc
        subst hvX
        replace hcl := Lib.hid hcl
        replace hcx := Lib.hid hcx
        go_wp2_with fail
        go_loopg [8] l.length (fun g s8 wx => ∃ m : Nat, m + g = l.length ∧ s8 = .int .i64 m ∧ Aside (Below w2.heap.size w2 wx))
        case atStart => exact ⟨0, by omega, rfl, P.out⟩
        case round =>
          obtain ⟨m, hmg, rfl, R⟩ := hrel
          cases gk with
          | zero =>
            obtain rfl : m = l.length := by omega
            go_wp2_with fail
            go_roundg g
            case measure => omega
            case rel => exact ⟨i + 1, by omega, by go_num, R.out⟩
          | succ g' =>
            have hml : m < l.length := by omega
            obtain ⟨gl', ol', eal, -, hcm⟩ := hx.out m hml
            injection eal with eal
            injection eal with eal1 eal2
            subst eal1 eal2
            obtain ⟨gx', cap', hvX, -, -, hcxm⟩ := own_cells ox.out hml
            injection hvX with hvX hvn hvc
            injection hvX with hvX
            injection hvX with hvX
            clear hvn
            subst hvc
            subst hvX
            have hbW := B2.out.trans (R.out.mono B2.out.size)
            have H : Pr gx gl ol i m (at' l i) (at' l m) wr := ⟨hcx.out.below R.out, hcxm.below R.out, hcl.out.below hbW, hcm.below hbW⟩
            clear hcm hcxm
            obtain ⟨⟨x0, x1, x2, x3, x4⟩, ⟨y0, y1, y2, y3, y4⟩, ⟨u0, u1, u2, u3, u4⟩, ⟨v0, v1, v2, v3, v4⟩⟩ := H.below (below_drew (Below.refl _ wr))
            have hD : Below wr.heap.size wr wr.drew := below_drew (Below.refl _ wr)
            have hA1i := hA1.out i m
            have hA2i := hA2.out i m
            replace hA1i := Lib.hid hA1i
            replace hA2i := Lib.hid hA2i
            replace hbW := Lib.hid hbW
            replace H := Lib.hid H
            replace hD := Lib.hid hD
            go_wp2_with fail
            refine start_ (n := 19) (S := fun w' => w'.cell? ⟨gx, i * 5, none⟩ = some (.int .i64 (at' l i).kind) ∧ w'.cell? ⟨gx, i * 5 + 1, none⟩ = some (.string (at' l i).key) ∧ w'.cell? ⟨gx, i * 5 + 2, none⟩ = some (.bool (at' l i).ok) ∧ w'.cell? ⟨gx, i * 5 + 3, none⟩ = some (.int .i64 (at' l i).inv) ∧ w'.cell? ⟨gx, i * 5 + 4, none⟩ = some (.int .i64 (at' l i).ret) ∧ w'.cell? ⟨gx, m * 5, none⟩ = some (.int .i64 (at' l m).kind) ∧ w'.cell? ⟨gx, m * 5 + 1, none⟩ = some (.string (at' l m).key) ∧ w'.cell? ⟨gx, m * 5 + 2, none⟩ = some (.bool (at' l m).ok) ∧ w'.cell? ⟨gx, m * 5 + 3, none⟩ = some (.int .i64 (at' l m).inv) ∧ w'.cell? ⟨gx, m * 5 + 4, none⟩ = some (.int .i64 (at' l m).ret) ∧ w'.cell? ⟨gl, ol + i * 5, none⟩ = some (.int .i64 (at' l i).kind) ∧ w'.cell? ⟨gl, ol + i * 5 + 1, none⟩ = some (.string (at' l i).key) ∧ w'.cell? ⟨gl, ol + i * 5 + 2, none⟩ = some (.bool (at' l i).ok) ∧ w'.cell? ⟨gl, ol + i * 5 + 3, none⟩ = some (.int .i64 (at' l i).inv) ∧ w'.cell? ⟨gl, ol + i * 5 + 4, none⟩ = some (.int .i64 (at' l i).ret) ∧ w'.cell? ⟨gl, ol + m * 5, none⟩ = some (.int .i64 (at' l m).kind) ∧ w'.cell? ⟨gl, ol + m * 5 + 1, none⟩ = some (.string (at' l m).key) ∧ w'.cell? ⟨gl, ol + m * 5 + 2, none⟩ = some (.bool (at' l m).ok) ∧ w'.cell? ⟨gl, ol + m * 5 + 3, none⟩ = some (.int .i64 (at' l m).inv) ∧ w'.cell? ⟨gl, ol + m * 5 + 4, none⟩ = some (.int .i64 (at' l m).ret)) (ds := []) #[false, false, false, false, false, false, false, false, false, false, false, false, false, false, false, false, false, false, false] (by kernel_rfl) rfl rfl ⟨x0, x1, x2, x3, x4, y0, y1, y2, y3, y4, u0, u1, u2, u3, u4, v0, v1, v2, v3, v4⟩ (fun hHeld => ?_)
            refine pure_ (i := 0) (N := some 43) (v := ?_) (a' := ?_) #[true, false, false, false, false, false, false, false, false, false, false, false, false, false, false, false, false, false, false] rfl rfl (by kernel_rfl) (fun _ _ _ h => h) (Or.inl ⟨by rfl, ?_⟩) ?_ ?_
            rotate_left
            · intro w'
              go_simp
              with_reducible rfl
            rotate_left
            · simp only [Act.put, List.setIfInBounds_toArray, List.set_cons_zero, List.set_cons_succ, i64_w, i32_w]
              rfl
            refine pure_ (i := 1) (N := some 44) (v := ?_) (a' := ?_) #[true, true, false, false, false, false, false, false, false, false, false, false, false, false, false, false, false, false, false] rfl rfl (by kernel_rfl) (fun _ _ _ h => h) (Or.inl ⟨by rfl, ?_⟩) ?_ ?_
            rotate_left
            · intro w'
              go_simp
              with_reducible rfl
            rotate_left
            · simp only [Act.put, List.setIfInBounds_toArray, List.set_cons_zero, List.set_cons_succ, i64_w, i32_w]
              rfl
            refine pure_ (i := 2) (N := some 45) (v := ?_) (a' := ?_) #[true, true, true, false, false, false, false, false, false, false, false, false, false, false, false, false, false, false, false] rfl rfl (by kernel_rfl) (fun _ _ _ h => h) (Or.inl ⟨by rfl, ?_⟩) ?_ ?_
            rotate_left
            · intro w'
              go_simp
              with_reducible rfl
            rotate_left
            · simp only [Act.put, List.setIfInBounds_toArray, List.set_cons_zero, List.set_cons_succ, i64_w, i32_w]
              rfl
            refine pure_ (i := 4) (N := some 47) (v := ?_) (a' := ?_) #[true, true, true, false, true, false, false, false, false, false, false, false, false, false, false, false, false, false, false] rfl rfl (by kernel_rfl) (fun _ _ _ h => h) (Or.inl ⟨by rfl, ?_⟩) ?_ ?_
            rotate_left
            · intro w'
              go_simp
              with_reducible rfl
            rotate_left
            · simp only [Act.put, List.setIfInBounds_toArray, List.set_cons_zero, List.set_cons_succ, i64_w, i32_w]
              rfl
            refine pure_ (i := 5) (N := some 48) (v := ?_) (a' := ?_) #[true, true, true, false, true, true, false, false, false, false, false, false, false, false, false, false, false, false, false] rfl rfl (by kernel_rfl) (fun _ _ _ h => h) (Or.inl ⟨by rfl, ?_⟩) ?_ ?_
            rotate_left
            · intro w'
              go_simp
              with_reducible rfl
            rotate_left
            · simp only [Act.put, List.setIfInBounds_toArray, List.set_cons_zero, List.set_cons_succ, i64_w, i32_w]
              rfl
            refine pure_ (i := 6) (N := some 49) (v := ?_) (a' := ?_) #[true, true, true, false, true, true, true, false, false, false, false, false, false, false, false, false, false, false, false] rfl rfl (by kernel_rfl) (fun _ _ _ h => h) (Or.inl ⟨by rfl, ?_⟩) ?_ ?_
            rotate_left
            · intro w'
              go_simp
              with_reducible rfl
            rotate_left
            · simp only [Act.put, List.setIfInBounds_toArray, List.set_cons_zero, List.set_cons_succ, i64_w, i32_w]
              rfl
            refine pure_ (i := 9) (N := some 52) (v := ?_) (a' := ?_) #[true, true, true, false, true, true, true, false, false, true, false, false, false, false, false, false, false, false, false] rfl rfl (by kernel_rfl) (fun _ _ _ h => h) (Or.inl ⟨by rfl, ?_⟩) ?_ ?_
            rotate_left
            · intro w'
              go_simp
              with_reducible rfl
            rotate_left
            · simp only [Act.put, List.setIfInBounds_toArray, List.set_cons_zero, List.set_cons_succ, i64_w, i32_w]
              rfl
            refine pure_ (i := 10) (N := some 53) (v := ?_) (a' := ?_) #[true, true, true, false, true, true, true, false, false, true, true, false, false, false, false, false, false, false, false] rfl rfl (by kernel_rfl) (fun _ _ _ h => h) (Or.inl ⟨by rfl, ?_⟩) ?_ ?_
            rotate_left
            · intro w'
              go_simp
              with_reducible rfl
            rotate_left
            · simp only [Act.put, List.setIfInBounds_toArray, List.set_cons_zero, List.set_cons_succ, i64_w, i32_w]
              rfl
            refine pure_ (i := 11) (N := some 54) (v := ?_) (a' := ?_) #[true, true, true, false, true, true, true, false, false, true, true, true, false, false, false, false, false, false, false] rfl rfl (by kernel_rfl) (fun _ _ _ h => h) (Or.inl ⟨by rfl, ?_⟩) ?_ ?_
            rotate_left
            · intro w'
              go_simp
              with_reducible rfl
            rotate_left
            · simp only [Act.put, List.setIfInBounds_toArray, List.set_cons_zero, List.set_cons_succ, i64_w, i32_w]
              rfl
            refine pure_ (i := 13) (N := some 56) (v := ?_) (a' := ?_) #[true, true, true, false, true, true, true, false, false, true, true, true, false, true, false, false, false, false, false] rfl rfl (by kernel_rfl) (fun _ _ _ h => h) (Or.inl ⟨by rfl, ?_⟩) ?_ ?_
            rotate_left
            · intro w'
              go_simp
              with_reducible rfl
            rotate_left
            · simp only [Act.put, List.setIfInBounds_toArray, List.set_cons_zero, List.set_cons_succ, i64_w, i32_w]
              rfl
            refine pure_ (i := 14) (N := some 57) (v := ?_) (a' := ?_) #[true, true, true, false, true, true, true, false, false, true, true, true, false, true, true, false, false, false, false] rfl rfl (by kernel_rfl) (fun _ _ _ h => h) (Or.inl ⟨by rfl, ?_⟩) ?_ ?_
            rotate_left
            · intro w'
              go_simp
              with_reducible rfl
            rotate_left
            · simp only [Act.put, List.setIfInBounds_toArray, List.set_cons_zero, List.set_cons_succ, i64_w, i32_w]
              rfl
            refine pure_ (i := 15) (N := some 58) (v := ?_) (a' := ?_) #[true, true, true, false, true, true, true, false, false, true, true, true, false, true, true, true, false, false, false] rfl rfl (by kernel_rfl) (fun _ _ _ h => h) (Or.inl ⟨by rfl, ?_⟩) ?_ ?_
            rotate_left
            · intro w'
              go_simp
              with_reducible rfl
            rotate_left
            · simp only [Act.put, List.setIfInBounds_toArray, List.set_cons_zero, List.set_cons_succ, i64_w, i32_w]
              rfl
            refine take_ (i := 3) (N := some 46) (v := ?_) (a' := ?_) #[true, true, true, true, true, true, true, false, false, true, true, true, false, true, true, true, false, false, false] rfl rfl (by kernel_rfl) (fun _ _ _ h => h) (Or.inl ⟨by rfl, ?_⟩) hHeld ?_ ?_
            rotate_left
            · rintro w' ⟨s0, s1, s2, s3, s4, s5, s6, s7, s8, s9, s10, s11, s12, s13, s14, s15, s16, s17, s18, s19⟩
              go_simp
              with_reducible rfl
            rotate_left
            · simp only [Act.put, List.setIfInBounds_toArray, List.set_cons_zero, List.set_cons_succ, i64_w, i32_w]
              rfl
            refine take_ (i := 7) (N := some 50) (v := ?_) (a' := ?_) #[true, true, true, true, true, true, true, true, false, true, true, true, false, true, true, true, false, false, false] rfl rfl (by kernel_rfl) (fun _ _ _ h => h) (Or.inl ⟨by rfl, ?_⟩) hHeld ?_ ?_
            rotate_left
            · rintro w' ⟨s0, s1, s2, s3, s4, s5, s6, s7, s8, s9, s10, s11, s12, s13, s14, s15, s16, s17, s18, s19⟩
              go_simp
              with_reducible rfl
            rotate_left
            · simp only [Act.put, List.setIfInBounds_toArray, List.set_cons_zero, List.set_cons_succ, i64_w, i32_w]
              rfl
            refine take_ (i := 12) (N := some 55) (v := ?_) (a' := ?_) #[true, true, true, true, true, true, true, true, false, true, true, true, true, true, true, true, false, false, false] rfl rfl (by kernel_rfl) (fun _ _ _ h => h) (Or.inl ⟨by rfl, ?_⟩) hHeld ?_ ?_
            rotate_left
            · rintro w' ⟨s0, s1, s2, s3, s4, s5, s6, s7, s8, s9, s10, s11, s12, s13, s14, s15, s16, s17, s18, s19⟩
              go_simp
              with_reducible rfl
            rotate_left
            · simp only [Act.put, List.setIfInBounds_toArray, List.set_cons_zero, List.set_cons_succ, i64_w, i32_w]
              rfl
            refine take_ (i := 16) (N := some 59) (v := ?_) (a' := ?_) #[true, true, true, true, true, true, true, true, false, true, true, true, true, true, true, true, true, false, false] rfl rfl (by kernel_rfl) (fun _ _ _ h => h) (Or.inl ⟨by rfl, ?_⟩) hHeld ?_ ?_
            rotate_left
            · rintro w' ⟨s0, s1, s2, s3, s4, s5, s6, s7, s8, s9, s10, s11, s12, s13, s14, s15, s16, s17, s18, s19⟩
              go_simp
              with_reducible rfl
            rotate_left
            · simp only [Act.put, List.setIfInBounds_toArray, List.set_cons_zero, List.set_cons_succ, i64_w, i32_w]
              rfl
            refine one_ (i := 8) (N := some 51) #[true, true, true, true, true, true, true, true, true, true, true, true, true, true, true, true, true, false, false] rfl rfl (by kernel_rfl) (by decide) (fun K hK => ?_)
            refine goes_ Try.func11 (by kernel_rfl) rfl #[.agg #[.int .i64 (at' l i).kind, .string (at' l i).key, .bool (at' l i).ok, .int .i64 (at' l i).inv, .int .i64 (at' l i).ret], .agg #[.int .i64 (at' l m).kind, .string (at' l m).key, .bool (at' l m).ok, .int .i64 (at' l m).inv, .int .i64 (at' l m).ret]] (by rfl) rfl rfl (by simp only [List.map_toArray, List.map_cons, List.map_nil]; rfl) ?_
            with_reducible refine (hA1i.out _).mono ?_
            rintro e wp ⟨rfl, hwp⟩
            refine ⟨_, rfl, ?_⟩
            have hD1 := hD.out.trans (hwp.mono hD.out.size)
            obtain ⟨⟨px0, px1, px2, px3, px4⟩, ⟨py0, py1, py2, py3, py4⟩, ⟨pu0, pu1, pu2, pu3, pu4⟩, ⟨pv0, pv1, pv2, pv3, pv4⟩⟩ := H.out.below hD1
            replace hD1 := Lib.hid hD1
            clear hwp
            refine hK.out _ _ ⟨px0, px1, px2, px3, px4, py0, py1, py2, py3, py4, pu0, pu1, pu2, pu3, pu4, pv0, pv1, pv2, pv3, pv4⟩ (fun hHeld => ?_)
            clear hK K
            refine norm_ (a' := ?_) ?_ ?_
            rotate_left
            · show Act.put _ (some 51) _ = _
              simp only [Act.put, List.setIfInBounds_toArray, List.set_cons_zero, List.set_cons_succ, i64_w, i32_w]
              rfl
            refine one_ (i := 17) (N := some 60) #[true, true, true, true, true, true, true, true, true, true, true, true, true, true, true, true, true, true, false] rfl rfl (by kernel_rfl) (by decide) (fun K hK => ?_)
            refine goes_ Try.func12 (by kernel_rfl) rfl #[.agg #[.int .i64 (at' l i).kind, .string (at' l i).key, .bool (at' l i).ok, .int .i64 (at' l i).inv, .int .i64 (at' l i).ret], .agg #[.int .i64 (at' l m).kind, .string (at' l m).key, .bool (at' l m).ok, .int .i64 (at' l m).inv, .int .i64 (at' l m).ret]] (by rfl) rfl rfl (by simp only [List.map_toArray, List.map_cons, List.map_nil]; rfl) ?_
            with_reducible refine (hA2i.out _).mono ?_
            rintro e wq ⟨rfl, hwq⟩
            refine ⟨_, rfl, ?_⟩
            have hD2 := hD1.out.trans (hwq.mono hD1.out.size)
            obtain ⟨⟨qx0, qx1, qx2, qx3, qx4⟩, ⟨qy0, qy1, qy2, qy3, qy4⟩, ⟨qu0, qu1, qu2, qu3, qu4⟩, ⟨qv0, qv1, qv2, qv3, qv4⟩⟩ := H.out.below hD2
            replace hD2 := Lib.hid hD2
            clear hwq
            refine hK.out _ _ ⟨qx0, qx1, qx2, qx3, qx4, qy0, qy1, qy2, qy3, qy4, qu0, qu1, qu2, qu3, qu4, qv0, qv1, qv2, qv3, qv4⟩ (fun hHeld => ?_)
            clear hK K
            refine norm_ (a' := ?_) ?_ ?_
            rotate_left
            · show Act.put _ (some 60) _ = _
              simp only [Act.put, List.setIfInBounds_toArray, List.set_cons_zero, List.set_cons_succ, i64_w, i32_w]
              rfl
            refine pure_ (i := 18) (N := some 61) (v := ?_) (a' := ?_) #[true, true, true, true, true, true, true, true, true, true, true, true, true, true, true, true, true, true, true] rfl rfl (by kernel_rfl) (fun _ _ _ h => h) (Or.inl ⟨by rfl, ?_⟩) ?_ ?_
            rotate_left
            · intro w'
              go_simp
              with_reducible rfl
            rotate_left
            · simp only [Act.put, List.setIfInBounds_toArray, List.set_cons_zero, List.set_cons_succ, i64_w, i32_w]
              rfl
            refine done_ (by kernel_rfl) ?_
            go_wp2_with fail
            go_roundg g'
            case measure => omega
            case rel => exact ⟨m + 1, by omega, by go_num, R.out.trans (hD2.out.mono R.out.size)⟩)
theorem walk (V1 : Value) (zs1 : List (List Value)) (V2 : Value) (zs2 : List (List Value)) (W : World) (h1 : StructsV [.str] W V1 zs1) (h2 : StructsV [.int .i64, .str, .bool, .int .i64, .int .i64] W V2 zs2) :
    Calls Try.prog 3 #[V1, V2] W fun e w' => e = .returned (.bool true) ∧ Below W.heap.size W w' :=
  core (strs_of h1) (slR_of h2).1 (slR_of h2).2
end Go.Proofs.Ytecjkpjcmgohmab.WalkOrderTells

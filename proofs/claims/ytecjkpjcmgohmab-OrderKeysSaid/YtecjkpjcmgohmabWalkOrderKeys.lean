/- OrderKeys: calls fit just if those of each key do. -/
import Derived.Test.YtecjkpjcmgohmabOrKit
namespace Go.Proofs.Ytecjkpjcmgohmab.WalkOrderKeys
open Go Go.RowKit Go.Maps Go.Proofs.Ytecjkpjcmgohmab.Only Go.Proofs.Ytecjkpjcmgohmab.Pu Go.Proofs.Ytecjkpjcmgohmab.Or Go.Proofs.Ytecjkpjcmgohmab.Args
set_option linter.unusedVariables false
set_option linter.unusedSimpArgs false

def allK (zs : List ByteArray) (l : List C) (i : Nat) : Bool := (List.range i).all (fun j => fitsB zs (grp l (at' l j).key))
theorem allK_succ (zs : List ByteArray) (l : List C) (i : Nat) : allK zs l (i + 1) = (allK zs l i && fitsB zs (grp l (at' l i).key)) := by
  unfold allK
  rw [List.range_succ, List.all_append]
  simp
theorem grp_grp (l : List C) (k : ByteArray) : grp (grp l k) k = grp l k := by unfold grp; simp
theorem fit_keys {zs : List ByteArray} {l : List C} (hl : l.length ≤ 12) : fitsB zs l = allK zs l l.length := by
  rw [Bool.eq_iff_iff, fitsB_iff]
  unfold allK
  rw [List.all_eq_true]
  constructor
  · rintro ⟨h1, h2, h3⟩ j hj
    have hm := at_mem (List.mem_range.1 hj)
    rw [fitsB_iff]
    refine ⟨Nat.le_trans (grp_len _ _) hl, fun c hc => h2 c (mbr_grp.1 hc).1, fun c hc => ?_⟩
    obtain ⟨q1, q2⟩ := mbr_grp.1 hc
    have := h3 c q1
    rw [q2, grp_grp]
    rw [q2] at this
    exact this
  · intro h
    have key : ∀ c ∈ l, Fit zs (grp l c.key) := fun c hc => by
      obtain ⟨j, hj, e⟩ := List.mem_iff_getElem.1 hc
      have := h j (List.mem_range.2 hj)
      rw [fitsB_iff] at this
      have e2 : at' l j = c := by
        unfold at'
        rw [List.getD_eq_getElem?_getD, List.getElem?_eq_getElem hj]
        exact e
      rwa [e2] at this
    refine ⟨hl, fun c hc => (key c hc).2.1 c (mbr_grp.2 ⟨hc, rfl⟩), fun c hc => ?_⟩
    have := (key c hc).2.2 c (mbr_grp.2 ⟨hc, rfl⟩)
    rwa [grp_grp] at this
set_option maxHeartbeats 8000000 in
set_option maxRecDepth 100000 in
theorem core {W : World} {vf v : Value} {zs : List ByteArray} {l : List C} (hF : Strs W vf zs) (hL : SlR W v l) (hk : ∀ c ∈ l, c.key.size ≤ maxLen) :
    Calls Try.prog 5 #[vf, v] W fun e w' => e = .returned (.bool true) ∧ Below W.heap.size W w' := by
  obtain ⟨af, capf, rfl, hfl, -⟩ := hF.shape
  obtain ⟨av, capv, rfl, hvl, -⟩ := hL.shape
  unfold maxLen at hfl hvl
  have hAw := Lib.hid (awake W)
  by_cases h1 : 20 < zs.length
  · have q1 : decide ((20 : Int) < (zs.length : Int)) = true := by simp; omega
    go_enter Try.func5, Try.ntmps5
    go_wp2_with fail
    refine hAw.out.mono ?_
    rintro e w1 ⟨rfl, b1⟩
    go_wp2_with fail
    go_ret
    exact ⟨rfl, b1⟩
  by_cases h2 : 12 < l.length
  · have q1 : decide ((20 : Int) < (zs.length : Int)) = false := by simp; omega
    have q2 : decide ((12 : Int) < (l.length : Int)) = true := by simp; omega
    go_enter Try.func5, Try.ntmps5
    go_wp2_with fail
    refine hAw.out.mono ?_
    rintro e w1 ⟨rfl, b1⟩
    go_wp2_with fail
    go_ret
    exact ⟨rfl, b1⟩
  have q1 : decide ((20 : Int) < (zs.length : Int)) = false := by simp; omega
  have q2 : decide ((12 : Int) < (l.length : Int)) = false := by simp; omega
  have hl12 : l.length ≤ 12 := by omega
  obtain ⟨i0, hi, hzz⟩ := Option.map_eq_some_iff.1 infoC
  simp only [Prod.mk.injEq] at hzz
  obtain ⟨hz0, hz1, hz2⟩ := hzz
  replace hF := Lib.hid hF
  replace hL := Lib.hid hL
  go_enter Try.func5, Try.ntmps5
  go_wp2_with fail
  refine hAw.out.mono ?_
  rintro e w1 ⟨rfl, b1⟩
  have hM := Lib.hid (madeC (hL.out.below b1) (by omega))
  go_wp2_with fail
  refine hM.out.mono ?_
  rintro e w2 ⟨vx, rfl, ox, b2⟩
  have B2 := b1.trans (b2.mono b1.size)
  obtain ⟨ax, cx, ex, -, -⟩ := own_any ox
  subst ex
  replace B2 := Lib.hid B2
  replace ox := Lib.hid ox
  clear hM hAw b1 b2
  go_wp2_with fail
  go_loopg [7, 8] l.length (fun g s7 s8 wr => ∃ i : Nat, i + g = l.length ∧ s8 = .int .i64 i ∧ s7 = .bool (allK zs l i) ∧ Aside (Below w2.heap.size w2 wr))
  case atStart => exact ⟨0, by omega, rfl, rfl, Below.refl _ _⟩
  case round =>
    obtain ⟨i, hig, rfl, rfl, P⟩ := hrel
    have hbelW := B2.out.trans (P.out.mono B2.out.size)
    have ox1 := own_below ox.out P.out
    cases gk with
    | zero =>
      obtain rfl : i = l.length := by omega
      have FX := fitsAll (hF.out.below hbelW) ox1 hk
      rw [fit_keys hl12] at FX
      replace FX := Lib.hid FX
      replace hbelW := Lib.hid hbelW
      clear ox1
      generalize allK zs l l.length = A at *
      go_wp2_with fail
      refine FX.out.mono ?_
      rintro e w3 ⟨rfl, b3⟩
      go_wp2_with fail
      go_ret
      exact ⟨by simp, hbelW.out.trans (b3.mono hbelW.out.size)⟩
    | succ g =>
      have hil : i < l.length := by omega
      obtain ⟨gb, cap', hvA, -, hgb, hc⟩ := own_cells ox1 hil
      injection hvA with hvA hcn hcc
      clear hcn
      subst hcc
      subst hvA
      obtain ⟨c0, c1, c2, c3, c4⟩ := hc
      replace hbelW := Lib.hid hbelW
      clear ox1
      go_wp2_with fail
      go_loopg [9, 10] l.length (fun g s9 s10 wx => ∃ m : Nat, m + g = l.length ∧ s10 = .int .i64 m ∧ Aside (Own wx w2.heap.size s9 (grp (l.take m) (at' l i).key) ∧ Below w2.heap.size w2 wx))
      case atStart => exact ⟨0, by omega, rfl, own_nil _ _, P.out⟩
      case round =>
        obtain ⟨m, hmg, rfl, R⟩ := hrel
        obtain ⟨a9, c9, e9, -, -⟩ := own_any R.out.1
        subst e9
        cases gk with
        | zero =>
          obtain rfl : m = l.length := by omega
          have hs := allK_succ zs l i
          have hbW2 := B2.out.trans (R.out.2.mono B2.out.size)
          have R1 := R.out.1
          rw [List.take_length] at R1
          have FX := fitsAll (hF.out.below hbW2) R1 (fun c hc => hk c (mbr_grp.1 hc).1)
          rw [List.take_length]
          replace FX := Lib.hid FX
          clear R1 hbW2
          cases hA : allK zs l i with
          | true =>
            rw [hA, Bool.true_and] at hs
            replace hs := Lib.hid hs
            replace hA := Lib.hid hA
            go_wp2_with fail
            refine FX.out.mono ?_
            rintro e w3 ⟨rfl, b3⟩
            go_wp2_with fail
            go_roundg g
            case measure => omega
            case rel => exact ⟨i + 1, by omega, by go_num, by rw [hs.out], R.out.2.trans (b3.mono R.out.2.size)⟩
          | false =>
            rw [hA, Bool.false_and] at hs
            replace hs := Lib.hid hs
            replace hA := Lib.hid hA
            go_wp2_with fail
            go_roundg g
            case measure => omega
            case rel => exact ⟨i + 1, by omega, by go_num, by rw [hs.out], R.out.2⟩
        | succ g' =>
          have hml : m < l.length := by omega
          have ox2 := own_below ox.out R.out.2
          obtain ⟨gb1, cap1, hv1, -, -, hc1⟩ := own_cells ox2 hil
          injection hv1 with hv1 hvn hvc
          clear hvn
          subst hvc
          injection hv1 with hv1
          injection hv1 with hv1
          subst hv1
          obtain ⟨gb2, cap2, hv2, -, -, hc2⟩ := own_cells ox2 hml
          injection hv2 with hv2 hvn hvc
          clear hvn
          subst hvc
          injection hv2 with hv2
          injection hv2 with hv2
          subst hv2
          have d1 := hc1.c1
          obtain ⟨e0, e1, e2, e3, e4⟩ := hc2
          have hsn := take_snoc hml
          have hgs := grp_snoc (l.take m) (at' l m) (at' l i).key
          rw [← hsn] at hgs
          have hgl : (grp (l.take m) (at' l i).key).length ≤ 12 := by
            have q1 := grp_len (l.take m) (at' l i).key
            rw [List.length_take] at q1
            omega
          clear c0 c1 c2 c3 c4 ox2 hc1 hsn
          by_cases e : (at' l m).key = (at' l i).key
          · rw [if_pos e] at hgs
            obtain ⟨s1, s2, s3⟩ := str_eq e
            replace hgs := Lib.hid hgs
            replace e := Lib.hid e
            go_wp2_with fail
            go_region
            obtain ⟨wd, ed, bd⟩ : ∃ wd, wd = wr.drew ∧ Below wr.heap.size wr wd := ⟨_, rfl, below_drew (Below.refl _ _)⟩
            rw [← ed]
            have f0 := (bd.cell (p := ⟨gb, m * 5, none⟩) (cell_lt e0)).trans e0
            have f1 := (bd.cell (p := ⟨gb, m * 5 + 1, none⟩) (cell_lt e0)).trans e1
            have f2 := (bd.cell (p := ⟨gb, m * 5 + 2, none⟩) (cell_lt e0)).trans e2
            have f3 := (bd.cell (p := ⟨gb, m * 5 + 3, none⟩) (cell_lt e0)).trans e3
            have f4 := (bd.cell (p := ⟨gb, m * 5 + 4, none⟩) (cell_lt e0)).trans e4
            clear e0 e1 e2 e3 e4 d1
            have P2 := R.out.2.trans (bd.mono R.out.2.size)
            have P1 := own_below R.out.1 bd
            have o1 : Below wd.heap.size wd (wd.alloc (.cells #[.int .i64 (at' l m).kind, .string (at' l m).key, .bool (at' l m).ok, .int .i64 (at' l m).inv, .int .i64 (at' l m).ret] 29)) := (Below.refl _ _).alloc (Nat.le_refl _) _
            have hV1 := own_below P1 o1
            have P3 := P2.trans (o1.mono P2.size)
            have hB1 := P3.size
            have hcel := cel_new wd (at' l m)
            have oneC : ∀ u ∈ cel (at' l m), u.oneCell' = true := fun u hu => by
              simp only [cel, List.mem_cons, List.not_mem_nil, or_false] at hu
              rcases hu with rfl | rfl | rfl | rfl | rfl <;> rfl
            have h63 : (grp (l.take m) (at' l i).key).length + 1 ≤ maxLen := by unfold maxLen; omega
            have h64 : ((grp (l.take m) (at' l i).key).length + 1) * 48 ≤ 140737488355328 := by omega
            have fin : ∀ v' w3, w3.ownsRow w2.heap.size 29 5 v' ((grp (l.take m) (at' l i).key).length + 1) (flat (grp (l.take m) (at' l i).key) ++ cel (at' l m)) → (wd.alloc (.cells #[.int .i64 (at' l m).kind, .string (at' l m).key, .bool (at' l m).ok, .int .i64 (at' l m).inv, .int .i64 (at' l m).ret] 29)).grownBy w3 (Value.slice a9 (grp (l.take m) (at' l i).key).length c9).ownBlock → Own w3 w2.heap.size v' (grp (l.take (m + 1)) (at' l i).key) ∧ Below w2.heap.size w2 w3 := fun v' w3 hr hg => by
              refine ⟨?_, P3.grown hg hB1 (fun k hk => (own_blk R.out.1 hk).1)⟩
              unfold Own
              rw [hgs.out, List.length_append, flat_append]
              show w3.ownsRow w2.heap.size 29 5 v' ((grp (l.take m) (at' l i).key).length + 1) (flat (grp (l.take m) (at' l i).key) ++ (cel (at' l m) ++ []))
              rw [List.append_nil]
              exact hr
            unfold Own at hV1
            replace fin := Lib.hid fin
            replace hcel := Lib.hid hcel
            replace oneC := Lib.hid oneC
            replace h63 := Lib.hid h63
            replace h64 := Lib.hid h64
            clear ed o1 P3 P2 P1
            go_wp2_with (first
              | (at_builtin; refine wpList_append_own_at _ rfl _ _ 25 rfl w2.heap.size 29 i0 _ 5 48 Try.underlying25 hi hz0 hz1 hz2 rfl (by decide) _ _ _ rfl hV1 ⟨wd.heap.size, 0, none⟩ 1 1 (cel (at' l m)) rfl rfl hcel.out oneC.out h63.out h64.out hB1 ?_; intro v2 w3 hr2 hg2 hn2 hat2)
              | go_in)
            go_roundg g'
            case measure => omega
            case rel => exact ⟨m + 1, by omega, by go_num, fin.out _ _ hr2 hg2⟩
          · rw [if_neg e] at hgs
            obtain ⟨s1, s2, s3⟩ := str_ne e
            replace hgs := Lib.hid hgs
            replace e := Lib.hid e
            go_wp2_with fail
            go_region
            go_wp2_with fail
            go_roundg g'
            case measure => omega
            case rel => exact ⟨m + 1, by omega, by go_num, by rw [hgs.out]; exact own_below R.out.1 (below_drew (Below.refl _ _)), below_drew R.out.2⟩
theorem walk (V1 : Value) (zs1 : List (List Value)) (V2 : Value) (zs2 : List (List Value)) (W : World) (h1 : StructsV [.str] W V1 zs1) (h2 : StructsV [.int .i64, .str, .bool, .int .i64, .int .i64] W V2 zs2) :
    Calls Try.prog 5 #[V1, V2] W fun e w' => e = .returned (.bool true) ∧ Below W.heap.size W w' :=
  core (strs_of h1) (slR_of h2).1 (slR_of h2).2
end Go.Proofs.Ytecjkpjcmgohmab.WalkOrderKeys

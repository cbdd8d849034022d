/- Fits. Laid by genor7.py. -/
import Derived.Test.YtecjkpjcmgohmabOr6
namespace Go.Proofs.Ytecjkpjcmgohmab.Or
open Go Go.RowKit Go.Maps Go.Proofs.Ytecjkpjcmgohmab.Only Go.Proofs.Ytecjkpjcmgohmab.Pu Go.Proofs.YtecjkpjcmgohmabW.PrintLast
set_option linter.unusedVariables false
set_option linter.unusedSimpArgs false
theorem at_mem {l : List C} {i : Nat} (hi : i < l.length) : at' l i ∈ l := by
  unfold at'
  rw [List.getD_eq_getElem?_getD, List.getElem?_eq_getElem hi]
  exact List.getElem_mem hi
theorem take_snoc {l : List C} {i : Nat} (hi : i < l.length) : l.take (i + 1) = l.take i ++ [at' l i] := by
  rw [List.take_succ_eq_append_getElem hi]
  unfold at'
  rw [List.getD_eq_getElem?_getD, List.getElem?_eq_getElem hi]
  rfl
theorem grp_len (l : List C) (k : ByteArray) : (grp l k).length ≤ l.length := List.length_filter_le _ _
/-- What holds while calls are put. -/
structure Put (W0 : World) (mb : Nat) (l : List C) (v : Value) (i : Nat) (val : ByteArray → Value) (D : DataW Value) (w : World) : Prop where
  gm : GM W0.heap.size mb i (l.take i) val D w
  own : Own w 0 v l
  bel : Below W0.heap.size W0 w
theorem Put.below {W0 : World} {mb : Nat} {l : List C} {v : Value} {i : Nat} {val : ByteArray → Value} {D : DataW Value} {w w' : World} (h : Put W0 mb l v i val D w) (hb : Below w.heap.size w w') : Put W0 mb l v i val D w' :=
  ⟨h.gm.below hb, own_below h.own hb, h.bel.trans (hb.mono h.bel.size)⟩
theorem Put.step {W0 : World} {mb : Nat} {l : List C} {v : Value} {i : Nat} {val : ByteArray → Value} {D : DataW Value} {w w1 w2 w3 : World} (h : Put W0 mb l v i val D w) (hlow : ∀ k, v.ownBlock = some k → k < W0.heap.size) (hi : i < l.length) (hck : (at' l i).key.size ≤ maxLen) (o1 : Below w.heap.size w w1) {v' : Value} (hr : w2.ownsRow W0.heap.size 29 5 v' ((grp (l.take i) (at' l i).key).length + 1) (flat (grp (l.take i) (at' l i).key) ++ cel (at' l i)))
    (hg : w1.grownBy w2 (val (at' l i).key).ownBlock) (hat : v'.ownBlock = (val (at' l i).key).ownBlock ∨ v'.ownBlock = some w1.heap.size) (hm : w3.ownsMap Try.prog 9 heldR mb (i + 1) (D.put (KS (at' l i).key) (.held v'))) (hg3 : w2.grownBy w3 (some mb)) :
    Put W0 mb l v (i + 1) (valP val (at' l i).key v') (D.put (KS (at' l i).key) (.held v')) w3 := by
  have s1 := o1.size
  have s0 := h.bel.size
  have b1 : Below W0.heap.size W0 w1 := h.bel.trans (o1.mono s0)
  have b2 : Below W0.heap.size W0 w2 := b1.grown hg b1.size (fun k hk => (own_blk (h.gm.own _) hk).1)
  have b3 : Below W0.heap.size W0 w3 := b2.grown hg3 b2.size (fun k hk => by injection hk with hk; have := h.gm.mbB; omega)
  refine ⟨?_, ?_, b3⟩
  · have := h.gm.put s0 (at' l i) hck o1 hr hg hat hm hg3
    rwa [← take_snoc hi] at this
  · have r1 := own_below h.own o1
    have r2 := own_grown r1 hg (fun k hk e => by
      have q1 := hlow k hk
      have q2 := (own_blk (h.gm.own _) e).1
      omega)
    exact own_grown r2 hg3 (fun k hk e => by
      have q1 := hlow k hk
      have q2 := h.gm.mbB
      injection e with e
      omega)
/-- What holds while keys are asked. -/
def asked (zs : List ByteArray) (l : List C) (left : Lit → Bool) : Prop := ∀ c ∈ l, left (KS c.key) = false → fitB (grp l c.key) (mbr zs c.key) = true
theorem asked_start {B mb n : Nat} {zs : List ByteArray} {l : List C} {val : ByteArray → Value} {D : DataW Value} {w : World} (h : GM B mb n l val D w) (hk : ∀ c ∈ l, c.key.size ≤ maxLen) : asked zs l (Maps.has D) := by
  intro c hc hf
  have := h.hat c.key (hk c hc) (fun e => by
    have : c ∈ grp l c.key := mbr_grp.2 ⟨hc, rfl⟩
    rw [e] at this; simp at this)
  rw [this] at hf; cases hf
theorem asked_step {zs : List ByteArray} {l : List C} {left : Lit → Bool} (h : asked zs l left) {x : ByteArray} (hx : fitB (grp l x) (mbr zs x) = true) : asked zs l (fun z => left z && !z.sameKey (KS x)) := by
  intro c hc hf
  by_cases e : c.key = x
  · subst e; exact hx
  · refine h c hc ?_
    have : (KS c.key).sameKey (KS x) = false := sameKey_ne (fun e2 => e (KS_inj e2))
    simpa [this] using hf
theorem fits_false {zs : List ByteArray} {l : List C} {x : ByteArray} (hg : grp l x ≠ []) (hx : fitB (grp l x) (mbr zs x) = false) : fitsB zs l = false := by
  obtain ⟨c, hc⟩ := List.exists_mem_of_ne_nil _ hg
  obtain ⟨h1, rfl⟩ := mbr_grp.1 hc
  unfold fitsB
  have : l.all (fun c => can does (grp l c.key) (grp l c.key).length (fun _ => true) (mbr zs c.key)) = false := by
    rw [Bool.eq_false_iff]
    intro h
    have := List.all_eq_true.1 h c h1
    unfold fitB at hx
    rw [hx] at this; cases this
  rw [this]; simp
theorem fits_true {zs : List ByteArray} {l : List C} {left : Lit → Bool} (hl : l.length ≤ 12) (hv : (l.any fun c => ahd c c) = false) (h : asked zs l left) (h0 : ∀ kl, left kl = false) : fitsB zs l = true := by
  unfold fitsB
  have : l.all (fun c => can does (grp l c.key) (grp l c.key).length (fun _ => true) (mbr zs c.key)) = true := List.all_eq_true.2 (fun c hc => h c hc (h0 _))
  rw [this, hv, decide_eq_true hl]; rfl
theorem lookM {mb n : Nat} {D : DataW Value} {w : World} {k : ByteArray} {u : Value} (h : w.ownsMap Try.prog 9 heldR mb n D) (hat : D.atKey (KS k) (.held nilV) = .held u) (hk : k.size ≤ maxLen) : (Instr.lookup 42 (.map (some mb)) (.string k) false).run Try.prog w = .ok u w := by
  obtain ⟨v, ps, hrun, hv⟩ := h.lookup lawS Try.underlying42 (zeroG w) (zd := .held nilV) (zp := []) rfl (keyT hk)
  rw [hat] at hv
  unfold heldR at hv
  simp at hv
  rw [hrun, hv.1]
/-- What holds at each key. -/
structure Ask (W0 : World) (mb rb : Nat) (zs : List ByteArray) (vf : Value) (l : List C) (val : ByteArray → Value) (D : DataW Value) (left don : Lit → Bool) (cnt : Nat) (w : World) : Prop where
  gm : GM W0.heap.size mb l.length l val D w
  rg : w.ranges Try.prog 9 heldR mb rb l.length D left cnt
  ask : asked zs l don
  fs : Strs w vf zs
  bel : Below W0.heap.size W0 w
  rbB : W0.heap.size ≤ rb
theorem grown_below {w w' : World} (h : Below w.heap.size w w') (row : Option Nat) : w.grownBy w' row := ⟨h.os, h.tape, h.output, h.size, fun k hk _ => h.block k hk⟩
section
variable {W0 : World} {mb rb : Nat} {zs : List ByteArray} {vf : Value} {l : List C} {val : ByteArray → Value} {D : DataW Value} {left don : Lit → Bool} {cnt : Nat} {w w' : World}
theorem Ask.below (h : Ask W0 mb rb zs vf l val D left don cnt w) (hb : Below w.heap.size w w') : Ask W0 mb rb zs vf l val D left don cnt w' :=
  ⟨h.gm.below hb, Go.World.ranges.kept h.rg (grown_below hb none) (by simp) (by simp), h.ask, h.fs.below hb, h.bel.trans (hb.mono h.bel.size), h.rbB⟩
theorem Ask.turn (h : Ask W0 mb rb zs vf l val D left don cnt w) {left' : Lit → Bool} {cnt' : Nat} (hr : w'.ranges Try.prog 9 heldR mb rb l.length D left' cnt') (hg : w.grownBy w' (some rb)) (hF : Strs W0 vf zs) : Ask W0 mb rb zs vf l val D left' don cnt' w' := by
  have hb : Below W0.heap.size W0 w' := h.bel.grown hg h.bel.size (fun k hk => by injection hk with hk; have := h.rbB; omega)
  refine ⟨⟨hr.owns, h.gm.at', h.gm.has, h.gm.hat, fun k => own_grown (h.gm.own k) hg (fun j hj e => ?_), h.gm.apart, h.gm.mbB⟩, hr, h.ask, hF.below hb, hb, h.rbB⟩
  obtain ⟨cs, hc⟩ := (own_blk (h.gm.own k) hj).2.2
  injection e with e
  subst e
  obtain ⟨es, clock, since, seen, c0, q1, q2, q3, q4, q5, q6⟩ := h.rg
  rw [hc] at q5; simp at q5
theorem Ask.redo (h : Ask W0 mb rb zs vf l val D left don cnt w) {don' : Lit → Bool} (ha : asked zs l don') : Ask W0 mb rb zs vf l val D left don' cnt w := ⟨h.gm, h.rg, ha, h.fs, h.bel, h.rbB⟩
theorem Ask.found (h : Ask W0 mb rb zs vf l val D left don cnt w) {x : ByteArray} {c : Value} (hx : x.size ≤ maxLen) (hat : ∀ zd, D.atKey (KS x) zd = .held c) : c = val x ∧ grp l x ≠ [] := by
  have h1 := hat (.held nilV)
  rw [h.gm.at' x hx] at h1
  injection h1 with h1
  exact ⟨h1.symm, h.gm.has x hx (has_true_of_atKey hat)⟩
end
section
variable {zs : List ByteArray} {vf v : Value} {l : List C} {w : World} {B : Nat}
set_option maxHeartbeats 4000000 in
set_option maxRecDepth 100000 in
theorem fitsAll (hF : Strs w vf zs) (h : Own w B v l) (hk : ∀ c ∈ l, c.key.size ≤ maxLen) : Calls Try.prog 13 #[vf, v] w fun e w' => e = .returned (.bool (fitsB zs l)) ∧ Below w.heap.size w w' := by
  have hA := anyC h
  obtain ⟨a, cap, rfl, -, hcm⟩ := own_any h
  have hmm := @run_makeMap Try.prog
  by_cases hl : l.length ≤ 12
  · have hl1 : ¬ 12 < l.length := by omega
    have hl2 : decide ((12 : Int) < (l.length : Int)) = false := by simp; omega
    cases hv : l.any (fun c => ahd c c) with
    | true =>
      have hr : fitsB zs l = false := by unfold fitsB; rw [hv]; simp
      rw [hr]
      rw [hv] at hA
      replace hA := Lib.hid hA
      go_enter Try.func13, Try.ntmps13
      go_wp2_with (refine hA.out.mono ?_; rintro e w1 ⟨rfl, hb1⟩)
      go_ret
      exact ⟨rfl, hb1⟩
    | false =>
      rw [hv] at hA
      have hlow : ∀ k, (Value.slice a l.length cap).ownBlock = some k → k < w.heap.size := fun k hk => (own_blk h hk).2.1
      replace hA := Lib.hid hA
      go_enter Try.func13, Try.ntmps13
      go_upto_region 3 with (refine hA.out.mono ?_; rintro e w1 ⟨rfl, hb1⟩)
      go_wp2_with fail
      obtain ⟨w2, e2, G2, b2⟩ : ∃ w2, w2 = w1.alloc (.map #[] 0) ∧ GM w.heap.size w1.heap.size 0 [] (fun _ => nilV) (.map []) w2 ∧ Below w.heap.size w w2 := ⟨_, rfl, GM.new w1 _ hb1.size, hb1.alloc hb1.size _⟩
      rw [← e2]
      have P0 : Put w w1.heap.size l (.slice a l.length cap) 0 (fun _ => nilV) (.map []) w2 := ⟨G2, own_mono (own_below h b2) (Nat.zero_le _), b2⟩
      obtain ⟨i0, hi, hzz⟩ := Option.map_eq_some_iff.1 infoC
      simp only [Prod.mk.injEq] at hzz
      obtain ⟨hz0, hz1, hz2⟩ := hzz
      clear hmm e2 G2 b2 hA hb1 h
      generalize w1.heap.size = mb at *
      go_loopg [20] l.length (fun g s20 wr => ∃ (i : Nat) (val : ByteArray → Value) (D : DataW Value), i + g = l.length ∧ s20 = .int .i64 i ∧ Aside (Put w mb l (.slice a l.length cap) i val D wr))
      case atStart => exact ⟨0, _, _, by omega, rfl, P0⟩
      case round =>
        obtain ⟨i, val, D, hig, rfl, P⟩ := hrel
        clear P0
        cases gk with
        | zero =>
          obtain rfl : i = l.length := by omega
          have hown := P.out.gm.map
          go_wp2_with (first
            | (at_range; refine wpList_range_own _ rfl _ 42 rfl 9 25 lawS Try.underlying42 _ mb _ _ rfl hown ?_; intro w0 hrg0 hg0 hs0)
            | go_in)
          go_frame
          have hb0 : Below wr.heap.size wr w0 := ⟨hg0.os, hg0.tape, hg0.output, hg0.size, fun i hi => hg0.block i hi (by simp)⟩
          have P1 := P.out.below hb0
          have gm1 := P1.gm
          rw [List.take_length] at gm1
          have A0 : Ask w mb wr.heap.size zs vf l val D _ _ _ w0 := ⟨gm1, hrg0, asked_start gm1 hk, hF.below (P1.bel), P1.bel, P.out.bel.size⟩
          obtain ⟨cnt0, A0⟩ : ∃ cnt0, Ask w mb wr.heap.size zs vf l val D (Maps.has D) (Maps.has D) cnt0 w0 := ⟨_, A0⟩
          replace A0 := Lib.hid A0
          clear P P1 gm1 hown hb0 hrg0 hg0 hs0
          generalize wr.heap.size = rb at *
          have hvv : ∀ c ∈ l, ahd c c = false := fun c hc => by
            have := List.any_eq_false.1 hv c hc
            simpa using this
          replace hF := Lib.hid hF
          replace hvv := Lib.hid hvv
          replace hlow := Lib.hid hlow
          replace hk := Lib.hid hk
          go_loopg [8] cnt0 (fun g s8 wr => ∃ left : Lit → Bool, Aside (Ask w mb rb zs vf l val D left left g wr))
          case atStart => exact ⟨_, A0⟩
          case round =>
            obtain ⟨left, A⟩ := hrel
            have hrg := A.out.rg
            go_wp2_with (first
              | (at_next; refine wpList_next_ranges _ rfl _ rfl 9 lawS heldR Value.string (fun v : Value => v) (fun key kl hk => by obtain ⟨x, hx, _⟩ := keyInv hk; exact ⟨x, hx⟩) (fun v y hv => ⟨v, rfl⟩) mb rb l.length _ _ _ rfl hrg ?_ ?_)
              | go_in)
            · intro _ hl0
              have hft := fits_true hl hv A.out.ask hl0
              replace hft := Lib.hid hft
              clear hrg hl0
              go_wp2_with fail
              go_ret
              exact ⟨by rw [hft.out]; rfl, A.out.bel⟩
            · intro x c kl y yp w1 cnt1 hkey hlx hy hat hrg1 hlt hg1 hs1 hen
              obtain ⟨x', hx1, hx2, hxs⟩ := keyInv hkey
              injection hx1 with hx1
              subst hx1 hx2
              unfold heldR at hy
              simp only [Option.some.injEq, Prod.mk.injEq] at hy
              obtain ⟨hy, -⟩ := hy
              subst hy
              obtain ⟨hcv, hgx⟩ := A.out.found hxs hat
              subst hcv
              have A1 := A.out.turn hrg1 hg1 hF.out
              have hC := containsC A1.fs x
              have hT := fun (w2 : World) (hb : w2 = w1) => fitsC (hb ▸ A1.gm.own x) (Nat.le_trans (grp_len l x) hl) (fun c hc => hvv.out c (mbr_grp.1 hc).1) (mbr zs x)
              obtain ⟨ga, gc, egv, -, -⟩ := own_any (A1.gm.own x)
              cases hfx : fitB (grp l x) (mbr zs x) with
              | true =>
                rw [hfx] at hT
                have A2 := A1.redo (asked_step A1.ask hfx)
                replace A2 := Lib.hid A2
                replace hC := Lib.hid hC
                replace hT := Lib.hid hT
                clear A A1 hrg hrg1 hg1 hs1 hat hkey hlx hfx hgx
                generalize val x = u at *
                subst egv
                go_wp2_with fail
                refine hC.out.mono ?_
                rintro e w2 ⟨rfl, hw2⟩
                have hT2 := hT.out w2 hw2
                replace hT2 := Lib.hid hT2
                replace hw2 := Lib.hid hw2
                go_wp2_with fail
                refine hT2.out.mono ?_
                rintro e w3 ⟨rfl, hb3⟩
                have hb3' : Below w1.heap.size w1 w3 := hw2.out ▸ hb3
                have A3 := A2.out.below hb3'
                replace A3 := Lib.hid A3
                clear A2 hb3 hb3' hw2 hT2
                go_wp2_with fail
                go_roundg cnt1
                case measure => exact hlt
                case rel => exact ⟨_, A3.out⟩
              | false =>
                rw [hfx] at hT
                have hr := fits_false hgx hfx
                have A2 := A1.bel
                replace hr := Lib.hid hr
                replace A2 := Lib.hid A2
                replace hC := Lib.hid hC
                replace hT := Lib.hid hT
                clear A A1 hrg hrg1 hg1 hs1 hat hkey hlx hfx hgx
                generalize val x = u at *
                subst egv
                go_wp2_with fail
                refine hC.out.mono ?_
                rintro e w2 ⟨rfl, hw2⟩
                have hT2 := hT.out w2 hw2
                replace hT2 := Lib.hid hT2
                replace hw2 := Lib.hid hw2
                go_wp2_with fail
                refine hT2.out.mono ?_
                rintro e w3 ⟨rfl, hb3⟩
                have hb3' : Below w1.heap.size w1 w3 := hw2.out ▸ hb3
                have B3 := A2.out.trans (hb3'.mono A2.out.size)
                clear hb3 hb3' hw2 hT2
                go_wp2_with fail
                go_ret
                exact ⟨by rw [hr.out]; rfl, B3⟩
        | succ g =>
          have hil : i < l.length := by omega
          obtain ⟨gb, cap', hvA, -, hgb, hc⟩ := own_cells P.out.own hil
          injection hvA with hvA hcn hcc
          clear hcn
          subst hcc
          subst hvA
          obtain ⟨c0, c1, c2, c3, c4⟩ := hc
          go_upto_region 7 with fail
          obtain ⟨w3, cb, ecb, e3, b3, ⟨x0, x1, x2, x3, x4⟩, hcb⟩ := new5 wr (at' l i)
          rw [← e3, ← ecb]
          clear c0 c1 c2 c3 c4
          have P3 := P.out.below b3
          have hck := hk _ (at_mem hil)
          have hcbu : ∀ k, (val (at' l i).key).ownBlock = some k → k < cb := fun k hk => by rw [ecb]; exact (own_blk (P.out.gm.own _) hk).2.1
          have hat := P3.gm.at' _ hck
          have o1 : Below w3.heap.size w3 (w3.drew.alloc (.cells #[.int .i64 (at' l i).kind, .string (at' l i).key, .bool (at' l i).ok, .int .i64 (at' l i).inv, .int .i64 (at' l i).ret] 29)) := (below_drew (Below.refl _ _)).alloc (by simp) _
          have P4 := P3.below o1
          have hV1 := P4.gm.own (at' l i).key
          have hM1 := P4.gm.map
          have xl := lookM (w := w3.drew) P3.gm.map hat hck
          have jl := lookM hM1 hat hck
          have hcel := cel_new w3.drew (at' l i)
          have hgn : (grp (l.take i) (at' l i).key).length ≤ 12 := by
            have q1 := grp_len (l.take i) (at' l i).key
            rw [List.length_take] at q1
            omega
          have h63 : (grp (l.take i) (at' l i).key).length + 1 ≤ maxLen := by unfold maxLen; omega
          have h64 : ((grp (l.take i) (at' l i).key).length + 1) * 48 ≤ 140737488355328 := by omega
          have hmx : i < maxLen := by unfold maxLen; omega
          have hB1 := P4.bel.size
          have j0 := (o1.cell (p := ⟨cb, 0, none⟩) (cell_lt x0)).trans x0
          have j1 := (o1.cell (p := ⟨cb, 1, none⟩) (cell_lt x1)).trans x1
          have j2 := (o1.cell (p := ⟨cb, 2, none⟩) (cell_lt x2)).trans x2
          have j3 := (o1.cell (p := ⟨cb, 3, none⟩) (cell_lt x3)).trans x3
          have j4 := (o1.cell (p := ⟨cb, 4, none⟩) (cell_lt x4)).trans x4
          have hap : ∀ w5, (w3.drew.alloc (.cells #[.int .i64 (at' l i).kind, .string (at' l i).key, .bool (at' l i).ok, .int .i64 (at' l i).inv, .int .i64 (at' l i).ret] 29)).grownBy w5 (val (at' l i).key).ownBlock → (w5.cell? ⟨cb, 0, none⟩ = some (.int .i64 (at' l i).kind) ∧ w5.cell? ⟨cb, 1, none⟩ = some (.string (at' l i).key) ∧ w5.cell? ⟨cb, 2, none⟩ = some (.bool (at' l i).ok) ∧ w5.cell? ⟨cb, 3, none⟩ = some (.int .i64 (at' l i).inv) ∧ w5.cell? ⟨cb, 4, none⟩ = some (.int .i64 (at' l i).ret)) ∧ w5.ownsMap Try.prog 9 heldR mb i D := fun w5 hg => by
            have hb := hg.block cb (Nat.lt_of_lt_of_le hcb o1.size) (fun e => by have := hcbu _ e.symm; omega)
            refine ⟨⟨(World.cell?_of_block (a := ⟨cb, 0, none⟩) hb).trans j0, (World.cell?_of_block (a := ⟨cb, 1, none⟩) hb).trans j1, (World.cell?_of_block (a := ⟨cb, 2, none⟩) hb).trans j2, (World.cell?_of_block (a := ⟨cb, 3, none⟩) hb).trans j3, (World.cell?_of_block (a := ⟨cb, 4, none⟩) hb).trans j4⟩, hM1.kept hg (fun e2 => ?_)⟩
            obtain ⟨cs2, hc2⟩ := (own_blk hV1 e2.symm).2.2
            exact map_lt_ne hM1 hc2 rfl
          have fin := fun w5 w6 v' hr hg hat hm hg3 => Put.step (w1 := (w3.drew.alloc (.cells #[.int .i64 (at' l i).kind, .string (at' l i).key, .bool (at' l i).ok, .int .i64 (at' l i).inv, .int .i64 (at' l i).ret] 29))) (w2 := w5) (w3 := w6) (v' := v') P3 hlow hil hck o1 hr hg hat hm hg3
          have hLK := fun (w5 : World) (hm : w5.ownsMap Try.prog 9 heldR mb i D) => lookM hm hat hck
          unfold Own at hV1
          clear P P3 P4 hM1 hat o1 b3 e3
          generalize hval : val (at' l i).key = u at *
          replace hval := Lib.hid hval
          replace hV1 := Lib.hid hV1
          replace hcel := Lib.hid hcel
          replace hap := Lib.hid hap
          replace fin := Lib.hid fin
          replace hLK := Lib.hid hLK
          replace hlow := Lib.hid hlow
          replace hcbu := Lib.hid hcbu
          replace ecb := Lib.hid ecb
          replace hk := Lib.hid hk
          refine start_ (n := 11) (S := fun w' => w'.cell? ⟨cb, 0, none⟩ = some (.int .i64 (at' l i).kind) ∧ w'.cell? ⟨cb, 1, none⟩ = some (.string (at' l i).key) ∧ w'.cell? ⟨cb, 2, none⟩ = some (.bool (at' l i).ok) ∧ w'.cell? ⟨cb, 3, none⟩ = some (.int .i64 (at' l i).inv) ∧ w'.cell? ⟨cb, 4, none⟩ = some (.int .i64 (at' l i).ret) ∧ (Instr.lookup 42 (.map (some mb)) (.string (at' l i).key) false).run Try.prog w' = .ok u w') (ds := [10]) #[false, false, false, false, false, false, false, false, false, false, false] (by kernel_rfl) rfl rfl ⟨x0, x1, x2, x3, x4, xl⟩ (fun hHeld => ?_)
          refine pure_ (i := 0) (N := some 24) (v := ?_) (a' := ?_) #[true, false, false, false, false, false, false, false, false, false, false] rfl rfl (by kernel_rfl) (fun _ _ _ h => h) (Or.inl ⟨by rfl, ?_⟩) ?_ ?_
          rotate_left
          · intro w'
            go_simp
            with_reducible rfl
          rotate_left
          · simp only [Act.put, List.setIfInBounds_toArray, List.set_cons_zero, List.set_cons_succ, i64_w, i32_w]
            rfl
          refine pure_ (i := 1) (N := some 25) (v := ?_) (a' := ?_) #[true, true, false, false, false, false, false, false, false, false, false] rfl rfl (by kernel_rfl) (fun _ _ _ h => h) (Or.inl ⟨by rfl, ?_⟩) ?_ ?_
          rotate_left
          · intro w'
            go_simp
            with_reducible rfl
          rotate_left
          · simp only [Act.put, List.setIfInBounds_toArray, List.set_cons_zero, List.set_cons_succ, i64_w, i32_w]
            rfl
          refine pure_ (i := 3) (N := some 27) (v := ?_) (a' := ?_) #[true, true, false, true, false, false, false, false, false, false, false] rfl rfl (by kernel_rfl) (fun _ _ _ h => h) (Or.inl ⟨by rfl, ?_⟩) ?_ ?_
          rotate_left
          · intro w'
            go_simp
            with_reducible rfl
          rotate_left
          · simp only [Act.put, List.setIfInBounds_toArray, List.set_cons_zero, List.set_cons_succ, i64_w, i32_w]
            rfl
          refine pure_ (i := 4) (N := some 28) (v := ?_) (a' := ?_) #[true, true, false, true, true, false, false, false, false, false, false] rfl rfl (by kernel_rfl) (fun _ _ _ h => h) (Or.inl ⟨by rfl, ?_⟩) ?_ ?_
          rotate_left
          · intro w'
            go_simp
            with_reducible rfl
          rotate_left
          · simp only [Act.put, List.setIfInBounds_toArray, List.set_cons_zero, List.set_cons_succ, i64_w, i32_w]
            rfl
          refine take_ (i := 2) (N := some 26) (v := ?_) (a' := ?_) #[true, true, true, true, true, false, false, false, false, false, false] rfl rfl (by kernel_rfl) (fun _ _ _ h => h) (Or.inl ⟨by rfl, ?_⟩) hHeld ?_ ?_
          rotate_left
          · rintro w' ⟨s0, s1, s2, s3, s4, s5⟩
            go_simp
            with_reducible rfl
          rotate_left
          · simp only [Act.put, List.setIfInBounds_toArray, List.set_cons_zero, List.set_cons_succ, i64_w, i32_w]
            rfl
          refine take_ (i := 5) (N := some 29) (v := ?_) (a' := ?_) #[true, true, true, true, true, true, false, false, false, false, false] rfl rfl (by kernel_rfl) (fun _ _ _ h => h) (Or.inl ⟨by rfl, ?_⟩) hHeld ?_ ?_
          rotate_left
          · rintro w' ⟨s0, s1, s2, s3, s4, s5⟩
            go_simp
            with_reducible rfl
          rotate_left
          · simp only [Act.put, List.setIfInBounds_toArray, List.set_cons_zero, List.set_cons_succ, i64_w, i32_w]
            rfl
          refine take_ (i := 6) (N := some 30) (v := ?_) (a' := ?_) #[true, true, true, true, true, true, true, false, false, false, false] rfl rfl (by kernel_rfl) (fun _ _ _ h => h) (Or.inl ⟨by rfl, ?_⟩) hHeld ?_ ?_
          rotate_left
          · rintro w' ⟨s0, s1, s2, s3, s4, s5⟩
            go_simp
            with_reducible rfl
          rotate_left
          · simp only [Act.put, List.setIfInBounds_toArray, List.set_cons_zero, List.set_cons_succ, i64_w, i32_w]
            rfl
          refine take_ (i := 7) (N := some 31) (v := ?_) (a' := ?_) #[true, true, true, true, true, true, true, true, false, false, false] rfl rfl (by kernel_rfl) (fun _ _ _ h => h) (Or.inl ⟨by rfl, ?_⟩) hHeld ?_ ?_
          rotate_left
          · rintro w' ⟨s0, s1, s2, s3, s4, s5⟩
            go_simp
            with_reducible rfl
          rotate_left
          · simp only [Act.put, List.setIfInBounds_toArray, List.set_cons_zero, List.set_cons_succ, i64_w, i32_w]
            rfl
          refine one_ (i := 8) (N := some 32) #[true, true, true, true, true, true, true, true, true, false, false] rfl rfl (by kernel_rfl) (by decide) (fun K hK => ?_)
          refine value_ (w1 := ?_) (v := ?_) (by rfl) rfl ?_ ?_
          rotate_left 2
          · go_simp
            constructor
            · rfl
            · rfl
          refine hK.out _ _ ⟨j0, j1, j2, j3, j4, jl⟩ (fun hHeld => ?_)
          clear hK K
          refine norm_ (a' := ?_) ?_ ?_
          rotate_left
          · show Act.put _ (some 32) _ = _
            simp only [Act.put, List.setIfInBounds_toArray, List.set_cons_zero, List.set_cons_succ, i64_w, i32_w]
            rfl
          refine one_ (i := 9) (N := some 33) #[true, true, true, true, true, true, true, true, true, true, false] rfl rfl (by kernel_rfl) (by decide) (fun K hK => ?_)
          refine append5_arm (v := u) (by rfl) rfl rfl i0 _ 48 Try.underlying25 hi hz0 hz1 hz2 rfl (n := (grp (l.take i) (at' l i).key).length) (xs := flat (grp (l.take i) (at' l i).key)) rfl _ _ rfl hV1.out hB1 (at' l i) hcel.out h63 h64 ?_
          intro v2 w5 hr2 hg2 hat2
          obtain ⟨⟨m0, m1, m2, m3, m4⟩, hM2⟩ := hap.out w5 hg2
          have ml := hLK.out w5 hM2
          replace hr2 := Lib.hid hr2
          replace hg2 := Lib.hid hg2
          replace hat2 := Lib.hid hat2
          replace hM2 := Lib.hid hM2
          refine hK.out _ _ ⟨m0, m1, m2, m3, m4, ml⟩ (fun hHeld => ?_)
          clear hK K
          refine norm_ (a' := ?_) ?_ ?_
          rotate_left
          · show Act.put _ (some 33) _ = _
            simp only [Act.put, List.setIfInBounds_toArray, List.set_cons_zero, List.set_cons_succ, i64_w, i32_w]
            rfl
          refine last_ (i := 10) (N := none) #[true, true, true, true, true, true, true, true, true, true, true] rfl rfl (by kernel_rfl) (by decide) (fun K hK => ?_)
          refine updateS_arm (by rfl) rfl rfl rfl rfl rfl hck hM2.out hmx ?_
          intro w6 hM3 hg3
          have fin3 := Lib.hid (fin.out w5 w6 v2 hr2.out hg2.out hat2.out hM3 hg3)
          clear hM3 hg3
          refine hK.out _ _ ?_
          clear hK K
          refine done_ (by kernel_rfl) ?_
          go_wp2_with fail
          go_roundg g
          case measure => omega
          case rel => exact ⟨i + 1, _, _, by omega, by go_num, fin3.out⟩
  · have hr : fitsB zs l = false := by unfold fitsB; rw [decide_eq_false hl]; rfl
    rw [hr]
    have hl2 : decide ((12 : Int) < (l.length : Int)) = true := by simp; omega
    have hl3 : 12 < l.length := by omega
    go_enter Try.func13, Try.ntmps13
    go_wp2_with fail
    go_ret
    exact ⟨rfl, Below.refl _ _⟩
end
end Go.Proofs.Ytecjkpjcmgohmab.Or

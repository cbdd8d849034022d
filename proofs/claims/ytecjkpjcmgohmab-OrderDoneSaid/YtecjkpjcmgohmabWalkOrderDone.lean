/- OrderDone: calls that were done in some turn fit. Laid by gendone.py. -/
import Derived.Test.YtecjkpjcmgohmabOrMod
namespace Go.Proofs.Ytecjkpjcmgohmab.WalkOrderDone
open Go Go.RowKit Go.Maps Go.Proofs.Ytecjkpjcmgohmab.Only Go.Proofs.Ytecjkpjcmgohmab.Pu Go.Proofs.Ytecjkpjcmgohmab.Or Go.Proofs.Ytecjkpjcmgohmab.Args
set_option linter.unusedVariables false
set_option linter.unusedSimpArgs false

def hun (j : Nat) : Int := 100 * ((j : Int) + 1)
def wAt (ws : List Int) (j : Nat) : Int := ws.getD j 0
def invD (ws : List Int) (j : Nat) : Int := if j < ws.length then hun j - wAt ws j else hun j
def retD (ws : List Int) (j : Nat) : Int := if j < ws.length then (if wAt ws j % 4 = 3 then hun j + wAt ws j + 500 else hun j + wAt ws j) else hun j
def fD (zs : List ByteArray) (l : List C) (ws : List Int) (j : Nat) (c : C) : C := { c with ok := (doR (setI zs l j) c).2, inv := invD ws j, ret := retD ws j }
theorem fit_done {zs : List ByteArray} {l X : List C} {ws : List Int} (hw : ∀ n ∈ ws, 0 ≤ n) (hl : l.length ≤ 12) (h : Mod (fD zs l ws) l l.length X) : fitsB zs X = true := by
  have hat := fun {j} (hj : j < l.length) => h.done hj
  have hlen := h.len
  have w0 : ∀ j, 0 ≤ wAt ws j := fun j => by
    unfold wAt
    by_cases q : j < ws.length
    · rw [List.getD_eq_getElem?_getD, List.getElem?_eq_getElem q]; exact hw _ (List.getElem_mem q)
    · rw [List.getD_eq_getElem?_getD, List.getElem?_eq_none (by omega)]; exact Int.le_refl 0
  have hi : ∀ j, invD ws j ≤ hun j := fun j => by unfold invD; have := w0 j; split <;> omega
  have hr : ∀ j, hun j ≤ retD ws j := fun j => by
    unfold retD; have := w0 j
    split
    · split <;> omega
    · omega
  have hv : ∀ c ∈ X, ahd c c = false := all_at (fun j hj => by
    rw [hat (by omega)]
    have q1 := hi j
    have q2 := hr j
    unfold ahd fD; simp; omega)
  have hp : X.Pairwise (fun a b => ahd b a = false) := pair_at (fun i j hij hj => by
    rw [hat (by omega), hat (by omega)]
    have q1 := hi i
    have q2 := hr j
    have q3 : hun i ≤ hun j := by unfold hun; omega
    unfold ahd fD; simp; omega)
  rw [fit_lin (by omega) hv]
  refine ⟨X, [], by rw [List.append_nil], fun c hc => by simp at hc, hp, (rn_all X zs).2 (fun j hj => .inr ?_)⟩
  have q2 := setI_congr zs hlen (fun j hj => by rw [hat hj]; exact ⟨rfl, rfl⟩) j (by omega)
  have q3 : doR (setI zs l j) (at' X j) = doR (setI zs l j) (at' l j) := doR_congr _ (by rw [hat (by omega)]; rfl) (by rw [hat (by omega)]; rfl)
  rw [q2, q3, hat (by omega)]
  rfl
/-- What holds at each round. -/
structure Rd (W W1 : World) (v8 : Value) (zs : List ByteArray) (ws : List Int) (ax : Option Addr) (n cx : Nat) (l X : List C) (i : Nat) (wr : World) : Prop where
  st : Strs wr v8 (setI zs l i)
  x : Own wr W1.heap.size (.slice ax n cx) X
  m : Mod (fD zs l ws) l i X
  bel : Below W1.heap.size W1 wr
theorem Rd.below {W W1 : World} {v8 : Value} {zs : List ByteArray} {ws : List Int} {ax : Option Addr} {n cx : Nat} {l X : List C} {i : Nat} {wr w' : World} (h : Rd W W1 v8 zs ws ax n cx l X i wr) (hb : Below wr.heap.size wr w') : Rd W W1 v8 zs ws ax n cx l X i w' :=
  ⟨h.st.below hb, own_below h.x hb, h.m, h.bel.trans (hb.mono h.bel.size)⟩
/-- What holds while one call is turned. -/
structure Sd (W1 : World) (v8 : Value) (S : List ByteArray) (gx n cx : Nat) (X : List C) (i : Nat) (c : C) (w : World) : Prop where
  st : Strs w v8 S
  x : Own w W1.heap.size (.slice (some ⟨gx, 0, none⟩) n cx) (X.set i c)
  bel : Below W1.heap.size W1 w
  hn : n = X.length
  hi : i < X.length
section
variable {W1 w w' : World} {v8 : Value} {S : List ByteArray} {gx n cx : Nat} {X : List C} {i : Nat} {c : C}
theorem Sd.below (h : Sd W1 v8 S gx n cx X i c w) (hb : Below w.heap.size w w') : Sd W1 v8 S gx n cx X i c w' := ⟨h.st.below hb, own_below h.x hb, h.bel.trans (hb.mono h.bel.size), h.hn, h.hi⟩
theorem Sd.cells (h : Sd W1 v8 S gx n cx X i c w) : CellsC w gx (i * 5) c ∧ W1.heap.size ≤ gx := by
  obtain ⟨g', c', hv', hB, hg, hc⟩ := own_cells h.x (by rw [List.length_set]; exact h.hi : i < (X.set i c).length)
  injection hv' with e1 _ _
  injection e1 with e1
  injection e1 with e1
  subst e1
  rw [at_set h.hi, if_pos rfl] at hc
  exact ⟨hc, hB⟩
theorem Sd.fz (h : Sd W1 v8 S gx n cx X i c w) (o : Nat) : w.frozen? ⟨gx, o, none⟩ = false := own_frozen h.x o
theorem Sd.turn (h : Sd W1 v8 S gx n cx X i c w) (c' : C) (j : Nat) (u : Value) (hj : j < 5) (hj1 : ∀ s, (cel c)[j]? ≠ some (.string s)) (hc : cel c' = (cel c).set j u) : Sd W1 v8 S gx n cx X i c' (w.setCell ⟨gx, i * 5 + j, none⟩ u) := by
  obtain ⟨hcl, hB⟩ := h.cells
  have h1 : i < (X.set i c).length := by rw [List.length_set]; exact h.hi
  have o := own_set5 (by rw [List.length_set]; exact h.hn) h.x h1 c' j u hj (by rw [at_set h.hi, if_pos rfl]; exact hc)
  rw [List.set_set] at o
  refine ⟨h.st.setCell (fun s e => hj1 s ?_) u, o, below_set h.bel hB _, h.hn, h.hi⟩
  have : ∀ j, j < 5 → w.cell? ⟨gx, i * 5 + j, none⟩ = (cel c)[j]? := fun j hj => by
    match j, hj with
    | 0, _ => exact hcl.c0
    | 1, _ => exact hcl.c1
    | 2, _ => exact hcl.c2
    | 3, _ => exact hcl.c3
    | 4, _ => exact hcl.c4
  rw [← this j hj]; exact e
end
/-- A slice of bytes. -/
structure Nums (w : World) (v : Value) (ws : List Int) : Prop where
  shape : ∃ a cap, v = .slice a ws.length cap ∧ ws.length ≤ maxLen ∧ ∀ i, i < ws.length → ∃ g o, a = some ⟨g, o, none⟩ ∧ g < w.heap.size ∧ w.cell? ⟨g, o + i, none⟩ = some (.int .u8 (wAt ws i)) ∧ 0 ≤ wAt ws i ∧ wAt ws i ≤ 255
  pos : ∀ n ∈ ws, 0 ≤ n
theorem nums_of {w : World} {v : Value} {ws : List Int} (h : Ints .u8 w v ws) : Nums w v ws := by
  obtain ⟨a, cap, hv, hl, hx⟩ := h.shape
  have hr : ∀ n ∈ ws, 0 ≤ n ∧ n ≤ 255 := fun n hn => h.range n hn
  refine ⟨⟨a, cap, hv, hl, fun i hi => ?_⟩, fun n hn => (hr n hn).1⟩
  obtain ⟨x0, ha0, -, h0⟩ := hx 0 (by omega)
  have sp : x0.spot = none := spot_none (by rw [show x0.add 0 = x0 by simp [Addr.add]] at h0; exact h0)
  obtain ⟨x, ha, hxb, hc⟩ := hx i hi
  rw [ha] at ha0
  injection ha0 with ha0
  subst ha0
  rw [add_eq sp] at hc
  have hm : wAt ws i ∈ ws := by unfold wAt; rw [List.getD_eq_getElem?_getD, List.getElem?_eq_getElem hi]; exact List.getElem_mem hi
  exact ⟨x.block, x.off, by rw [ha]; congr 1; obtain ⟨b, o, s⟩ := x; simp at sp; subst sp; rfl, hxb, hc, (hr _ hm).1, (hr _ hm).2⟩
set_option maxHeartbeats 8000000 in
set_option maxRecDepth 100000 in
theorem core {W : World} {vf v vw : Value} {zs : List ByteArray} {l : List C} {ws : List Int} (hF : Strs W vf zs) (hL : SlR W v l) (hN : Nums W vw ws) (hk : ∀ c ∈ l, c.key.size ≤ maxLen) :
    Calls Try.prog 6 #[vf, v, vw] W fun e w' => e = .returned (.bool true) ∧ Below W.heap.size W w' := by
  obtain ⟨af, capf, rfl, hfl, -⟩ := hF.shape
  obtain ⟨av, capv, rfl, hvl, hx⟩ := hL.shape
  obtain ⟨aw, capw, rfl, hwl, hw⟩ := hN.shape
  have hpos := Lib.hid hN.pos
  unfold maxLen at hfl hvl hwl
  replace hx := Lib.hid hx
  replace hw := Lib.hid hw
  have hAw := Lib.hid (awake W)
  by_cases h1 : 20 < zs.length
  · have q1 : decide ((20 : Int) < (zs.length : Int)) = true := by simp; omega
    go_enter Try.func6, Try.ntmps6
    go_wp2_with fail
    refine hAw.out.mono ?_
    rintro e w1 ⟨rfl, b1⟩
    go_wp2_with fail
    go_ret
    exact ⟨rfl, b1⟩
  by_cases h2 : 12 < l.length
  · have q1 : decide ((20 : Int) < (zs.length : Int)) = false := by simp; omega
    have q2 : decide ((12 : Int) < (l.length : Int)) = true := by simp; omega
    go_enter Try.func6, Try.ntmps6
    go_wp2_with fail
    refine hAw.out.mono ?_
    rintro e w1 ⟨rfl, b1⟩
    go_wp2_with fail
    go_ret
    exact ⟨rfl, b1⟩
  have q1 : decide ((20 : Int) < (zs.length : Int)) = false := by simp; omega
  have q2 : decide ((12 : Int) < (l.length : Int)) = false := by simp; omega
  have hl12 : l.length ≤ 12 := by omega
  replace hF := Lib.hid hF
  replace hL := Lib.hid hL
  go_enter Try.func6, Try.ntmps6
  go_wp2_with fail
  refine hAw.out.mono ?_
  rintro e w1 ⟨rfl, b1⟩
  have hM := Lib.hid (madeC (hL.out.below b1) (by omega))
  go_wp2_with fail
  refine hM.out.mono ?_
  rintro e w2 ⟨vx, rfl, ox, b2⟩
  obtain ⟨ax, cx, ex, -, -⟩ := own_any ox
  subst ex
  have R0 : Rd W w1 (.slice af zs.length capf) zs ws ax l.length cx l l 0 w2 := ⟨(hF.out.below b1).below b2, ox, Mod.new _ _, b2⟩
  replace R0 := Lib.hid R0
  have b1' := Lib.hid b1
  clear hM hAw b1 b2 ox hN
  go_wp2_with fail
  go_loopg [8, 10] l.length (fun g s8 s10 wr => ∃ (i : Nat) (X : List C), i + g = l.length ∧ s10 = .int .i64 i ∧ Aside (Rd W w1 s8 zs ws ax l.length cx l X i wr))
  case atStart => exact ⟨0, l, by omega, rfl, R0⟩
  case round =>
    clear R0
    obtain ⟨i, X, hig, rfl, P⟩ := hrel
    have hbelW : Below W.heap.size W wr := b1'.out.trans (P.out.bel.mono b1'.out.size)
    have hXl := P.out.m.len
    cases gk with
    | zero =>
      obtain rfl : i = l.length := by omega
      have FX := fitsAll (hF.out.below hbelW) P.out.x (all_at (fun j hj => by rw [P.out.m.done (by omega)]; exact hk (at' l j) (at_mem (by omega))))
      rw [fit_done hpos.out hl12 P.out.m] at FX
      replace FX := Lib.hid FX
      replace hbelW := Lib.hid hbelW
      go_wp2_with fail
      refine FX.out.mono ?_
      rintro e w3 ⟨rfl, b3⟩
      go_wp2_with fail
      go_ret
      exact ⟨rfl, hbelW.out.trans (b3.mono hbelW.out.size)⟩
    | succ g =>
      have hil : i < l.length := by omega
      obtain ⟨gl, ol, rfl, hgl, hcl⟩ := hx.out i hil
      obtain ⟨c0, c1, c2, c3, c4⟩ := hcl.below hbelW
      obtain ⟨gx, cap', hvX, -, hgx, hcx⟩ := own_cells P.out.x (by omega : i < X.length)
      injection hvX with hvX hvn hvc
      clear hvn
      subst hvc
      subst hvX
      have hlen := setI_len zs l i (by omega)
      have hDo := doC P.out.st (by omega) (at' l i)
      unfold V Done at hDo
      obtain ⟨A8, C8, e8, -, -⟩ := P.out.st.shape
      subst e8
      replace hDo := Lib.hid hDo
      clear hcl hcx
      go_wp2_with fail
      refine hDo.out.mono ?_
      rintro e w3 ⟨v9, rfl, s9, b3⟩
      go_upto_region 11 with fail
      have hcur := P.out.m.cur hil
      have S3 : Sd w1 v9 (setI zs l (i + 1)) gx l.length cx X i (at' l i) w3 := ⟨by rw [setI_succ zs hil]; exact s9, by
        have := (P.out.below b3).x
        rw [show X.set i (at' l i) = X from ?_]
        · exact this
        · rw [← hcur]
          unfold Pu.at'
          rw [List.getD_eq_getElem?_getD, List.getElem?_eq_getElem (by omega : i < X.length)]
          exact List.set_getElem_self (by omega : i < X.length), (P.out.below b3).bel, by omega, by omega⟩
      replace S3 := Lib.hid S3
      have hbW : ∀ w4, Below w1.heap.size w1 w4 → Below W.heap.size W w4 := fun w4 hb => b1'.out.trans (hb.mono b1'.out.size)
      replace hbW := Lib.hid hbW
      have hm := Lib.hid (P.out.m.step hil)
      replace hbelW := Lib.hid hbelW
      clear c0 c1 c2 c3 c4 s9 b3 hDo P hcur
      obtain ⟨⟨x0, x1, x2, x3, x4⟩, -⟩ := S3.out.cells
      have fz := S3.out.fz (i * 5 + 2)
      generalize hok : (doR (setI zs l i) (at' l i)).2 = ok at *
      replace hok := Lib.hid hok
      go_upto_region 12 with fail
      obtain ⟨w4, e4, S4⟩ : ∃ w4, w4 = w3.setCell ⟨gx, i * 5 + 2, none⟩ (.bool ok) ∧ Sd w1 v9 (setI zs l (i + 1)) gx l.length cx X i { at' l i with ok := ok } w4 := ⟨_, rfl, S3.out.turn _ 2 _ (by omega) (fun s e => by simp [cel] at e) rfl⟩
      rw [← e4]
      clear e4 x0 x1 x2 x3 x4 fz S3
      obtain ⟨⟨x0, x1, x2, x3, x4⟩, -⟩ := S4.cells
      have fz := S4.fz (i * 5 + 3)
      replace S4 := Lib.hid S4
      go_upto_region 13 with fail
      obtain ⟨w5, e5, S5⟩ : ∃ w5, w5 = w4.setCell ⟨gx, i * 5 + 3, none⟩ (.int .i64 (100 * ((i : Int) + 1))) ∧ Sd w1 v9 (setI zs l (i + 1)) gx l.length cx X i { at' l i with ok := ok, inv := 100 * ((i : Int) + 1) } w5 := ⟨_, rfl, S4.out.turn _ 3 _ (by omega) (fun s e => by simp [cel] at e) rfl⟩
      rw [← e5]
      clear e5 x0 x1 x2 x3 x4 fz S4
      obtain ⟨⟨x0, x1, x2, x3, x4⟩, -⟩ := S5.cells
      have fz := S5.fz (i * 5 + 4)
      replace S5 := Lib.hid S5
      go_upto_region 14 with fail
      obtain ⟨w6, e6, S6⟩ : ∃ w6, w6 = w5.setCell ⟨gx, i * 5 + 4, none⟩ (.int .i64 (100 * ((i : Int) + 1))) ∧ Sd w1 v9 (setI zs l (i + 1)) gx l.length cx X i { at' l i with ok := ok, inv := 100 * ((i : Int) + 1), ret := 100 * ((i : Int) + 1) } w6 := ⟨_, rfl, S5.out.turn _ 4 _ (by omega) (fun s e => by simp [cel] at e) rfl⟩
      rw [← e6]
      clear e6 x0 x1 x2 x3 x4 fz S5
      obtain ⟨⟨x0, x1, x2, x3, x4⟩, -⟩ := S6.cells
      have fz := S6.fz (i * 5 + 3)
      replace S6 := Lib.hid S6
      by_cases hiw : i < ws.length
      · obtain ⟨gw, ow, rfl, hgw, hcw, hz0, hz1⟩ := hw.out i hiw
        have z6 := ((hbW.out _ S6.out.bel).cell (p := ⟨gw, ow + i, none⟩) hgw).trans hcw
        have hzz : wAt ws i = wAt ws i := rfl
        generalize hzv : wAt ws i = z at *
        clear hzz
        replace hzv := Lib.hid hzv
        have q3 : decide ((i : Int) < (ws.length : Int)) = true := by simp; omega
        go_upto_region 15 with fail
        go_region
        obtain ⟨w7, e7, S7⟩ : ∃ w7, w7 = (w6.setCell ⟨gx, i * 5 + 3, none⟩ (.int .i64 (100 * ((i : Int) + 1) - z))).drew ∧ Sd w1 v9 (setI zs l (i + 1)) gx l.length cx X i { at' l i with ok := ok, inv := 100 * ((i : Int) + 1) - z, ret := 100 * ((i : Int) + 1) } w7 := ⟨_, rfl, (S6.out.turn { at' l i with ok := ok, inv := 100 * ((i : Int) + 1) - z, ret := 100 * ((i : Int) + 1) } 3 (.int .i64 (100 * ((i : Int) + 1) - z)) (by omega) (fun s e => by simp [cel] at e) rfl).below (below_drew (Below.refl _ _))⟩
        rw [← e7]
        clear e7 x0 x1 x2 x3 x4 fz S6 z6
        obtain ⟨⟨x0, x1, x2, x3, x4⟩, -⟩ := S7.cells
        have fz := S7.fz (i * 5 + 4)
        have z7 := ((hbW.out _ S7.bel).cell (p := ⟨gw, ow + i, none⟩) hgw).trans hcw
        replace S7 := Lib.hid S7
        go_upto_region 16 with fail
        go_region
        obtain ⟨w8, e8, S8⟩ : ∃ w8, w8 = (w7.setCell ⟨gx, i * 5 + 4, none⟩ (.int .i64 (100 * ((i : Int) + 1) + z))).drew ∧ Sd w1 v9 (setI zs l (i + 1)) gx l.length cx X i { at' l i with ok := ok, inv := 100 * ((i : Int) + 1) - z, ret := 100 * ((i : Int) + 1) + z } w8 := ⟨_, rfl, (S7.out.turn { at' l i with ok := ok, inv := 100 * ((i : Int) + 1) - z, ret := 100 * ((i : Int) + 1) + z } 4 (.int .i64 (100 * ((i : Int) + 1) + z)) (by omega) (fun s e => by simp [cel] at e) rfl).below (below_drew (Below.refl _ _))⟩
        rw [← e8]
        clear e8 x0 x1 x2 x3 x4 fz S7 z7
        obtain ⟨⟨x0, x1, x2, x3, x4⟩, -⟩ := S8.cells
        have fz := S8.fz (i * 5 + 4)
        have z8 := ((hbW.out _ S8.bel).cell (p := ⟨gw, ow + i, none⟩) hgw).trans hcw
        replace S8 := Lib.hid S8
        by_cases h4 : z % 4 = 3
        · have q4 : (z % 4 == 3) = true := by simp [h4]
          have hf : fD zs l ws i (at' l i) = { at' l i with ok := ok, inv := 100 * ((i : Int) + 1) - z, ret := 100 * ((i : Int) + 1) + z + 500 } := by
            unfold fD invD retD hun
            rw [if_pos hiw, if_pos hiw, hzv.out, if_pos h4, hok.out]
          have nx : Rd W w1 v9 zs ws (some ⟨gx, 0, none⟩) l.length cx l (X.set i (fD zs l ws i (at' l i))) (i + 1) (w8.setCell ⟨gx, i * 5 + 4, none⟩ (.int .i64 (100 * ((i : Int) + 1) + z + 500))) := by
            have S9 := S8.out.turn { at' l i with ok := ok, inv := 100 * ((i : Int) + 1) - z, ret := 100 * ((i : Int) + 1) + z + 500 } 4 (.int .i64 (100 * ((i : Int) + 1) + z + 500)) (by omega) (fun s e => by simp [cel] at e) rfl
            exact ⟨S9.st, by rw [hf]; exact S9.x, hm.out, S9.bel⟩
          replace nx := Lib.hid nx
          replace hf := Lib.hid hf
          clear h4
          go_wp2_with fail
          go_roundg g
          case measure => omega
          case rel => exact ⟨i + 1, _, by omega, by go_num, nx.out⟩
        · have q4 : (z % 4 == 3) = false := by simp [h4]
          have hf : fD zs l ws i (at' l i) = { at' l i with ok := ok, inv := 100 * ((i : Int) + 1) - z, ret := 100 * ((i : Int) + 1) + z } := by
            unfold fD invD retD hun
            rw [if_pos hiw, if_pos hiw, hzv.out, if_neg h4, hok.out]
          have nx : Rd W w1 v9 zs ws (some ⟨gx, 0, none⟩) l.length cx l (X.set i (fD zs l ws i (at' l i))) (i + 1) w8 := ⟨S8.out.st, by rw [hf]; exact S8.out.x, hm.out, S8.out.bel⟩
          replace nx := Lib.hid nx
          replace hf := Lib.hid hf
          clear h4
          go_wp2_with fail
          go_roundg g
          case measure => omega
          case rel => exact ⟨i + 1, _, by omega, by go_num, nx.out⟩
      · have q3 : decide ((i : Int) < (ws.length : Int)) = false := by simp; omega
        have hf : fD zs l ws i (at' l i) = { at' l i with ok := ok, inv := 100 * ((i : Int) + 1), ret := 100 * ((i : Int) + 1) } := by
          unfold fD invD retD hun
          rw [if_neg hiw, if_neg hiw, hok.out]
        have nx : Rd W w1 v9 zs ws (some ⟨gx, 0, none⟩) l.length cx l (X.set i (fD zs l ws i (at' l i))) (i + 1) w6 := ⟨S6.out.st, by rw [hf]; exact S6.out.x, hm.out, S6.out.bel⟩
        replace nx := Lib.hid nx
        replace hf := Lib.hid hf
        go_wp2_with fail
        go_roundg g
        case measure => omega
        case rel => exact ⟨i + 1, _, by omega, by go_num, nx.out⟩
theorem walk (V1 : Value) (zs1 : List (List Value)) (V2 : Value) (zs2 : List (List Value)) (V3 : Value) (ws : List Int) (W : World) (h1 : StructsV [.str] W V1 zs1) (h2 : StructsV [.int .i64, .str, .bool, .int .i64, .int .i64] W V2 zs2) (h3 : Ints .u8 W V3 ws) :
    Calls Try.prog 6 #[V1, V2, V3] W fun e w' => e = .returned (.bool true) ∧ Below W.heap.size W w' :=
  core (strs_of h1) (slR_of h2).1 (nums_of h3) (slR_of h2).2
end Go.Proofs.Ytecjkpjcmgohmab.WalkOrderDone

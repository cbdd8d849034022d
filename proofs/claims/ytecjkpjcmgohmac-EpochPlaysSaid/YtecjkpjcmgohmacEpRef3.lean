/- The reference's pool: Advance. -/
import Derived.Test.YtecjkpjcmgohmacEpRef2
namespace Go.Proofs.Ytecjkpjcmgohmac.EpRef
open Go Go.RowKit Go.Maps Go.Proofs.Ytecjkpjcmgohmac.Only Go.Proofs.Ytecjkpjcmgohmac.Ep
set_option linter.unusedVariables false
set_option linter.unusedSimpArgs false

def radvB (inn : List Int) (ep : Int) : Bool := inn.all fun x => decide (x < 0) || decide (x = ep)
def radvE (inn : List Int) (ep : Int) : Int := if radvB inn ep = true then ep + 1 else ep
theorem radv_no {inn : List Int} {ep x : Int} {k : Nat} (hk : k < inn.length) (hx : inn.getD k 0 = x) (h0 : ¬ x < 0) (h1 : ¬ x = ep) : radvB inn ep = false := by
  unfold radvB
  rw [List.all_eq_false]
  refine ⟨inn[k], List.getElem_mem hk, ?_⟩
  have : inn[k] = x := by rw [← hx]; simp [List.getD, hk]
  rw [this]
  simp [h0, h1]
def advTo (inn : List Int) (ep : Int) (k : Nat) : Prop := ∀ j, j < k → inn.getD j 0 < 0 ∨ inn.getD j 0 = ep
theorem radv_yes {inn : List Int} {ep : Int} (h : advTo inn ep inn.length) : radvB inn ep = true := by
  unfold radvB
  rw [List.all_eq_true]
  intro x hx
  obtain ⟨j, hj, rfl⟩ := List.getElem_of_mem hx
  have := h j hj
  rw [show inn.getD j 0 = inn[j] by simp [List.getD, hj]] at this
  simpa using this
theorem below_drewN (w : World) (n : Nat) : Below w.heap.size w (w.drewN n) := by
  induction n with
  | zero => exact Below.refl _ _
  | succ n ih => exact ih.trans (below_drew (Below.refl _ _))
section
variable {B : Nat} {vI vR : Value} {inn : List Int} {R : List (Int × Int)} {w : World}
set_option maxHeartbeats 8000000 in
set_option maxRecDepth 100000 in
theorem radvance (h : RefP B vI inn vR R w) (hB : B ≤ w.heap.size) (hl : inn.length ≤ 1000) (ep : Int) (hep : 0 ≤ ep ∧ ep ≤ 1000000) :
    Calls Try.prog 26 #[.agg (xv vI ep vR)] w (RTo B vI vR inn (radvE inn ep) R [.bool (radvB inn ep)] w) := by
  obtain ⟨AI, cI, e1, -⟩ := own_any' h.i
  obtain ⟨AR, cR, e2, -⟩ := own_any' h.r
  subst e1 e2
  obtain ⟨w1, hw1, ha, hx, hb, s1⟩ := two3 w (xv (.slice AI inn.length cI) ep (.slice AR R.length cR)) (.slice none 0 0) (.slice none 0 0)
  have RF := h.below hb
  unfold xv at *
  replace hw1 := Lib.hid hw1.symm
  replace ha := Lib.hid ha
  replace hx := Lib.hid hx
  replace hb := Lib.hid hb
  replace RF := Lib.hid RF
  obtain ⟨Q, hQ⟩ : ∃ Q, RTo B (.slice AI inn.length cI) (.slice AR R.length cR) inn (radvE inn ep) R [.bool (radvB inn ep)] w = Q := ⟨_, rfl⟩
  rw [hQ]
  replace hQ := Lib.hid hQ
  clear h
  go_enter Try.func26, Try.ntmps26
  go_upto_region 1 with fail
  rw [hw1.out]
  go_wp2_with fail
  go_loopw [4] (fun kv wr => ∃ k : Nat, k ≤ inn.length ∧ kv = .int .i64 k ∧ Hid (advTo inn ep k) ∧ Hid (Below w1.heap.size w1 wr))
    (fun kv _ => inn.length - (intOf kv).toNat)
  case atStart => exact ⟨0, by omega, rfl, Lib.hid (fun j hj => by omega), Lib.hid (Below.refl _ _)⟩
  case round =>
    obtain ⟨k, hk, rfl, hto, hbr⟩ := hrel
    have sr := hbr.out.size
    obtain ⟨⟨c0, c1, c2⟩, -⟩ := cellsX (ha.out.below hbr.out)
    obtain ⟨⟨d0, d1, d2⟩, fd⟩ := cellsX (hx.out.below hbr.out)
    have f0 := fd 0
    have f1 := fd 1
    have f2 := fd 2
    have hlt0 : w.heap.size < wr.heap.size := by omega
    have hlt1 : w.heap.size + 1 < wr.heap.size := by omega
    by_cases hlt : k < inn.length
    · have b1 : decide ((k : Int) < inn.length) = true := by simp; omega
      obtain ⟨g, c, e1, -, -, -, hlg, hxi, hfi⟩ := own_shape (RF.out.below hbr.out).i (by omega)
      injection e1 with q1 q2 q3
      subst q1 q3
      have xi := hxi k hlt
      have ei : (inn.map (Value.int .i64)).getD k (.bool false) = .int .i64 (inn.getD k 0) := by simp [List.getD, hlt]
      rw [ei] at xi
      obtain ⟨x, hxx⟩ : ∃ x, inn.getD k 0 = x := ⟨_, rfl⟩
      rw [hxx] at xi
      clear hxi hfi ei fd
      have nxt : (x < 0 ∨ x = ep) → advTo inn ep (k + 1) := fun hh j hj => by
        by_cases e : j = k
        · subst e; rw [hxx]; exact hh
        · exact hto.out j (by omega)
      replace nxt := Lib.hid nxt
      replace hxx := Lib.hid hxx
      by_cases h0 : x < 0
      · have b0 : decide (0 ≤ x) = false := decide_eq_false (by omega)
        have nx := Lib.hid (nxt.out (.inl h0))
        have hbd : ∀ a, Below w1.heap.size w1 (wr.drewN a) := fun a => hbr.out.trans ((below_drewN _ _).mono hbr.out.size)
        replace hbd := Lib.hid hbd
        go_wp2_with fail
        go_quiet (fail)
        go_wp2
        go_roundw
        case rel => exact ⟨k + 1, by omega, by go_num, nx, Lib.hid (hbd.out _)⟩
        case measure => simp [intOf]; omega
      · have b0 : decide (0 ≤ x) = true := decide_eq_true (by omega)
        by_cases h1 : x = ep
        · subst h1
          have nx := Lib.hid (nxt.out (.inr rfl))
          have hbd : ∀ a, Below w1.heap.size w1 (wr.drewN a) := fun a => hbr.out.trans ((below_drewN _ _).mono hbr.out.size)
          replace hbd := Lib.hid hbd
          go_wp2_with fail
          go_quiet (fail)
          go_wp2
          go_roundw
          case rel => exact ⟨k + 1, by omega, by go_num, nx, Lib.hid (hbd.out _)⟩
          case measure => simp [intOf]; omega
        · have b2 : decide (x = ep) = false := decide_eq_false h1
          have b3 : (x == ep) = false := by simp [h1]
          have b4 : (x != ep) = true := by simp [h1]
          have no := radv_no hlt hxx.out h0 h1
          have ne : radvE inn ep = ep := by unfold radvE; rw [if_neg (by rw [no]; simp)]
          have hbd : ∀ a, Below w1.heap.size w1 (wr.drewN a) := fun a => hbr.out.trans ((below_drewN _ _).mono hbr.out.size)
          replace hbd := Lib.hid hbd
          go_wp2_with fail
          go_quiet (fail)
          have hb2 := hbd.out nq
          generalize wr.drewN nq = w2 at *
          have s2 := hb2.size
          clear c0 c1 c2 d0 d1 d2 f0 f1 f2 xi hlt0 hlt1
          obtain ⟨⟨c0, c1, c2⟩, -⟩ := cellsX (ha.out.below hb2)
          have X2 := hx.out.below hb2
          obtain ⟨⟨d0, d1, d2⟩, fd⟩ := cellsX X2
          have f0 := fd 0
          have f1 := fd 1
          have f2 := fd 2
          obtain ⟨w9, e9, ⟨y0, y1, y2⟩, b9, on9⟩ := end3 X2 (hb.out.trans (hb2.mono hb.out.size)) (by omega) (.slice (some ⟨g, 0, none⟩) inn.length cI) (.int .i64 ep) (.slice AR R.length cR)
          have P9 := Lib.hid ((RF.out.below hb2).keepX X2 on9)
          have fin : RTo B (.slice (some ⟨g, 0, none⟩) inn.length cI) (.slice AR R.length cR) inn (radvE inn ep) R [.bool (radvB inn ep)] w (.returned (.tuple #[.agg #[.slice (some ⟨g, 0, none⟩) inn.length cI, .int .i64 ep, .slice AR R.length cR], .bool false])) w9 := by
            rw [no, ne]
            exact ⟨_, _, rfl, P9.out, b9, fun k hk => .inl hk⟩
          replace fin := Lib.hid fin
          replace e9 := Lib.hid e9
          replace hb2 := Lib.hid hb2
          clear fd X2 b9 on9 hbd no ne
          go_wp2
          rw [← e9.out]
          rw [← hQ.out]
          exact bodyPost_ret (v := .tuple #[.agg #[.slice (some ⟨g, 0, none⟩) inn.length cI, .int .i64 ep, .slice AR R.length cR], .bool false]) (by simp [results, Try.results26, go_sem, y0, y1, y2]) rfl fin.out
    · have b1 : decide ((k : Int) < inn.length) = false := by simp; omega
      obtain rfl : k = inn.length := by omega
      have yes := radv_yes hto.out
      have ye : radvE inn ep = ep + 1 := by unfold radvE; rw [if_pos yes]
      have e8 : IntKind.i64.wrap (ep + 1) = ep + 1 := IntWalk.i64_in _ (by omega)
      have X4 := hx.out.below hbr.out
      have bw := hb.out.trans (hbr.out.mono hb.out.size)
      obtain ⟨w9, e9, ⟨y0, y1, y2⟩, b9, on9⟩ := end3 X4 bw (by omega) (.slice AI inn.length cI) (.int .i64 (ep + 1)) (.slice AR R.length cR)
      have s9 : w.heap.size + 1 < w9.heap.size := by have := on9.size; omega
      have P9 := Lib.hid (((RF.out.below hbr.out).keepX X4 on9).below (w' := w9.alloc (.cells #[.slice AI inn.length cI, .int .i64 (ep + 1), .slice AR R.length cR] 35)) ((Below.refl _ _).alloc (Nat.le_refl _) _))
      have fin : RTo B (.slice AI inn.length cI) (.slice AR R.length cR) inn (radvE inn ep) R [.bool (radvB inn ep)] w (.returned (.tuple #[.agg #[.slice AI inn.length cI, .int .i64 (ep + 1), .slice AR R.length cR], .bool true])) (w9.alloc (.cells #[.slice AI inn.length cI, .int .i64 (ep + 1), .slice AR R.length cR] 35)) := by
        rw [yes, ye]
        exact ⟨_, _, rfl, P9.out, b9.alloc b9.size _, fun k hk => .inl hk⟩
      have se : w9.heap.size = wr.heap.size := by rw [e9]; simp [World.setCell]
      replace fin := Lib.hid fin
      replace e9 := Lib.hid e9
      replace se := Lib.hid se
      clear fd X4 b9 on9 yes ye
      go_wp2
      rw [← e9.out]
      rw [← hQ.out]
      exact bodyPost_ret (v := .tuple #[.agg #[.slice AI inn.length cI, .int .i64 (ep + 1), .slice AR R.length cR], .bool true]) (by simp [results, Try.results26, go_sem, y0, y1, y2, s9]) rfl fin.out
end
end Go.Proofs.Ytecjkpjcmgohmac.EpRef

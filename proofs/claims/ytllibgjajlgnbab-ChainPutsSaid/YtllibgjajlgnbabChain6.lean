/- One cell's versions: the plain laws; a cell behind events. -/
import Derived.Test.YtllibgjajlgnbabChain5
import Derived.IntWalk
namespace Go.Proofs.Ytllibgjajlgnbab.Chain
open Go Go.RowKit Go.Proofs.Ytllibgjajlgnbab.Only Go.Proofs.Ytllibgjajlgnbab.Mem Go.Proofs.Ytllibgjajlgnbab.New Go.Proofs.Ytllibgjajlgnbab.Args
set_option linter.unusedVariables false
set_option linter.unusedSimpArgs false

/-- A cell's number and the versions. -/
structure Good (x : Int) (Vs : List Ver) : Prop where
  x0 : 0 ≤ x
  xl : x ≤ Vs.length
  ac : Acyc Vs
  rg : ∀ y ∈ Vs, 0 ≤ y.ahead ∧ y.ahead ≤ 18446744073709551615
  rr : ∀ y ∈ Vs, -9223372036854775808 ≤ y.rev ∧ y.rev ≤ 9223372036854775807

theorem okV_old {Vs : List Ver} {y : Ver} {id : Int} (h : id ≤ Vs.length) : okV (Vs ++ [y]) id = okV Vs id := by
  unfold okV
  rw [decide_eq_decide]
  simp only [List.length_append, List.length_singleton]
  omega
theorem okV_new (Vs : List Ver) (y : Ver) : okV (Vs ++ [y]) (Vs.length + 1 : Nat) = true := by simp [okV]; omega
theorem ofV_old {Vs : List Ver} {y : Ver} {id : Int} (h : id ≤ Vs.length) : ofV (Vs ++ [y]) id = ofV Vs id := by
  unfold ofV
  rw [okV_old h]
  cases ho : okV Vs id with
  | false => rfl
  | true =>
    obtain ⟨h1, h2⟩ := okV_true.1 ho
    have : id.toNat - 1 < Vs.length := by omega
    simp [List.getD, List.getElem?_append_left this]
theorem ofV_new (Vs : List Ver) (y : Ver) : ofV (Vs ++ [y]) (Vs.length + 1 : Nat) = y := by
  unfold ofV
  rw [okV_new]
  simp [List.getD]
theorem ofV_rr {Vs : List Ver} (h : ∀ y ∈ Vs, -9223372036854775808 ≤ y.rev ∧ y.rev ≤ 9223372036854775807) (id : Int) : -9223372036854775808 ≤ (ofV Vs id).rev ∧ (ofV Vs id).rev ≤ 9223372036854775807 := by
  unfold ofV
  split
  · rename_i ho
    obtain ⟨h1, h2⟩ := okV_true.1 ho
    have hi : id.toNat - 1 < Vs.length := by omega
    have e : Vs.getD (id.toNat - 1) Ver.zero = Vs[id.toNat - 1] := by simp [List.getD, hi]
    rw [e]; exact h _ (List.getElem_mem hi)
  · simp [Ver.zero]
theorem acyc_new {Vs : List Ver} (h : Acyc Vs) {y : Ver} (hy : 0 ≤ y.ahead ∧ y.ahead ≤ Vs.length) : Acyc (Vs ++ [y]) := by
  intro id ho
  obtain ⟨h1, h2⟩ := okV_true.1 ho
  by_cases hl : id ≤ Vs.length
  · rw [ofV_old hl]; exact h id (by rw [← okV_old hl (y := y)]; exact ho)
  · have e : id = (Vs.length + 1 : Nat) := by simp at h2; omega
    rw [e, ofV_new]; omega
theorem atV_old {Vs : List Ver} (ha : Acyc Vs) (y : Ver) (r : Int) : ∀ (f : Nat) (id : Int), id ≤ Vs.length → atV (Vs ++ [y]) r f id = atV Vs r f id := by
  intro f
  induction f with
  | zero => intro id h; rfl
  | succ f ih =>
    intro id h
    unfold atV
    rw [okV_old h, ofV_old h]
    cases ho : okV Vs id with
    | false => rfl
    | true =>
      have h2 := (ha id ho).2
      simp only [if_true]
      rw [ih _ (by omega)]
theorem atR_old {Vs : List Ver} (ha : Acyc Vs) {y : Ver} {id r : Int} (h : id ≤ Vs.length) : atR (Vs ++ [y]) id r = atR Vs id r := atV_old ha y r _ _ h
theorem atR_new {Vs : List Ver} (ha : Acyc Vs) {y : Ver} (hy : 0 ≤ y.ahead ∧ y.ahead ≤ Vs.length) (r : Int) : atR (Vs ++ [y]) (Vs.length + 1 : Nat) r = if r < y.rev then atR Vs y.ahead r else if y.del then none else some y := by
  rw [atR_step (acyc_new ha hy) (okV_new Vs y), ofV_new]
  rw [atR_old ha hy.2]
theorem Good.new {x : Int} {Vs : List Ver} (h : Good x Vs) {y : Ver} (hy : 0 ≤ y.ahead ∧ y.ahead ≤ Vs.length) (hr : -9223372036854775808 ≤ y.rev ∧ y.rev ≤ 9223372036854775807) (hl : Vs.length ≤ 1000000) {z : Int} (hz : 0 ≤ z ∧ z ≤ Vs.length + 1) : Good z (Vs ++ [y]) := by
  refine ⟨hz.1, by simp; omega, acyc_new h.ac hy, fun u hu => ?_, fun u hu => ?_⟩
  · rcases List.mem_append.1 hu with hu | hu
    · exact h.rg u hu
    · simp at hu; subst hu; omega
  · rcases List.mem_append.1 hu with hu | hu
    · exact h.rr u hu
    · simp at hu; subst hu; exact hr
theorem rd1 (x : Int) : rdAt [x] 0 = x := by simp [rdAt, inR]
theorem casB1 (x o : Int) : casB [x] 0 o = (x == o) := by simp [casB, rd1, inR]
theorem casAt1 (x o y : Int) : casAt [x] 0 o y = [if x = o then y else x] := by
  unfold casAt setAt
  rw [casB1]
  by_cases h : x = o
  · simp [h, inR]
  · simp [h]

/-- A put put to its end, with nobody else: its event is the cell's version, if it isn't late. -/
theorem runFresh (x : Int) (Vs : List Ver) (r : Int) (key val : ByteArray) (del : Bool) :
    (One.mk [x] Vs ⟨0, r, key, val, del, 0, false, false⟩).run 10 = if r ≤ (ofV Vs x).rev then ⟨[x], Vs, ⟨0, r, key, val, del, x, true, true⟩⟩ else ⟨[((Vs.length + 1 : Nat) : Int)], Vs ++ [⟨r, key, val, del, x⟩], ⟨0, r, key, val, del, x, false, true⟩⟩ := by
  have e1 : (One.mk [x] Vs ⟨0, r, key, val, del, 0, false, false⟩).step = ⟨[x], Vs, ⟨0, r, key, val, del, x, true, decide (r ≤ (ofV Vs x).rev)⟩⟩ := by
    simp [One.step, stepC, stepV, stepP, rd1]
  by_cases h : r ≤ (ofV Vs x).rev
  · rw [if_pos h]
    rw [One.run, e1]
    simp [h]
  · rw [if_neg h]
    have e2 : (One.mk [x] Vs ⟨0, r, key, val, del, x, true, false⟩).step = ⟨[((Vs.length + 1 : Nat) : Int)], Vs ++ [⟨r, key, val, del, x⟩], ⟨0, r, key, val, del, x, false, true⟩⟩ := by
      simp [One.step, stepC, stepV, stepP, casAt1, casB1, PutS.ver]
    rw [One.run, e1]
    simp only [h, decide_false, if_false, Bool.false_eq_true]
    rw [One.run, e2]
    simp

def ksE : List Lf := [.int .i64, .str, .str, .bool]
def intAt : Value → Int | .int _ n => n | _ => 0
def strAt : Value → ByteArray | .string s => s | _ => ⟨#[]⟩
def boolAt : Value → Bool | .bool b => b | _ => false
/-- A slice's element as an event. -/
def eventOf (l : List Value) : Ver := ⟨intAt (l.getD 0 (.bool false)), strAt (l.getD 1 (.bool false)), strAt (l.getD 2 (.bool false)), boolAt (l.getD 3 (.bool false)), 0⟩
theorem eventCells {w : World} {A : Option Addr} {m cap : Nat} {ds : List (List Value)} (h : StructsV ksE w (.slice A m cap) ds) {k : Nat} (hk : k < ds.length) :
    ∃ x : Addr, A = some x ∧ (-9223372036854775808 ≤ (eventOf (ds.getD k [])).rev ∧ (eventOf (ds.getD k [])).rev ≤ 9223372036854775807) ∧ x.block < w.heap.size ∧ ∀ w', Below w.heap.size w w' →
      (w'.cell? (x.add (k * 4)) = some (.int .i64 (eventOf (ds.getD k [])).rev) ∧ w'.cell? ⟨(x.add (k * 4)).block, (x.add (k * 4)).off + 1, none⟩ = some (.string (eventOf (ds.getD k [])).key) ∧ w'.cell? ⟨(x.add (k * 4)).block, (x.add (k * 4)).off + 2, none⟩ = some (.string (eventOf (ds.getD k [])).val) ∧ w'.cell? ⟨(x.add (k * 4)).block, (x.add (k * 4)).off + 3, none⟩ = some (.bool (eventOf (ds.getD k [])).del)) := by
  obtain ⟨⟨a, cap', hv, hl, hx⟩, hok⟩ := h
  obtain ⟨x, ha, hxb, hc⟩ := hx k hk
  have hA : A = a := by injection hv
  have o := hok k hk
  generalize ds.getD k [] = l at *
  obtain ⟨z0, e0, r0⟩ := o 0 _ rfl
  obtain ⟨z1, e1, r1⟩ := o 1 _ rfl
  obtain ⟨z2, e2, r2⟩ := o 2 _ rfl
  obtain ⟨z3, e3⟩ := o 3 _ rfl
  have blk : ∀ j, ((x.add (k * 4)).add j).block < w.heap.size := fun j => by rw [add_block, add_block]; exact hxb
  have ad : ∀ j, 0 < j → (x.add (k * 4)).add j = ⟨(x.add (k * 4)).block, (x.add (k * 4)).off + j, none⟩ := fun j hj => by
    unfold Addr.add; split
    · omega
    · rfl
  have q0 : (eventOf l).rev = z0 := congrArg intAt e0
  have q1 : (eventOf l).key = z1 := congrArg strAt e1
  have q2 : (eventOf l).val = z2 := congrArg strAt e2
  have q3 : (eventOf l).del = z3 := congrArg boolAt e3
  rw [q0, q1, q2, q3]
  refine ⟨x, hA.trans ha, r0, hxb, fun w' hb => ?_⟩
  have c : ∀ (j : Nat) (kk : Lf), ksE[j]? = some kk → w'.cell? ((x.add (k * 4)).add j) = some (l.getD j (.bool false)) := fun j kk hj => (hb.cell (blk j)).trans (hc j kk hj)
  have c0 := c 0 _ rfl
  rw [show (x.add (k * 4)).add 0 = x.add (k * 4) by unfold Addr.add; simp] at c0
  refine ⟨by rw [c0, e0], ?_, ?_, ?_⟩
  · rw [← ad 1 (by omega), c 1 _ rfl, e1]
  · rw [← ad 2 (by omega), c 2 _ rfl, e2]
  · rw [← ad 3 (by omega), c 3 _ rfl, e3]

/-- What chained leaves. -/
def Chained (W : World) (e : Ending) (w' : World) : Prop :=
  ∃ sb p v vs x Vs n, e = .returned (.tuple #[.pointer (some ⟨sb, 0, none⟩), .pointer (some ⟨p, 0, none⟩), .int .i64 0]) ∧ StoreAt W.heap.size sb p v [x] n vs Vs w' ∧ Good x Vs ∧ Vs.length ≤ 40 ∧ 0 ≤ n ∧ n ≤ 400 ∧ Below W.heap.size W w'

set_option maxHeartbeats 4000000 in
set_option maxRecDepth 100000 in
theorem chained (V : Value) (ds : List (List Value)) (W : World) (hV : StructsV ksE W V ds) :
    Calls Try.prog 34 #[V] W (Chained W) := by
  obtain ⟨A, cap, rfl, hl, -⟩ := hV.shape
  unfold maxLen at hl
  have hV := Lib.hid hV
  go_enter Try.func34, Try.ntmps34
  go_wp2_with fail
  refine (New.new 0 (by omega) W).mono ?_
  rintro e w1 ⟨p, v, rfl, h1, hb1⟩
  have s1 := hb1.size
  have hb1 := Lib.hid hb1
  go_wp2_with fail
  refine (Chain.new h1 s1).mono ?_
  rintro e w2 ⟨sb, rfl, h2, hb2⟩
  have B2 := Lib.hid (hb1.out.trans (hb2.mono s1))
  have s2 := B2.out.size
  clear h1 hb2 hb1
  go_wp2_with fail
  refine (Chain.cell h2 s2 (by simp)).mono ?_
  rintro e w3 ⟨v3, rfl, h3, o3⟩
  have B3 := Lib.hid (B2.out.trans (footB h2.mem o3 s2))
  have h3 : StoreAt W.heap.size sb p v3 [0] 0 (.slice none 0 0) [] w3 := h3
  have h3 := Lib.hid h3
  rw [show ((List.replicate 0 (0:Int)).length : Int) = 0 by simp]
  clear h2 o3
  have g0 : Good 0 [] := ⟨by omega, by simp, fun id ho => by simp [okV] at ho; omega, by simp, by simp⟩
  have g0 := Lib.hid g0
  go_wp2_with fail
  go_loopw [9] (fun i wr => ∃ (k : Nat) (vs : Value) (x : Int) (Vs : List Ver) (n : Int), k ≤ ds.length ∧ k ≤ 40 ∧ i = .int .i64 k ∧ Vs.length ≤ k ∧ 0 ≤ n ∧ n ≤ 10 * k ∧ Hid (Good x Vs) ∧ Hid (StoreAt W.heap.size sb p v3 [x] n vs Vs wr) ∧ Hid (Below W.heap.size W wr))
    (fun i _ => 40 - (intOf i).toNat)
  case atStart => exact ⟨0, _, 0, [], 0, by omega, by omega, rfl, by simp, by omega, by omega, g0, h3, B3⟩
  case round =>
    clear h3 B3 g0
    obtain ⟨k, vs, x, Vs, n, hk, hk40, rfl, hvl, hn0, hnk, hg, h, hb⟩ := hrel
    by_cases hlt : k < ds.length ∧ k < 40
    · obtain ⟨hlt, hlt40⟩ := hlt
      obtain ⟨ad, rfl, hre, hxb, hcell⟩ := eventCells hV.out hlt
      have b1 : decide ((k : Int) < ds.length) = true := by simp; omega
      have b2 : decide ((k : Int) < 40) = true := by simp; omega
      obtain ⟨f0, f1, f2, f3⟩ := hcell wr hb.out
      generalize eventOf (ds.getD k []) = ev at *
      have hre := Lib.hid hre
      clear hcell
      go_wp2_with fail
      refine (Chain.put sb wr 0 ev.rev ev.key ev.val ev.del).mono ?_
      rintro e w4 ⟨pb, rfl, hp4, hpl, hb4⟩
      have B4 := Lib.hid (hb.out.trans (hb4.mono hb.out.size))
      have s4 := B4.out.size
      have O4 : OneAt W.heap.size sb p pb v3 n ⟨[x], Vs, ⟨0, ev.rev, ev.key, ev.val, ev.del, 0, false, false⟩⟩ w4 := ⟨vs, h.out.below hb4, hp4, s4⟩
      have K4 : (One.mk [x] Vs ⟨0, ev.rev, ev.key, ev.val, ev.del, 0, false, false⟩).Ok 40 := ⟨fun y hy => by have h0 := hg.out.x0; have h1 := hg.out.xl; simp at hy; subst hy; omega, by simp, by simp; omega⟩
      have O4 := Lib.hid O4
      have K4 := Lib.hid K4
      have hW := hb.out.size
      clear hb4 hp4
      go_wp2_with fail
      refine (Chain.run O4.out (by omega) K4.out (by omega) (by omega)).mono ?_
      rintro e w5 ⟨rfl, n5, hn5, hn6, O5, hb5, -⟩
      rw [runFresh] at O5
      have B5 := Lib.hid (B4.out.trans hb5)
      have O5 := Lib.hid O5
      have next : ∃ vs x' Vs', Vs'.length ≤ k + 1 ∧ Good x' Vs' ∧ StoreAt W.heap.size sb p v3 [x'] n5 vs Vs' w5 := by
        have O := O5.out
        split at O
        · obtain ⟨vs', hs, _, _⟩ := O
          exact ⟨vs', x, Vs, by omega, hg.out, hs⟩
        · obtain ⟨vs', hs, _, _⟩ := O
          exact ⟨vs', ((Vs.length + 1 : Nat) : Int), Vs ++ [⟨ev.rev, ev.key, ev.val, ev.del, x⟩], by simp; omega, hg.out.new (y := ⟨ev.rev, ev.key, ev.val, ev.del, x⟩) ⟨hg.out.x0, hg.out.xl⟩ hre.out (by omega) (by omega), hs⟩
      obtain ⟨vs', x', Vs', hl', hg', hs'⟩ := next
      have hg' := Lib.hid hg'
      have hs' := Lib.hid hs'
      clear hb5 O5 O4 K4 f0 f1 f2 f3 h hb
      go_wp2
      go_roundw
      case rel => exact ⟨k + 1, vs', x', Vs', n5, by omega, by omega, by go_num, by omega, by omega, by omega, hg', hs', B5⟩
      case measure => simp [intOf]; omega
    · have fin : Chained W (.returned (.tuple #[.pointer (some ⟨sb, 0, none⟩), .pointer (some ⟨p, 0, none⟩), .int .i64 0])) wr := ⟨sb, p, v3, vs, x, Vs, n, rfl, h.out, hg.out, by omega, by omega, by omega, hb.out⟩
      have fin := Lib.hid fin
      clear h hb hg
      by_cases hlt2 : k < ds.length
      · have b1 : decide ((k : Int) < ds.length) = true := by simp; omega
        have b2 : decide ((k : Int) < 40) = false := by simp; omega
        go_wp2
        go_ret3
        exact fin.out
      · have b1 : decide ((k : Int) < ds.length) = false := by simp; omega
        go_wp2
        go_ret3
        exact fin.out
end Go.Proofs.Ytllibgjajlgnbab.Chain

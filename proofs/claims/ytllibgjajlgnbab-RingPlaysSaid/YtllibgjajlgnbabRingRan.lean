/- A deed of any kind; a log behind deeds. -/
import Derived.Test.YtllibgjajlgnbabRingDo1
import Derived.Test.YtllibgjajlgnbabArgsV
import Derived.LoopTactic
namespace Go.Proofs.Ytllibgjajlgnbab.RingRan
open Go Go.RowKit Go.Proofs.Ytllibgjajlgnbab.Only Go.Proofs.Ytllibgjajlgnbab.Mem Go.Proofs.Ytllibgjajlgnbab.New Go.Proofs.Ytllibgjajlgnbab.Ref Go.Proofs.Ytllibgjajlgnbab.Ring Go.Proofs.Ytllibgjajlgnbab.RingRef Go.Proofs.Ytllibgjajlgnbab.RingDo Go.Proofs.Ytllibgjajlgnbab.Args
set_option linter.unusedVariables false
set_option linter.unusedSimpArgs false

/-- A deed. -/
structure Deed where
  k : Int
  N : Int
  wh : Int
  a0 : Int
  a1 : Int
  a2 : Int
  d0 : Int
  d1 : Int
  d2 : Int
  raw : Int
  odd : Bool
def i64 (x : Int) : Prop := -9223372036854775808 ≤ x ∧ x ≤ 9223372036854775807
structure Deed.Ok (d : Deed) : Prop where
  k : i64 d.k
  N : i64 d.N
  wh : i64 d.wh
  a0 : i64 d.a0
  a1 : i64 d.a1
  a2 : i64 d.a2
  d0 : i64 d.d0
  d1 : i64 d.d1
  d2 : i64 d.d2
  raw : 0 ≤ d.raw ∧ d.raw ≤ 18446744073709551615
def Deed.what (d : Deed) : Int := max d.wh 0 % 1073741824
def Deed.C (d : Deed) (X D : List Int) : List Int := doC X D d.k d.N d.what d.a0 d.a1 d.a2 d.d0 d.d1 d.d2 d.raw d.odd
def Deed.n (d : Deed) : Int := doA d.k d.N

/-- A deed of any kind, of both. -/
theorem deed {B b p : Nat} {v : Value} {C : List Int} {n : Int} {w : World} (h : LogAt B b p v C n w) (hC : ∀ x ∈ C, 0 ≤ x ∧ x ≤ 18446744073709551615) (hn : 0 ≤ n ∧ n < 4611686018427387904) (s : Value) (D : List Int) (hr : RefAt B s D w) (hl : D.length = 35) (hD : ∀ x ∈ D, 0 ≤ x ∧ x ≤ 18446744073709551615) (hap : ∀ j, s.ownBlock = some j → ¬ Foot p v j) (hB : B ≤ w.heap.size) (cnt : Int) (hc : 0 ≤ cnt ∧ cnt < 4611686018427387904) (k N wh a0 a1 a2 d0 d1 d2 raw : Int) (odd : Bool) (hd : (Deed.mk k N wh a0 a1 a2 d0 d1 d2 raw odd).Ok) :
    Calls Try.prog 19 #[.pointer (some ⟨b, 0, none⟩), .agg #[s, .int .i64 cnt, .int .i64 2], .agg #[.int .i64 k, .int .i64 N, .int .i64 wh, .int .i64 a0, .int .i64 a1, .int .i64 a2, .int .i64 d0, .int .i64 d1, .int .i64 d2, .int .u64 raw, .bool odd]] w (Did B b p v C D n cnt k N (max wh 0 % 1073741824) a0 a1 a2 d0 d1 d2 raw odd w) := by
  have hw : (wh < 0 ∧ max wh 0 % 1073741824 = 0) ∨ (0 ≤ wh ∧ max wh 0 % 1073741824 = wh % 1073741824) := by omega
  by_cases h1 : k = 1
  · subst h1; exact RingDo.do1 h hC hn s D hr hl hD hap hB cnt hc N wh a0 a1 a2 d0 d1 d2 raw odd _ hw hd.N hd.wh hd.a0 hd.a1 hd.a2 hd.d0 hd.d1 hd.d2
  by_cases h2 : k = 2
  · subst h2; exact RingDo.do2 h hC hn s D hr hl hD hap hB cnt hc N wh a0 a1 a2 d0 d1 d2 raw odd _ hw hd.N hd.wh hd.a0 hd.a1 hd.a2 hd.d0 hd.d1 hd.d2
  by_cases h3 : k = 3
  · subst h3; exact RingDo.do3 h hC hn s D hr hl hD hap hB cnt hc N wh a0 a1 a2 d0 d1 d2 raw odd _ hw hd.N hd.wh hd.a0 hd.a1 hd.a2 hd.d0 hd.d1 hd.d2
  by_cases h4 : k = 4
  · subst h4; exact RingDo.do4 h hC hn s D hr hl hD hap hB cnt hc N wh a0 a1 a2 d0 d1 d2 raw odd _ hw hd.N hd.wh hd.a0 hd.a1 hd.a2 hd.d0 hd.d1 hd.d2
  by_cases h5 : k = 5
  · subst h5; exact RingDo.do5 h hC hn s D hr hl hD hap hB cnt hc N wh a0 a1 a2 d0 d1 d2 raw odd _ hw hd.N hd.wh hd.a0 hd.a1 hd.a2 hd.d0 hd.d1 hd.d2
  exact RingDo.do6 h hC hn s D hr hl hD hap hB cnt hc k N wh a0 a1 a2 d0 d1 d2 raw odd (by omega) _ hw hd.N hd.wh hd.a0 hd.a1 hd.a2 hd.d0 hd.d1 hd.d2

theorem asks_range (N : Int) : 0 ≤ asks N ∧ asks N ≤ 1 := by unfold asks; split <;> omega
theorem doA_range (k N : Int) : 0 ≤ doA k N ∧ doA k N ≤ 1 := by
  have := asks_range N
  unfold doA; split <;> omega
theorem casAt_range {C : List Int} (hC : ∀ x ∈ C, 0 ≤ x ∧ x ≤ 18446744073709551615) (a o x : Int) (hx : 0 ≤ x ∧ x ≤ 18446744073709551615) : ∀ y ∈ casAt C a o x, 0 ≤ y ∧ y ≤ 18446744073709551615 := by
  unfold casAt; split
  · exact setAt_range hC a x hx
  · exact hC
theorem setC_range {C : List Int} (hC : ∀ x ∈ C, 0 ≤ x ∧ x ≤ 18446744073709551615) (row k was what : Int) (hw : 0 ≤ what ∧ what ≤ 1073741824) : ∀ y ∈ setC C row k was what, 0 ≤ y ∧ y ≤ 18446744073709551615 := by
  unfold setC; split
  · rename_i ho
    have ho : 1 ≤ k ∧ k ≤ 2147483647 := by simpa [okN] using ho
    exact casAt_range hC _ _ _ (by unfold wordOf; omega)
  · exact hC
theorem head_range (a b c : Int) : 0 ≤ Bits.head a b c ∧ Bits.head a b c ≤ 18446744073709551615 := by unfold Bits.head; omega
theorem doC_range {X D : List Int} (hX : ∀ x ∈ X, 0 ≤ x ∧ x ≤ 18446744073709551615) (k N what a0 a1 a2 d0 d1 d2 raw : Int) (odd : Bool) (hw : 0 ≤ what ∧ what ≤ 1073741824) : ∀ y ∈ doC X D k N what a0 a1 a2 d0 d1 d2 raw odd, 0 ≤ y ∧ y ≤ 18446744073709551615 := by
  unfold doC
  split; exact hX
  split; exact casAt_range hX _ _ _ (head_range _ _ _)
  split; exact hX
  split; exact setC_range hX _ _ _ _ hw
  split; exact hX
  exact setC_range hX _ _ _ _ hw
theorem doC_length (X D : List Int) (k N what a0 a1 a2 d0 d1 d2 raw : Int) (odd : Bool) : (doC X D k N what a0 a1 a2 d0 d1 d2 raw odd).length = X.length := by
  unfold doC
  split; rfl
  split; exact casAt_length _ _ _ _
  split; rfl
  split; exact setC_length _ _ _ _ _
  split; rfl
  exact setC_length _ _ _ _ _

/-- What holds at each round: the log, the reference's, which lies in block q. -/
structure Round (W : World) (b p q M : Nat) (k : Nat) (v s : Value) (C D : List Int) (n cnt : Int) (wr : World) : Prop where
  log : LogAt W.heap.size b p v C n wr
  hC : ∀ x ∈ C, 0 ≤ x ∧ x ≤ 18446744073709551615
  ref : RefAt W.heap.size s D wr
  dl : D.length = 35
  hD : ∀ x ∈ D, 0 ≤ x ∧ x ≤ 18446744073709551615
  ap : ∀ j, s.ownBlock = some j → ¬ Foot p v j
  x : wr.heap[q]? = some (.cells #[s, .int .i64 cnt, .int .i64 2] 37 (0, 0))
  qB : W.heap.size ≤ q
  n0 : 0 ≤ n
  nk : n ≤ M + k
  c0 : 0 ≤ cnt
  ck : cnt ≤ M + k
  bel : Below W.heap.size W wr

theorem RefAt.drew {B : Nat} {s : Value} {D : List Int} {w : World} (h : RefAt B s D w) : RefAt B s D w.drew := ⟨h.own, h.most, h.pos⟩
theorem Round.drew {W : World} {b p q M k : Nat} {v s : Value} {cnt : Int} {C D : List Int} {n : Int} {wr : World} (h : Round W b p q M k v s C D n cnt wr) : Round W b p q M k v s C D n cnt wr.drew :=
  ⟨RingHead.LogAt.drew h.log, h.hC, RefAt.drew h.ref, h.dl, h.hD, h.ap, h.x, h.qB, h.n0, h.nk, h.c0, h.ck, h.bel.drew⟩
theorem Round.next {W : World} {b p q M k : Nat} {v s : Value} {cnt : Int} {C D : List Int} {n : Int} {wr w' : World} (h : Round W b p q M k v s C D n cnt wr) (hb : Below wr.heap.size wr w') : Round W b p q M k v s C D n cnt w' :=
  ⟨RingHead.LogAt.below h.log hb, h.hC, h.ref.below hb, h.dl, h.hD, h.ap, (hb.block _ (lt_of_heap h.x)).trans h.x, h.qB, h.n0, h.nk, h.c0, h.ck, h.bel.trans (hb.mono h.bel.size)⟩

/-- A block of the reference's logs is none of the others. -/
theorem apartL {B b p j : Nat} {v s : Value} {C D : List Int} {n : Int} {w : World} {cs : Array Value} (m : LogAt B b p v C n w) (r : RefAt B s D w) (hj : w.heap.size ≤ j ∨ w.heap[j]? = some (.cells cs 37 (0, 0))) : ¬ Foot p v j ∧ s.ownBlock ≠ some j ∧ j ≠ b := by
  rcases hj with hj | hj
  · exact ⟨RingPub.foot_lt' m.mem j hj, fun e => by have := RingDo.ref_lt r j e; omega, fun e => by have := lt_of_heap m.blk; omega⟩
  · refine ⟨fun hf => ?_, fun e => ?_, fun e => ?_⟩
    · rcases hf with e | e
      · rw [e, m.mem.blk] at hj; cases hj
      · rcases m.mem.own.2 with ⟨h2, _⟩ | ⟨g, cap, cur, hg, hb, hgg, _⟩
        · rw [h2] at e; cases e
        · rw [hg] at e; cases e; rw [hgg] at hj; cases hj
    · rcases r.own.2 with ⟨h2, _⟩ | ⟨g, cap, cur, hg, hb, hgg, _⟩
      · rw [h2] at e; cases e
      · rw [hg] at e; cases e; rw [hgg] at hj; cases hj
    · rw [e, m.blk] at hj; cases hj

theorem Round.step {W w5 w7 : World} {b p q M k t : Nat} {v s s' : Value} {cnt cnt' n n' : Int} {C D C' D' : List Int} {wr : World} {ct cx : Array Value} (R : Round W b p q M k v s C D n cnt wr) (m : LogAt W.heap.size b p v C' n' w5) (r : RefAt W.heap.size s' D' w5) (ap : ∀ j, s'.ownBlock = some j → ¬ Foot p v j) (hC : ∀ x ∈ C', 0 ≤ x ∧ x ≤ 18446744073709551615) (dl : D'.length = 35) (hD : ∀ x ∈ D', 0 ≤ x ∧ x ≤ 18446744073709551615)
    (x5 : w5.heap[q]? = some (.cells cx 37 (0, 0))) (B5 : Below W.heap.size W w5) (n0 : 0 ≤ n') (nk : n' ≤ M + (k + 1 : Nat)) (c0 : 0 ≤ cnt') (ck : cnt' ≤ M + (k + 1 : Nat)) (ht : w5.heap.size ≤ t ∨ w5.heap[t]? = some (.cells ct 37 (0, 0))) (tB : W.heap.size ≤ t)
    (o7 : Only (fun j => j = q ∨ j = t) w5 w7) (x7 : w7.heap[q]? = some (.cells #[s', .int .i64 cnt', .int .i64 2] 37 (0, 0))) : Round W b p q M (k + 1) v s' C' D' n' cnt' w7 := by
  obtain ⟨a1, a2, a3⟩ := apartL m r (.inr x5)
  obtain ⟨b1, b2, b3⟩ := apartL m r ht
  have hp : ∀ j, Foot p v j → ¬ (j = q ∨ j = t) := fun j hj e => by rcases e with e | e <;> subst e; exact a1 hj; exact b1 hj
  have qB := R.qB
  refine ⟨RingDo.LogAt.keep m o7 hp (fun e => by rcases e with e | e <;> subst e; exact a3 rfl; exact b3 rfl), hC, r.keep o7 (fun j hj e => by rcases e with e | e <;> subst e; exact a2 hj; exact b2 hj), dl, hD, ap, x7, qB, n0, nk, c0, ck, B5.trans (o7.toBelow _ B5.size (fun j _ e => by rcases e with e | e <;> omega))⟩
theorem footL {B b p : Nat} {v : Value} {C : List Int} {n : Int} {w w' : World} (h : LogAt B b p v C n w) (ho : Only (Foot p v) w w') (hB : B ≤ w.heap.size) : Below B w w' := footB h.mem ho hB

def ks11 : List Lf := [.int .i64, .int .i64, .int .i64, .int .i64, .int .i64, .int .i64, .int .i64, .int .i64, .int .i64, .int .u64, .bool]
/-- A slice's element as a deed. -/
def intAt : Value → Int | .int _ n => n | _ => 0
def boolAt : Value → Bool | .bool b => b | _ => false
def deedOf (l : List Value) : Deed := ⟨intAt (l.getD 0 (.bool false)), intAt (l.getD 1 (.bool false)), intAt (l.getD 2 (.bool false)), intAt (l.getD 3 (.bool false)), intAt (l.getD 4 (.bool false)), intAt (l.getD 5 (.bool false)), intAt (l.getD 6 (.bool false)), intAt (l.getD 7 (.bool false)), intAt (l.getD 8 (.bool false)), intAt (l.getD 9 (.bool false)), boolAt (l.getD 10 (.bool false))⟩
theorem int_of {k : IntKind} {v : Value} (h : LeafOk (.int k) v) : v = .int k (intAt v) ∧ k.has (intAt v) := by
  obtain ⟨z, rfl, hz⟩ := h; exact ⟨rfl, hz⟩
theorem bool_of {v : Value} (h : LeafOk .bool v) : v = .bool (boolAt v) := by
  obtain ⟨z, rfl⟩ := h; rfl
/-- The cells of element k. -/
theorem deedCells {w : World} {A : Option Addr} {m cap : Nat} {ds : List (List Value)} (h : StructsV ks11 w (.slice A m cap) ds) {k : Nat} (hk : k < ds.length) :
    ∃ x : Addr, A = some x ∧ (deedOf (ds.getD k [])).Ok ∧ ∀ w', Below w.heap.size w w' →
      (w'.cell? (x.add (k * 11)) = some (.int .i64 (deedOf (ds.getD k [])).k) ∧ w'.cell? ⟨(x.add (k * 11)).block, (x.add (k * 11)).off + 1, none⟩ = some (.int .i64 (deedOf (ds.getD k [])).N) ∧ w'.cell? ⟨(x.add (k * 11)).block, (x.add (k * 11)).off + 2, none⟩ = some (.int .i64 (deedOf (ds.getD k [])).wh) ∧ w'.cell? ⟨(x.add (k * 11)).block, (x.add (k * 11)).off + 3, none⟩ = some (.int .i64 (deedOf (ds.getD k [])).a0) ∧ w'.cell? ⟨(x.add (k * 11)).block, (x.add (k * 11)).off + 4, none⟩ = some (.int .i64 (deedOf (ds.getD k [])).a1) ∧ w'.cell? ⟨(x.add (k * 11)).block, (x.add (k * 11)).off + 5, none⟩ = some (.int .i64 (deedOf (ds.getD k [])).a2) ∧ w'.cell? ⟨(x.add (k * 11)).block, (x.add (k * 11)).off + 6, none⟩ = some (.int .i64 (deedOf (ds.getD k [])).d0) ∧ w'.cell? ⟨(x.add (k * 11)).block, (x.add (k * 11)).off + 7, none⟩ = some (.int .i64 (deedOf (ds.getD k [])).d1) ∧ w'.cell? ⟨(x.add (k * 11)).block, (x.add (k * 11)).off + 8, none⟩ = some (.int .i64 (deedOf (ds.getD k [])).d2) ∧ w'.cell? ⟨(x.add (k * 11)).block, (x.add (k * 11)).off + 9, none⟩ = some (.int .u64 (deedOf (ds.getD k [])).raw) ∧ w'.cell? ⟨(x.add (k * 11)).block, (x.add (k * 11)).off + 10, none⟩ = some (.bool (deedOf (ds.getD k [])).odd)) ∧ x.block < w.heap.size := by
  obtain ⟨⟨a, cap', hv, hl, hx⟩, hok⟩ := h
  obtain ⟨x, ha, hxb, hc⟩ := hx k hk
  have hA : A = a := by injection hv
  have o := hok k hk
  generalize ds.getD k [] = l at *
  obtain ⟨e0, r0⟩ := int_of (o 0 _ rfl)
  obtain ⟨e1, r1⟩ := int_of (o 1 _ rfl)
  obtain ⟨e2, r2⟩ := int_of (o 2 _ rfl)
  obtain ⟨e3, r3⟩ := int_of (o 3 _ rfl)
  obtain ⟨e4, r4⟩ := int_of (o 4 _ rfl)
  obtain ⟨e5, r5⟩ := int_of (o 5 _ rfl)
  obtain ⟨e6, r6⟩ := int_of (o 6 _ rfl)
  obtain ⟨e7, r7⟩ := int_of (o 7 _ rfl)
  obtain ⟨e8, r8⟩ := int_of (o 8 _ rfl)
  obtain ⟨e9, r9⟩ := int_of (o 9 _ rfl)
  have e10 := bool_of (o 10 _ rfl)
  refine ⟨x, hA.trans ha, ⟨r0, r1, r2, r3, r4, r5, r6, r7, r8, r9⟩, fun w' hb => ⟨?_, hxb⟩⟩
  have blk : ∀ j, ((x.add (k * 11)).add j).block < w.heap.size := fun j => by rw [add_block, add_block]; exact hxb
  have c : ∀ (j : Nat) (kk : Lf), ks11[j]? = some kk → w'.cell? ((x.add (k * 11)).add j) = some (l.getD j (.bool false)) := fun j kk hj => (hb.cell (blk j)).trans (hc j kk hj)
  have ad : ∀ j, 0 < j → (x.add (k * 11)).add j = ⟨(x.add (k * 11)).block, (x.add (k * 11)).off + j, none⟩ := fun j hj => by
    unfold Addr.add; split
    · omega
    · rfl
  have c0 := c 0 _ rfl
  rw [show (x.add (k * 11)).add 0 = x.add (k * 11) by unfold Addr.add; simp] at c0
  refine ⟨by rw [c0]; exact congrArg some e0, ?_, ?_, ?_, ?_, ?_, ?_, ?_, ?_, ?_, ?_⟩
  · rw [← ad 1 (by omega), c 1 _ rfl]; exact congrArg some e1
  · rw [← ad 2 (by omega), c 2 _ rfl]; exact congrArg some e2
  · rw [← ad 3 (by omega), c 3 _ rfl]; exact congrArg some e3
  · rw [← ad 4 (by omega), c 4 _ rfl]; exact congrArg some e4
  · rw [← ad 5 (by omega), c 5 _ rfl]; exact congrArg some e5
  · rw [← ad 6 (by omega), c 6 _ rfl]; exact congrArg some e6
  · rw [← ad 7 (by omega), c 7 _ rfl]; exact congrArg some e7
  · rw [← ad 8 (by omega), c 8 _ rfl]; exact congrArg some e8
  · rw [← ad 9 (by omega), c 9 _ rfl]; exact congrArg some e9
  · rw [← ad 10 (by omega), c 10 _ rfl]; exact congrArg some e10
end Go.Proofs.Ytllibgjajlgnbab.RingRan

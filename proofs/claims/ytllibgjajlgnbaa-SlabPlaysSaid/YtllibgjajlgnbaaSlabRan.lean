/- A deed of any kind, of both slabs; what holds behind deeds. -/
import Derived.Test.YtllibgjajlgnbaaSlabDo6
import Derived.Test.YtllibgjajlgnbaaSlabLaw
import Derived.Test.YtllibgjajlgnbaaArgs
import Derived.LoopTactic
import Derived.Deep.RegionHeld3
namespace Go.Proofs.Ytllibgjajlgnbaa.SlabRan
open Go Go.RowKit Go.Proofs.Ytllibgjajlgnbaa.Only Go.Proofs.Ytllibgjajlgnbaa.Mem Go.Proofs.Ytllibgjajlgnbaa.New Go.Proofs.Ytllibgjajlgnbaa.Ref Go.Proofs.Ytllibgjajlgnbaa.Slab Go.Proofs.Ytllibgjajlgnbaa.SlabRef Go.Proofs.Ytllibgjajlgnbaa.SlabDo Go.Proofs.Ytllibgjajlgnbaa.SlabLaw Go.Proofs.Ytllibgjajlgnbaa.Args
set_option linter.unusedVariables false
set_option linter.unusedSimpArgs false

theorem cell_in {f wd : Int} {most j : Nat} {st : St} (I : Inv f wd most j st) (b : Bd f wd most) {r i : Int} (h : cellE st.s r i = 0) : inR st.C (cellN st.s r i) = true ∧ 0 ≤ cellN st.s r i ∧ cellN st.s r i ≤ 65536 := by
  unfold cellE at h
  split at h
  case isFalse => omega
  rename_i ht
  split at h
  · omega
  rename_i hi
  obtain ⟨p, hp, ep, -, -⟩ := there_at I ht
  have e : cellN st.s r i = f + p * wd + i := by
    unfold cellN
    rw [if_pos ht, if_neg hi, I.first, I.words, ep]
  have hi2 : 0 ≤ i ∧ i < wd := by rw [I.words] at hi; omega
  have h3 : ((p : Int) + 1) * wd ≤ most * wd := Int.mul_le_mul_of_nonneg_right (by omega) (by omega)
  have h4 : (0 : Int) * wd ≤ p * wd := Int.mul_le_mul_of_nonneg_right (by omega) (by omega)
  have h5 : ((p : Int) + 1) * wd = p * wd + wd := by rw [Int.add_mul, Int.one_mul]
  have h6 := b.fit
  have h7 := b.f0
  have h8 := I.cl
  rw [e]
  unfold inR
  simp only [decide_eq_true_eq]
  omega

/-- A deed of any kind, of both. -/
theorem deed {B sb p : Nat} {v : Value} {n : Int} {vg vt vr xC xG xT xR vL : Value} {st : St} {w : World} {f wd : Int} {most j : Nat} (h : BothAt B sb p v n vg vt vr xC xG xT xR vL st.C st.s st.L w) (I : Inv f wd most j st) (b : Bd f wd most) (hm : 1 ≤ most) (hj : j ≤ 1000) (hn : 0 ≤ n ∧ n < 1000000000) (cnt : Int) (hc : 0 ≤ cnt ∧ cnt < 1000000000) (d : Dd) (hd : d.In) :
    Calls Try.prog 36 #[.agg (bv sb p xC cnt st.s xG xT xR vL), .agg (dv d.k d.i d.N d.V d.raw)] w (Did B sb p v vg vt vr n cnt (doS st d).C (doS st d).s (doS st d).L w) := by
  have ok := I.ok b hm (by omega)
  have hL : st.L.length ≤ 1000 := Nat.le_trans I.ll hj
  have ht := I.told b (by omega) d.N
  obtain ⟨k, i, N, V, raw⟩ := d
  unfold doS
  dsimp only at hd ht ⊢
  by_cases h1 : k = 1
  · subst h1
    rw [if_pos rfl]
    unfold allocS'
    split
    · rename_i hr
      exact do1_no h hL cnt hr i N hd.N V raw
    · rename_i px t hr
      exact do1_ok h hL ok hn cnt hc px t hr i N hd.N V raw
  rw [if_neg h1]
  by_cases h2 : k = 2
  · subst h2
    rw [if_pos rfl]
    unfold freeS'
    split
    · rename_i hr
      exact do2_ok h hL ok cnt i hd.i N hd.N V raw _ ht rfl hr
    · rename_i hr
      exact do2_no h hL ok cnt i hd.i N hd.N V raw _ ht rfl (by simpa using hr)
  rw [if_neg h2]
  by_cases h5 : k = 5
  · subst h5
    rw [if_pos rfl]
    unfold freeS'
    split
    · rename_i hr
      exact do5_ok h hL ok cnt i hd.i N hd.N V raw _ hd.raw rfl hr
    · rename_i hr
      exact do5_no h hL ok cnt i hd.i N hd.N V raw _ hd.raw rfl (by simpa using hr)
  rw [if_neg h5]
  by_cases h4 : k = 4
  · subst h4
    rw [if_pos rfl]
    split
    · rename_i he
      obtain ⟨q1, q2⟩ := cell_in I b he
      exact do4_ok h hL ok cnt hn hc i hd.i N hd.N V raw _ ht rfl he q1 q2
    · rename_i he
      exact do4_no h hL ok cnt i hd.i N hd.N V raw _ ht rfl he
  rw [if_neg h4]
  by_cases h3 : k = 3
  · subst h3
    exact do3 h hL ok cnt i hd.i N hd.N V raw _ ht rfl
  by_cases h6 : 5 < k
  · exact do6 h hL ok cnt h6 i hd.i N hd.N V raw _ hd.raw rfl
  · exact do0 h hL ok cnt (by omega) i hd.i N hd.N V raw _ hd.raw rfl

/-- What holds at each round: both slabs, of which the law's own copy lies in block q. -/
structure Round (W : World) (q sb p : Nat) (v vg vt vr xC xG xT xR vL : Value) (n cnt : Int) (f wd : Int) (most : Nat) (j : Nat) (st : St) (wr : World) : Prop where
  both : BothAt W.heap.size sb p v n vg vt vr xC xG xT xR vL st.C st.s st.L wr
  inv : Inv f wd most j st
  x : X10 q (bv sb p xC cnt st.s xG xT xR vL) wr
  qB : W.heap.size ≤ q
  n0 : 0 ≤ n
  nk : n ≤ 65537 * j
  c0 : 0 ≤ cnt
  ck : cnt ≤ 65537 * j
  bel : Below W.heap.size W wr
section
variable {W : World} {q sb p : Nat} {v vg vt vr xC xG xT xR vL : Value} {n cnt f wd : Int} {most j : Nat} {st : St} {wr : World}
theorem BothAt.keep {B : Nat} {C : List Int} {s : Sl} {L : List Int} {S : Nat → Prop} {w w' : World} (h : BothAt B sb p v n vg vt vr xC xG xT xR vL C s L w) (ho : Only S w w') (h1 : ∀ k, SlF sb p v vg vt vr k → ¬ S k) (h2 : ∀ k, OwnX xC xG xT xR k → ¬ S k) (h3 : ∀ k, vL.ownBlock = some k → ¬ S k) : BothAt B sb p v n vg vt vr xC xG xT xR vL C s L w' :=
  ⟨h.sl.keep ho h1, h.x.keep ho h2, own_keep h.l ho h3, h.far⟩
theorem BothAt.below {B : Nat} {C : List Int} {s : Sl} {L : List Int} {w w' : World} (h : BothAt B sb p v n vg vt vr xC xG xT xR vL C s L w) (hb : Below w.heap.size w w') : BothAt B sb p v n vg vt vr xC xG xT xR vL C s L w' :=
  BothAt.keep h (S := fun _ => False) (ofBelow hb) (fun _ _ x => x) (fun _ _ x => x) (fun _ _ x => x)
theorem BothAt.keepX {B k1 k2 : Nat} {C : List Int} {s : Sl} {L : List Int} {c1 c2 : Array Value} {w w' : World} (h : BothAt B sb p v n vg vt vr xC xG xT xR vL C s L w) (x1 : X10 k1 c1 w) (x2 : X10 k2 c2 w) (ho : Only (fun k => k = k1 ∨ k = k2) w w') : BothAt B sb p v n vg vt vr xC xG xT xR vL C s L w' :=
  BothAt.keep h ho (fun k hk e => by rcases e with e | e <;> subst e; exact slab_ty h.sl x1 hk; exact slab_ty h.sl x2 hk)
    (fun k hk e => by rcases e with e | e <;> subst e; exact ref_ty h.x x1 hk; exact ref_ty h.x x2 hk)
    (fun k hk e => by rcases e with e | e <;> subst e; exact own_ty h.l x1 (by decide) hk; exact own_ty h.l x2 (by decide) hk)
theorem Round.drew (h : Round W q sb p v vg vt vr xC xG xT xR vL n cnt f wd most j st wr) : Round W q sb p v vg vt vr xC xG xT xR vL n cnt f wd most j st wr.drew :=
  ⟨BothAt.below h.both (below_drew (Below.refl _ _)), h.inv, h.x, h.qB, h.n0, h.nk, h.c0, h.ck, below_drew h.bel⟩
theorem Round.next {w' : World} (h : Round W q sb p v vg vt vr xC xG xT xR vL n cnt f wd most j st wr) (hb : Below wr.heap.size wr w') : Round W q sb p v vg vt vr xC xG xT xR vL n cnt f wd most j st w' :=
  ⟨BothAt.below h.both hb, h.inv, (hb.block _ (lt_of_heap h.x)).trans h.x, h.qB, h.n0, h.nk, h.c0, h.ck, h.bel.trans (hb.mono h.bel.size)⟩
/-- Behind a deed, whose answer was laid into q by way of t. -/
theorem Round.step {w5 w7 : World} {t : Nat} {vr' yC yG yT yR yL : Value} {n' cnt' : Int} {st' : St} {ct cx : Array Value} (R : Round W q sb p v vg vt vr xC xG xT xR vL n cnt f wd most j st wr)
    (I : Inv f wd most (j + 1) st') (b5 : BothAt W.heap.size sb p v n' vg vt vr' yC yG yT yR yL st'.C st'.s st'.L w5) (n1 : n ≤ n') (n2 : n' ≤ n + 65537) (c1 : cnt ≤ cnt') (c2 : cnt' ≤ cnt + 65537) (B5 : Below W.heap.size W w5)
    (x5 : X10 q cx w5) (t5 : X10 t ct w5 ∨ w5.heap.size ≤ t) (tB : W.heap.size ≤ t) (o7 : Only (fun k => k = q ∨ k = t) w5 w7) (x7 : X10 q (bv sb p yC cnt' st'.s yG yT yR yL) w7) :
    Round W q sb p v vg vt vr' yC yG yT yR yL n' cnt' f wd most (j + 1) st' w7 := by
  have := R.n0
  have := R.nk
  have := R.c0
  have := R.ck
  have qB := R.qB
  refine ⟨?_, I, x7, R.qB, by omega, by omega, by omega, by omega, B5.trans (o7.toBelow _ B5.size (fun k _ e => by rcases e with e | e <;> omega))⟩
  rcases t5 with t5 | t5
  · exact BothAt.keepX b5 x5 t5 o7
  · exact BothAt.keepX b5 x5 x5 (o7.mono (fun k hk e => by rcases e with e | e; exact .inl e; omega))
theorem foot_base (h : BothAt W.heap.size sb p v n vg vt vr xC xG xT xR vL st.C st.s st.L wr) {w' : World} (ho : Only (SlF sb p v vg vt vr) wr w') (hW : W.heap.size ≤ wr.heap.size) : Below W.heap.size wr w' := ho.toBelow _ hW (fun k _ e => (h.sl.low k e).1)
end

theorem structs_below {ks : List IntKind} {w w' : World} {v : Value} {zs : List (List Int)} (h : Structs ks w v zs) (hb : Below w.heap.size w w') : Structs ks w' v zs := by
  obtain ⟨⟨a, cap, hv, hl, hx⟩, hr⟩ := h
  refine ⟨⟨a, cap, hv, hl, fun i hi => ?_⟩, hr⟩
  obtain ⟨x, ha, hxb, hc⟩ := hx i hi
  exact ⟨x, ha, Nat.lt_of_lt_of_le hxb hb.size, fun j k hk => (hb.cell (by rw [Args.add_block, Args.add_block]; exact hxb)).trans (hc j k hk)⟩
def ks5 : List IntKind := [.i64, .i64, .u8, .u64, .u64]
/-- A slice's element as a deed. -/
def deedOf (l : List Int) : Dd := ⟨l.getD 0 0, l.getD 1 0, (l.getD 2 0).toNat, l.getD 3 0, l.getD 4 0⟩
/-- The cells of element k. -/
theorem deedCells {w : World} {A : Option Addr} {m cap : Nat} {ds : List (List Int)} (h : Structs ks5 w (.slice A m cap) ds) {k : Nat} (hk : k < ds.length) :
    ∃ x : Addr, A = some x ∧ (deedOf (ds.getD k [])).In ∧ ∀ w', Below w.heap.size w w' →
      (w'.cell? (x.add (k * 5)) = some (.int .i64 (deedOf (ds.getD k [])).k) ∧ w'.cell? ⟨(x.add (k * 5)).block, (x.add (k * 5)).off + 1, none⟩ = some (.int .i64 (deedOf (ds.getD k [])).i) ∧ w'.cell? ⟨(x.add (k * 5)).block, (x.add (k * 5)).off + 2, none⟩ = some (.int .u8 (deedOf (ds.getD k [])).N) ∧ w'.cell? ⟨(x.add (k * 5)).block, (x.add (k * 5)).off + 3, none⟩ = some (.int .u64 (deedOf (ds.getD k [])).V) ∧ w'.cell? ⟨(x.add (k * 5)).block, (x.add (k * 5)).off + 4, none⟩ = some (.int .u64 (deedOf (ds.getD k [])).raw)) ∧ x.block < w.heap.size := by
  obtain ⟨⟨a, cap', hv, hl, hx⟩, hok⟩ := h
  obtain ⟨x, ha, hxb, hc⟩ := hx k hk
  have hA : A = a := by injection hv
  have o := hok k hk
  have r0 := o 0 _ rfl
  have r1 := o 1 _ rfl
  have r2 := o 2 _ rfl
  have r3 := o 3 _ rfl
  have r4 := o 4 _ rfl
  generalize ds.getD k [] = l at *
  have r2' : 0 ≤ l.getD 2 0 ∧ l.getD 2 0 ≤ 255 := r2
  refine ⟨x, hA.trans ha, ⟨r1, by show (l.getD 2 0).toNat ≤ 255; omega, r4⟩, fun w' hb => ⟨?_, hxb⟩⟩
  have blk : ∀ j, ((x.add (k * 5)).add j).block < w.heap.size := fun j => by rw [add_block, add_block]; exact hxb
  have c : ∀ (j : Nat) (kk : IntKind), ks5[j]? = some kk → w'.cell? ((x.add (k * 5)).add j) = some (.int kk (l.getD j 0)) := fun j kk hj => (hb.cell (blk j)).trans (hc j kk hj)
  have ad : ∀ j, 0 < j → (x.add (k * 5)).add j = ⟨(x.add (k * 5)).block, (x.add (k * 5)).off + j, none⟩ := fun j hj => by
    unfold Addr.add; split
    · omega
    · rfl
  have c0 := c 0 _ rfl
  rw [show (x.add (k * 5)).add 0 = x.add (k * 5) by unfold Addr.add; simp] at c0
  refine ⟨c0, ?_, ?_, ?_, ?_⟩
  · rw [← ad 1 (by omega), c 1 _ rfl]; rfl
  · rw [← ad 2 (by omega), c 2 _ rfl]
    show some (Value.int .u8 (l.getD 2 0)) = some (.int .u8 ((l.getD 2 0).toNat : Int))
    rw [Int.toNat_of_nonneg r2'.1]
  · rw [← ad 3 (by omega), c 3 _ rfl]; rfl
  · rw [← ad 4 (by omega), c 4 _ rfl]; rfl

/-- A struct of ten laid into another by way of a new one .. -/
theorem turnF {q : Nat} {c0 c1 c2 c3 c4 c5 c6 c7 c8 c9 : Value} {w : World} (h : X10 q #[c0, c1, c2, c3, c4, c5, c6, c7, c8, c9] w) (u0 u1 u2 u3 u4 u5 u6 u7 u8 u9 : Value) (X : Obj) :
    ∃ w2, w2 = ((((((((((w.setCell ⟨q, 0, none⟩ u0).setCell ⟨q, 1, none⟩ u1).setCell ⟨q, 2, none⟩ u2).setCell ⟨q, 3, none⟩ u3).setCell ⟨q, 4, none⟩ u4).setCell ⟨q, 5, none⟩ u5).setCell ⟨q, 6, none⟩ u6).setCell ⟨q, 7, none⟩ u7).setCell ⟨q, 8, none⟩ u8).setCell ⟨q, 9, none⟩ u9).alloc X ∧
      X10 q #[u0, u1, u2, u3, u4, u5, u6, u7, u8, u9] w2 ∧ Only (fun k => k = q ∨ k = w.heap.size) w w2 := by
  obtain ⟨w4, e4, -, -, o4⟩ := end10 h (Below.refl 0 w) (Nat.zero_le _) u0 u1 u2 u3 u4 u5 u6 u7 u8 u9
  have hp := put10 h u0 u1 u2 u3 u4 u5 u6 u7 u8 u9
  refine ⟨_, rfl, (heap_alloc_old _ _ (lt_of_heap hp)).trans hp, ?_⟩
  rw [← e4]
  exact (o4.alloc _).mono (fun _ _ e => .inl e)
/-- .. that was there already. -/
theorem turnT {q t : Nat} {c0 c1 c2 c3 c4 c5 c6 c7 c8 c9 d0 d1 d2 d3 d4 d5 d6 d7 d8 d9 : Value} {w : World} (h : X10 q #[c0, c1, c2, c3, c4, c5, c6, c7, c8, c9] w) (ht : X10 t #[d0, d1, d2, d3, d4, d5, d6, d7, d8, d9] w) (hne : q ≠ t) (u0 u1 u2 u3 u4 u5 u6 u7 u8 u9 : Value) :
    ∃ w1, w1 = ((((((((((w.setCell ⟨t, 0, none⟩ u0).setCell ⟨t, 1, none⟩ u1).setCell ⟨t, 2, none⟩ u2).setCell ⟨t, 3, none⟩ u3).setCell ⟨t, 4, none⟩ u4).setCell ⟨t, 5, none⟩ u5).setCell ⟨t, 6, none⟩ u6).setCell ⟨t, 7, none⟩ u7).setCell ⟨t, 8, none⟩ u8).setCell ⟨t, 9, none⟩ u9) ∧ X10 t #[u0, u1, u2, u3, u4, u5, u6, u7, u8, u9] w1 ∧ X10 q #[c0, c1, c2, c3, c4, c5, c6, c7, c8, c9] w1 ∧ Only (fun k => k = t) w w1 ∧
    ∃ w2, w2 = ((((((((((w1.setCell ⟨q, 0, none⟩ u0).setCell ⟨q, 1, none⟩ u1).setCell ⟨q, 2, none⟩ u2).setCell ⟨q, 3, none⟩ u3).setCell ⟨q, 4, none⟩ u4).setCell ⟨q, 5, none⟩ u5).setCell ⟨q, 6, none⟩ u6).setCell ⟨q, 7, none⟩ u7).setCell ⟨q, 8, none⟩ u8).setCell ⟨q, 9, none⟩ u9) ∧
      X10 q #[u0, u1, u2, u3, u4, u5, u6, u7, u8, u9] w2 ∧ Only (fun k => k = q ∨ k = t) w w2 := by
  obtain ⟨w4, e4, -, -, o4⟩ := end10 ht (Below.refl 0 w) (Nat.zero_le _) u0 u1 u2 u3 u4 u5 u6 u7 u8 u9
  have hp := put10 ht u0 u1 u2 u3 u4 u5 u6 u7 u8 u9
  rw [← e4] at hp
  have hq : X10 q #[c0, c1, c2, c3, c4, c5, c6, c7, c8, c9] w4 := (o4.block _ (lt_of_heap h) (fun e => hne e)).trans h
  obtain ⟨w6, e6, -, -, o6⟩ := end10 hq (Below.refl 0 w4) (Nat.zero_le _) u0 u1 u2 u3 u4 u5 u6 u7 u8 u9
  have hp2 := put10 hq u0 u1 u2 u3 u4 u5 u6 u7 u8 u9
  rw [← e6] at hp2
  exact ⟨w4, e4, hp, hq, o4, w6, e6, hp2, (o4.mono (fun _ _ e => .inr e)).trans o6 (fun _ _ e => .inl e)⟩
end Go.Proofs.Ytllibgjajlgnbaa.SlabRan

/- The laws' deeds, of both pools: what they leave. -/
import Derived.Test.YtecjkpjcmgohmacEpRef6
namespace Go.Proofs.Ytecjkpjcmgohmac.EpDo
open Go Go.RowKit Go.Maps Go.Proofs.Ytecjkpjcmgohmac.Only Go.Proofs.Ytecjkpjcmgohmac.Ep Go.Proofs.Ytecjkpjcmgohmac.EpRef Go.Proofs.Ytecjkpjcmgohmac.Args
set_option linter.unusedVariables false
set_option linter.unusedSimpArgs false

/-- Both pools. -/
structure BothR (B pb mb : Nat) (vin : Value) (inn : List Int) (ep : Int) (G : List Grp) (vI vR : Value) (rin : List Int) (R : List (Int × Int)) (w : World) : Prop where
  pool : PoolR B pb mb vin inn ep G w
  ref : RefP B vI rin vR R w
  far : ∀ k, PoolF pb mb vin G k → ¬ OwnP vI vR k
/-- What a deed makes of the pool. -/
inductive Sp (d : Dd) (inn : List Int) (ep : Int) (G : List Grp) : List Int → Int → List Grp → Prop
  | enter (h : d.k = 1) : Sp d inn ep G (enterI inn ep d.t) ep G
  | exit (h : d.k = 2) : Sp d inn ep G (exitI inn d.t) ep G
  | retire (h : d.k = 3) (v : Value) : Sp d inn ep G inn ep (cut G ep ++ [⟨ep, v, xsOf G ep ++ [d.x]⟩])
  | advance (h : d.k = 4) : Sp d inn ep G inn (advE inn ep) G
  | free (h1 : d.k ≠ 1) (h2 : d.k ≠ 2) (h3 : d.k ≠ 3) (h4 : d.k ≠ 4) : Sp d inn ep G inn ep (keptG ep G)
/-- What a deed makes of the reference; whether the answers are the same. -/
def rI (d : Dd) (rin : List Int) (rep : Int) : List Int := if d.k = 1 then renterI rin rep d.t else if d.k = 2 then rexitI rin d.t else rin
def rE (d : Dd) (rin : List Int) (rep : Int) : Int := if d.k = 4 then radvE rin rep else rep
def rR (d : Dd) (rep : Int) (R : List (Int × Int)) : List (Int × Int) := if d.k = 3 then R ++ [(d.x, rep)] else if d.k = 1 ∨ d.k = 2 ∨ d.k = 4 then R else rkept rep R
def Agree (d : Dd) (inn : List Int) (ep : Int) (G : List Grp) (rin : List Int) (rep : Int) (R : List (Int × Int)) : Prop :=
  if d.k = 1 then enterE inn d.t = renterE rin d.t else if d.k = 2 then exitE inn d.t = rexitE rin d.t else if d.k = 3 then True else if d.k = 4 then advB inn ep = radvB rin rep else freedL ep G = rfreed rep R
/-- What do leaves. -/
def Did (B pb mb : Nat) (vin : Value) (inn : List Int) (ep : Int) (G : List Grp) (rin : List Int) (rep : Int) (R : List (Int × Int)) (d : Dd) (w : World) (e : Ending) (w' : World) : Prop :=
  ∃ inn2 ep2 G2 vI2 vR2 b, e = .returned (.tuple #[.agg (xv vI2 (rE d rin rep) vR2), .bool b]) ∧ Sp d inn ep G inn2 ep2 G2 ∧ BothR B pb mb vin inn2 ep2 G2 vI2 vR2 (rI d rin rep) (rR d rep R) w' ∧ (Agree d inn ep G rin rep R → b = true) ∧ Only (PoolF pb mb vin G) w w'

/-- A deed's box. -/
def D3 (q : Nat) (d : Dd) (w : World) : Prop := w.heap[q]? = some (.cells #[.int .i64 d.k, .int .i64 d.t, .int .u64 d.x] 31 (0, 0))
/-- Three boxes: the reference's pool, the deed, the result. -/
theorem three (w : World) (c : Array Value) (d : Dd) : ∃ w1, w1 = (((w.alloc (.cells c 35)).alloc (.cells #[.int .i64 d.k, .int .i64 d.t, .int .u64 d.x] 31)).alloc (.cells #[.slice none 0 0, .int .i64 0, .slice none 0 0] 35)) ∧
    X3 w.heap.size c w1 ∧ D3 (w.heap.size + 1) d w1 ∧ X3 (w.heap.size + 2) #[.slice none 0 0, .int .i64 0, .slice none 0 0] w1 ∧ Below w.heap.size w w1 ∧ w.heap.size + 3 ≤ w1.heap.size := by
  have b1 : Below w.heap.size w (w.alloc (.cells c 35)) := (Below.refl _ _).alloc (Nat.le_refl _) _
  have b2 : Below w.heap.size w ((w.alloc (.cells c 35)).alloc (.cells #[.int .i64 d.k, .int .i64 d.t, .int .u64 d.x] 31)) := b1.alloc (by simp) _
  refine ⟨_, rfl, (X3.alloc (heap_alloc_new w _) _).alloc _, ?_, ?_, b2.alloc (by simp; omega) _, by simp⟩
  · have := heap_alloc_new (w.alloc (.cells c 35)) (.cells #[.int .i64 d.k, .int .i64 d.t, .int .u64 d.x] 31)
    rw [show (w.alloc (.cells c 35)).heap.size = w.heap.size + 1 by simp] at this
    exact (heap_alloc_old _ _ (lt_of_heap this)).trans this
  · have := heap_alloc_new ((w.alloc (.cells c 35)).alloc (.cells #[.int .i64 d.k, .int .i64 d.t, .int .u64 d.x] 31)) (.cells #[.slice none 0 0, .int .i64 0, .slice none 0 0] 35)
    rw [show ((w.alloc (.cells c 35)).alloc (.cells #[.int .i64 d.k, .int .i64 d.t, .int .u64 d.x] 31)).heap.size = w.heap.size + 2 by simp] at this
    exact this
section
variable {B pb mb : Nat} {vin : Value} {inn inn2 : List Int} {ep ep2 : Int} {G G2 : List Grp} {vI vR vI2 vR2 : Value} {rin rin2 : List Int} {R R2 : List (Int × Int)} {w w1 w2 w3 w9 : World}
theorem ref_low (h : RefP B vI rin vR R w) : ∀ k, OwnP vI vR k → B ≤ k ∧ k < w.heap.size := by
  rintro k (e | e)
  · have := own_blk h.i e; exact ⟨this.1, this.2.1⟩
  · have := own_blk h.r e; exact ⟨this.1, this.2.1⟩
/-- The reference behind the pool's step. -/
theorem ref_mid (h : BothR B pb mb vin inn ep G vI vR rin R w) (hb : Below w.heap.size w w1) (o2 : Only (PoolF pb mb vin G) w1 w2) : RefP B vI rin vR R w2 :=
  (h.ref.below hb).keep o2 (fun k hk e => h.far k e hk)
/-- The boxes behind the pool's step. -/
theorem box_mid {k : Nat} {o : Obj} (h : BothR B pb mb vin inn ep G vI vR rin R w) (o2 : Only (PoolF pb mb vin G) w1 w2) (hk : w.heap.size ≤ k) (hb : w1.heap[k]? = some o) : w2.heap[k]? = some o :=
  (o2.block k (lt_of_heap hb) (fun e => by have := (h.pool.low k e).2; omega)).trans hb
theorem both_next (h : BothR B pb mb vin inn ep G vI vR rin R w) (hb : Below w.heap.size w w1) (o2 : Only (PoolF pb mb vin G) w1 w2) (p2 : PoolR B pb mb vin inn2 ep2 G2 w2) (hF : ∀ k, PoolF pb mb vin G2 k → PoolF pb mb vin G k ∨ w1.heap.size ≤ k)
    (b3 : Below w2.heap.size w2 w3) (r3 : RefP B vI2 rin2 vR2 R2 w3) (fr : ∀ k, OwnP vI2 vR2 k → OwnP vI vR k ∨ w2.heap.size ≤ k) (o9 : Only (fun k => w.heap.size ≤ k ∧ k < w1.heap.size) w3 w9) :
    BothR B pb mb vin inn2 ep2 G2 vI2 vR2 rin2 R2 w9 ∧ Only (PoolF pb mb vin G) w w9 := by
  have s1 := hb.size
  have s2 := o2.size
  have s3 := b3.size
  refine ⟨⟨(p2.below b3).keep o9 (fun k hk e => ?_), r3.keep o9 (fun k hk e => ?_), fun k hk e => ?_⟩, ((((ofBelow (S := PoolF pb mb vin G) hb).trans o2 (fun _ _ e => e)).trans (ofBelow (S := PoolF pb mb vin G) b3) (fun _ _ e => e))).trans o9 (fun k hk e => by omega)⟩
  · rcases hF k hk with q | q
    · have := (h.pool.low k q).2; omega
    · omega
  · rcases fr k hk with q | q
    · have := (ref_low h.ref k q).2; omega
    · omega
  · rcases hF k hk with q | q <;> rcases fr k e with r | r
    · exact h.far k q r
    · have := (h.pool.low k q).2; omega
    · have := (ref_low h.ref k r).2; omega
    · have := (p2.low k hk).2; omega
end
/-- Bounds of the reference. -/
structure RB (k : Nat) (rin : List Int) (rep : Int) (R : List (Int × Int)) : Prop where
  len : rin.length ≤ 8
  e0 : 0 ≤ rep ∧ rep ≤ k
  rl : R.length ≤ k
  rt : ∀ t ∈ R, 0 ≤ t.2 ∧ t.2 ≤ k
theorem RB.step {k : Nat} {rin : List Int} {rep : Int} {R : List (Int × Int)} (h : RB k rin rep R) (d : Dd) : RB (k + 1) (rI d rin rep) (rE d rin rep) (rR d rep R) := by
  obtain ⟨h1, h2, h3, h4⟩ := h
  refine ⟨?_, ?_, ?_, ?_⟩
  · unfold rI renterI rexitI; split <;> (try split) <;> (try split) <;> (try simp) <;> omega
  · unfold rE radvE; split <;> (try split) <;> omega
  · unfold rR
    have := List.length_filter_le (fun t => !rold rep t) R
    split
    · simp; omega
    · split
      · omega
      · show (R.filter _).length ≤ _; omega
  · intro t ht
    unfold rR at ht
    split at ht
    · rcases List.mem_append.1 ht with q | q
      · have := h4 t q; omega
      · have q := List.mem_singleton.1 q; subst q; dsimp; omega
    · split at ht
      · have := h4 t ht; omega
      · have := h4 t (List.mem_filter.1 ht).1; omega
theorem RB.mono {k k' : Nat} {rin : List Int} {rep : Int} {R : List (Int × Int)} (h : RB k rin rep R) (hk : k ≤ k') : RB k' rin rep R :=
  ⟨h.len, ⟨h.e0.1, by have := h.e0.2; omega⟩, by have := h.rl; omega, fun t ht => by have := h.rt t ht; omega⟩
theorem RB.new (c : Nat) (hc : c ≤ 8) : RB 0 (newI c) 0 [] := ⟨by unfold newI; simp; omega, by omega, by simp, fun t ht => by simp at ht⟩
theorem PB.step {c k : Nat} {inn inn2 : List Int} {ep ep2 : Int} {G G2 : List Grp} (h : PB c k inn ep G) (ha : G.Pairwise (fun a b => a.e < b.e)) {d : Dd} (hs : Sp d inn ep G inn2 ep2 G2) : PB c (k + 1) inn2 ep2 G2 := by
  cases hs with
  | enter _ => exact (h.enter d.t).mono (by omega)
  | exit _ => exact (h.exit d.t).mono (by omega)
  | retire _ v => exact h.retire ha v d.x
  | advance _ => exact h.adv
  | free _ _ _ _ => exact h.free.mono (by omega)
end Go.Proofs.Ytecjkpjcmgohmac.EpDo

/- A pool: its block, its threads, its map of slices. -/
import Derived.Test.YtecjkpjcmgohmacOnly
import Derived.Test.YtecjkpjcmgohmacProg
import Derived.Maps.OwnRows
import Derived.Maps.OwnSet
import Derived.Maps.OwnOps
import Derived.Maps.RangeWalk
import Derived.Maps.AppendAt
import Derived.Laws.AppendOwnNone
import Derived.Lib.Hide
namespace Go.Proofs.Ytecjkpjcmgohmac.Ep
open Go Go.RowKit Go.Maps Go.Proofs.Ytecjkpjcmgohmac.Only
set_option linter.unusedVariables false
set_option linter.unusedSimpArgs false

/-! Rows of one's own. -/
theorem own_blk {w : World} {B : Nat} {T : TypeId} {size m : Nat} {u : Value} {xs : List Value} (h : w.ownsRow B T size u m xs) {k : Nat} (hk : u.ownBlock = some k) : B ≤ k ∧ k < w.heap.size ∧ ∃ cs, w.heap[k]? = some (.cells cs T (0, 0)) := by
  rcases h.2 with ⟨rfl, -⟩ | ⟨g, cap, cur, rfl, hb, hc, -⟩
  · simp [Value.ownBlock] at hk
  · simp [Value.ownBlock] at hk
    subst hk
    exact ⟨hb, lt_of_heap hc, _, hc⟩
theorem own_keep {S : Nat → Prop} {w : World} {B : Nat} {T : TypeId} {size m : Nat} {u : Value} {xs : List Value} {w' : World} (h : w.ownsRow B T size u m xs) (ho : Only S w w') (hS : ∀ k, u.ownBlock = some k → ¬ S k) : w'.ownsRow B T size u m xs := by
  refine ⟨h.1, ?_⟩
  rcases h.2 with ⟨rfl, e⟩ | ⟨g, cap, cur, rfl, hb, hc, r⟩
  · exact .inl ⟨rfl, e⟩
  · exact .inr ⟨g, cap, cur, rfl, hb, (ho.block g (lt_of_heap hc) (hS g rfl)).trans hc, r⟩
theorem own_mono {w : World} {B B' : Nat} {T : TypeId} {size n : Nat} {v : Value} {xs : List Value} (h : w.ownsRow B T size v n xs) (hB : B' ≤ B) : w.ownsRow B' T size v n xs := by
  refine ⟨h.1, ?_⟩
  rcases h.2 with ⟨rfl, e⟩ | ⟨g, cap, cur, rfl, hb, r⟩
  · exact .inl ⟨rfl, e⟩
  · exact .inr ⟨g, cap, cur, rfl, Nat.le_trans hB hb, r⟩
theorem own_alloc {w : World} {B n : Nat} {T : TypeId} {size : Nat} {v : Value} {xs : List Value} (h : w.ownsRow B T size v n xs) (o : Obj) : (w.alloc o).ownsRow B T size v n xs := own_keep h (ofBelow ((Below.refl _ _).alloc (Nat.le_refl _) o)) (S := fun _ => False) (fun _ _ x => x)
theorem ty_ne {w : World} {T U : TypeId} (hTU : T ≠ U) {k l : Nat} {cs ds : Array Value} (h : w.heap[k]? = some (.cells cs T (0, 0))) (g : w.heap[l]? = some (.cells ds U (0, 0))) : k ≠ l := by
  rintro rfl
  rw [h] at g
  simp at g
  exact hTU g.2
theorem own_ty {w : World} {B n k : Nat} {T U : TypeId} {size : Nat} {u : Value} {xs : List Value} {c : Array Value} (h : w.ownsRow B T size u n xs) (hk : w.heap[k]? = some (.cells c U (0, 0))) (hT : T ≠ U) : u.ownBlock ≠ some k := fun e => by
  obtain ⟨cs, hc⟩ := (own_blk h e).2.2
  exact ty_ne hT hc hk rfl
theorem own_grown {w w' : World} {B n : Nat} {T : TypeId} {size : Nat} {v : Value} {xs : List Value} {row : Option Nat} (h : w.ownsRow B T size v n xs) (hg : w.grownBy w' row) (hne : ∀ k, v.ownBlock = some k → row ≠ some k) : w'.ownsRow B T size v n xs := by
  refine ⟨h.1, ?_⟩
  rcases h.2 with ⟨rfl, e⟩ | ⟨g, cap, cur, rfl, hb, hc, r⟩
  · exact .inl ⟨rfl, e⟩
  · exact .inr ⟨g, cap, cur, rfl, hb, (hg.block g (lt_of_heap hc) (fun e => hne g rfl e.symm)).trans hc, r⟩
theorem bel_grown {B : Nat} {w W w' : World} {row : Option Nat} (h : Below B w W) (hg : W.grownBy w' row) (hr : ∀ k, row = some k → B ≤ k) (hB : B ≤ W.heap.size) : Below B w w' := h.grown hg hB hr
theorem below_drew {B : Nat} {w W : World} (h : Below B w W) : Below B w W.drew := ⟨h.os, h.tape, h.output, h.size, h.block⟩
theorem le_alloc {B : Nat} {w : World} (h : B ≤ w.heap.size) (o : Obj) : B ≤ (w.alloc o).heap.size := by simp; omega
theorem u64s_one (xs : List Int) : ∀ u ∈ xs.map (Value.int .u64), u.oneCell' = true := by
  intro u hu
  obtain ⟨x, -, rfl⟩ := List.mem_map.1 hu
  rfl
theorem ints_one (xs : List Int) : ∀ u ∈ xs.map (Value.int .i64), u.oneCell' = true := by
  intro u hu
  obtain ⟨x, -, rfl⟩ := List.mem_map.1 hu
  rfl
theorem newEmpty (w : World) (T : TypeId) (B : Nat) (size : Nat) (hB : B ≤ w.heap.size) : (w.alloc (.cells #[] T)).ownsRow B T size (.slice (some ⟨w.heap.size, 0, none⟩) 0 0) 0 [] :=
  ⟨by simp, .inr ⟨w.heap.size, 0, #[], rfl, hB, heap_alloc_new w _, Nat.le_refl _, by simp [maxLen], by simp, by simp⟩⟩

/-! The map. -/
structure Grp where
  e : Int
  v : Value
  xs : List Int
def heldR : Value → Option (DataW Value × List MemPlace) := fun v => some (.held v, [])
def entry (g : Grp) : Lit × DataW Value := (.int .i64 g.e, .held g.v)
def dat (G : List Grp) : DataW Value := .map (G.map entry)
def nilV : Value := .slice none 0 0
def valOf (G : List Grp) (e : Int) : Value := match G.find? (fun g => g.e == e) with | some g => g.v | none => nilV
def xsOf (G : List Grp) (e : Int) : List Int := match G.find? (fun g => g.e == e) with | some g => g.xs | none => []
def cut (G : List Grp) (e : Int) : List Grp := G.filter (fun g => g.e != e)
theorem same_int (a b : Int) : (Lit.int .i64 a).sameKey (.int .i64 b) = (a == b) := by
  unfold Lit.sameKey
  by_cases h : a = b <;> simp [h]
theorem dat_at (G : List Grp) (e : Int) : (dat G).atKey (.int .i64 e) (.held nilV) = .held (valOf G e) := by
  unfold dat DataW.atKey valOf
  induction G with
  | nil => rfl
  | cons g G ih =>
    simp only [List.map_cons, List.find?_cons, entry, same_int]
    cases h : g.e == e with
    | true => rfl
    | false => exact ih
theorem dat_del (G : List Grp) (e : Int) : (dat G).del (.int .i64 e) = dat (cut G e) := by
  have h1 : ((G.map entry).filter fun p => !p.1.sameKey (.int .i64 e)) = (cut G e).map entry := by
    unfold cut
    rw [List.filter_map]
    congr 2
    funext g
    simp only [Function.comp, entry, same_int]
    rfl
  show DataW.map (List.filter _ (List.map entry G)) = _
  rw [h1]
  rfl
theorem insert_top (l : List (Lit × DataW Value)) (e : Int) (d : DataW Value) (h : ∀ p ∈ l, ∃ a, p.1 = .int .i64 a ∧ a < e) : DataW.insert (.int .i64 e, d) l = l ++ [(.int .i64 e, d)] := by
  induction l with
  | nil => rfl
  | cons p l ih =>
    obtain ⟨a, ha, hlt⟩ := h p List.mem_cons_self
    unfold DataW.insert
    rw [ha]
    have : Lit.before (.int .i64 e) (.int .i64 a) = false := by unfold Lit.before; simp; omega
    rw [if_neg (by rw [this]; simp), ih (fun q hq => h q (List.mem_cons_of_mem _ hq))]
    rfl
theorem dat_put (G : List Grp) (e : Int) (v : Value) (xs : List Int) (h : ∀ g ∈ G, g.e ≤ e) : (dat G).put (.int .i64 e) (.held v) = dat (cut G e ++ [⟨e, v, xs⟩]) := by
  have h1 : ((G.map entry).filter fun p => !p.1.sameKey (.int .i64 e)) = (cut G e).map entry := by
    unfold cut
    rw [List.filter_map]
    congr 2
    funext g
    simp only [Function.comp, entry, same_int]
    rfl
  show DataW.map (DataW.insert _ _) = _
  rw [h1, insert_top]
  · unfold dat; simp [entry]
  · intro p hp
    obtain ⟨g, hg, rfl⟩ := List.mem_map.1 hp
    obtain ⟨hg1, hg2⟩ := List.mem_filter.1 hg
    have := h g hg1
    simp at hg2
    exact ⟨g.e, rfl, by omega⟩
theorem tight {w : World} {P : Program} {k : TypeId} {mb n : Nat} {G : List Grp} (h : w.ownsMap P k heldR mb n (dat G)) : w.ownsMap P k heldR mb G.length (dat G) := by
  obtain ⟨es, clock, h1, h2, h3, h4⟩ := h
  refine ⟨es, clock, h1, h2, ?_, h4⟩
  have e : G.map entry = (es.toList.map (Go.WideElems.rg P k heldR)).foldr DataW.insert [] := by injection h4
  have := congrArg List.length e
  rw [length_sorted] at this
  simp at this
  omega

/-! The pool. -/
structure PoolR (B pb mb : Nat) (vin : Value) (inn : List Int) (ep : Int) (G : List Grp) (w : World) : Prop where
  blk : w.heap[pb]? = some (.cells #[vin, .int .i64 ep, .map (some mb)] 52 (0, 0))
  inn : w.ownsRow B 3 1 vin inn.length (inn.map (Value.int .i64))
  map : w.ownsMap Try.prog 3 heldR mb G.length (dat G)
  rows : ∀ g ∈ G, w.ownsRow B 29 1 g.v g.xs.length (g.xs.map (Value.int .u64))
  apart : ∀ a ∈ G, ∀ b ∈ G, a.e ≠ b.e → ∀ k, a.v.ownBlock = some k → b.v.ownBlock ≠ some k
  asc : G.Pairwise (fun a b => a.e < b.e)
  top : ∀ g ∈ G, g.e ≤ ep
  pbB : B ≤ pb
  mbB : B ≤ mb
def PoolF (pb mb : Nat) (vin : Value) (G : List Grp) (k : Nat) : Prop := k = pb ∨ k = mb ∨ vin.ownBlock = some k ∨ ∃ g ∈ G, g.v.ownBlock = some k
section
variable {B pb mb : Nat} {vin : Value} {inn : List Int} {ep : Int} {G : List Grp} {w w' : World}
theorem PoolR.keep {S : Nat → Prop} (h : PoolR B pb mb vin inn ep G w) (ho : Only S w w') (hS : ∀ k, PoolF pb mb vin G k → ¬ S k) : PoolR B pb mb vin inn ep G w' := by
  refine ⟨(ho.block _ (lt_of_heap h.blk) (hS _ (.inl rfl))).trans h.blk, own_keep h.inn ho (fun k hk => hS k (.inr (.inr (.inl hk)))), ?_, fun g hg => own_keep (h.rows g hg) ho (fun k hk => hS k (.inr (.inr (.inr ⟨g, hg, hk⟩)))), h.apart, h.asc, h.top, h.pbB, h.mbB⟩
  have hl := h.map.lt
  obtain ⟨es, clock, h1, r⟩ := h.map
  exact ⟨es, clock, (ho.block _ hl (hS _ (.inr (.inl rfl)))).trans h1, r⟩
theorem PoolR.below (h : PoolR B pb mb vin inn ep G w) (hb : Below w.heap.size w w') : PoolR B pb mb vin inn ep G w' := h.keep (S := fun _ => False) (ofBelow hb) (fun _ _ x => x)
theorem PoolR.low (h : PoolR B pb mb vin inn ep G w) : ∀ k, PoolF pb mb vin G k → B ≤ k ∧ k < w.heap.size := by
  rintro k (rfl | rfl | e | ⟨g, hg, e⟩)
  · exact ⟨h.pbB, lt_of_heap h.blk⟩
  · exact ⟨h.mbB, h.map.lt⟩
  · have := own_blk h.inn e; exact ⟨this.1, this.2.1⟩
  · have := own_blk (h.rows g hg) e; exact ⟨this.1, this.2.1⟩
theorem cells3 {g : Nat} {c0 c1 c2 : Value} {T : TypeId} (h : w.heap[g]? = some (.cells #[c0, c1, c2] T (0, 0))) :
    (w.cell? ⟨g, 0, none⟩ = some c0 ∧ w.cell? ⟨g, 1, none⟩ = some c1 ∧ w.cell? ⟨g, 2, none⟩ = some c2) ∧ ∀ i, w.frozen? ⟨g, i, none⟩ = false := by
  simp [World.cell?, World.frozen?, h]

def thereP (inn : List Int) (t : Int) : Bool := decide (0 ≤ t ∧ t < inn.length)
set_option maxRecDepth 100000 in
theorem there (h : PoolR B pb mb vin inn ep G w) (t : Int) :
    Calls Try.prog 22 #[.pointer (some ⟨pb, 0, none⟩), .int .i64 t] w fun e w' => e = .returned (.bool (thereP inn t)) ∧ w = w' := by
  obtain ⟨⟨k0, k1, k2⟩, -⟩ := cells3 h.blk
  obtain ⟨A, c, e1, -⟩ := own_any h.inn
  subst e1
  clear h
  unfold thereP
  by_cases h0 : 0 ≤ t
  · by_cases h1 : t < inn.length
    · have b0 : decide (0 ≤ t) = true := decide_eq_true h0
      have b1 : decide (t < (inn.length : Int)) = true := decide_eq_true h1
      rw [decide_eq_true (And.intro h0 h1)]
      go_enter Try.func22, Try.ntmps22
      go_wp2
      go_ret
      exact ⟨rfl, rfl⟩
    · have b0 : decide (0 ≤ t) = true := decide_eq_true h0
      have b1 : decide (t < (inn.length : Int)) = false := decide_eq_false h1
      rw [decide_eq_false (fun e : 0 ≤ t ∧ t < inn.length => h1 e.2)]
      go_enter Try.func22, Try.ntmps22
      go_wp2
      go_ret
      exact ⟨rfl, rfl⟩
  · have b0 : decide (0 ≤ t) = false := decide_eq_false h0
    rw [decide_eq_false (fun e : 0 ≤ t ∧ t < inn.length => h0 e.1)]
    go_enter Try.func22, Try.ntmps22
    go_wp2
    go_ret
    exact ⟨rfl, rfl⟩
set_option maxRecDepth 100000 in
theorem epoch (h : PoolR B pb mb vin inn ep G w) :
    Calls Try.prog 13 #[.pointer (some ⟨pb, 0, none⟩)] w fun e w' => e = .returned (.int .i64 ep) ∧ w = w' := by
  obtain ⟨⟨k0, k1, k2⟩, -⟩ := cells3 h.blk
  clear h
  go_enter Try.func13, Try.ntmps13
  go_wp2
  go_ret
  exact ⟨rfl, rfl⟩
end
end Go.Proofs.Ytecjkpjcmgohmac.Ep

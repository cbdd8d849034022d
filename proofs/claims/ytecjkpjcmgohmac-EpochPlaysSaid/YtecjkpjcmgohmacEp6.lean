/- A pool: Free. -/
import Derived.Test.YtecjkpjcmgohmacEp5
import Derived.Shelf.AbstractIn
namespace Go.Proofs.Ytecjkpjcmgohmac.Ep
open Go Go.RowKit Go.Maps Go.Sort Go.Shelf Go.Proofs.Ytecjkpjcmgohmac.Only
set_option linter.unusedVariables false
set_option linter.unusedSimpArgs false

/-! Which are free. -/
def old (ep : Int) (g : Grp) : Bool := decide (g.e + 2 ≤ ep)
def keptG (ep : Int) (G : List Grp) : List Grp := G.filter (fun g => !old ep g)
def freedL (ep : Int) (G : List Grp) : List Int := (G.filter (old ep)).flatMap Grp.xs
def doneK (ep : Int) (G : List Grp) (k : Nat) : List Grp := keptG ep (G.take k) ++ G.drop k
theorem done_0 (ep : Int) (G : List Grp) : doneK ep G 0 = G := by simp [doneK, keptG]
theorem done_all (ep : Int) (G : List Grp) (k : Nat) (h : G.length ≤ k) : doneK ep G k = keptG ep G := by simp [doneK, List.take_of_length_le h, List.drop_of_length_le h]
theorem freed_all (ep : Int) (G : List Grp) (k : Nat) (h : G.length ≤ k) : freedL ep (G.take k) = freedL ep G := by rw [List.take_of_length_le h]
theorem take_next {G : List Grp} {k : Nat} (h : k < G.length) : G.take (k + 1) = G.take k ++ [G[k]] := (List.take_append_getElem h).symm
theorem drop_next {G : List Grp} {k : Nat} (h : k < G.length) : G.drop k = G[k] :: G.drop (k + 1) := List.drop_eq_getElem_cons h
theorem done_keep {ep : Int} {G : List Grp} {k : Nat} (h : k < G.length) (ho : old ep G[k] = false) : doneK ep G (k + 1) = doneK ep G k ∧ freedL ep (G.take (k + 1)) = freedL ep (G.take k) := by
  unfold doneK freedL keptG
  rw [take_next h, drop_next h, List.filter_append, List.filter_append]
  simp [ho]
theorem done_free {ep : Int} {G : List Grp} {k : Nat} (ha : G.Pairwise (fun a b => a.e < b.e)) (h : k < G.length) (ho : old ep G[k] = true) : doneK ep G (k + 1) = cut (doneK ep G k) G[k].e ∧ freedL ep (G.take (k + 1)) = freedL ep (G.take k) ++ G[k].xs := by
  have hp := List.pairwise_iff_getElem.1 ha
  constructor
  · unfold doneK keptG cut
    rw [take_next h, drop_next h, List.filter_append, List.filter_append, List.filter_filter]
    have h1 : (G.take k).filter (fun g => (g.e != G[k].e) && !old ep g) = (G.take k).filter (fun g => !old ep g) := by
      refine List.filter_congr (fun g hg => ?_)
      obtain ⟨i, hi, e⟩ := List.mem_iff_getElem.1 hg
      have hi' : i < k := by simp at hi; omega
      have : g.e < G[k].e := by
        rw [← e, List.getElem_take]
        exact hp i k (by omega) h hi'
      have : (g.e != G[k].e) = true := by simp; omega
      rw [this]; simp
    have h2 : (G.drop (k + 1)).filter (fun g => g.e != G[k].e) = G.drop (k + 1) := by
      refine List.filter_eq_self.2 (fun g hg => ?_)
      obtain ⟨i, hi, e⟩ := List.mem_iff_getElem.1 hg
      have : G[k].e < g.e := by
        rw [← e, List.getElem_drop]
        exact hp k (k + 1 + i) h (by simp at hi; omega) (by omega)
      simp; omega
    have h3 : (G[k] :: G.drop (k + 1)).filter (fun g => g.e != G[k].e) = G.drop (k + 1) := by rw [List.filter_cons, if_neg (by simp), h2]
    have h4 : [G[k]].filter (fun g => !old ep g) = [] := by simp [ho]
    rw [h1, h3, h4]
    simp
  · unfold freedL
    rw [take_next h, List.filter_append, List.flatMap_append]
    simp [ho]
theorem sorted_keys {G : List Grp} (ha : G.Pairwise (fun a b => a.e < b.e)) {ss : List Int} (hp : ss.Perm (Go.intKeys (dat G))) : (ss.mergeSort fun x y => decide (x ≤ y)) = G.map Grp.e := by
  have e1 : Go.intKeys (dat G) = G.map Grp.e := by
    show List.map _ (List.map entry G) = _
    rw [List.map_map]
    rfl
  rw [e1] at hp
  have h2 : (G.map Grp.e).Pairwise (fun x y => decide (x ≤ y) = true) := List.pairwise_map.2 (ha.imp (fun {a b} h => by simp; omega))
  refine List.Perm.eq_of_pairwise (le := fun x y => decide (x ≤ y) = true) (fun a b _ _ h1 h2 => by simp at h1 h2; omega) (List.pairwise_mergeSort (fun a b c h1 h2 => by simp at *; omega) (fun a b => by simp; omega) ss) h2 ((List.mergeSort_perm ss _).trans hp)
theorem val_at {G : List Grp} (ha : G.Pairwise (fun a b => a.e < b.e)) {g : Grp} (hg : g ∈ G) : valOf G g.e = g.v ∧ xsOf G g.e = g.xs := by
  unfold valOf xsOf
  cases hf : G.find? (fun x => x.e == g.e) with
  | none =>
    have := List.find?_eq_none.1 hf g hg
    simp at this
  | some g0 =>
    have h1 : g0.e = g.e := by simpa using List.find?_some hf
    have h2 := List.mem_of_find?_eq_some hf
    obtain ⟨i, hi, ei⟩ := List.mem_iff_getElem.1 h2
    obtain ⟨j, hj, ej⟩ := List.mem_iff_getElem.1 hg
    have hp := List.pairwise_iff_getElem.1 ha
    have : g0 = g := by
      rcases Nat.lt_trichotomy i j with q | q | q
      · have := hp i j hi hj q; rw [ei, ej] at this; omega
      · subst q; rw [← ei, ← ej]
      · have := hp j i hj hi q; rw [ei, ej] at this; omega
    subst this
    exact ⟨rfl, rfl⟩
section
variable {B pb mb : Nat} {vin : Value} {inn : List Int} {ep : Int} {G : List Grp} {w w' : World}
theorem PoolR.cut {n : Nat} {e : Int} (h : PoolR B pb mb vin inn ep G w) (hm : w'.ownsMap Try.prog 3 heldR mb n (dat (cut G e))) (hg : w.grownBy w' (some mb)) : PoolR B pb mb vin inn ep (cut G e) w' := by
  have nm : ∀ {k : Nat} {T : TypeId} {cs : Array Value}, w.heap[k]? = some (.cells cs T (0, 0)) → some mb ≠ some k := fun hc e => by injection e with e; exact h.map_ne hc e.symm
  refine ⟨(hg.block _ (lt_of_heap h.blk) (fun e => nm h.blk e.symm)).trans h.blk, own_grown h.inn hg (fun k hk e => ?_), tight hm, fun g hg' => own_grown (h.rows g (mem_cut.1 hg').1) hg (fun k hk e => ?_), fun a ha b hb => h.apart a (mem_cut.1 ha).1 b (mem_cut.1 hb).1, h.asc.filter _, fun g hg' => h.top g (mem_cut.1 hg').1, h.pbB, h.mbB⟩
  · obtain ⟨cs, hc⟩ := (own_blk h.inn hk).2.2
    exact nm hc e
  · obtain ⟨cs, hc⟩ := (own_blk (h.rows g (mem_cut.1 hg').1) hk).2.2
    exact nm hc e

/-- What Free leaves. -/
def FreedE (B pb mb : Nat) (vin : Value) (inn : List Int) (ep : Int) (G : List Grp) (w : World) (e : Ending) (w' : World) : Prop :=
  ∃ v, e = .returned v ∧ w'.ownsRow w.heap.size 29 1 v (freedL ep G).length ((freedL ep G).map (Value.int .u64)) ∧ PoolR B pb mb vin inn ep (keptG ep G) w' ∧ Only (PoolF pb mb vin G) w w'
theorem sortsA (m : Nat) : AnyZI.SortsIn Try.prog Try.sortedA_ren Fence.wide m :=
  ⟨fun blk off cap ss W hH hblk hsz => callsIn_wide.2 (AnyM.slices_Sort_int Try.sortA blk off cap ss W hH hblk hsz),
   fun p cap W => callsIn_wide.2 (AnyM.slices_Sort_int_none Try.sortA p cap W)⟩
theorem keysC (mb : Option Nat) (W : World) : Calls Try.prog 31 #[.map mb] W fun e w' => e = .returned (.func (.func 36) #[] #[.pointer (some ⟨W.heap.size, 0, none⟩)]) ∧ w' = W.alloc (.cells #[.map mb] 50) :=
  (callsIn_wide (n := 5)).1 (AnyZI.keys_in Try.keysA Fence.wide 5 trivial rfl mb W)
theorem sortedC (b nn : Nat) (D0 : DataW Value) (w : World) (hown : w.ownsMap Try.prog 3 heldR b nn D0) (hmax : Maps.size D0 ≤ maxLen) (hbytes : Maps.size D0 * 8 ≤ 140737488355328) :
    Calls Try.prog 30 #[.func (.func 36) #[] #[.pointer (some ⟨w.heap.size, 0, none⟩)]] (w.alloc (.cells #[.map (some b)] 50)) fun e w' => ∃ (v : Value) (ss : List Int), e = .returned v ∧ ss.Perm (Go.intKeys D0) ∧
      w'.ownsRow (w.alloc (.cells #[.map (some b)] 50)).heap.size 3 1 v ss.length ((ss.mergeSort (fun x y => decide (x ≤ y))).map encZ) ∧ (v = .slice none 0 0 ↔ ss = []) ∧ Below (w.alloc (.cells #[.map (some b)] 50)).heap.size (w.alloc (.cells #[.map (some b)] 50)) w' := by
  have hbl := hown.lt
  have hseq : SeqGives Fence.wide 2 Try.prog 36 #[.pointer (some ⟨w.heap.size, 0, none⟩)] encZ (fun ss => ss.Perm (Go.intKeys D0)) (Maps.size D0) (w.alloc (.cells #[.map (some b)] 50)) :=
    AnyZI.keys_gives (ρ := Try.keysA_ren) { Try.keysA with } Fence.wide _ trivial rfl (by omega) w.heap.size b nn D0 _ (by simp) (by simp) (by
      obtain ⟨es, clock, hb, Ft, hs, hD⟩ := hown
      exact ⟨es, clock, (Below.heap_alloc _ _ b hbl).trans hb, Ft, hs, hD⟩)
  exact (callsIn_wide (n := 5)).1 (AnyZI.sorted_in Try.sortedA Fence.wide 5 trivial trivial trivial trivial rfl (by omega) (sortsA _) (enters_of Try.func35 (by kernel_rfl) rfl) 36 #[.pointer (some ⟨w.heap.size, 0, none⟩)] trivial (enters_of Try.func36 (by kernel_rfl) rfl) _ _ hmax hbytes _ hseq)
end
end Go.Proofs.Ytecjkpjcmgohmac.Ep

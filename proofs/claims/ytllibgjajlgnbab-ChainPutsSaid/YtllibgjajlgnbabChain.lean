/- The store's versions: what package chain's functions do to a store that is known version by version. -/
import Derived.Test.YtllibgjajlgnbabNew
import Derived.Test.YtllibgjajlgnbabGrow
import Derived.IntWalk
import Derived.Laws.OwnMore
namespace Go.Proofs.Ytllibgjajlgnbab.Chain
open Go Go.RowKit Go.Proofs.Ytllibgjajlgnbab.Only Go.Proofs.Ytllibgjajlgnbab.Mem Go.Proofs.Ytllibgjajlgnbab.New
set_option linter.unusedVariables false
set_option linter.unusedSimpArgs false

/-- A version: an event, and the version ahead of it. -/
structure Ver where
  rev : Int
  key : ByteArray
  val : ByteArray
  del : Bool
  ahead : Int
def Ver.cells (x : Ver) : List Value := [.int .i64 x.rev, .string x.key, .string x.val, .bool x.del, .int .u64 x.ahead]
def Ver.zero : Ver := ⟨0, ⟨#[]⟩, ⟨#[]⟩, false, 0⟩
theorem agg_cells (x : Ver) : Value.agg ⟨x.cells⟩ = .agg #[.int .i64 x.rev, .string x.key, .string x.val, .bool x.del, .int .u64 x.ahead] := rfl
def flat (Vs : List Ver) : List Value := Vs.flatMap Ver.cells
theorem flat_length (Vs : List Ver) : (flat Vs).length = Vs.length * 5 := by
  unfold flat
  induction Vs with
  | nil => rfl
  | cons x t ih => rw [List.flatMap_cons, List.length_append, ih]; simp [Ver.cells]; omega
theorem flat_get (Vs : List Ver) (i j : Nat) (hi : i < Vs.length) (hj : j < 5) : (flat Vs)[i * 5 + j]? = (Vs.getD i Ver.zero).cells[j]? := by
  unfold flat
  induction Vs generalizing i with
  | nil => simp at hi
  | cons x t ih =>
    rw [List.flatMap_cons]
    cases i with
    | zero => rw [List.getElem?_append_left (by simp [Ver.cells]; omega)]; simp [List.getD]
    | succ i =>
      rw [List.getElem?_append_right (by simp [Ver.cells]; omega)]
      have := ih i (by simpa using hi)
      rw [show (i + 1) * 5 + j - x.cells.length = i * 5 + j by simp [Ver.cells]; omega, this]
      simp [List.getD]

/-- A store at block sb, over the Mem at block p. -/
structure StoreAt (B sb p : Nat) (v : Value) (C : List Int) (n : Int) (vs : Value) (Vs : List Ver) (w : World) : Prop where
  mem : MemAt B p v C n w
  blk : w.heap[sb]? = some (.cells #[.pointer (some ⟨p, 0, none⟩), vs] 114 (0, 0))
  own : w.ownsRow B 116 5 vs Vs.length (flat Vs)
  base : B ≤ sb

/-- The blocks of a store. -/
def SFoot (sb p : Nat) (v vs : Value) (k : Nat) : Prop := Foot p v k ∨ k = sb ∨ vs.ownBlock = some k

theorem own_any' {w : World} {B : Nat} {e : TypeId} {v : Value} {n size : Nat} {xs : List Value} (h : w.ownsRow B e size v n xs) : ∃ a cap, v = .slice a n cap ∧ n ≤ cap := by
  obtain ⟨hl, h2⟩ := h
  rcases h2 with ⟨hv, h0⟩ | ⟨g, cap, cur, hv, hB, hg, hc, _⟩
  · exact ⟨none, 0, by rw [hv, h0], by omega⟩
  · exact ⟨_, cap, hv, hc⟩

section
variable {B sb p : Nat} {v : Value} {C : List Int} {n : Int} {vs : Value} {Vs : List Ver} {w : World}

theorem StoreAt.far (h : StoreAt B sb p v C n vs Vs w) : ¬ Foot p v sb := by
  intro hf
  rcases hf with e | e
  · have h1 := h.blk; rw [e, h.mem.blk] at h1; cases h1
  · rcases h.mem.own.2 with ⟨h2, _⟩ | ⟨g, cap, cur, hg, hb, hgg, _⟩
    · rw [h2] at e; cases e
    · rw [hg] at e; cases e; have h1 := h.blk; rw [hgg] at h1; cases h1
theorem StoreAt.vsb (h : StoreAt B sb p v C n vs Vs w) : vs.ownBlock ≠ some sb := by
  intro e
  rcases h.own.2 with ⟨h2, _⟩ | ⟨g, cap, cur, hg, hb, hgg, _⟩
  · rw [h2] at e; cases e
  · rw [hg] at e; cases e; have h1 := h.blk; rw [hgg] at h1; cases h1
theorem StoreAt.vsf (h : StoreAt B sb p v C n vs Vs w) : ∀ k, vs.ownBlock = some k → ¬ Foot p v k := by
  intro k e hf
  rcases h.own.2 with ⟨h2, _⟩ | ⟨g, cap, cur, hg, hb, hgg, _⟩
  · rw [h2] at e; cases e
  · rw [hg] at e; cases e
    rcases hf with e | e
    · have e : g = p := e
      rw [e, h.mem.blk] at hgg; cases hgg
    · rcases h.mem.own.2 with ⟨h2, _⟩ | ⟨g', cap', cur', hg', hb', hgg', _⟩
      · rw [h2] at e; cases e
      · rw [hg'] at e; cases e; rw [hgg] at hgg'; cases hgg'
theorem StoreAt.lt (h : StoreAt B sb p v C n vs Vs w) : ∀ k, SFoot sb p v vs k → k < w.heap.size := by
  intro k hk
  rcases hk with hk | rfl | hk
  · rcases hk with rfl | e
    · exact h.mem.lt
    · exact (h.mem.own.lt k e).2
  · exact lt_of_heap h.blk
  · exact (h.own.lt k hk).2
theorem StoreAt.cells (h : StoreAt B sb p v C n vs Vs w) : w.cell? ⟨sb, 0, none⟩ = some (.pointer (some ⟨p, 0, none⟩)) ∧ w.cell? ⟨sb, 1, none⟩ = some vs ∧ w.frozen? ⟨sb, 1, none⟩ = false := by
  have := h.blk
  simp [World.cell?, World.frozen?, this]
/-- A store stays where its blocks do. -/
theorem StoreAt.keep {S : Nat → Prop} {w' : World} (h : StoreAt B sb p v C n vs Vs w) (ho : Only S w w') (hS : ∀ k, SFoot sb p v vs k → ¬ S k) : StoreAt B sb p v C n vs Vs w' := by
  refine ⟨h.mem.keep ho (hS p (.inl (.inl rfl))) (fun k hk => hS k (.inl (.inr hk))), (ho.block _ (lt_of_heap h.blk) (hS sb (.inr (.inl rfl)))).trans h.blk, ⟨h.own.1, ?_⟩, h.base⟩
  rcases h.own.2 with h2 | ⟨g, cap, cur, hg, hB, hgg, r⟩
  · exact .inl h2
  · exact .inr ⟨g, cap, cur, hg, hB, by rw [ho.block g (lt_of_heap hgg) (hS g (.inr (.inr (by rw [hg]; rfl))))]; exact hgg, r⟩
theorem StoreAt.below {w' : World} (h : StoreAt B sb p v C n vs Vs w) (hb : Below w.heap.size w w') : StoreAt B sb p v C n vs Vs w' := h.keep (S := fun _ => False) (ofBelow hb) (fun _ _ x => x)
theorem StoreAt.drew (h : StoreAt B sb p v C n vs Vs w) : StoreAt B sb p v C n vs Vs w.drew := ⟨⟨h.mem.base, h.mem.blk, h.mem.own, h.mem.ne⟩, h.blk, h.own, h.base⟩
/-- The Mem of a store turned. -/
theorem StoreAt.mems {C' : List Int} {n' : Int} {w' : World} (h : StoreAt B sb p v C n vs Vs w) (m : MemAt B p v C' n' w') (ho : Only (Foot p v) w w') : StoreAt B sb p v C' n' vs Vs w' := by
  refine ⟨m, (ho.block _ (lt_of_heap h.blk) h.far).trans h.blk, ⟨h.own.1, ?_⟩, h.base⟩
  rcases h.own.2 with h2 | ⟨g, cap, cur, hg, hB, hgg, r⟩
  · exact .inl h2
  · exact .inr ⟨g, cap, cur, hg, hB, by rw [ho.block g (lt_of_heap hgg) (h.vsf g (by rw [hg]; rfl))]; exact hgg, r⟩
theorem sfootB {w' : World} (h : StoreAt B sb p v C n vs Vs w) (ho : Only (SFoot sb p v vs) w w') (hB : B ≤ w.heap.size) : Below B w w' :=
  ho.toBelow B hB (fun k _ hk => by
    rcases hk with hk | hk | hk
    · rcases hk with e | e
      · exact e ▸ h.mem.base
      · exact MemAt.gbase h.mem e
    · exact hk ▸ h.base
    · exact (h.own.lt k hk).1)

/-- Is there a version? -/
def okV (Vs : List Ver) (id : Int) : Bool := decide (1 ≤ id ∧ id ≤ Vs.length)
/-- A version; the zero one: there is none. -/
def ofV (Vs : List Ver) (id : Int) : Ver := if okV Vs id then Vs.getD (id.toNat - 1) Ver.zero else Ver.zero

/-- What of leaves. -/
def Oft (Vs : List Ver) (id : Int) (w : World) (e : Ending) (w' : World) : Prop :=
  e = .returned (.tuple #[.agg ⟨(ofV Vs id).cells⟩, .bool (okV Vs id)]) ∧ Below w.heap.size w w'

theorem cell5 {w : World} {j : Nat} {c0 c1 c2 c3 c4 : Value} {T : TypeId} (h : w.heap[j]? = some (.cells #[c0, c1, c2, c3, c4] T (0, 0))) :
    (w.cell? ⟨j, 0, none⟩ = some c0 ∧ w.cell? ⟨j, 1, none⟩ = some c1 ∧ w.cell? ⟨j, 2, none⟩ = some c2 ∧ w.cell? ⟨j, 3, none⟩ = some c3 ∧ w.cell? ⟨j, 4, none⟩ = some c4) ∧ (w.frozen? ⟨j, 0, none⟩ = false ∧ w.frozen? ⟨j, 1, none⟩ = false ∧ w.frozen? ⟨j, 2, none⟩ = false ∧ w.frozen? ⟨j, 3, none⟩ = false ∧ w.frozen? ⟨j, 4, none⟩ = false) := by
  simp [World.cell?, World.frozen?, h]

set_option maxHeartbeats 2000000 in
set_option maxRecDepth 100000 in
theorem ofc (h : StoreAt B sb p v C n vs Vs w) (id : Int) (hid : 0 ≤ id ∧ id ≤ 18446744073709551615) (hl : Vs.length ≤ 1000000) :
    Calls Try.prog 55 #[.pointer (some ⟨sb, 0, none⟩), .int .u64 id] w (Oft Vs id w) := by
  obtain ⟨c0, c1, c2⟩ := h.cells
  have H := Lib.hid h
  have hlt := lt_of_heap h.blk
  obtain ⟨A, cap, hvs, hcap⟩ := own_any' h.own
  clear h
  by_cases h0 : id < 1
  · have b0 : decide (id < 1) = true := by simpa using h0
    have e1 : okV Vs id = false := by simp [okV]; omega
    have e2 : ofV Vs id = Ver.zero := by unfold ofV; rw [e1]; rfl
    have fin : Oft Vs id w (.returned (.tuple #[.agg ⟨Ver.zero.cells⟩, .bool false])) (w.alloc (.cells #[.int .i64 0, .string ⟨#[]⟩, .string ⟨#[]⟩, .bool false, .int .u64 0] 116)) := ⟨by rw [e1, e2], (Below.refl _ _).alloc (Nat.le_refl _) _⟩
    have fin := Lib.hid fin
    clear e1 e2
    go_enter Try.func55, Try.ntmps55
    go_wp2
    obtain ⟨⟨z0, z1, z2, z3, z4⟩, _⟩ := cell5 (heap_alloc_new w (.cells #[.int .i64 0, .string ⟨#[]⟩, .string ⟨#[]⟩, .bool false, .int .u64 0] 116))
    refine bodyPost_ret (v := .tuple #[.agg ⟨Ver.zero.cells⟩, .bool false]) ?_ rfl fin.out
    generalize (w.alloc (.cells #[.int .i64 0, .string ⟨#[]⟩, .string ⟨#[]⟩, .bool false, .int .u64 0] 116)) = wz at z0 z1 z2 z3 z4 ⊢
    simp [results, Try.results55, go_sem, Ver.zero, Ver.cells, z0, z1, z2, z3, z4]
  have b0 : decide (id < 1) = false := by simpa using h0
  by_cases h1 : (Vs.length : Int) < id
  · have b1 : decide ((Vs.length : Int) < id) = true := by simpa using h1
    have e1 : okV Vs id = false := by simp [okV]; omega
    have e2 : ofV Vs id = Ver.zero := by unfold ofV; rw [e1]; rfl
    have fin : Oft Vs id w (.returned (.tuple #[.agg ⟨Ver.zero.cells⟩, .bool false])) (w.alloc (.cells #[.int .i64 0, .string ⟨#[]⟩, .string ⟨#[]⟩, .bool false, .int .u64 0] 116)) := ⟨by rw [e1, e2], (Below.refl _ _).alloc (Nat.le_refl _) _⟩
    have fin := Lib.hid fin
    clear e1 e2
    subst hvs
    go_enter Try.func55, Try.ntmps55
    go_wp2
    obtain ⟨⟨z0, z1, z2, z3, z4⟩, _⟩ := cell5 (heap_alloc_new w (.cells #[.int .i64 0, .string ⟨#[]⟩, .string ⟨#[]⟩, .bool false, .int .u64 0] 116))
    refine bodyPost_ret (v := .tuple #[.agg ⟨Ver.zero.cells⟩, .bool false]) ?_ rfl fin.out
    generalize (w.alloc (.cells #[.int .i64 0, .string ⟨#[]⟩, .string ⟨#[]⟩, .bool false, .int .u64 0] 116)) = wz at z0 z1 z2 z3 z4 ⊢
    simp [results, Try.results55, go_sem, Ver.zero, Ver.cells, z0, z1, z2, z3, z4]
  · have b1 : decide ((Vs.length : Int) < id) = false := by simpa using h1
    have e1 : okV Vs id = true := by simp [okV]; omega
    obtain ⟨i, rfl⟩ : ∃ i : Nat, id = (i : Int) + 1 := ⟨id.toNat - 1, by omega⟩
    have hi : i < Vs.length := by omega
    have e2 : ofV Vs (i + 1) = Vs.getD i Ver.zero := by unfold ofV; rw [e1]; simp
    obtain ⟨g, rfl, hgl, hcl⟩ : ∃ g, A = some ⟨g, 0, none⟩ ∧ g < w.heap.size ∧ ∀ j, j < 5 → w.cell? ⟨g, i * 5 + j, none⟩ = (Vs.getD i Ver.zero).cells[j]? := by
      have ho := H.out.own
      rw [hvs] at ho
      rcases ho.2 with ⟨hv, h0⟩ | ⟨g, cap', cur, hv, hB, hg, hc, _⟩
      · omega
      · cases hv
        refine ⟨g, rfl, lt_of_heap hg, fun j hj => ?_⟩
        rw [ho.cellAt (i * 5 + j) (by omega), flat_get Vs i j hi hj]
    subst hvs
    generalize hx : Vs.getD i Ver.zero = x at *
    have k0 := hcl 0 (by omega)
    have k1 := hcl 1 (by omega)
    have k2 := hcl 2 (by omega)
    have k3 := hcl 3 (by omega)
    have k4 := hcl 4 (by omega)
    simp [Ver.cells] at k0 k1 k2 k3 k4
    have fin : ∀ w', Below w.heap.size w w' → Oft Vs (i + 1) w (.returned (.tuple #[.agg ⟨x.cells⟩, .bool true])) w' := fun w' hb => ⟨by rw [e1, e2], hb⟩
    have fin := Lib.hid fin
    clear e1 e2 hcl hx
    go_enter Try.func55, Try.ntmps55
    go_wp2
    obtain ⟨⟨z0, z1, z2, z3, z4⟩, _⟩ := cell5 (heap_alloc_new w (.cells #[.int .i64 x.rev, .string x.key, .string x.val, .bool x.del, .int .u64 x.ahead] 116))
    refine bodyPost_ret (v := .tuple #[.agg ⟨x.cells⟩, .bool true]) ?_ rfl (fin.out _ ((Below.refl _ _).alloc (Nat.le_refl _) _))
    generalize (w.alloc (.cells #[.int .i64 x.rev, .string x.key, .string x.val, .bool x.del, .int .u64 x.ahead] 116)) = wz at z0 z1 z2 z3 z4 ⊢
    simp [results, Try.results55, go_sem, Ver.cells, z0, z1, z2, z3, z4]

set_option maxHeartbeats 2000000 in
set_option maxRecDepth 100000 in
theorem rev (h : StoreAt B sb p v C n vs Vs w) (id : Int) (hid : 0 ≤ id ∧ id ≤ 18446744073709551615) (hl : Vs.length ≤ 1000000) :
    Calls Try.prog 31 #[.pointer (some ⟨sb, 0, none⟩), .int .u64 id] w fun e w' => e = .returned (.int .i64 (ofV Vs id).rev) ∧ Below w.heap.size w w' := by
  go_enter Try.func31, Try.ntmps31
  go_wp2_with fail
  refine (ofc h id hid hl).mono ?_
  rintro e w1 ⟨rfl, hb⟩
  have s1 := hb.size
  have hb := Lib.hid hb
  clear h
  generalize okV Vs id = ok
  generalize hx : ofV Vs id = x
  have hx := Lib.hid hx
  rw [agg_cells]
  go_wp2
  go_ret
  exact ⟨by rw [hx.out]; rfl, hb.out.alloc s1 _⟩
end
end Go.Proofs.Ytllibgjajlgnbab.Chain

/- The store: New, Cell, Put, add. -/
import Derived.Test.YtllibgjajlgnbabChain2
namespace Go.Proofs.Ytllibgjajlgnbab.Chain
open Go Go.RowKit Go.Proofs.Ytllibgjajlgnbab.Only Go.Proofs.Ytllibgjajlgnbab.Mem Go.Proofs.Ytllibgjajlgnbab.New
set_option linter.unusedVariables false
set_option linter.unusedSimpArgs false

theorem info_ver : (Try.prog.info? 116).map (fun i => (i.zero, i.size, i.bytes)) = some (some (.agg #[.int .i64 0, .string ⟨#[]⟩, .string ⟨#[]⟩, .bool false, .int .u64 0]), 5, 56) := by kernel_rfl

/-- An event that becomes a version. -/
structure PutS where
  c : Int
  rev : Int
  key : ByteArray
  val : ByteArray
  del : Bool
  last : Int
  seen : Bool
  done : Bool
def PutAt (pb sb : Nat) (P : PutS) (w : World) : Prop :=
  w.heap[pb]? = some (.cells #[.pointer (some ⟨sb, 0, none⟩), .int .i64 P.c, .int .i64 P.rev, .string P.key, .string P.val, .bool P.del, .int .u64 P.last, .bool P.seen, .bool P.done] 120 (0, 0))
def PutS.ver (P : PutS) : Ver := ⟨P.rev, P.key, P.val, P.del, P.last⟩

section
variable {B sb p : Nat} {v : Value} {C : List Int} {n : Int} {vs : Value} {Vs : List Ver} {w : World}

/-- The Mem of a store turned, also its row. -/
theorem StoreAt.mems' {C' : List Int} {n' : Int} {v' : Value} {w' : World} (h : StoreAt B sb p v C n vs Vs w) (m : MemAt B p v' C' n' w') (ho : Only (Foot p v) w w') : StoreAt B sb p v' C' n' vs Vs w' := by
  refine ⟨m, (ho.block _ (lt_of_heap h.blk) h.far).trans h.blk, ⟨h.own.1, ?_⟩, h.base⟩
  rcases h.own.2 with h2 | ⟨g, cap, cur, hg, hB, hgg, r⟩
  · exact .inl h2
  · exact .inr ⟨g, cap, cur, hg, hB, by rw [ho.block g (lt_of_heap hgg) (h.vsf g (by rw [hg]; rfl))]; exact hgg, r⟩

/-- What New leaves. -/
def SMade (B p : Nat) (v : Value) (C : List Int) (n : Int) (w : World) (e : Ending) (w' : World) : Prop :=
  ∃ sb, e = .returned (.pointer (some ⟨sb, 0, none⟩)) ∧ StoreAt B sb p v C n (.slice none 0 0) [] w' ∧ Below w.heap.size w w'

set_option maxRecDepth 100000 in
theorem new (h : MemAt B p v C n w) (hB : B ≤ w.heap.size) :
    Calls Try.prog 30 #[.pointer (some ⟨p, 0, none⟩)] w (SMade B p v C n w) := by
  have hb := (Below.refl w.heap.size w).alloc (Nat.le_refl _) (.cells #[.pointer (some ⟨p, 0, none⟩), .slice none 0 0] 114)
  have fin : SMade B p v C n w (.returned (.pointer (some ⟨w.heap.size, 0, none⟩))) (w.alloc (.cells #[.pointer (some ⟨p, 0, none⟩), .slice none 0 0] 114)) :=
    ⟨_, rfl, ⟨h.below hb, heap_alloc_new _ _, World.ownsRow_nil _ _ _ _, hB⟩, hb⟩
  have fin := Lib.hid fin
  clear h
  go_enter Try.func30, Try.ntmps30
  go_wp2
  go_ret
  exact fin.out

/-- What Cell leaves. -/
def SCell (B sb p : Nat) (v : Value) (C : List Int) (n : Int) (vs : Value) (Vs : List Ver) (w : World) (e : Ending) (w' : World) : Prop :=
  ∃ v', e = .returned (.tuple #[.int .i64 C.length, .int .i64 0]) ∧ StoreAt B sb p v' (C ++ [0]) n vs Vs w' ∧ Only (Foot p v) w w'

set_option maxRecDepth 100000 in
theorem cell (h : StoreAt B sb p v C n vs Vs w) (hB : B ≤ w.heap.size) (hC : C.length + 1 ≤ 65536) :
    Calls Try.prog 28 #[.pointer (some ⟨sb, 0, none⟩)] w (SCell B sb p v C n vs Vs w) := by
  obtain ⟨c0, c1, c2⟩ := h.cells
  have H := Lib.hid h
  clear h
  go_enter Try.func28, Try.ntmps28
  go_wp2_with fail
  refine (Grow.grow H.out.mem hB 1 hC).mono ?_
  rintro e w1 ⟨rfl, v', h1, ho1, hat⟩
  have fin : SCell B sb p v C n vs Vs w (.returned (.tuple #[.int .i64 C.length, .int .i64 0])) w1 := ⟨v', rfl, H.out.mems' h1 ho1, ho1⟩
  have fin := Lib.hid fin
  clear h1 ho1 hat
  go_wp2
  go_ret2
  exact fin.out

/-- What Put leaves. -/
def SPut (sb : Nat) (P : PutS) (w : World) (e : Ending) (w' : World) : Prop :=
  ∃ pb, e = .returned (.pointer (some ⟨pb, 0, none⟩)) ∧ PutAt pb sb P w' ∧ w.heap.size ≤ pb ∧ Below w.heap.size w w'

set_option maxRecDepth 100000 in
theorem put (sb : Nat) (w : World) (c r : Int) (key val : ByteArray) (del : Bool) :
    Calls Try.prog 32 #[.pointer (some ⟨sb, 0, none⟩), .int .i64 c, .agg #[.int .i64 r, .string key, .string val, .bool del]] w (SPut sb ⟨c, r, key, val, del, 0, false, false⟩ w) := by
  have hb := ((Below.refl w.heap.size w).alloc (Nat.le_refl _) (.cells #[.int .i64 r, .string key, .string val, .bool del] 56)).alloc (by simp) (.cells #[.pointer (some ⟨sb, 0, none⟩), .int .i64 c, .int .i64 r, .string key, .string val, .bool del, .int .u64 0, .bool false, .bool false] 120)
  have hn := heap_alloc_new (w.alloc (.cells #[.int .i64 r, .string key, .string val, .bool del] 56)) (.cells #[.pointer (some ⟨sb, 0, none⟩), .int .i64 c, .int .i64 r, .string key, .string val, .bool del, .int .u64 0, .bool false, .bool false] 120)
  rw [show (w.alloc (.cells #[.int .i64 r, .string key, .string val, .bool del] 56)).heap.size = w.heap.size + 1 by simp] at hn
  have fin : SPut sb ⟨c, r, key, val, del, 0, false, false⟩ w (.returned (.pointer (some ⟨w.heap.size + 1, 0, none⟩))) _ := ⟨_, rfl, hn, by omega, hb⟩
  have fin := Lib.hid fin
  clear hb hn
  go_enter Try.func32, Try.ntmps32
  go_wp2
  go_ret
  exact fin.out

/-- What add leaves. -/
def SAdded (B sb p : Nat) (v : Value) (C : List Int) (n : Int) (vs : Value) (Vs : List Ver) (x : Ver) (w : World) (e : Ending) (w' : World) : Prop :=
  ∃ vs', e = .returned (.int .u64 (Vs.length + 1 : Nat)) ∧ StoreAt B sb p v C n vs' (Vs ++ [x]) w' ∧ Only (fun k => k = sb ∨ vs.ownBlock = some k) w w'

set_option maxHeartbeats 2000000 in
set_option maxRecDepth 100000 in
theorem add (h : StoreAt B sb p v C n vs Vs w) (hB : B ≤ w.heap.size) (hl : Vs.length ≤ 1000000) (x : Ver) (f : Nat) (hx : w.heap[f]? = some (.cells #[.int .i64 x.rev, .string x.key, .string x.val, .bool x.del, .int .u64 x.ahead] 116 (0, 0))) :
    Calls Try.prog 56 #[.pointer (some ⟨sb, 0, none⟩), .slice (some ⟨f, 0, none⟩) 1 1] w (SAdded B sb p v C n vs Vs x w) := by
  obtain ⟨i0, hi, hzz⟩ := Option.map_eq_some_iff.1 info_ver
  simp only [Prod.mk.injEq] at hzz
  obtain ⟨hz0, hz1, hz2⟩ := hzz
  obtain ⟨c0, c1, c2⟩ := h.cells
  have hnews : ∀ j u, x.cells[j]? = some u → w.cell? ((⟨f, 0, none⟩ : Addr).add j) = some u := by
    intro j u hj
    have hadd : (⟨f, 0, none⟩ : Addr).add j = ⟨f, j, none⟩ := by unfold Addr.add; split <;> simp_all
    rw [hadd]
    simp only [World.cell?, hx]
    simpa [Ver.cells] using hj
  have hone : ∀ u ∈ x.cells, u.oneCell' = true := by
    intro u hu
    simp [Ver.cells] at hu
    rcases hu with rfl | rfl | rfl | rfl | rfl <;> rfl
  have H := Lib.hid h
  have hnews := Lib.hid hnews
  have hone := Lib.hid hone
  clear h hx
  go_enter Try.func56, Try.ntmps56
  go_wp2_with (at_builtin; refine wpList_append_own_at _ rfl _ _ 112 rfl B 116 i0 (.agg #[.int .i64 0, .string ⟨#[]⟩, .string ⟨#[]⟩, .bool false, .int .u64 0]) 5 56 Try.underlying112 hi hz0 hz1 hz2 rfl (by decide) vs Vs.length (flat Vs) rfl H.out.own ⟨f, 0, none⟩ 1 1 x.cells rfl (by simp [Ver.cells]) hnews.out hone.out (by simp [maxLen]; omega) (by omega) hB ?_)
  intro vs' w4 hown4 hg4 _ hat
  have hblk : w4.heap[sb]? = some (.cells #[.pointer (some ⟨p, 0, none⟩), vs] 114 (0, 0)) := by rw [hg4.block _ (lt_of_heap H.out.blk) (fun e => H.out.vsb e.symm)]; exact H.out.blk
  have ho4 : Only (fun k => k = sb ∨ vs.ownBlock = some k) w w4 := (refl (fun k => k = sb ∨ vs.ownBlock = some k) w).grown hg4 (fun k hk _ => .inr hk)
  have hm4 : MemAt B p v C n w4 := H.out.mem.keep ho4 (fun e => by
      rcases e with e | e
      · exact H.out.far (.inl e.symm)
      · exact H.out.vsf p e (.inl rfl)) (fun k hk e => by
      rcases e with e | e
      · exact H.out.far (.inr (e ▸ hk))
      · exact H.out.vsf k e (.inr hk))
  have hsl : sb < w.heap.size := lt_of_heap H.out.blk
  have hvsb : vs'.ownBlock ≠ some sb := by
    rcases hat with e | e
    · rw [e]; exact H.out.vsb
    · rw [e]; intro e2; cases e2; omega
  have d0 : w4.cell? ⟨sb, 0, none⟩ = some (.pointer (some ⟨p, 0, none⟩)) := by simp [World.cell?, hblk]
  have d1 : w4.cell? ⟨sb, 1, none⟩ = some vs := by simp [World.cell?, hblk]
  have d2 : w4.frozen? ⟨sb, 1, none⟩ = false := by simp [World.frozen?, hblk]
  have hown4 := Lib.hid hown4
  have hfl : flat (Vs ++ [x]) = flat Vs ++ x.cells := by simp [flat]
  obtain ⟨A', cap', hs', hcap'⟩ := own_any' hown4.out
  subst hs'
  have fin : SAdded B sb p v C n vs Vs x w (.returned (.int .u64 (Vs.length + 1 : Nat))) (w4.setCell ⟨sb, 1, none⟩ (.slice A' (Vs.length + 1) cap')) := by
    refine ⟨.slice A' (Vs.length + 1) cap', rfl, ⟨?_, ?_, ?_, H.out.base⟩, ho4.setCell (p := ⟨sb, 1, none⟩) (fun _ => .inl rfl) _⟩
    · refine hm4.keep (S := fun k => k = sb) ((refl (fun k => k = sb) w4).setCell (p := ⟨sb, 1, none⟩) (fun _ => rfl) _) (fun e => H.out.far (.inl e.symm)) (fun k hk e => H.out.far (.inr (e ▸ hk)))
    · simp [World.setCell, Array.getElem?_modify, hblk]
    · have q := hown4.out.kept (w' := w4.setCell ⟨sb, 1, none⟩ (.slice A' (Vs.length + 1) cap')) (row := some sb) ⟨rfl, rfl, rfl, by simp [World.setCell], fun k _ hk => Below.heap_setCell _ _ _ _ (fun e => hk (by simp [e]))⟩ (.inr hvsb)
      rw [hfl]
      simpa using q
  have fin := Lib.hid fin
  clear hg4 hat ho4 hm4 hblk c0 c1 c2 hvsb
  go_wp2
  go_ret
  exact fin.out
end
end Go.Proofs.Ytllibgjajlgnbab.Chain

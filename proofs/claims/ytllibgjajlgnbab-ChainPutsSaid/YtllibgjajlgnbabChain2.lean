/- The store: New, Cell, At, Put, add, Step. -/
import Derived.Test.YtllibgjajlgnbabChain
import Derived.LoopTactic
import Derived.Deep.RegionHeld3
namespace Go.Proofs.Ytllibgjajlgnbab.Chain
open Go Go.RowKit Go.Proofs.Ytllibgjajlgnbab.Only Go.Proofs.Ytllibgjajlgnbab.Mem Go.Proofs.Ytllibgjajlgnbab.New
set_option linter.unusedVariables false
set_option linter.unusedSimpArgs false

/-- What stands at a revision. -/
def atV (Vs : List Ver) (r : Int) : Nat → Int → Option Ver
  | 0, _ => none
  | f + 1, id => if okV Vs id then (if r < (ofV Vs id).rev then atV Vs r f (ofV Vs id).ahead else if (ofV Vs id).del then none else some (ofV Vs id)) else none
def atR (Vs : List Ver) (id r : Int) : Option Ver := atV Vs r (id.toNat + 1) id
def kvOf : Option Ver → Value
  | some x => .agg #[.string x.key, .string x.val, .int .i64 x.rev]
  | none => .agg #[.string ⟨#[]⟩, .string ⟨#[]⟩, .int .i64 0]
/-- Each version stands behind the one ahead of it. -/
def Acyc (Vs : List Ver) : Prop := ∀ id, okV Vs id = true → 0 ≤ (ofV Vs id).ahead ∧ (ofV Vs id).ahead < id
theorem okV_true {Vs : List Ver} {id : Int} : okV Vs id = true ↔ 1 ≤ id ∧ id ≤ Vs.length := by simp [okV]
theorem okV_false {Vs : List Ver} {id : Int} : okV Vs id = false ↔ ¬ (1 ≤ id ∧ id ≤ Vs.length) := by simp [okV]
/-- More fuel than the number is of no use. -/
theorem atV_fuel {Vs : List Ver} (ha : Acyc Vs) (r : Int) : ∀ (f g : Nat) (id : Int), id.toNat < f → id.toNat < g → atV Vs r f id = atV Vs r g id := by
  intro f
  induction f with
  | zero => intro g id h; omega
  | succ f ih =>
    intro g id hf hg
    cases g with
    | zero => omega
    | succ g =>
      unfold atV
      cases ho : okV Vs id with
      | false => rfl
      | true =>
        obtain ⟨h1, h2⟩ := ha id ho
        have h3 := (okV_true.1 ho).1
        simp only [if_true]
        split
        · exact ih g _ (by omega) (by omega)
        · rfl
theorem atR_step {Vs : List Ver} (ha : Acyc Vs) {id r : Int} (ho : okV Vs id = true) : atR Vs id r = if r < (ofV Vs id).rev then atR Vs (ofV Vs id).ahead r else if (ofV Vs id).del then none else some (ofV Vs id) := by
  obtain ⟨h1, h2⟩ := ha id ho
  have h3 := (okV_true.1 ho).1
  unfold atR
  rw [atV, ho]
  simp only [if_true]
  split
  · exact atV_fuel ha r _ _ _ (by omega) (by omega)
  · rfl
theorem atR_none {Vs : List Ver} {id r : Int} (ho : okV Vs id = false) : atR Vs id r = none := by
  unfold atR
  rw [atV, ho]; rfl

/-- What is left to go. -/
def left (c ok : Value) (w : World) : Nat :=
  match ok, c with
  | .bool true, .pointer (some a) => (intOf ((w.cell? ⟨a.block, 4, none⟩).getD (.bool false))).toNat + 1
  | _, _ => 0

section
variable {B sb p : Nat} {v : Value} {C : List Int} {n : Int} {vs : Value} {Vs : List Ver} {w : World}

theorem ofV_range {Vs : List Ver} (hV : ∀ x ∈ Vs, 0 ≤ x.ahead ∧ x.ahead ≤ 18446744073709551615) (id : Int) : 0 ≤ (ofV Vs id).ahead ∧ (ofV Vs id).ahead ≤ 18446744073709551615 := by
  unfold ofV
  split
  · rename_i ho
    obtain ⟨h1, h2⟩ := okV_true.1 ho
    have hi : id.toNat - 1 < Vs.length := by omega
    have e : Vs.getD (id.toNat - 1) Ver.zero = Vs[id.toNat - 1] := by simp [List.getD, hi]
    rw [e]; exact hV _ (List.getElem_mem hi)
  · simp [Ver.zero]

set_option maxHeartbeats 4000000 in
set_option maxRecDepth 100000 in
theorem at_ (h : StoreAt B sb p v C n vs Vs w) (hac : Acyc Vs) (hV : ∀ x ∈ Vs, 0 ≤ x.ahead ∧ x.ahead ≤ 18446744073709551615) (id r : Int) (hid : 0 ≤ id ∧ id ≤ 18446744073709551615) (hr : -9223372036854775808 ≤ r ∧ r ≤ 9223372036854775807) (hl : Vs.length ≤ 1000000) :
    Calls Try.prog 29 #[.pointer (some ⟨sb, 0, none⟩), .int .u64 id, .int .i64 r] w fun e w' => e = .returned (.tuple #[kvOf (atR Vs id r), .bool (atR Vs id r).isSome]) ∧ Below w.heap.size w w' := by
  have hbx := (Below.refl w.heap.size w).alloc (Nat.le_refl _) (.cells #[.string ⟨#[]⟩, .string ⟨#[]⟩, .int .i64 0] 63)
  have h1 := h.below hbx
  have kx := heap_alloc_new w (.cells #[.string ⟨#[]⟩, .string ⟨#[]⟩, .int .i64 0] 63)
  have H1 := Lib.hid h1
  have kx := Lib.hid kx
  have hbx := Lib.hid hbx
  have hV := Lib.hid hV
  have hac := Lib.hid hac
  clear h h1
  go_enter Try.func29, Try.ntmps29
  go_wp2_with fail
  refine (ofc H1.out id hid hl).mono ?_
  rintro e w1 ⟨rfl, hb1⟩
  have s1 := hb1.size
  simp at s1
  have L1 := Lib.hid (H1.out.below hb1)
  have k1 := Lib.hid ((hb1.block _ (lt_of_heap kx.out)).trans kx.out)
  have B1 := Lib.hid (hbx.out.trans (hb1.mono hbx.out.size))
  clear hb1
  generalize hxx : ofV Vs id = x
  rw [agg_cells]
  go_wp2_with fail
  have hj0 := heap_alloc_new w1 (.cells #[.int .i64 x.rev, .string x.key, .string x.val, .bool x.del, .int .u64 x.ahead] 116)
  have L2 := Lib.hid (L1.out.below ((Below.refl _ _).alloc (Nat.le_refl _) (.cells #[.int .i64 x.rev, .string x.key, .string x.val, .bool x.del, .int .u64 x.ahead] 116)))
  have k2 := Lib.hid ((heap_alloc_old w1 (.cells #[.int .i64 x.rev, .string x.key, .string x.val, .bool x.del, .int .u64 x.ahead] 116) (lt_of_heap k1.out)).trans k1.out)
  have B2 := Lib.hid (B1.out.alloc B1.out.size (.cells #[.int .i64 x.rev, .string x.key, .string x.val, .bool x.del, .int .u64 x.ahead] 116))
  rw [← hxx] at hj0
  have hj0 := Lib.hid hj0
  clear k1 L1 kx H1 hbx
  go_loopw [8, 9] (fun c ok wr => ∃ (j : Nat) (cur : Int), c = .pointer (some ⟨j, 0, none⟩) ∧ ok = .bool (okV Vs cur) ∧ w.heap.size < j ∧ 0 ≤ cur ∧ cur ≤ 18446744073709551615 ∧ atR Vs cur r = atR Vs id r ∧ Hid (wr.heap[j]? = some (.cells #[.int .i64 (ofV Vs cur).rev, .string (ofV Vs cur).key, .string (ofV Vs cur).val, .bool (ofV Vs cur).del, .int .u64 (ofV Vs cur).ahead] 116 (0, 0))) ∧ Hid (wr.heap[w.heap.size]? = some (.cells #[.string ⟨#[]⟩, .string ⟨#[]⟩, .int .i64 0] 63 (0, 0))) ∧ Hid (StoreAt B sb p v C n vs Vs wr) ∧ Hid (Below w.heap.size w wr))
    (fun c ok wr => left c ok wr)
  case atStart => exact ⟨w1.heap.size, id, rfl, rfl, by omega, by omega, by omega, rfl, by rw [← hxx]; exact hj0, k2, L2, B2⟩
  case round =>
    clear hj0 k2 L2 B2 hxx
    obtain ⟨j, cur, rfl, rfl, hjw, hcur0, hcur1, hat, hj, k2, L2, B2⟩ := hrel
    replace hat := Lib.hid hat
    have hjl := lt_of_heap hj.out
    have hkl := lt_of_heap k2.out
    obtain ⟨⟨a0, a1, a2, a3, a4⟩, _⟩ := cell5 hj.out
    have kk := k2.out
    have kz : wr.cell? ⟨w.heap.size, 0, none⟩ = some (.string ⟨#[]⟩) ∧ wr.cell? ⟨w.heap.size, 1, none⟩ = some (.string ⟨#[]⟩) ∧ wr.cell? ⟨w.heap.size, 2, none⟩ = some (.int .i64 0) ∧ wr.frozen? ⟨w.heap.size, 0, none⟩ = false ∧ wr.frozen? ⟨w.heap.size, 1, none⟩ = false ∧ wr.frozen? ⟨w.heap.size, 2, none⟩ = false := by simp [World.cell?, World.frozen?, kk]
    obtain ⟨b0, b1, b2, b3, b4, b5⟩ := kz
    clear kk
    have zero : ∀ u0 u1 u2 : Value, (((wr.setCell ⟨w.heap.size, 0, none⟩ u0).setCell ⟨w.heap.size, 1, none⟩ u1).setCell ⟨w.heap.size, 2, none⟩ u2).heap[w.heap.size]? = some (.cells #[u0, u1, u2] 63 (0, 0)) := fun u0 u1 u2 => by
      have kk := k2.out
      simp [World.setCell, Array.getElem?_modify, kk]
    have zb : ∀ u0 u1 u2 : Value, Below w.heap.size w (((wr.setCell ⟨w.heap.size, 0, none⟩ u0).setCell ⟨w.heap.size, 1, none⟩ u1).setCell ⟨w.heap.size, 2, none⟩ u2) := fun u0 u1 u2 => ((B2.out.setCell (by simp) _).setCell (by simp) _).setCell (by simp) _
    have zero := Lib.hid zero
    have zb := Lib.hid zb
    cases ho : okV Vs cur with
    | false =>
      have e : atR Vs id r = none := by rw [← hat.out]; exact atR_none ho
      have e := Lib.hid e
      have ho' := Lib.hid ho
      clear ho
      go_wp2
      have zz := zero.out (.string ⟨#[]⟩) (.string ⟨#[]⟩) (.int .i64 0)
      have zw := zb.out (.string ⟨#[]⟩) (.string ⟨#[]⟩) (.int .i64 0)
      refine bodyPost_ret (v := .tuple #[kvOf none, .bool false]) ?_ rfl ⟨by first | rfl | (rw [e.out]; rfl), zw⟩
      generalize (((wr.setCell ⟨w.heap.size, 0, none⟩ (.string ⟨#[]⟩)).setCell ⟨w.heap.size, 1, none⟩ (.string ⟨#[]⟩)).setCell ⟨w.heap.size, 2, none⟩ (.int .i64 0)) = wz at zz ⊢
      have z0 : wz.cell? ⟨w.heap.size, 0, none⟩ = some (.string ⟨#[]⟩) := by simp [World.cell?, zz]
      have z1 : wz.cell? ⟨w.heap.size, 1, none⟩ = some (.string ⟨#[]⟩) := by simp [World.cell?, zz]
      have z2 : wz.cell? ⟨w.heap.size, 2, none⟩ = some (.int .i64 0) := by simp [World.cell?, zz]
      simp [results, Try.results29, go_sem, kvOf, z0, z1, z2]
    | true =>
      have e := atR_step hac.out (r := r) ho
      rw [hat.out] at e
      have ha := hac.out cur ho
      have hac' := hac.out
      have ho' := Lib.hid ho
      cases hc : decide (r < (ofV Vs cur).rev) with
      | true =>
        have hc' := of_decide_eq_true hc
        rw [if_pos hc'] at e
        have e := Lib.hid e
        clear ho hc'
        generalize hx : ofV Vs cur = x at *
        have hx := Lib.hid hx
        have hbw := (Below.refl wr.heap.size wr).alloc (Nat.le_refl _) (.cells #[.int .i64 x.rev, .string x.key, .string x.val, .bool x.del, .int .u64 x.ahead] 116)
        have L3 := Lib.hid (L2.out.below hbw)
        have hnew := Lib.hid (heap_alloc_new wr (.cells #[.int .i64 x.rev, .string x.key, .string x.val, .bool x.del, .int .u64 x.ahead] 116))
        have k3 := Lib.hid ((hbw.block _ hkl).trans k2.out)
        have B3 := Lib.hid (B2.out.trans (hbw.mono B2.out.size))
        clear hbw hac'
        go_wp2_with fail
        refine (ofc L3.out x.ahead (by omega) hl).mono ?_
        rintro e' w5 ⟨rfl, hb5⟩
        rw [agg_cells]
        have L5 := Lib.hid (L3.out.below hb5)
        have k5 := (hb5.block _ (lt_of_heap k3.out)).trans k3.out
        have n5 := (hb5.block _ (lt_of_heap hnew.out)).trans hnew.out
        have B5 := Lib.hid (B3.out.trans (hb5.mono B3.out.size))
        obtain ⟨⟨d0, d1, d2, d3, d4⟩, d5, d6, d7, d8, d9⟩ := cell5 n5
        have hn5 := lt_of_heap n5
        have ha2 : okV Vs x.ahead = true → 0 ≤ (ofV Vs x.ahead).ahead ∧ (ofV Vs x.ahead).ahead < x.ahead := hac.out x.ahead
        have ha2 := Lib.hid ha2
        clear hb5 a0 a1 a2 a3 b0 b1 b2 b3 b4 b5
        have hput : ∀ u0 u1 u2 u3 u4 : Value, (((((w5.setCell ⟨wr.heap.size, 0, none⟩ u0).setCell ⟨wr.heap.size, 1, none⟩ u1).setCell ⟨wr.heap.size, 2, none⟩ u2).setCell ⟨wr.heap.size, 3, none⟩ u3).setCell ⟨wr.heap.size, 4, none⟩ u4).heap[wr.heap.size]? = some (.cells #[u0, u1, u2, u3, u4] 116 (0, 0)) := fun u0 u1 u2 u3 u4 => by
          simp [World.setCell, Array.getElem?_modify, n5]
        have hone : ∀ u0 u1 u2 u3 u4 : Value, Only (fun k => k = wr.heap.size) w5 (((((w5.setCell ⟨wr.heap.size, 0, none⟩ u0).setCell ⟨wr.heap.size, 1, none⟩ u1).setCell ⟨wr.heap.size, 2, none⟩ u2).setCell ⟨wr.heap.size, 3, none⟩ u3).setCell ⟨wr.heap.size, 4, none⟩ u4) := fun u0 u1 u2 u3 u4 =>
          (((((refl (fun k => k = wr.heap.size) w5).setCell (p := ⟨wr.heap.size, 0, none⟩) (fun _ => rfl) u0).setCell (p := ⟨wr.heap.size, 1, none⟩) (fun _ => rfl) u1).setCell (p := ⟨wr.heap.size, 2, none⟩) (fun _ => rfl) u2).setCell (p := ⟨wr.heap.size, 3, none⟩) (fun _ => rfl) u3).setCell (p := ⟨wr.heap.size, 4, none⟩) (fun _ => rfl) u4
        have hput := Lib.hid hput
        have hone := Lib.hid hone
        have hfar : ∀ k, SFoot sb p v vs k → k < wr.heap.size := fun k hk => L2.out.lt k hk
        have hfar := Lib.hid hfar
        have k5 := Lib.hid k5
        generalize hy : ofV Vs x.ahead = y at *
        generalize hoy : okV Vs x.ahead = oy at *
        have hy := Lib.hid hy
        have hoy := Lib.hid hoy
        clear n5
        go_wp2
        go_roundw
        case rel =>
          have hO := hone.out (.int .i64 y.rev) (.string y.key) (.string y.val) (.bool y.del) (.int .u64 y.ahead)
          refine ⟨wr.heap.size, x.ahead, rfl, by rw [hoy.out], by omega, by omega, by omega, e.out.symm, ?_, ?_, ?_, ?_⟩
          · rw [hy.out]; exact Lib.hid (hput.out _ _ _ _ _)
          · exact Lib.hid ((hO.block _ (lt_of_heap k5.out) (fun e => by have e : w.heap.size = wr.heap.size := e; omega)).trans k5.out)
          · exact Lib.hid (L5.out.keep hO (fun k hk e => by have := hfar.out k hk; have e : k = wr.heap.size := e; omega))
          · exact Lib.hid (B5.out.trans (hO.toBelow _ B5.out.size (fun k _ e => by have e : k = wr.heap.size := e; omega)))
        case measure =>
          have hP := hput.out (.int .i64 y.rev) (.string y.key) (.string y.val) (.bool y.del) (.int .u64 y.ahead)
          have h4 : ((((((w5.setCell ⟨wr.heap.size, 0, none⟩ (.int .i64 y.rev)).setCell ⟨wr.heap.size, 1, none⟩ (.string y.key)).setCell ⟨wr.heap.size, 2, none⟩ (.string y.val)).setCell ⟨wr.heap.size, 3, none⟩ (.bool y.del)).setCell ⟨wr.heap.size, 4, none⟩ (.int .u64 y.ahead))).cell? ⟨wr.heap.size, 4, none⟩ = some (.int .u64 y.ahead) := by simp [World.cell?, hP]
          have h5 := ha2.out
          unfold left
          try rw [ho'.out]
          cases oy with
          | false => simp [a4, intOf]
          | true =>
            have h6 := h5 rfl
            simp [h4, a4, intOf]
            omega
      | false =>
        have hc' := of_decide_eq_false hc
        rw [if_neg hc'] at e
        clear hc' ho
        cases hd : (ofV Vs cur).del with
        | true =>
          rw [hd] at e a3
          have e := Lib.hid e
          clear hd
          go_wp2
          have zz := zero.out (.string ⟨#[]⟩) (.string ⟨#[]⟩) (.int .i64 0)
          have zw := zb.out (.string ⟨#[]⟩) (.string ⟨#[]⟩) (.int .i64 0)
          refine bodyPost_ret (v := .tuple #[kvOf none, .bool false]) ?_ rfl ⟨by first | rfl | (rw [e.out]; rfl), zw⟩
          generalize (((wr.setCell ⟨w.heap.size, 0, none⟩ (.string ⟨#[]⟩)).setCell ⟨w.heap.size, 1, none⟩ (.string ⟨#[]⟩)).setCell ⟨w.heap.size, 2, none⟩ (.int .i64 0)) = wz at zz ⊢
          have z0 : wz.cell? ⟨w.heap.size, 0, none⟩ = some (.string ⟨#[]⟩) := by simp [World.cell?, zz]
          have z1 : wz.cell? ⟨w.heap.size, 1, none⟩ = some (.string ⟨#[]⟩) := by simp [World.cell?, zz]
          have z2 : wz.cell? ⟨w.heap.size, 2, none⟩ = some (.int .i64 0) := by simp [World.cell?, zz]
          simp [results, Try.results29, go_sem, kvOf, z0, z1, z2]
        | false =>
          rw [hd] at e a3
          have e := Lib.hid e
          clear hd
          go_wp2
          have zz := zero.out (.string (ofV Vs cur).key) (.string (ofV Vs cur).val) (.int .i64 (ofV Vs cur).rev)
          have zw := zb.out (.string (ofV Vs cur).key) (.string (ofV Vs cur).val) (.int .i64 (ofV Vs cur).rev)
          refine bodyPost_ret (v := .tuple #[kvOf (some (ofV Vs cur)), .bool true]) ?_ rfl ⟨by first | rfl | (rw [e.out]; rfl), zw⟩
          generalize (((wr.setCell ⟨w.heap.size, 0, none⟩ (.string (ofV Vs cur).key)).setCell ⟨w.heap.size, 1, none⟩ (.string (ofV Vs cur).val)).setCell ⟨w.heap.size, 2, none⟩ (.int .i64 (ofV Vs cur).rev)) = wz at zz ⊢
          have z0 : wz.cell? ⟨w.heap.size, 0, none⟩ = some (.string (ofV Vs cur).key) := by simp [World.cell?, zz]
          have z1 : wz.cell? ⟨w.heap.size, 1, none⟩ = some (.string (ofV Vs cur).val) := by simp [World.cell?, zz]
          have z2 : wz.cell? ⟨w.heap.size, 2, none⟩ = some (.int .i64 (ofV Vs cur).rev) := by simp [World.cell?, zz]
          simp [results, Try.results29, go_sem, kvOf, z0, z1, z2]
end
end Go.Proofs.Ytllibgjajlgnbab.Chain

/- The reference's versions: Rev, At. -/
import Derived.Test.YtllibgjajlgnbabChain8
namespace Go.Proofs.Ytllibgjajlgnbab.Ref17
open Go Go.RowKit Go.Proofs.Ytllibgjajlgnbab.Only Go.Proofs.Ytllibgjajlgnbab.Mem Go.Proofs.Ytllibgjajlgnbab.New Go.Proofs.Ytllibgjajlgnbab.Chain
set_option linter.unusedVariables false
set_option linter.unusedSimpArgs false

def evs (x : Ver) : List Value := [.int .i64 x.rev, .string x.key, .string x.val, .bool x.del]
def flatE (Vs : List Ver) : List Value := Vs.flatMap evs
theorem flatE_get (Vs : List Ver) (i j : Nat) (hi : i < Vs.length) (hj : j < 4) : (flatE Vs)[i * 4 + j]? = (evs (Vs.getD i Ver.zero))[j]? := by
  unfold flatE
  induction Vs generalizing i with
  | nil => simp at hi
  | cons x t ih =>
    rw [List.flatMap_cons]
    cases i with
    | zero => rw [List.getElem?_append_left (by simp [evs]; omega)]; simp [List.getD]
    | succ i =>
      rw [List.getElem?_append_right (by simp [evs]; omega)]
      have := ih i (by simpa using hi)
      rw [show (i + 1) * 4 + j - (evs x).length = i * 4 + j by simp [evs]; omega, this]
      simp [List.getD]
/-- The reference's store: its events, and what stands ahead. -/
structure RefS (B : Nat) (sE sA : Value) (Vs : List Ver) (w : World) : Prop where
  e : w.ownsRow B 56 4 sE Vs.length (flatE Vs)
  a : w.ownsRow B 3 1 sA Vs.length (Vs.map (fun x => Value.int .i64 x.ahead))
theorem own_keep {S : Nat → Prop} {B : Nat} {T : TypeId} {size n : Nat} {v : Value} {xs : List Value} {w w' : World} (h : w.ownsRow B T size v n xs) (ho : Only S w w') (hS : ∀ k, v.ownBlock = some k → ¬ S k) : w'.ownsRow B T size v n xs := by
  refine ⟨h.1, ?_⟩
  rcases h.2 with h2 | ⟨g, cap, cur, hg, hB, hgg, r⟩
  · exact .inl h2
  · exact .inr ⟨g, cap, cur, hg, hB, by rw [ho.block g (lt_of_heap hgg) (hS g (by rw [hg]; rfl))]; exact hgg, r⟩
theorem RefS.below {B : Nat} {sE sA : Value} {Vs : List Ver} {w w' : World} (h : RefS B sE sA Vs w) (hb : Below w.heap.size w w') : RefS B sE sA Vs w' :=
  ⟨own_keep h.e (S := fun _ => False) (ofBelow hb) (fun _ _ x => x), own_keep h.a (S := fun _ => False) (ofBelow hb) (fun _ _ x => x)⟩
/-- The cells of a version of the reference. -/
theorem refCells {B : Nat} {sE sA : Value} {Vs : List Ver} {w : World} (h : RefS B sE sA Vs w) (i : Nat) (hi : i < Vs.length) :
    ∃ g cap f cap', sE = .slice (some ⟨g, 0, none⟩) Vs.length cap ∧ sA = .slice (some ⟨f, 0, none⟩) Vs.length cap' ∧ g < w.heap.size ∧ f < w.heap.size ∧ w.cell? ⟨g, i * 4, none⟩ = some (.int .i64 (Vs.getD i Ver.zero).rev) ∧ w.cell? ⟨g, i * 4 + 1, none⟩ = some (.string (Vs.getD i Ver.zero).key) ∧ w.cell? ⟨g, i * 4 + 2, none⟩ = some (.string (Vs.getD i Ver.zero).val) ∧ w.cell? ⟨g, i * 4 + 3, none⟩ = some (.bool (Vs.getD i Ver.zero).del) ∧ w.cell? ⟨f, i, none⟩ = some (.int .i64 (Vs.getD i Ver.zero).ahead) := by
  rcases h.e.2 with ⟨_, h0⟩ | ⟨g, cap, cur, hv, hB, hg, hc, _⟩
  · omega
  rcases h.a.2 with ⟨_, h0⟩ | ⟨f, cap', cur', hv', hB', hg', hc', _⟩
  · omega
  have he := h.e
  have ha := h.a
  rw [hv] at he
  rw [hv'] at ha
  have c : ∀ j, j < 4 → w.cell? ⟨g, i * 4 + j, none⟩ = (evs (Vs.getD i Ver.zero))[j]? := fun j hj => by
    rw [he.cellAt (i * 4 + j) (by omega), flatE_get Vs i j hi hj]
  have d : w.cell? ⟨f, i, none⟩ = some (.int .i64 (Vs.getD i Ver.zero).ahead) := by
    rw [ha.cellAt i (by omega)]
    simp [List.getD, hi]
  exact ⟨g, cap, f, cap', hv, hv', lt_of_heap hg, lt_of_heap hg', by simpa [evs] using c 0 (by omega), by simpa [evs] using c 1 (by omega), by simpa [evs] using c 2 (by omega), by simpa [evs] using c 3 (by omega), d⟩

set_option maxHeartbeats 2000000 in
set_option maxRecDepth 100000 in
theorem rrev {B : Nat} {sE sA : Value} {Vs : List Ver} {w : World} (h : RefS B sE sA Vs w) (id : Int) (hid : -9223372036854775808 ≤ id ∧ id ≤ 9223372036854775807) (hl : Vs.length ≤ 1000000) :
    Calls Try.prog 36 #[.agg #[sE, sA], .int .i64 id] w fun e w' => e = .returned (.int .i64 (ofV Vs id).rev) ∧ Below w.heap.size w w' := by
  have hb := Lib.hid (al9 w (.cells #[sE, sA] 78))
  obtain ⟨A, cap, rfl, hcap⟩ := own_any' h.e
  obtain ⟨A2, cap2, rfl, hcap2⟩ := own_any' h.a
  by_cases h0 : id < 1
  · have b0 : decide (id < 1) = true := by simpa using h0
    have e2 : ofV Vs id = Ver.zero := by unfold ofV; rw [show okV Vs id = false by simp [okV]; omega]; rfl
    rw [e2]
    clear h
    go_enter Try.func36, Try.ntmps36
    go_wp2
    go_ret
    exact ⟨rfl, hb.out⟩
  have b0 : decide (id < 1) = false := by simpa using h0
  by_cases h1 : (Vs.length : Int) < id
  · have b1 : decide ((Vs.length : Int) < id) = true := by simpa using h1
    have e2 : ofV Vs id = Ver.zero := by unfold ofV; rw [show okV Vs id = false by simp [okV]; omega]; rfl
    rw [e2]
    clear h
    go_enter Try.func36, Try.ntmps36
    go_wp2
    go_ret
    exact ⟨rfl, hb.out⟩
  · have b1 : decide ((Vs.length : Int) < id) = false := by simpa using h1
    obtain ⟨i, rfl⟩ : ∃ i : Nat, id = (i : Int) + 1 := ⟨id.toNat - 1, by omega⟩
    have hi : i < Vs.length := by omega
    have e2 : ofV Vs (i + 1) = Vs.getD i Ver.zero := by unfold ofV; rw [show okV Vs (i + 1) = true by simp [okV]; omega]; simp
    rw [e2]
    obtain ⟨g, c1, f, c2, hv1, hv2, hg, hf, k0, k1, k2, k3, k4⟩ := refCells h i hi
    injection hv1 with p1 p2 p3
    subst p1
    subst p3
    generalize Vs.getD i Ver.zero = x at *
    clear h e2
    go_enter Try.func36, Try.ntmps36
    go_wp2
    go_ret
    exact ⟨rfl, hb.out⟩
set_option maxHeartbeats 4000000 in
set_option maxRecDepth 20000 in
theorem rat {B : Nat} {sE sA : Value} {Vs : List Ver} {w : World} (h : RefS B sE sA Vs w) (hac : Acyc Vs) (id r : Int) (hid : -9223372036854775808 ≤ id ∧ id ≤ 9223372036854775807) (hr : -9223372036854775808 ≤ r ∧ r ≤ 9223372036854775807) (hl : Vs.length ≤ 1000000) :
    Calls Try.prog 39 #[.agg #[sE, sA], .int .i64 id, .int .i64 r] w fun e w' => e = .returned (.tuple #[kvOf (atR Vs id r), .bool (atR Vs id r).isSome]) ∧ Below w.heap.size w w' := by
  obtain ⟨A, cap, rfl, hcap⟩ := own_any' h.e
  obtain ⟨A2, cap2, rfl, hcap2⟩ := own_any' h.a
  have hb1 := al9 w (.cells #[.slice A Vs.length cap, .slice A2 Vs.length cap2] 78)
  have hb2 := hb1.trans ((al9 (w.alloc (.cells #[.slice A Vs.length cap, .slice A2 Vs.length cap2] 78)) (.cells #[.string ⟨#[]⟩, .string ⟨#[]⟩, .int .i64 0] 63)).mono hb1.size)
  have x2 := (heap_alloc_old (w.alloc (.cells #[.slice A Vs.length cap, .slice A2 Vs.length cap2] 78)) (.cells #[.string ⟨#[]⟩, .string ⟨#[]⟩, .int .i64 0] 63) (by simp)).trans (heap_alloc_new w (.cells #[.slice A Vs.length cap, .slice A2 Vs.length cap2] 78))
  have kx : ((w.alloc (.cells #[.slice A Vs.length cap, .slice A2 Vs.length cap2] 78)).alloc (.cells #[.string ⟨#[]⟩, .string ⟨#[]⟩, .int .i64 0] 63)).heap[w.heap.size + 1]? = some (.cells #[.string ⟨#[]⟩, .string ⟨#[]⟩, .int .i64 0] 63 (0, 0)) := by
    have := heap_alloc_new (w.alloc (.cells #[.slice A Vs.length cap, .slice A2 Vs.length cap2] 78)) (.cells #[.string ⟨#[]⟩, .string ⟨#[]⟩, .int .i64 0] 63)
    simpa using this
  have h2 := Lib.hid (h.below hb2)
  have hb2 := Lib.hid hb2
  have x2 := Lib.hid x2
  have kx := Lib.hid kx
  have hac := Lib.hid hac
  clear h hb1
  go_enter Try.func39, Try.ntmps39
  go_wp2_with fail
  generalize ((w.alloc (.cells #[.slice A Vs.length cap, .slice A2 Vs.length cap2] 78)).alloc (.cells #[.string ⟨#[]⟩, .string ⟨#[]⟩, .int .i64 0] 63)) = w2 at *
  go_loopw [1] (fun i wr => ∃ (cur : Int), i = .int .i64 cur ∧ -9223372036854775808 ≤ cur ∧ cur ≤ 9223372036854775807 ∧ atR Vs cur r = atR Vs id r ∧ Hid (wr.heap[w.heap.size]? = some (.cells #[.slice A Vs.length cap, .slice A2 Vs.length cap2] 78 (0, 0))) ∧ Hid (wr.heap[w.heap.size + 1]? = some (.cells #[.string ⟨#[]⟩, .string ⟨#[]⟩, .int .i64 0] 63 (0, 0))) ∧ Hid (RefS B (.slice A Vs.length cap) (.slice A2 Vs.length cap2) Vs wr) ∧ Hid (Below w.heap.size w wr))
    (fun i _ => (intOf i).toNat)
  case atStart => exact ⟨id, rfl, by omega, by omega, rfl, x2, kx, h2, hb2⟩
  case round =>
    clear h2 hb2 x2 kx
    obtain ⟨cur, rfl, hc0, hc1, hat, x2, kx, h2, hb⟩ := hrel
    replace hat := Lib.hid hat
    have hxl := lt_of_heap kx.out
    obtain ⟨a0, a1⟩ : wr.cell? ⟨w.heap.size, 0, none⟩ = some (.slice A Vs.length cap) ∧ wr.cell? ⟨w.heap.size, 1, none⟩ = some (.slice A2 Vs.length cap2) := by
      have := x2.out
      simp [World.cell?, this]
    obtain ⟨b0, b1, b2, b3, b4, b5⟩ : wr.cell? ⟨w.heap.size + 1, 0, none⟩ = some (.string ⟨#[]⟩) ∧ wr.cell? ⟨w.heap.size + 1, 1, none⟩ = some (.string ⟨#[]⟩) ∧ wr.cell? ⟨w.heap.size + 1, 2, none⟩ = some (.int .i64 0) ∧ wr.frozen? ⟨w.heap.size + 1, 0, none⟩ = false ∧ wr.frozen? ⟨w.heap.size + 1, 1, none⟩ = false ∧ wr.frozen? ⟨w.heap.size + 1, 2, none⟩ = false := by
      have kk := kx.out
      simp [World.cell?, World.frozen?, kk]
    cases ho : okV Vs cur with
    | false =>
      have e := Lib.hid (show atR Vs id r = none by rw [← hat.out]; exact atR_none ho)
      have hno := okV_false.1 ho
      have zero : ∀ u0 u1 u2 : Value, (((wr.setCell ⟨w.heap.size + 1, 0, none⟩ u0).setCell ⟨w.heap.size + 1, 1, none⟩ u1).setCell ⟨w.heap.size + 1, 2, none⟩ u2).heap[w.heap.size + 1]? = some (.cells #[u0, u1, u2] 63 (0, 0)) := fun u0 u1 u2 => by
        have kk := kx.out
        simp [World.setCell, Array.getElem?_modify, kk]
      have zb : ∀ u0 u1 u2 : Value, Below w.heap.size w (((wr.setCell ⟨w.heap.size + 1, 0, none⟩ u0).setCell ⟨w.heap.size + 1, 1, none⟩ u1).setCell ⟨w.heap.size + 1, 2, none⟩ u2) := fun u0 u1 u2 => ((hb.out.setCell (by simp) _).setCell (by simp) _).setCell (by simp) _
      have zero := Lib.hid zero
      have zb := Lib.hid zb
      have hcs : decide (1 ≤ cur) = false ∨ (decide (1 ≤ cur) = true ∧ decide (cur ≤ (Vs.length : Int)) = false) := by
        by_cases h1 : 1 ≤ cur
        · exact .inr ⟨by simpa using h1, by simp; omega⟩
        · exact .inl (by simpa using h1)
      clear ho
      rcases hcs with c1 | ⟨c1, c2⟩
      all_goals
        go_wp2
        have zz := zero.out (.string ⟨#[]⟩) (.string ⟨#[]⟩) (.int .i64 0)
        have zw := zb.out (.string ⟨#[]⟩) (.string ⟨#[]⟩) (.int .i64 0)
        refine bodyPost_ret (v := .tuple #[kvOf none, .bool false]) ?_ rfl ⟨by first | rfl | (rw [e.out]; rfl), zw⟩
        generalize (((wr.setCell ⟨w.heap.size + 1, 0, none⟩ (.string ⟨#[]⟩)).setCell ⟨w.heap.size + 1, 1, none⟩ (.string ⟨#[]⟩)).setCell ⟨w.heap.size + 1, 2, none⟩ (.int .i64 0)) = wz at zz ⊢
        have z0 : wz.cell? ⟨w.heap.size + 1, 0, none⟩ = some (.string ⟨#[]⟩) := by simp [World.cell?, zz]
        have z1 : wz.cell? ⟨w.heap.size + 1, 1, none⟩ = some (.string ⟨#[]⟩) := by simp [World.cell?, zz]
        have z2 : wz.cell? ⟨w.heap.size + 1, 2, none⟩ = some (.int .i64 0) := by simp [World.cell?, zz]
        simp [results, Try.results39, go_sem, kvOf, z0, z1, z2]
    | true =>
      have e := atR_step hac.out (r := r) ho
      rw [hat.out] at e
      have ha := hac.out cur ho
      obtain ⟨o1, o2⟩ := okV_true.1 ho
      have c1 : decide (1 ≤ cur) = true := by simpa using o1
      have c2 : decide (cur ≤ (Vs.length : Int)) = true := by simpa using o2
      obtain ⟨i, rfl⟩ : ∃ i : Nat, cur = (i : Int) + 1 := ⟨cur.toNat - 1, by omega⟩
      have hi : i < Vs.length := by omega
      have e2 : ofV Vs (i + 1) = Vs.getD i Ver.zero := by unfold ofV; rw [show okV Vs (i + 1) = true from ho]; simp
      rw [e2] at e ha
      obtain ⟨g, c3, f, c4, hv1, hv2, hg, hf, k0, k1, k2, k3, k4⟩ := refCells h2.out i hi
      injection hv1 with p1 p2 p3
      injection hv2 with p4 p5 p6
      subst p1
      subst p4
      subst p3
      subst p6
      generalize Vs.getD i Ver.zero = x at *
      have hbx := al9 wr (.cells #[.int .i64 x.rev, .string x.key, .string x.val, .bool x.del] 56)
      have x9 := (heap_alloc_old wr (.cells #[.int .i64 x.rev, .string x.key, .string x.val, .bool x.del] 56) (lt_of_heap x2.out)).trans x2.out
      have k9 := (heap_alloc_old wr (.cells #[.int .i64 x.rev, .string x.key, .string x.val, .bool x.del] 56) (lt_of_heap kx.out)).trans kx.out
      have h9 := Lib.hid (h2.out.below hbx)
      have B9 := Lib.hid (hb.out.trans (hbx.mono hb.out.size))
      have zero : ∀ (u0 u1 u2 : Value) (o : Obj), ((((wr.setCell ⟨w.heap.size + 1, 0, none⟩ u0).setCell ⟨w.heap.size + 1, 1, none⟩ u1).setCell ⟨w.heap.size + 1, 2, none⟩ u2).alloc o).heap[w.heap.size + 1]? = some (.cells #[u0, u1, u2] 63 (0, 0)) := fun u0 u1 u2 o => by
        have kk := kx.out
        rw [heap_alloc_old _ _ (by simpa [World.setCell] using hxl)]
        simp [World.setCell, Array.getElem?_modify, kk]
      have zb : ∀ (u0 u1 u2 : Value) (o : Obj), Below w.heap.size w ((((wr.setCell ⟨w.heap.size + 1, 0, none⟩ u0).setCell ⟨w.heap.size + 1, 1, none⟩ u1).setCell ⟨w.heap.size + 1, 2, none⟩ u2).alloc o) := fun u0 u1 u2 o => by
        have q := ((hb.out.setCell (p := ⟨w.heap.size + 1, 0, none⟩) (by simp) u0).setCell (p := ⟨w.heap.size + 1, 1, none⟩) (by simp) u1).setCell (p := ⟨w.heap.size + 1, 2, none⟩) (by simp) u2
        exact q.alloc q.size _
      have zero := Lib.hid zero
      have zb := Lib.hid zb
      have x9 := Lib.hid x9
      have k9 := Lib.hid k9
      clear ho e2 hbx
      cases hc : decide (x.rev ≤ r) with
      | false =>
        have hc' := of_decide_eq_false hc
        rw [if_pos (by omega)] at e
        replace e := Lib.hid e
        have ha' := Lib.hid ha
        have hxa := ha.1
        have hxb : x.ahead ≤ 9223372036854775807 := by omega
        replace ha := Lib.hid ha
        replace hi := Lib.hid hi
        have hcc : (-9223372036854775808 ≤ (i : Int) + 1 ∧ (i : Int) + 1 ≤ 9223372036854775807) ∧ i < Vs.length ∧ Vs.length ≤ 1000000 := ⟨⟨hc0, hc1⟩, hi.out, hl⟩
        have hxc : 0 ≤ x.ahead ∧ x.ahead ≤ 9223372036854775807 := ⟨hxa, hxb⟩
        have y1 : (wr.alloc (.cells #[.int .i64 x.rev, .string x.key, .string x.val, .bool x.del] 56)).cell? ⟨w.heap.size, 1, none⟩ = some (.slice (some ⟨f, 0, none⟩) Vs.length cap2) := by
          have := x9.out
          simp [World.cell?, this]
        have y2 : (wr.alloc (.cells #[.int .i64 x.rev, .string x.key, .string x.val, .bool x.del] 56)).cell? ⟨f, i, none⟩ = some (.int .i64 x.ahead) := ((al9 wr (.cells #[.int .i64 x.rev, .string x.key, .string x.val, .bool x.del] 56)).cell hf).trans k4
        have hxw : w.heap.size < wr.heap.size := by omega
        clear hc' zero zb o1 o2 p2 p5 b0 b1 b2 b3 b4 b5 hc0 hc1 ha' hxb hxa
        go_wp2
        go_roundw
        case rel => exact ⟨x.ahead, rfl, by omega, by omega, e.out.symm, x9, k9, h9, B9⟩
        case measure => have := ha.out; simp [intOf]; omega
      | true =>
        have hc' := of_decide_eq_true hc
        rw [if_neg (by omega)] at e
        cases hd : x.del with
        | true =>
          rw [hd] at e k3
          have e := Lib.hid e
          go_wp2
          have zz := zero.out (.string ⟨#[]⟩) (.string ⟨#[]⟩) (.int .i64 0) (.cells #[.int .i64 x.rev, .string x.key, .string x.val, .bool true] 56)
          have zw := zb.out (.string ⟨#[]⟩) (.string ⟨#[]⟩) (.int .i64 0) (.cells #[.int .i64 x.rev, .string x.key, .string x.val, .bool true] 56)
          refine bodyPost_ret (v := .tuple #[kvOf none, .bool false]) ?_ rfl ⟨by first | rfl | (rw [e.out]; rfl), zw⟩
          generalize ((((wr.setCell ⟨w.heap.size + 1, 0, none⟩ (.string ⟨#[]⟩)).setCell ⟨w.heap.size + 1, 1, none⟩ (.string ⟨#[]⟩)).setCell ⟨w.heap.size + 1, 2, none⟩ (.int .i64 0)).alloc (.cells #[.int .i64 x.rev, .string x.key, .string x.val, .bool true] 56)) = wz at zz ⊢
          have z0 : wz.cell? ⟨w.heap.size + 1, 0, none⟩ = some (.string ⟨#[]⟩) := by simp [World.cell?, zz]
          have z1 : wz.cell? ⟨w.heap.size + 1, 1, none⟩ = some (.string ⟨#[]⟩) := by simp [World.cell?, zz]
          have z2 : wz.cell? ⟨w.heap.size + 1, 2, none⟩ = some (.int .i64 0) := by simp [World.cell?, zz]
          simp [results, Try.results39, go_sem, kvOf, z0, z1, z2]
        | false =>
          rw [hd] at e k3
          have e := Lib.hid e
          go_wp2
          have zz := zero.out (.string x.key) (.string x.val) (.int .i64 x.rev) (.cells #[.int .i64 x.rev, .string x.key, .string x.val, .bool false] 56)
          have zw := zb.out (.string x.key) (.string x.val) (.int .i64 x.rev) (.cells #[.int .i64 x.rev, .string x.key, .string x.val, .bool false] 56)
          refine bodyPost_ret (v := .tuple #[kvOf (some x), .bool true]) ?_ rfl ⟨by first | rfl | (rw [e.out]; rfl), zw⟩
          generalize ((((wr.setCell ⟨w.heap.size + 1, 0, none⟩ (.string x.key)).setCell ⟨w.heap.size + 1, 1, none⟩ (.string x.val)).setCell ⟨w.heap.size + 1, 2, none⟩ (.int .i64 x.rev)).alloc (.cells #[.int .i64 x.rev, .string x.key, .string x.val, .bool false] 56)) = wz at zz ⊢
          have z0 : wz.cell? ⟨w.heap.size + 1, 0, none⟩ = some (.string x.key) := by simp [World.cell?, zz]
          have z1 : wz.cell? ⟨w.heap.size + 1, 1, none⟩ = some (.string x.val) := by simp [World.cell?, zz]
          have z2 : wz.cell? ⟨w.heap.size + 1, 2, none⟩ = some (.int .i64 x.rev) := by simp [World.cell?, zz]
          simp [results, Try.results39, go_sem, kvOf, z0, z1, z2]
end Go.Proofs.Ytllibgjajlgnbab.Ref17

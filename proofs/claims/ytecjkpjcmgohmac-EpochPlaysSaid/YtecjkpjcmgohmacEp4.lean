/- A pool: Left, Advance. -/
import Derived.Test.YtecjkpjcmgohmacEp3
import Derived.Test.YtecjkpjcmgohmacShelf
import Derived.LoopTactic
namespace Go.Proofs.Ytecjkpjcmgohmac.Ep
open Go Go.RowKit Go.Maps Go.Proofs.Ytecjkpjcmgohmac.Only
set_option linter.unusedVariables false
set_option linter.unusedSimpArgs false

def sumL (G : List Grp) : Nat := (G.map (fun g => g.xs.length)).sum
def visit (G : List Grp) (left : Lit → Bool) : Nat := (G.map (fun g => if left (.int .i64 g.e) then 0 else g.xs.length)).sum
theorem visit_start (G : List Grp) : visit G (Maps.has (dat G)) = 0 := by
  have : ∀ L : List Grp, (∀ g ∈ L, g ∈ G) → visit L (Maps.has (dat G)) = 0 := by
    intro L
    induction L with
    | nil => intro _; rfl
    | cons g L ih =>
      intro h
      unfold visit at ih ⊢
      rw [List.map_cons, List.sum_cons, ih (fun x hx => h x (List.mem_cons_of_mem _ hx))]
      have : Maps.has (dat G) (.int .i64 g.e) = true := by
        unfold dat
        rw [Maps.has_eq, List.any_eq_true]
        exact ⟨entry g, List.mem_map.2 ⟨g, h g List.mem_cons_self, rfl⟩, by simp [entry, same_int]⟩
      rw [this]; rfl
  exact this G (fun _ h => h)
theorem visit_end (G : List Grp) (left : Lit → Bool) (h : ∀ kl, left kl = false) : visit G left = sumL G := by
  unfold visit sumL
  congr 1
  refine List.map_congr_left (fun g _ => ?_)
  rw [h]; rfl
theorem visit_step (G : List Grp) (hd : G.Pairwise (fun a b => a.e < b.e)) (left : Lit → Bool) {g : Grp} (hg : g ∈ G) (hl : left (.int .i64 g.e) = true) : visit G (fun z => left z && !z.sameKey (.int .i64 g.e)) = visit G left + g.xs.length := by
  induction G with
  | nil => simp at hg
  | cons a G ih =>
    obtain ⟨h1, h2⟩ := List.pairwise_cons.1 hd
    have same : ∀ L : List Grp, (∀ x ∈ L, x.e ≠ g.e) → visit L (fun z => left z && !z.sameKey (.int .i64 g.e)) = visit L left := by
      intro L hL
      unfold visit
      congr 1
      refine List.map_congr_left (fun x hx => ?_)
      have : (x.e == g.e) = false := by simpa using hL x hx
      simp only [same_int, this]
      simp
    unfold visit at ih same ⊢
    rw [List.map_cons, List.sum_cons, List.map_cons, List.sum_cons]
    rcases List.mem_cons.1 hg with e | e
    · subst e
      have hr := same G (fun x hx => by have := h1 x hx; omega)
      rw [hr]
      simp only [same_int, beq_self_eq_true, hl]
      simp; omega
    · have := h1 g e
      have hne : (a.e == g.e) = false := by simp; omega
      rw [ih h2 e]
      simp only [same_int, hne]
      simp; omega
theorem visit_le (G : List Grp) (left : Lit → Bool) : visit G left ≤ sumL G := by
  unfold visit sumL
  induction G with
  | nil => simp
  | cons a G ih =>
    simp only [List.map_cons, List.sum_cons]
    split <;> omega
theorem dat_found {G : List Grp} {e : Int} {c : Value} (h : ∀ zd, (dat G).atKey (.int .i64 e) zd = .held c) : ∃ g ∈ G, g.e = e ∧ g.v = c := by
  have h0 := h .nil
  unfold dat DataW.atKey at h0
  simp only [] at h0
  cases hf : (G.map entry).find? (fun p => p.1.sameKey (.int .i64 e)) with
  | none => rw [hf] at h0; cases h0
  | some p =>
    rw [hf] at h0
    obtain ⟨g, hg, e1⟩ := List.mem_map.1 (List.mem_of_find?_eq_some hf)
    have h2 := List.find?_some hf
    subst e1
    rw [entry, same_int] at h2
    have h0 : DataW.held g.v = .held c := h0
    injection h0 with h0
    exact ⟨g, hg, by simpa using h2, h0⟩
section
variable {B pb mb : Nat} {vin : Value} {inn : List Int} {ep : Int} {G : List Grp} {w w' : World}
set_option maxHeartbeats 4000000 in
set_option maxRecDepth 100000 in
theorem left (h : PoolR B pb mb vin inn ep G w) (hs : sumL G ≤ 1000000) :
    Calls Try.prog 19 #[.pointer (some ⟨pb, 0, none⟩)] w fun e w' => e = .returned (.int .i64 (sumL G)) ∧ Below w.heap.size w w' := by
  obtain ⟨⟨k0, k1, k2⟩, -⟩ := cells3 h.blk
  have hasc := Lib.hid h.asc
  have hrows := Lib.hid h.rows
  have hown := h.map
  have hst := visit_start G
  clear h
  go_enter Try.func19, Try.ntmps19
  go_wp2_with (first
    | (at_range; refine wpList_range_own _ rfl _ 50 rfl 3 41 law Try.underlying50 _ mb _ _ rfl hown ?_; intro w0 hrg0 hg0 hs0)
    | go_in)
  go_frame
  have hb0 : Below w.heap.size w w0 := ⟨hg0.os, hg0.tape, hg0.output, hg0.size, fun i hi => hg0.block i hi (by simp)⟩
  go_loopw [3] (fun c wr => ∃ (left : Lit → Bool) (cnt : Nat), c = .int .i64 (visit G left) ∧ wr.ranges Try.prog 3 heldR mb w.heap.size G.length (dat G) left cnt ∧ Below w.heap.size w wr)
    (fun _ wr => wr.rangeLeft mb w.heap.size)
  case atStart => exact ⟨_, _, by rw [hst]; rfl, hrg0, hb0⟩
  case round =>
    obtain ⟨left, cnt, rfl, hrg, hbw⟩ := hrel
    have hvl := visit_le G left
    go_wp2_with (first
      | (at_next; refine wpList_next_ranges _ rfl _ rfl 3 law heldR (Value.int .i64) (fun v : Value => v) (fun key kl hk => by obtain ⟨x, hx, _⟩ := Maps.keyOf_int_inv Try.underlying3 hk; exact ⟨x, hx⟩) (fun v y hv => ⟨v, rfl⟩) mb w.heap.size G.length _ _ _ rfl hrg ?_ ?_)
      | go_in)
    · intro _ hl0
      rw [visit_end G left hl0]
      go_wp2
      go_ret
      exact ⟨rfl, hbw⟩
    · intro x c kl y yp w1 cnt1 hkey hlx hy hat hrg1 hlt hg1 hs1 hen
      obtain ⟨x', hx1, hx2, -⟩ := Maps.keyOf_int_inv Try.underlying3 hkey
      injection hx1 with _ hx1
      subst hx1 hx2
      unfold heldR at hy
      simp only [Option.some.injEq, Prod.mk.injEq] at hy
      obtain ⟨hy, -⟩ := hy
      subst hy
      obtain ⟨g, hg, rfl, rfl⟩ := dat_found hat
      obtain ⟨a, cc, ev, -⟩ := own_any (hrows.out g hg)
      have hvs := visit_step G hasc.out left hg hlx
      have hvl2 := visit_le G (fun z => left z && !z.sameKey (.int .i64 g.e))
      have hb1 : Below w.heap.size w w1 := hbw.grown hg1 hbw.size (fun j hj => by injection hj with e; omega)
      generalize g.v = gv at *
      subst ev
      generalize hgn : g.xs.length = gn at *
      generalize hv2 : visit G (fun z => left z && !z.sameKey (.int .i64 g.e)) = v2 at *
      replace hv2 := Lib.hid hv2
      generalize visit G left = v1 at *
      replace hvs := Lib.hid hvs
      have e1 : IntKind.i64.wrap ((v1 : Int) + gn) = (v2 : Int) := by have := hvs.out; rw [IntWalk.i64_in _ (by omega)]; omega
      have e2 : ((v1 : Int) + gn) = (v2 : Int) := by have := hvs.out; omega
      clear hgn hat hkey
      go_wp2
      go_roundw
      case rel => exact ⟨_, cnt1, by rw [hv2.out], hrg1, hb1⟩
      case measure => rw [hrg1.left_eq, hrg.left_eq]; exact hlt

theorem belowN (w : World) (q : Nat) : Below w.heap.size w (w.drewN q) := ⟨rfl, rfl, rfl, Nat.le_refl _, fun _ _ => rfl⟩
def advB (inn : List Int) (ep : Int) : Bool := !(inn.any fun e => e != -1 && e != ep)
def advE (inn : List Int) (ep : Int) : Int := if advB inn ep then ep + 1 else ep
theorem pred (pb : Nat) (ep : Int) (Bx : Nat) (w : World) (hB : Bx < w.heap.size) (hcell : w.cell? ⟨Bx, 0, none⟩ = some (.pointer (some ⟨pb, 0, none⟩))) (hp : pb < w.heap.size) (hpc : w.cell? ⟨pb, 1, none⟩ = some (.int .i64 ep)) :
    PredAt Try.prog 29 #[.pointer (some ⟨Bx, 0, none⟩)] (Value.int .i64) (fun e => e != -1 && e != ep) w := fun W x hb => by
  have hc : W.cell? ⟨Bx, 0, none⟩ = some (.pointer (some ⟨pb, 0, none⟩)) := (hb.cell (p := ⟨Bx, 0, none⟩) hB).trans hcell
  have hd : W.cell? ⟨pb, 1, none⟩ = some (.int .i64 ep) := (hb.cell (p := ⟨pb, 1, none⟩) hp).trans hpc
  show Calls Try.prog 29 #[.int .i64 x, .pointer (some ⟨Bx, 0, none⟩)] W _
  clear hcell hpc
  cases h1 : (x != (-1 : Int)) with
  | false =>
    go_enter Try.func29, Try.ntmps29
    go_wp2
    go_ret
    exact ⟨by simp_all, 0, rfl⟩
  | true =>
    go_enter Try.func29, Try.ntmps29
    go_wp2
    all_goals (go_ret; exact ⟨by simp_all, 0, rfl⟩)
theorem PoolR.setE (h : PoolR B pb mb vin inn ep G w) (he : ∀ g ∈ G, g.e ≤ ep + 1) :
    PoolR B pb mb vin inn (ep + 1) G (w.setCell ⟨pb, 1, none⟩ (.int .i64 (ep + 1))) ∧ Only (fun k => k = pb) w (w.setCell ⟨pb, 1, none⟩ (.int .i64 (ep + 1))) := by
  have ho : Only (fun k => k = pb) w (w.setCell ⟨pb, 1, none⟩ (.int .i64 (ep + 1))) := (refl (fun k => k = pb) w).setCell (p := ⟨pb, 1, none⟩) (fun _ => rfl) _
  have hb := h.blk
  refine ⟨⟨?_, own_keep h.inn ho (fun k hk e => by have e : k = pb := e; subst e; exact own_ty h.inn hb (by decide) hk), ?_, fun g hg => own_keep (h.rows g hg) ho (fun k hk e => by have e : k = pb := e; subst e; exact own_ty (h.rows g hg) hb (by decide) hk), h.apart, h.asc, he, h.pbB, h.mbB⟩, ho⟩
  · simp [World.setCell, Array.getElem?_modify, hb]
  · have hl := h.map.lt
    have hne := h.map_ne hb
    obtain ⟨es, clock, h1, r⟩ := h.map
    exact ⟨es, clock, (ho.block _ hl (fun e => hne (by have e : mb = pb := e; omega))).trans h1, r⟩
set_option maxHeartbeats 4000000 in
set_option maxRecDepth 100000 in
theorem advance (h : PoolR B pb mb vin inn ep G w) (hne : 0 < inn.length) (hi : inn.length ≤ 1000) (hep : 0 ≤ ep ∧ ep ≤ 1000000) :
    Calls Try.prog 17 #[.pointer (some ⟨pb, 0, none⟩)] w fun e w' => e = .returned (.bool (advB inn ep)) ∧ PoolR B pb mb vin inn (advE inn ep) G w' ∧ Only (PoolF pb mb vin G) w w' := by
  have eg : ∀ args w, (callFunc 29 args).run Try.prog w = .ok (.enter 29 args) w := enters_of Try.func29 (by kernel_rfl) rfl
  have hb1 : Below w.heap.size w (w.alloc (.cells #[.pointer (some ⟨pb, 0, none⟩)] 24)) := (Below.refl _ _).alloc (Nat.le_refl _) _
  have h1 := h.below hb1
  obtain ⟨⟨k0, k1, k2⟩, kf⟩ := cells3 h1.blk
  have hlp := lt_of_heap h1.blk
  obtain ⟨g, c, e1, -, hc, -, hlg, hx, -⟩ := own_shape h1.inn hne
  have hx' : ∀ j, j < inn.length → (w.alloc (.cells #[.pointer (some ⟨pb, 0, none⟩)] 24)).cell? ⟨g, 0 + j, none⟩ = some (Value.int .i64 inn[j]!) := fun j hj => by
    have := hx j hj
    rw [Nat.zero_add, this]
    simp [List.getD, hj]
  have hcon := AnyE.slices_ContainsFunc Try.cfA (Value.int .i64) (fun e => e != -1 && e != ep) 29 #[.pointer (some ⟨w.heap.size, 0, none⟩)] eg g 0 inn.length c inn (w.alloc (.cells #[.pointer (some ⟨pb, 0, none⟩)] 24))
    (pred pb ep w.heap.size _ (by simp) (by simp) hlp k1) (Nat.le_refl _) (by omega) hx'
  change Calls Try.prog 28 _ _ _ at hcon
  rw [List.take_length] at hcon
  have hP := fun q => h1.below (belowN _ q)
  have hE := fun q => (hP q).setE (fun g hg => by have := h.top g hg; omega)
  have on := fun q => ((ofBelow (S := PoolF pb mb vin G) hb1).drewN q)
  replace hP := Lib.hid hP
  replace hE := Lib.hid hE
  replace on := Lib.hid on
  subst e1
  unfold advB advE advB
  generalize (inn.any fun e => e != -1 && e != ep) = b at *
  replace hcon := Lib.hid hcon
  have kf1 := kf 1
  have e9 : IntKind.i64.wrap (ep + 1) = ep + 1 := IntWalk.i64_in _ (by omega)
  clear h h1 hx hx' eg kf hb1
  cases b with
  | true =>
    go_enter Try.func17, Try.ntmps17
    go_wp2_with fail
    refine hcon.out.mono ?_
    rintro e w2 ⟨rfl, q, rfl⟩
    go_wp2
    go_ret
    exact ⟨rfl, hP.out q, on.out q⟩
  | false =>
    have c0 : ∀ q, ((w.alloc (.cells #[.pointer (some ⟨pb, 0, none⟩)] 24)).drewN q).cell? ⟨pb, 1, none⟩ = some (.int .i64 ep) := fun q => k1
    have c1 : ∀ q, ((w.alloc (.cells #[.pointer (some ⟨pb, 0, none⟩)] 24)).drewN q).frozen? ⟨pb, 1, none⟩ = false := fun q => kf1
    go_enter Try.func17, Try.ntmps17
    go_wp2_with fail
    refine hcon.out.mono ?_
    rintro e w2 ⟨rfl, q, rfl⟩
    have hq0 : ((w.alloc (.cells #[.pointer (some ⟨pb, 0, none⟩)] 24)).drewN q).cell? ⟨w.heap.size, 0, none⟩ = some (.pointer (some ⟨pb, 0, none⟩)) := by
      show (w.alloc (.cells #[.pointer (some ⟨pb, 0, none⟩)] 24)).cell? ⟨w.heap.size, 0, none⟩ = _
      simp
    have hq1 := c0 q
    have hq2 := c1 q
    have fin := hE.out q
    have on2 := (on.out q).trans fin.2 (fun k _ e => .inl e)
    replace fin := Lib.hid fin
    replace on2 := Lib.hid on2
    generalize ((w.alloc (.cells #[.pointer (some ⟨pb, 0, none⟩)] 24)).drewN q) = w3 at *
    go_wp2
    go_ret
    exact ⟨rfl, fin.out.1, on2.out⟩
end
end Go.Proofs.Ytecjkpjcmgohmac.Ep

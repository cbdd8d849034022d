/- package slab: Free. Laid by genslab2.py. -/
import Derived.Test.YtllibgjajlgnbaaQueue
namespace Go.Proofs.Ytllibgjajlgnbaa.Slab
open Go Go.RowKit Go.Proofs.Ytllibgjajlgnbaa.Only Go.Proofs.Ytllibgjajlgnbaa.Mem Go.Proofs.Ytllibgjajlgnbaa.New Go.Proofs.Ytllibgjajlgnbaa.Grow Go.Proofs.Ytllibgjajlgnbaa.Queue Go.Proofs.YtllibgjajlgnbaaW.PrintLast
set_option linter.unusedVariables false
set_option linter.unusedSimpArgs false

theorem info_int : (Try.prog.info? 3).map (fun i => (i.zero, i.size, i.bytes)) = some (some (.int .i64 0), 1, 8) := by kernel_rfl

section
variable {B sb p : Nat} {v : Value} {C : List Int} {n : Int} {vg vt vr : Value} {s : Sl} {w : World}

theorem cell_alloc {w : World} {p : Addr} {u : Value} (h : w.cell? p = some u) (o : Obj) : (w.alloc o).cell? p = some u :=
  (((Below.refl w.heap.size w).alloc (Nat.le_refl _) o).cell (World.block_lt_of_cell? w p h)).trans h

/-- Two slices of unlike element types lie in unlike blocks. -/
theorem ty_ne {T U : TypeId} (hTU : T ≠ U) {k l : Nat} {cs ds : Array Value} (h : w.heap[k]? = some (.cells cs T (0, 0))) (g : w.heap[l]? = some (.cells ds U (0, 0))) : k ≠ l := by
  intro e
  subst e
  rw [h] at g
  injection g with g
  injection g with _ g
  exact hTU g

theorem SlabAt.drew (h : SlabAt B sb p v C n vg vt vr s w) : SlabAt B sb p v C n vg vt vr s w.drew := ⟨⟨h.mem.base, h.mem.blk, h.mem.own, h.mem.ne⟩, h.blk, h.g, h.t, h.r, h.base, h.ap⟩
theorem SlabAt.alloc (h : SlabAt B sb p v C n vg vt vr s w) (o : Obj) : SlabAt B sb p v C n vg vt vr s (w.alloc o) := h.below ((Below.refl _ _).alloc (Nat.le_refl _) o)
theorem Queue.drew {B : Nat} {v : Value} {xs : List Int} {w : World} (h : Queue B v xs w) : Queue B v xs w.drew := h
theorem Queue.alloc {B : Nat} {v : Value} {xs : List Int} {w : World} (h : Queue B v xs w) (o : Obj) : Queue B v xs (w.alloc o) := h.keep (S := fun _ => False) (ofBelow ((Below.refl _ _).alloc (Nat.le_refl _) o)) (fun _ _ x => x)
theorem SlabAt.mty (h : SlabAt B sb p v C n vg vt vr s w) {k : Nat} (hk : v.ownBlock = some k) : ∃ cs, w.heap[k]? = some (.cells cs 26 (0, 0)) := (own_blk h.mem.own hk).2.2
theorem SlabAt.sbr (h : SlabAt B sb p v C n vg vt vr s w) : some sb ≠ vr.ownBlock := by
  intro e
  obtain ⟨_, _, cs, hc⟩ := h.r.lt e.symm
  exact ty_ne (by decide) h.blk hc rfl
/-- A turned flag, a turned generation. -/
theorem SlabAt.setT {gt ct : Nat} (h : SlabAt B sb p v C n vg vt vr s w) (hv : vt = .slice (some ⟨gt, 0, none⟩) s.taken.length ct) {i : Nat} (hi : i < s.taken.length) (b : Bool) :
    SlabAt B sb p v C n vg vt vr { s with taken := s.taken.set i b } (w.setCell ⟨gt, i, none⟩ (.bool b)) := by
  subst hv
  obtain ⟨_, _, ct', hct⟩ := own_blk h.t (k := gt) rfl
  have ho : Only (fun k => k = gt) w (w.setCell ⟨gt, i, none⟩ (.bool b)) := (refl (fun k => k = gt) w).setCell (p := ⟨gt, i, none⟩) (fun _ => rfl) _
  have ho' := ho
  refine ⟨h.mem.keep ho (ty_ne (by decide) h.mem.blk hct) (fun k hk => ?_), (ho.block _ (lt_of_heap h.blk) (ty_ne (by decide) h.blk hct)).trans h.blk, own_keep h.g ho (fun k hk => ?_), ?_, h.r.keep ho (fun k hk => ?_), h.base, h.ap⟩
  · obtain ⟨cs, hc⟩ := h.mty hk
    exact ty_ne (by decide) hc hct
  · obtain ⟨_, _, cs, hc⟩ := own_blk h.g hk
    exact ty_ne (by decide) hc hct
  · have := own_set h.t i hi (.bool b)
    rw [← List.map_set] at this
    simpa using this
  · obtain ⟨_, _, cs, hc⟩ := h.r.lt hk
    exact ty_ne (by decide) hc hct
theorem SlabAt.setG {gg cg : Nat} (h : SlabAt B sb p v C n vg vt vr s w) (hv : vg = .slice (some ⟨gg, 0, none⟩) s.gens.length cg) {i : Nat} (hi : i < s.gens.length) (x : Int) :
    SlabAt B sb p v C n vg vt vr { s with gens := s.gens.set i x } (w.setCell ⟨gg, i, none⟩ (.int .i64 x)) := by
  subst hv
  obtain ⟨_, _, ct', hct⟩ := own_blk h.g (k := gg) rfl
  have ho : Only (fun k => k = gg) w (w.setCell ⟨gg, i, none⟩ (.int .i64 x)) := (refl (fun k => k = gg) w).setCell (p := ⟨gg, i, none⟩) (fun _ => rfl) _
  refine ⟨h.mem.keep ho (ty_ne (by decide) h.mem.blk hct) (fun k hk => ?_), (ho.block _ (lt_of_heap h.blk) (ty_ne (by decide) h.blk hct)).trans h.blk, ?_, own_keep h.t ho (fun k hk => ?_), h.r.keep ho (fun k hk => ?_), h.base, h.ap⟩
  · obtain ⟨cs, hc⟩ := h.mty hk
    exact ty_ne (by decide) hc hct
  · have := own_set h.g i hi (.int .i64 x)
    rw [← List.map_set] at this
    simpa using this
  · obtain ⟨_, _, cs, hc⟩ := own_blk h.t hk
    exact ty_ne (by decide) hc hct
  · intro e
    subst e
    exact h.ap _ rfl hk
/-- Another row. -/
theorem SlabAt.setRow {u : Value} {xs : List Int} {w' : World} (h : SlabAt B sb p v C n vg vt vr s w) (hq : Queue B u xs w') (ho : Only (fun k => vr.ownBlock = some k) w w') (hap : ∀ k, vg.ownBlock = some k → u.ownBlock ≠ some k) (hsb : u.ownBlock ≠ some sb) :
    SlabAt B sb p v C n vg vt u { s with row := xs } (w'.setCell ⟨sb, 5, none⟩ u) := by
  have hm : MemAt B p v C n w' := by
    refine h.mem.keep ho (fun hk => ?_) (fun k hk hk2 => ?_)
    · obtain ⟨_, _, cs, hc⟩ := h.r.lt hk
      exact ty_ne (by decide) h.mem.blk hc rfl
    · obtain ⟨_, _, cs, hc⟩ := h.r.lt hk2
      obtain ⟨ds, hd⟩ := h.mty hk
      exact ty_ne (by decide) hd hc rfl
  have hb := (ho.block _ (lt_of_heap h.blk) (fun e => h.sbr e.symm)).trans h.blk
  have hg := own_keep h.g ho (fun k hk e => h.ap k hk e)
  have ht := own_keep h.t ho (fun k hk hk2 => by
    obtain ⟨_, _, cs, hc⟩ := h.r.lt hk2
    obtain ⟨_, _, ds, hd⟩ := own_blk h.t hk
    exact ty_ne (by decide) hd hc rfl)
  have hs : Only (fun k => k = sb) w' (w'.setCell ⟨sb, 5, none⟩ u) := (refl (fun k => k = sb) w').setCell (p := ⟨sb, 5, none⟩) (fun _ => rfl) _
  refine ⟨hm.keep hs (ty_ne (by decide) hm.blk hb) (fun k hk => ?_), ?_, own_keep hg hs (fun k hk => ?_), own_keep ht hs (fun k hk => ?_), hq.keep hs (fun k hk e => hsb (e ▸ hk)), h.base, hap⟩
  · obtain ⟨_, _, cs, hc⟩ := own_blk hm.own hk
    exact ty_ne (by decide) hc hb
  · simp [World.setCell, Array.getElem?_modify, hb]
  · obtain ⟨_, _, cs, hc⟩ := own_blk hg hk
    exact ty_ne (by decide) hc hb
  · obtain ⟨_, _, cs, hc⟩ := own_blk ht hk
    exact ty_ne (by decide) hc hb
theorem SlabAt.setR {u : Value} {xs : List Int} {w' : World} (h : SlabAt B sb p v C n vg vt vr s w) (hq : Queue B u xs w') (hg : w.grownBy w' vr.ownBlock) (hat : u.ownBlock = vr.ownBlock ∨ u.ownBlock = some w.heap.size) :
    SlabAt B sb p v C n vg vt u { s with row := xs } (w'.setCell ⟨sb, 5, none⟩ u) := by
  refine h.setRow hq ((refl (fun k => vr.ownBlock = some k) w).grown hg (fun k hk _ => hk.symm ▸ rfl)) (fun k hk => ?_) ?_
  · rcases hat with e | e
    · rw [e]; exact h.ap k hk
    · rw [e]
      intro e2
      have := (own_blk h.g hk).2.1
      injection e2 with e2
      omega
  · rcases hat with e | e
    · rw [e]; exact fun e2 => h.sbr e2.symm
    · rw [e]
      intro e2
      have := lt_of_heap h.blk
      injection e2 with e2
      omega

/-- What Free leaves. -/
def freeS (s : Sl) (r : Int) : Sl := { s with taken := s.taken.set (placeOf r).toNat false, row := s.row ++ [placeOf r] }
def Freed (B sb p : Nat) (v : Value) (C : List Int) (n : Int) (vg vt vr : Value) (s : Sl) (r : Int) (w : World) (e : Ending) (w' : World) : Prop :=
  e = .returned (.int .i64 0) ∧ ∃ vr', SlabAt B sb p v C n vg vt vr' (freeS s r) w' ∧ Only (SlF sb p v vg vt vr) w w' ∧ (vr'.ownBlock = vr.ownBlock ∨ ∀ k, vr'.ownBlock = some k → w.heap.size ≤ k)

set_option maxHeartbeats 4000000 in
set_option maxRecDepth 100000 in
theorem free_no (h : SlabAt B sb p v C n vg vt vr s w) (ok : s.Ok) (r : Int) (hr : 0 ≤ r ∧ r ≤ 18446744073709551615) (hno : thereB s r = false) :
    Calls Try.prog 30 #[.pointer (some ⟨sb, 0, none⟩), .int .u64 r] w fun e w' => e = .returned (.int .i64 4) ∧ Below w.heap.size w w' := by
  have H := there h ok r hr
  rw [hno] at H
  replace H := Lib.hid H
  clear h hno
  go_enter Try.func30, Try.ntmps30
  go_wp2_with fail
  refine H.out.mono ?_
  rintro e w1 ⟨rfl, hb⟩
  replace hb := Lib.hid hb
  go_wp2
  go_ret
  exact ⟨rfl, hb.out⟩

set_option maxHeartbeats 8000000 in
set_option maxRecDepth 100000 in
theorem free (h : SlabAt B sb p v C n vg vt vr s w) (hB : B ≤ w.heap.size) (ok : s.Ok) (r : Int) (hr : 0 ≤ r ∧ r ≤ 18446744073709551615) (hyes : thereB s r = true) :
    Calls Try.prog 30 #[.pointer (some ⟨sb, 0, none⟩), .int .u64 r] w (Freed B sb p v C n vg vt vr s r w) := by
  obtain ⟨i0, hi, hzz⟩ := Option.map_eq_some_iff.1 info_int
  simp only [Prod.mk.injEq] at hzz
  obtain ⟨hz0, hz1, hz2⟩ := hzz
  have H := there h ok r hr
  rw [hyes] at H
  have hp := thereB_place hyes
  have hrow : s.row.length ≤ 65536 := Nat.le_trans ok.rows ok.most
  have hmost := ok.most
  have pl := fun w' => place r hr w'
  obtain ⟨i, hpi⟩ := Int.eq_ofNat_of_zero_le hp.1
  have eF : freeS s r = { s with taken := s.taken.set i false, row := s.row ++ [(i : Int)] } := by unfold freeS; rw [hpi]; rfl
  have hii : i < s.taken.length := by rw [ok.len]; omega
  unfold Freed
  rw [eF]
  clear eF
  rw [hpi] at pl
  replace H := Lib.hid H
  replace pl := Lib.hid pl
  replace h := Lib.hid h
  clear hyes hp hpi
  go_enter Try.func30, Try.ntmps30
  go_wp2_with fail
  refine H.out.mono ?_
  rintro e w1 ⟨rfl, hb⟩
  have h1 := h.out.below hb
  have hsz := hb.size
  replace hb := Lib.hid hb
  obtain ⟨k0, k1, k2, k3, k4, k5⟩ := cells6 h1.blk
  obtain ⟨gt, ct, hvt, hBt, hct, hcm, hltt, hxt, hft⟩ := own_shape h1.t (by omega)
  subst hvt
  have xt := hxt i hii
  have ft := hft i
  have b2 : decide ((i : Int) < (s.taken.length : Int)) = true := by simp; omega
  clear hxt hft
  replace h1 := Lib.hid h1
  go_wp2_with fail
  refine start_ (n := 8) (S := fun w' => w'.cell? ⟨sb, 4, none⟩ = some (.slice (some ⟨gt, 0, none⟩) s.taken.length ct)) (ds := [7]) #[false, false, false, false, false, false, false, false] (by kernel_rfl) rfl rfl (k4) (fun hHeld => ?_)
  refine pure_ (i := 0) (N := some 13) (v := ?_) (a' := ?_) #[true, false, false, false, false, false, false, false] rfl rfl (by kernel_rfl) (fun _ _ _ h => h) (Or.inl ⟨by rfl, ?_⟩) ?_ ?_
  rotate_left
  · intro w'
    go_simp
    with_reducible rfl
  rotate_left
  · simp only [Act.put, List.setIfInBounds_toArray, List.set_cons_zero, List.set_cons_succ, i64_w, i32_w]
    rfl
  refine pure_ (i := 1) (N := some 14) (v := ?_) (a' := ?_) #[true, true, false, false, false, false, false, false] rfl rfl (by kernel_rfl) (fun _ _ _ h => h) (Or.inl ⟨by rfl, ?_⟩) ?_ ?_
  rotate_left
  · intro w'
    go_simp
    with_reducible rfl
  rotate_left
  · simp only [Act.put, List.setIfInBounds_toArray, List.set_cons_zero, List.set_cons_succ, i64_w, i32_w]
    rfl
  refine pure_ (i := 2) (N := some 15) (v := ?_) (a' := ?_) #[true, true, true, false, false, false, false, false] rfl rfl (by kernel_rfl) (fun _ _ _ h => h) (Or.inl ⟨by rfl, ?_⟩) ?_ ?_
  rotate_left
  · intro w'
    go_simp
    with_reducible rfl
  rotate_left
  · simp only [Act.put, List.setIfInBounds_toArray, List.set_cons_zero, List.set_cons_succ, i64_w, i32_w]
    rfl
  refine pure_ (i := 4) (N := some 17) (v := ?_) (a' := ?_) #[true, true, true, false, true, false, false, false] rfl rfl (by kernel_rfl) (fun _ _ _ h => h) (Or.inl ⟨by rfl, ?_⟩) ?_ ?_
  rotate_left
  · intro w'
    go_simp
    with_reducible rfl
  rotate_left
  · simp only [Act.put, List.setIfInBounds_toArray, List.set_cons_zero, List.set_cons_succ, i64_w, i32_w]
    rfl
  refine take_ (i := 3) (N := some 16) (v := ?_) (a' := ?_) #[true, true, true, true, true, false, false, false] rfl rfl (by kernel_rfl) (fun _ _ _ h => h) (Or.inl ⟨by rfl, ?_⟩) hHeld ?_ ?_
  rotate_left
  · intro w' s0
    go_simp
    with_reducible rfl
  rotate_left
  · simp only [Act.put, List.setIfInBounds_toArray, List.set_cons_zero, List.set_cons_succ, i64_w, i32_w]
    rfl
  refine one_ (i := 5) (N := some 18) #[true, true, true, true, true, true, false, false] rfl rfl (by kernel_rfl) (by decide) (fun K hK => ?_)
  refine goes_ Try.func25 (by kernel_rfl) rfl #[.int .u64 r] (by rfl) rfl rfl (by simp only [List.map_toArray, List.map_cons, List.map_nil]; rfl) ?_
  with_reducible refine (pl.out _).mono ?_
  rintro e w3 ⟨rfl, rfl⟩
  refine ⟨_, rfl, ?_⟩
  refine hK.out _ _ (k4) (fun hHeld => ?_)
  clear hK K
  refine norm_ (a' := ?_) ?_ ?_
  rotate_left
  · show Act.put _ (some 18) _ = _
    simp only [Act.put, List.setIfInBounds_toArray, List.set_cons_zero, List.set_cons_succ, i64_w, i32_w]
    rfl
  refine pure_ (i := 6) (N := some 19) (v := ?_) (a' := ?_) #[true, true, true, true, true, true, true, false] rfl rfl (by kernel_rfl) (fun _ _ _ h => h) (Or.inl ⟨by rfl, ?_⟩) ?_ ?_
  rotate_left
  · intro w'
    go_simp
    with_reducible rfl
  rotate_left
  · simp only [Act.put, List.setIfInBounds_toArray, List.set_cons_zero, List.set_cons_succ, i64_w, i32_w]
    rfl
  refine last_ (i := 7) (N := none) #[true, true, true, true, true, true, true, true] rfl rfl (by kernel_rfl) (by decide) (fun K hK => ?_)
  refine skip_ (w1 := ?_) (by rfl) rfl ?_ ?_
  rotate_left
  · go_simp
    rfl
  refine hK.out _ _ ?_
  clear hK K
  refine done_ (by kernel_rfl) ?_
  go_wp2_with fail
  have h2 := (h1.out.setT rfl hii false).drew
  have o2 : Only (SlF sb p v vg (.slice (some ⟨gt, 0, none⟩) s.taken.length ct) vr) w (w1.setCell ⟨gt, i, none⟩ (.bool false)).drew := ((ofBelow hb.out).setCell (p := ⟨gt, i, none⟩) (fun _ => .inr (.inr (.inr (.inl rfl)))) _).drewN 1
  replace h2 := Lib.hid h2
  replace o2 := Lib.hid o2
  have hs2 : w.heap.size ≤ (w1.setCell ⟨gt, i, none⟩ (.bool false)).drew.heap.size := o2.out.size
  generalize (w1.setCell ⟨gt, i, none⟩ (.bool false)).drew = w2 at *
  clear k0 k1 k2 k3 k4 k5 xt ft h1
  obtain ⟨k0, k1, k2, k3, k4, k5⟩ := cells6 h2.out.blk
  refine start_ (n := 12) (S := fun w' => w'.cell? ⟨sb, 5, none⟩ = some vr) (ds := [8, 11]) #[false, false, false, false, false, false, false, false, false, false, false, false] (by kernel_rfl) rfl rfl (k5) (fun hHeld => ?_)
  refine pure_ (i := 0) (N := some 20) (v := ?_) (a' := ?_) #[true, false, false, false, false, false, false, false, false, false, false, false] rfl rfl (by kernel_rfl) (fun _ _ _ h => h) (Or.inl ⟨by rfl, ?_⟩) ?_ ?_
  rotate_left
  · intro w'
    go_simp
    with_reducible rfl
  rotate_left
  · simp only [Act.put, List.setIfInBounds_toArray, List.set_cons_zero, List.set_cons_succ, i64_w, i32_w]
    rfl
  refine pure_ (i := 1) (N := some 21) (v := ?_) (a' := ?_) #[true, true, false, false, false, false, false, false, false, false, false, false] rfl rfl (by kernel_rfl) (fun _ _ _ h => h) (Or.inl ⟨by rfl, ?_⟩) ?_ ?_
  rotate_left
  · intro w'
    go_simp
    with_reducible rfl
  rotate_left
  · simp only [Act.put, List.setIfInBounds_toArray, List.set_cons_zero, List.set_cons_succ, i64_w, i32_w]
    rfl
  refine pure_ (i := 2) (N := some 22) (v := ?_) (a' := ?_) #[true, true, true, false, false, false, false, false, false, false, false, false] rfl rfl (by kernel_rfl) (fun _ _ _ h => h) (Or.inl ⟨by rfl, ?_⟩) ?_ ?_
  rotate_left
  · intro w'
    go_simp
    with_reducible rfl
  rotate_left
  · simp only [Act.put, List.setIfInBounds_toArray, List.set_cons_zero, List.set_cons_succ, i64_w, i32_w]
    rfl
  refine pure_ (i := 3) (N := some 23) (v := ?_) (a' := ?_) #[true, true, true, true, false, false, false, false, false, false, false, false] rfl rfl (by kernel_rfl) (fun _ _ _ h => h) (Or.inl ⟨by rfl, ?_⟩) ?_ ?_
  rotate_left
  · intro w'
    go_simp
    with_reducible rfl
  rotate_left
  · simp only [Act.put, List.setIfInBounds_toArray, List.set_cons_zero, List.set_cons_succ, i64_w, i32_w]
    rfl
  refine pure_ (i := 5) (N := some 25) (v := ?_) (a' := ?_) #[true, true, true, true, false, true, false, false, false, false, false, false] rfl rfl (by kernel_rfl) (fun _ _ _ h => h) (Or.inl ⟨by rfl, ?_⟩) ?_ ?_
  rotate_left
  · intro w'
    go_simp
    with_reducible rfl
  rotate_left
  · simp only [Act.put, List.setIfInBounds_toArray, List.set_cons_zero, List.set_cons_succ, i64_w, i32_w]
    rfl
  refine take_ (i := 4) (N := some 24) (v := ?_) (a' := ?_) #[true, true, true, true, true, true, false, false, false, false, false, false] rfl rfl (by kernel_rfl) (fun _ _ _ h => h) (Or.inl ⟨by rfl, ?_⟩) hHeld ?_ ?_
  rotate_left
  · intro w' s0
    go_simp
    with_reducible rfl
  rotate_left
  · simp only [Act.put, List.setIfInBounds_toArray, List.set_cons_zero, List.set_cons_succ, i64_w, i32_w]
    rfl
  refine one_ (i := 6) (N := some 26) #[true, true, true, true, true, true, true, false, false, false, false, false] rfl rfl (by kernel_rfl) (by decide) (fun K hK => ?_)
  refine goes_ Try.func25 (by kernel_rfl) rfl #[.int .u64 r] (by rfl) rfl rfl (by simp only [List.map_toArray, List.map_cons, List.map_nil]; rfl) ?_
  with_reducible refine (pl.out _).mono ?_
  rintro e w3 ⟨rfl, rfl⟩
  refine ⟨_, rfl, ?_⟩
  refine hK.out _ _ (k5) (fun hHeld => ?_)
  clear hK K
  refine norm_ (a' := ?_) ?_ ?_
  rotate_left
  · show Act.put _ (some 26) _ = _
    simp only [Act.put, List.setIfInBounds_toArray, List.set_cons_zero, List.set_cons_succ, i64_w, i32_w]
    rfl
  refine one_ (i := 7) (N := some 27) #[true, true, true, true, true, true, true, true, false, false, false, false] rfl rfl (by kernel_rfl) (by decide) (fun K hK => ?_)
  refine value_ (w1 := ?_) (v := ?_) (by rfl) rfl ?_ ?_
  rotate_left 2
  · go_simp
    constructor
    · rfl
    · rfl
  refine hK.out _ _ (cell_alloc k5 _) (fun hHeld => ?_)
  clear hK K
  refine norm_ (a' := ?_) ?_ ?_
  rotate_left
  · show Act.put _ (some 27) _ = _
    simp only [Act.put, List.setIfInBounds_toArray, List.set_cons_zero, List.set_cons_succ, i64_w, i32_w]
    rfl
  refine last_ (i := 8) (N := some 28) #[true, true, true, true, true, true, true, true, true, false, false, false] rfl rfl (by kernel_rfl) (by decide) (fun K hK => ?_)
  refine append_arm (v := vr) (xs := s.row) (by rfl) rfl rfl i0 Try.underlying49 hi hz0 hz1 hz2 rfl _ _ rfl (Queue.alloc (Queue.drew h2.out.r) _) (by simp; omega) (i : Int) (cell_one_new _ _ _) hrow ?_
  intro v3 w3 hq3 hg3 hat3
  have HW := Lib.hid ((h2.out.drew).alloc (.cells #[.int .i64 i] 3))
  have X3 := (hg3.block sb (lt_of_heap HW.out.blk) (HW.out.sbr)).trans HW.out.blk
  obtain ⟨A3, c3, hv3, hc3, -⟩ := hq3.any
  subst hv3
  obtain ⟨y0, y1, y2, y3, y4, y5⟩ := cells6 X3
  have f5 : w3.frozen? ⟨sb, 5, none⟩ = false := by simp [World.frozen?, X3]
  have el : (s.row ++ [(i : Int)]).length = s.row.length + 1 := by simp
  have fin := SlabAt.setR HW.out hq3 hg3 hat3
  rw [el] at fin
  replace fin := Lib.hid fin
  have on3 := Lib.hid (((((refl (SlF sb p v vg (.slice (some ⟨gt, 0, none⟩) s.taken.length ct) vr) w2).drewN 1).alloc (.cells #[.int .i64 i] 3)).grown hg3 (fun k hk _ => .inr (.inr (.inr (.inr hk))))).setCell (p := ⟨sb, 5, none⟩) (fun _ => .inl rfl) (.slice A3 (s.row.length + 1) c3))
  replace hat3 := Lib.hid hat3
  clear hq3 hg3 el
  refine hK.out _ _ ?_
  clear hK K
  refine norm_ (a' := ?_) ?_ ?_
  rotate_left
  · show Act.put _ (some 28) _ = _
    simp only [Act.put, List.setIfInBounds_toArray, List.set_cons_zero, List.set_cons_succ, i64_w, i32_w]
    rfl
  refine pure_ (i := 9) (N := some 29) (v := ?_) (a' := ?_) #[true, true, true, true, true, true, true, true, true, true, false, false] rfl rfl (by kernel_rfl) (fun _ _ _ h => h) (Or.inl ⟨by rfl, ?_⟩) ?_ ?_
  rotate_left
  · intro w'
    go_simp
    with_reducible rfl
  rotate_left
  · simp only [Act.put, List.setIfInBounds_toArray, List.set_cons_zero, List.set_cons_succ, i64_w, i32_w]
    rfl
  refine pure_ (i := 10) (N := some 30) (v := ?_) (a' := ?_) #[true, true, true, true, true, true, true, true, true, true, true, false] rfl rfl (by kernel_rfl) (fun _ _ _ h => h) (Or.inl ⟨by rfl, ?_⟩) ?_ ?_
  rotate_left
  · intro w'
    go_simp
    with_reducible rfl
  rotate_left
  · simp only [Act.put, List.setIfInBounds_toArray, List.set_cons_zero, List.set_cons_succ, i64_w, i32_w]
    rfl
  refine last_ (i := 11) (N := none) #[true, true, true, true, true, true, true, true, true, true, true, true] rfl rfl (by kernel_rfl) (by decide) (fun K hK => ?_)
  refine skip_ (w1 := ?_) (by rfl) rfl ?_ ?_
  rotate_left
  · go_simp
    rfl
  refine hK.out _ _ ?_
  clear hK K
  refine done_ (by kernel_rfl) ?_
  go_wp2
  go_ret
  refine ⟨rfl, _, fin.out, o2.out.trans on3.out (fun _ _ x => x), ?_⟩
  rcases hat3.out with e | e
  · exact .inl (by simpa [Value.ownBlock] using e)
  · refine .inr (fun k hk => ?_)
    have e2 : some k = some (w2.heap.size + 1) := by rw [← hk]; simpa [Value.ownBlock] using e
    injection e2 with e2
    omega
end
end Go.Proofs.Ytllibgjajlgnbaa.Slab

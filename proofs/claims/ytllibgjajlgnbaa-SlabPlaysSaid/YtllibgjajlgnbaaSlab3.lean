/- package slab: Alloc. Laid by genslab3.py. -/
import Derived.Test.YtllibgjajlgnbaaSlab2
import Derived.Deep.DeepCutAuto
import Derived.Laws.BitsLemmas
namespace Go.Proofs.Ytllibgjajlgnbaa.Slab
open Go Go.RowKit Go.Proofs.Ytllibgjajlgnbaa.Only Go.Proofs.Ytllibgjajlgnbaa.Mem Go.Proofs.Ytllibgjajlgnbaa.New Go.Proofs.Ytllibgjajlgnbaa.Grow Go.Proofs.Ytllibgjajlgnbaa.Queue Go.Proofs.YtllibgjajlgnbaaW.PrintLast
set_option linter.unusedVariables false
set_option linter.unusedSimpArgs false

/-- Cells from a on, so many of them 0. -/
def zeros (C : List Int) (a : Int) : Nat → List Int
  | 0 => C
  | k + 1 => setAt (zeros C a k) (a + k) 0
def refOf (p g : Int) : Int := g * 4294967296 + (p + 1)
def allocS (s : Sl) (px : Int) (t : List Int) : Sl := { s with gens := s.gens.set px.toNat (s.gens.getD px.toNat 0 + 1), taken := s.taken.set px.toNat true, row := t }

section
variable {B sb p : Nat} {v : Value} {C : List Int} {n : Int} {vg vt vr : Value} {s : Sl} {w : World}

theorem SlabAt.setM {C' : List Int} {n' : Int} {w' : World} (h : SlabAt B sb p v C n vg vt vr s w) (hm : MemAt B p v C' n' w') (ho : Only (Foot p v) w w') : SlabAt B sb p v C' n' vg vt vr s w' := by
  have far : ∀ (k : Nat) (T : TypeId) (cs : Array Value), T ≠ 80 → T ≠ 26 → w.heap[k]? = some (.cells cs T (0, 0)) → ¬ Foot p v k := by
    intro k T cs h1 h2 hk hf
    rcases hf with e | e
    · exact ty_ne h1 hk h.mem.blk e
    · obtain ⟨ds, hd⟩ := h.mty e
      exact ty_ne h2 hk hd rfl
  refine ⟨hm, (ho.block _ (lt_of_heap h.blk) (far _ _ _ (by decide) (by decide) h.blk)).trans h.blk, own_keep h.g ho (fun k hk => ?_), own_keep h.t ho (fun k hk => ?_), h.r.keep ho (fun k hk => ?_), h.base, h.ap⟩
  · obtain ⟨_, _, cs, hc⟩ := own_blk h.g hk
    exact far _ _ _ (by decide) (by decide) hc
  · obtain ⟨_, _, cs, hc⟩ := own_blk h.t hk
    exact far _ _ _ (by decide) (by decide) hc
  · obtain ⟨_, _, cs, hc⟩ := h.r.lt hk
    exact far _ _ _ (by decide) (by decide) hc

theorem Queue.cut {B g o cap : Nat} {x : Int} {t : List Int} {w : World} (h : Queue B (.slice (some ⟨g, o, none⟩) (t.length + 1) cap) (x :: t) w) : w.cell? ⟨g, o, none⟩ = some (.int .i64 x) ∧ 1 ≤ cap ∧ cap ≤ maxLen ∧ t.length + 1 ≤ cap ∧ Queue B (.slice (some ⟨g, if cap = 1 then o else o + 1, none⟩) t.length (cap - 1)) t w := by
  rcases h with ⟨h, h0⟩ | ⟨g', o', cap', cur, hv, hB, hg, hc, hm, hz, hx⟩
  · cases h
  · injection hv with e1 e2 e3
    injection e1 with e1
    injection e1 with e4 e5
    subst e3
    subst e4
    subst e5
    have h0 := hx 0 (by simp)
    have hc' : t.length + 1 ≤ cap := by simpa using hc
    refine ⟨by simp only [World.cell?, hg]; simpa using h0, by omega, hm, hc', .inr ⟨g, _, cap - 1, cur, rfl, hB, hg, by omega, by omega, by split <;> omega, fun j hj => ?_⟩⟩
    have hj' := hx (j + 1) (by simp; omega)
    rw [if_neg (by omega), show o + 1 + j = o + (j + 1) by omega, hj']
    simp [List.getD]

theorem wrap_in (x : Int) (h : -9223372036854775808 ≤ x ∧ x ≤ 9223372036854775807) : wrap64 x = x := by unfold wrap64; omega

theorem hit_le (C : List Int) (a : Int) : 0 ≤ hit C a ∧ hit C a ≤ 1 := by unfold hit; split <;> omega

theorem wraps_u64 (n : Int) (h₀ : 0 ≤ n) (h₁ : n < 2 ^ 64) : IntKind.u64.wrap n = n := by rw [wrap_u64]; omega
theorem ref_bits (p g : Int) (hp : 0 ≤ p ∧ p < 65536) (hg : 0 ≤ g ∧ g ≤ 1000001) : Go.bits .or .u64 (g * 4294967296) (p + 1) = refOf p g := by
  unfold refOf
  exact bits_join .u64 64 (by decide) wraps_u64 32 (g * 4294967296) (p + 1) (by omega) (by omega) (by omega) (by omega) (by omega) (by omega)

/-- What Alloc leaves. -/
def Allocd (B sb p : Nat) (v : Value) (C : List Int) (n : Int) (vg vt vr : Value) (s : Sl) (px : Int) (t : List Int) (w : World) (e : Ending) (w' : World) : Prop :=
  e = .returned (.tuple #[.int .u64 (refOf px (s.gens.getD px.toNat 0 + 1)), .int .i64 0]) ∧ ∃ vr' n', n ≤ n' ∧ n' ≤ n + s.words ∧ vr'.ownBlock = vr.ownBlock ∧ SlabAt B sb p v (zeros C (s.first + px * s.words) s.words.toNat) n' vg vt vr' (allocS s px t) w' ∧ Only (SlF sb p v vg vt vr) w w'

set_option maxHeartbeats 4000000 in
set_option maxRecDepth 100000 in
theorem alloc_no (h : SlabAt B sb p v C n vg vt vr s w) (hno : s.row = []) :
    Calls Try.prog 31 #[.pointer (some ⟨sb, 0, none⟩)] w fun e w' => e = .returned (.tuple #[.int .u64 0, .int .i64 7]) ∧ w = w' := by
  obtain ⟨k0, k1, k2, k3, k4, k5⟩ := cells6 h.blk
  obtain ⟨Ar, cr, hvr, hcr, -⟩ := h.r.any
  rw [hno] at hvr
  subst hvr
  clear h hno
  go_enter Try.func31, Try.ntmps31
  go_wp2
  go_ret2
  exact ⟨rfl, rfl⟩

set_option maxHeartbeats 8000000 in
set_option maxRecDepth 100000 in
theorem alloc (h : SlabAt B sb p v C n vg vt vr s w) (ok : s.Ok) (hn : 0 ≤ n ∧ n < 1000000000) (px : Int) (t : List Int) (hrow : s.row = px :: t) (hC : 65536 ≤ 65536) :
    Calls Try.prog 31 #[.pointer (some ⟨sb, 0, none⟩)] w (Allocd B sb p v C n vg vt vr s px t w) := by
  have hp := ok.row px (by rw [hrow]; simp)
  have hw := ok.w0
  have hf := ok.f0
  have hm := mul_in (a := px) (m := s.gens.length) hp ok.w0.1 ok.fits ok.f0.1
  have hlen := ok.len
  have hmost := ok.most
  obtain ⟨i, hpi⟩ := Int.eq_ofNat_of_zero_le hp.1
  have hii : i < s.gens.length := by omega
  have hgr := ok.gen (s.gens.getD i 0) (by rw [List.getD, List.getElem?_eq_getElem hii]; exact List.getElem_mem hii)
  obtain ⟨k0, k1, k2, k3, k4, k5⟩ := cells6 h.blk
  obtain ⟨gg, cg, hvg, hBg, hcg, hmg, hltg, hxg, hfg⟩ := own_shape h.g (by omega)
  obtain ⟨gt, ct, hvt, hBt, hct, hmt, hltt, hxt, hft⟩ := own_shape h.t (by omega)
  obtain ⟨Ar, cr, hvr, hcr, -⟩ := h.r.any
  have hr := h.r
  rw [hrow] at hvr hr hcr
  have hAr : ∃ g o, Ar = some ⟨g, o, none⟩ := by
    rcases hr with ⟨e, e0⟩ | ⟨g', o', cap', cur, hv, _⟩
    · cases e0
    · rw [hvr] at hv
      injection hv with e1
      exact ⟨_, _, e1⟩
  obtain ⟨g, o, rfl⟩ := hAr
  subst hvr
  obtain ⟨c0, cap1, capm, hcr', hq⟩ := Queue.cut hr
  subst hvg
  subst hvt
  have f5 : w.frozen? ⟨sb, 5, none⟩ = false := by simp [World.frozen?, h.blk]
  have hq0 := Lib.hid hq
  have h0 := Lib.hid h
  have xg := hxg i hii
  have fg := hfg i
  have hti : i < s.taken.length := by omega
  have xt := hxt i hti
  have ft := hft i
  have et : (s.taken.map Value.bool).getD i (.bool false) = .bool (s.taken.getD i false) := by simp [List.getD, hti]
  have eg : (s.gens.map (Value.int .i64)).getD i (.bool false) = .int .i64 (s.gens.getD i 0) := by simp [List.getD, hii]
  rw [eg] at xg
  rw [et] at xt
  have eS : allocS s px t = { s with gens := s.gens.set i (s.gens.getD i 0 + 1), taken := s.taken.set i true, row := t } := by unfold allocS; rw [hpi]; rfl
  unfold Allocd
  rw [eS, hpi]
  rw [Int.toNat_natCast]
  subst hpi
  have b1 : (((t.length : Int) + 1) == 0) = false := by simp; omega
  have b2 : decide ((i : Int) < (s.gens.length : Int)) = true := by simp; omega
  have b3 : decide ((i : Int) < (s.taken.length : Int)) = true := by simp; omega
  simp only [List.length_cons] at *
  have eL : s.gens.getD i 0 = s.gens.getD i 0 := rfl
  obtain ⟨gv, hgv⟩ : ∃ gv, s.gens.getD i 0 = gv := ⟨_, rfl⟩
  rw [hgv] at hgr xg ⊢
  replace hgv := Lib.hid hgv
  replace hlen := Lib.hid hlen
  replace hrow := Lib.hid hrow
  clear eL h hr hq ok hxg hfg hxt hft et eg eS
  go_enter Try.func31, Try.ntmps31
  go_upto_region 7 with fail
  have eA : (if cr = 1 then some (⟨g, o, none⟩ : Addr) else some ⟨g, o + 1, none⟩) = some ⟨g, if cr = 1 then o else o + 1, none⟩ := by split <;> rfl
  rw [eA]
  clear eA
  generalize (if cr = 1 then o else o + 1) = o' at *
  have h1 := h0.out.setRow hq0.out (refl _ w) (fun k hk e => h0.out.ap k hk e) (fun e => h0.out.sbr e.symm)
  have o1 : Only (SlF sb p v (.slice (some ⟨gg, 0, none⟩) s.gens.length cg) (.slice (some ⟨gt, 0, none⟩) s.taken.length ct) (.slice (some ⟨g, o, none⟩) (t.length + 1) cr)) w (w.setCell ⟨sb, 5, none⟩ (.slice (some ⟨g, o', none⟩) t.length (cr - 1))) := (refl _ w).setCell (p := ⟨sb, 5, none⟩) (fun _ => .inl rfl) _
  have s1 : w.heap.size ≤ (w.setCell ⟨sb, 5, none⟩ (.slice (some ⟨g, o', none⟩) t.length (cr - 1))).heap.size := o1.size
  replace h1 := Lib.hid h1
  replace o1 := Lib.hid o1
  generalize (w.setCell ⟨sb, 5, none⟩ (.slice (some ⟨g, o', none⟩) t.length (cr - 1))) = w1 at *
  have ngt : ¬ gg = gt := by
    obtain ⟨_, _, cs, hc⟩ := own_blk h1.out.g (k := gg) rfl
    obtain ⟨_, _, ds, hd⟩ := own_blk h1.out.t (k := gt) rfl
    exact ty_ne (by decide) hc hd
  have ngt' : ¬ gt = gg := fun e => ngt e.symm
  have nsg : ¬ gg = sb := by
    obtain ⟨_, _, cs, hc⟩ := own_blk h1.out.g (k := gg) rfl
    exact ty_ne (by decide) hc h1.out.blk
  have nst : ¬ gt = sb := by
    obtain ⟨_, _, cs, hc⟩ := own_blk h1.out.t (k := gt) rfl
    exact ty_ne (by decide) hc h1.out.blk
  clear k0 k1 k2 k3 k4 k5 c0 xg fg xt ft f5 hq0 h0
  obtain ⟨k0, k1, k2, k3, k4, k5⟩ := cells6 h1.out.blk
  obtain ⟨xg, fg⟩ : w1.cell? ⟨gg, i, none⟩ = some (.int .i64 gv) ∧ w1.frozen? ⟨gg, i, none⟩ = false := by
    obtain ⟨g', c', hv', -, -, -, -, hx', hf'⟩ := own_shape h1.out.g (by show 0 < s.gens.length; omega)
    injection hv' with e1
    injection e1 with e1
    injection e1 with e1
    subst e1
    refine ⟨(hx' i hii).trans ?_, hf' i⟩
    rw [← hgv.out]
    simp [List.getD, hii]
  obtain ⟨xt, ft⟩ : w1.cell? ⟨gt, i, none⟩ = some (.bool (s.taken.getD i false)) ∧ w1.frozen? ⟨gt, i, none⟩ = false := by
    obtain ⟨g', c', hv', -, -, -, -, hx', hf'⟩ := own_shape h1.out.t (by show 0 < s.taken.length; omega)
    injection hv' with e1
    injection e1 with e1
    injection e1 with e1
    subst e1
    refine ⟨(hx' i hti).trans ?_, hf' i⟩
    simp [List.getD, hti]
  go_upto_region 9 with fail
  have h2 := (h1.out.setG rfl hii (gv + 1)).setT rfl hti true
  have o2 : Only (SlF sb p v (.slice (some ⟨gg, 0, none⟩) s.gens.length cg) (.slice (some ⟨gt, 0, none⟩) s.taken.length ct) (.slice (some ⟨g, o, none⟩) (t.length + 1) cr)) w ((w1.setCell ⟨gg, i, none⟩ (.int .i64 (gv + 1))).setCell ⟨gt, i, none⟩ (.bool true)) :=
    (o1.out.setCell (p := ⟨gg, i, none⟩) (fun _ => .inr (.inr (.inl rfl))) _).setCell (p := ⟨gt, i, none⟩) (fun _ => .inr (.inr (.inr (.inl rfl)))) _
  replace h2 := Lib.hid h2
  replace o2 := Lib.hid o2
  clear h1 o1 k0 k1 k2 k3 k4 k5 xg fg xt ft
  generalize ((w1.setCell ⟨gg, i, none⟩ (.int .i64 (gv + 1))).setCell ⟨gt, i, none⟩ (.bool true)) = w2 at *
  obtain ⟨k0, k1, k2, k3, k4, k5⟩ := cells6 h2.out.blk
  obtain ⟨words, hwo⟩ := Int.eq_ofNat_of_zero_le (show 0 ≤ s.words by omega)
  rw [hwo] at k2 hm hw
  go_wp2_with fail
  go_loopw [49] (fun c wr => ∃ (k : Nat) (n' : Int), k ≤ words ∧ c = .int .i64 k ∧ n ≤ n' ∧ n' ≤ n + k ∧ Hid (SlabAt B sb p v (zeros C (s.first + (i : Int) * words) k) n' (.slice (some ⟨gg, 0, none⟩) s.gens.length cg) (.slice (some ⟨gt, 0, none⟩) s.taken.length ct) (.slice (some ⟨g, o', none⟩) t.length (cr - 1)) { s with gens := s.gens.set i (gv + 1), taken := s.taken.set i true, row := t } wr) ∧
      Hid (Only (SlF sb p v (.slice (some ⟨gg, 0, none⟩) s.gens.length cg) (.slice (some ⟨gt, 0, none⟩) s.taken.length ct) (.slice (some ⟨g, o, none⟩) (t.length + 1) cr)) w wr))
    (fun c _ => words - (intOf c).toNat)
  case atStart => exact ⟨0, n, by omega, rfl, by omega, by omega, h2, o2⟩
  case round =>
    clear h2 o2 k0 k1 k2 k3 k4 k5
    obtain ⟨k, n', hk, rfl, hn1, hn2, h, o⟩ := hrel
    obtain ⟨k0, k1, k2, k3, k4, k5⟩ := cells6 h.out.blk
    rw [hwo] at k2
    by_cases hlt : k < words
    · have bk : decide ((k : Int) < (words : Int)) = true := by simp; omega
      have e1 := Lib.hid (wrap_in ((i : Int) * words) (by omega))
      have e2 := Lib.hid (wrap_in (s.first + (i : Int) * words) (by omega))
      have e3 := Lib.hid (wrap_in (s.first + (i : Int) * words + k) (by omega))
      go_wp2_with fail
      refine start_ (n := 18) (S := fun w' => w'.cell? ⟨sb, 0, none⟩ = some (.pointer (some ⟨p, 0, none⟩)) ∧ w'.cell? ⟨sb, 1, none⟩ = some (.int .i64 s.first) ∧ w'.cell? ⟨sb, 2, none⟩ = some (.int .i64 words)) (ds := [17]) #[false, false, false, false, false, false, false, false, false, false, false, false, false, false, false, false, false, false] (by kernel_rfl) rfl rfl ⟨k0, k1, k2⟩ (fun hHeld => ?_)
      refine pure_ (i := 0) (N := some 52) (v := ?_) (a' := ?_) #[true, false, false, false, false, false, false, false, false, false, false, false, false, false, false, false, false, false] rfl rfl (by kernel_rfl) (fun _ _ _ h => h) (Or.inl ⟨by rfl, ?_⟩) ?_ ?_
      rotate_left
      · intro w'
        go_simp
        with_reducible rfl
      rotate_left
      · simp only [Act.put, List.setIfInBounds_toArray, List.set_cons_zero, List.set_cons_succ, i64_w, i32_w, e1.out, e2.out, e3.out]
        rfl
      refine pure_ (i := 1) (N := some 53) (v := ?_) (a' := ?_) #[true, true, false, false, false, false, false, false, false, false, false, false, false, false, false, false, false, false] rfl rfl (by kernel_rfl) (fun _ _ _ h => h) (Or.inl ⟨by rfl, ?_⟩) ?_ ?_
      rotate_left
      · intro w'
        go_simp
        with_reducible rfl
      rotate_left
      · simp only [Act.put, List.setIfInBounds_toArray, List.set_cons_zero, List.set_cons_succ, i64_w, i32_w, e1.out, e2.out, e3.out]
        rfl
      refine pure_ (i := 2) (N := some 54) (v := ?_) (a' := ?_) #[true, true, true, false, false, false, false, false, false, false, false, false, false, false, false, false, false, false] rfl rfl (by kernel_rfl) (fun _ _ _ h => h) (Or.inl ⟨by rfl, ?_⟩) ?_ ?_
      rotate_left
      · intro w'
        go_simp
        with_reducible rfl
      rotate_left
      · simp only [Act.put, List.setIfInBounds_toArray, List.set_cons_zero, List.set_cons_succ, i64_w, i32_w, e1.out, e2.out, e3.out]
        rfl
      refine pure_ (i := 4) (N := some 56) (v := ?_) (a' := ?_) #[true, true, true, false, true, false, false, false, false, false, false, false, false, false, false, false, false, false] rfl rfl (by kernel_rfl) (fun _ _ _ h => h) (Or.inl ⟨by rfl, ?_⟩) ?_ ?_
      rotate_left
      · intro w'
        go_simp
        with_reducible rfl
      rotate_left
      · simp only [Act.put, List.setIfInBounds_toArray, List.set_cons_zero, List.set_cons_succ, i64_w, i32_w, e1.out, e2.out, e3.out]
        rfl
      refine pure_ (i := 5) (N := some 57) (v := ?_) (a' := ?_) #[true, true, true, false, true, true, false, false, false, false, false, false, false, false, false, false, false, false] rfl rfl (by kernel_rfl) (fun _ _ _ h => h) (Or.inl ⟨by rfl, ?_⟩) ?_ ?_
      rotate_left
      · intro w'
        go_simp
        with_reducible rfl
      rotate_left
      · simp only [Act.put, List.setIfInBounds_toArray, List.set_cons_zero, List.set_cons_succ, i64_w, i32_w, e1.out, e2.out, e3.out]
        rfl
      refine pure_ (i := 6) (N := some 58) (v := ?_) (a' := ?_) #[true, true, true, false, true, true, true, false, false, false, false, false, false, false, false, false, false, false] rfl rfl (by kernel_rfl) (fun _ _ _ h => h) (Or.inl ⟨by rfl, ?_⟩) ?_ ?_
      rotate_left
      · intro w'
        go_simp
        with_reducible rfl
      rotate_left
      · simp only [Act.put, List.setIfInBounds_toArray, List.set_cons_zero, List.set_cons_succ, i64_w, i32_w, e1.out, e2.out, e3.out]
        rfl
      refine pure_ (i := 8) (N := some 60) (v := ?_) (a' := ?_) #[true, true, true, false, true, true, true, false, true, false, false, false, false, false, false, false, false, false] rfl rfl (by kernel_rfl) (fun _ _ _ h => h) (Or.inl ⟨by rfl, ?_⟩) ?_ ?_
      rotate_left
      · intro w'
        go_simp
        with_reducible rfl
      rotate_left
      · simp only [Act.put, List.setIfInBounds_toArray, List.set_cons_zero, List.set_cons_succ, i64_w, i32_w, e1.out, e2.out, e3.out]
        rfl
      refine pure_ (i := 9) (N := some 61) (v := ?_) (a' := ?_) #[true, true, true, false, true, true, true, false, true, true, false, false, false, false, false, false, false, false] rfl rfl (by kernel_rfl) (fun _ _ _ h => h) (Or.inl ⟨by rfl, ?_⟩) ?_ ?_
      rotate_left
      · intro w'
        go_simp
        with_reducible rfl
      rotate_left
      · simp only [Act.put, List.setIfInBounds_toArray, List.set_cons_zero, List.set_cons_succ, i64_w, i32_w, e1.out, e2.out, e3.out]
        rfl
      refine pure_ (i := 10) (N := some 62) (v := ?_) (a' := ?_) #[true, true, true, false, true, true, true, false, true, true, true, false, false, false, false, false, false, false] rfl rfl (by kernel_rfl) (fun _ _ _ h => h) (Or.inl ⟨by rfl, ?_⟩) ?_ ?_
      rotate_left
      · intro w'
        go_simp
        with_reducible rfl
      rotate_left
      · simp only [Act.put, List.setIfInBounds_toArray, List.set_cons_zero, List.set_cons_succ, i64_w, i32_w, e1.out, e2.out, e3.out]
        rfl
      refine pure_ (i := 11) (N := some 63) (v := ?_) (a' := ?_) #[true, true, true, false, true, true, true, false, true, true, true, true, false, false, false, false, false, false] rfl rfl (by kernel_rfl) (fun _ _ _ h => h) (Or.inl ⟨by rfl, ?_⟩) ?_ ?_
      rotate_left
      · intro w'
        go_simp
        with_reducible rfl
      rotate_left
      · simp only [Act.put, List.setIfInBounds_toArray, List.set_cons_zero, List.set_cons_succ, i64_w, i32_w, e1.out, e2.out, e3.out]
        rfl
      refine pure_ (i := 15) (N := some 67) (v := ?_) (a' := ?_) #[true, true, true, false, true, true, true, false, true, true, true, true, false, false, false, true, false, false] rfl rfl (by kernel_rfl) (fun _ _ _ h => h) (Or.inl ⟨by rfl, ?_⟩) ?_ ?_
      rotate_left
      · intro w'
        go_simp
        with_reducible rfl
      rotate_left
      · simp only [Act.put, List.setIfInBounds_toArray, List.set_cons_zero, List.set_cons_succ, i64_w, i32_w, e1.out, e2.out, e3.out]
        rfl
      refine take_ (i := 3) (N := some 55) (v := ?_) (a' := ?_) #[true, true, true, true, true, true, true, false, true, true, true, true, false, false, false, true, false, false] rfl rfl (by kernel_rfl) (fun _ _ _ h => h) (Or.inl ⟨by rfl, ?_⟩) hHeld ?_ ?_
      rotate_left
      · rintro w' ⟨s0, s1, s2⟩
        go_simp
        with_reducible rfl
      rotate_left
      · simp only [Act.put, List.setIfInBounds_toArray, List.set_cons_zero, List.set_cons_succ, i64_w, i32_w, e1.out, e2.out, e3.out]
        rfl
      refine take_ (i := 7) (N := some 59) (v := ?_) (a' := ?_) #[true, true, true, true, true, true, true, true, true, true, true, true, false, false, false, true, false, false] rfl rfl (by kernel_rfl) (fun _ _ _ h => h) (Or.inl ⟨by rfl, ?_⟩) hHeld ?_ ?_
      rotate_left
      · rintro w' ⟨s0, s1, s2⟩
        go_simp
        with_reducible rfl
      rotate_left
      · simp only [Act.put, List.setIfInBounds_toArray, List.set_cons_zero, List.set_cons_succ, i64_w, i32_w, e1.out, e2.out, e3.out]
        rfl
      refine take_ (i := 12) (N := some 64) (v := ?_) (a' := ?_) #[true, true, true, true, true, true, true, true, true, true, true, true, true, false, false, true, false, false] rfl rfl (by kernel_rfl) (fun _ _ _ h => h) (Or.inl ⟨by rfl, ?_⟩) hHeld ?_ ?_
      rotate_left
      · rintro w' ⟨s0, s1, s2⟩
        go_simp
        with_reducible rfl
      rotate_left
      · simp only [Act.put, List.setIfInBounds_toArray, List.set_cons_zero, List.set_cons_succ, i64_w, i32_w, e1.out, e2.out, e3.out]
        rfl
      refine pure_ (i := 13) (N := some 65) (v := ?_) (a' := ?_) #[true, true, true, true, true, true, true, true, true, true, true, true, true, true, false, true, false, false] rfl rfl (by kernel_rfl) (fun _ _ _ h => h) (Or.inl ⟨by rfl, ?_⟩) ?_ ?_
      rotate_left
      · intro w'
        go_simp
        with_reducible rfl
      rotate_left
      · simp only [Act.put, List.setIfInBounds_toArray, List.set_cons_zero, List.set_cons_succ, i64_w, i32_w, e1.out, e2.out, e3.out]
        rfl
      refine pure_ (i := 14) (N := some 66) (v := ?_) (a' := ?_) #[true, true, true, true, true, true, true, true, true, true, true, true, true, true, true, true, false, false] rfl rfl (by kernel_rfl) (fun _ _ _ h => h) (Or.inl ⟨by rfl, ?_⟩) ?_ ?_
      rotate_left
      · intro w'
        go_simp
        with_reducible rfl
      rotate_left
      · simp only [Act.put, List.setIfInBounds_toArray, List.set_cons_zero, List.set_cons_succ, i64_w, i32_w, e1.out, e2.out, e3.out]
        rfl
      refine pure_ (i := 16) (N := some 68) (v := ?_) (a' := ?_) #[true, true, true, true, true, true, true, true, true, true, true, true, true, true, true, true, true, false] rfl rfl (by kernel_rfl) (fun _ _ _ h => h) (Or.inl ⟨by rfl, ?_⟩) ?_ ?_
      rotate_left
      · intro w'
        go_simp
        with_reducible rfl
      rotate_left
      · simp only [Act.put, List.setIfInBounds_toArray, List.set_cons_zero, List.set_cons_succ, i64_w, i32_w, e1.out, e2.out, e3.out]
        rfl
      refine last_ (i := 17) (N := some 69) #[true, true, true, true, true, true, true, true, true, true, true, true, true, true, true, true, true, true] rfl rfl (by kernel_rfl) (by decide) (fun K hK => ?_)
      refine goes_ Try.func38 (by kernel_rfl) rfl #[.pointer (some ⟨p, 0, none⟩), .int .i64 (s.first + (i : Int) * words + k), .int .u64 0] (by rfl) rfl rfl (by simp only [List.map_toArray, List.map_cons, List.map_nil]; rfl) ?_
      with_reducible refine (Mem.store h.out.drew.mem (s.first + (i : Int) * words + k) 0 (by omega) (by omega)).mono ?_
      rintro e w5 ⟨rfl, m5, o5⟩
      refine ⟨_, rfl, ?_⟩
      have h5 := Lib.hid ((h.out.drew).setM m5 o5)
      have o6 := Lib.hid (((o.out.drewN 1).trans o5 (fun j _ hj => .inr (.inl hj))))
      clear m5 o5
      refine hK.out _ _ ?_
      clear hK K
      refine norm_ (a' := ?_) ?_ ?_
      rotate_left
      · show Act.put _ (some 69) _ = _
        simp only [Act.put, List.setIfInBounds_toArray, List.set_cons_zero, List.set_cons_succ, i64_w, i32_w, e1.out, e2.out, e3.out]
        rfl
      refine done_ (by kernel_rfl) ?_
      have hh := hit_le (zeros C (s.first + (i : Int) * words) k) (s.first + (i : Int) * words + k)
      go_wp2_with fail
      exact ⟨⟨k + 1, _, by omega, by go_num, by omega, by omega, h5, o6⟩, by simp [intOf]; omega⟩
    · obtain rfl : k = words := by omega
      have bk : decide ((k : Int) < (k : Int)) = false := by simp
      have xg : wr.cell? ⟨gg, i, none⟩ = some (.int .i64 (gv + 1)) := by
        obtain ⟨g', c', hv', -, -, -, -, hx', hf'⟩ := own_shape h.out.g (by show 0 < (s.gens.set i (gv + 1)).length; simp; omega)
        injection hv' with e1
        injection e1 with e1
        injection e1 with e1
        subst e1
        refine (hx' i (by simpa using hii)).trans ?_
        simp [List.getD, hii]
      go_wp2
      go_ret2
      refine ⟨?_, .slice (some ⟨g, o', none⟩) t.length (cr - 1), n', hn1, by first | exact hn2 | (rw [hwo]; exact hn2), rfl, ?_, o.out⟩
      · have e := ref_bits (i : Int) (gv + 1) (by omega) (by omega)
        rw [← e]
        rfl
      · have hh := h.out
        rw [hwo] at hh
        exact hh
end
end Go.Proofs.Ytllibgjajlgnbaa.Slab

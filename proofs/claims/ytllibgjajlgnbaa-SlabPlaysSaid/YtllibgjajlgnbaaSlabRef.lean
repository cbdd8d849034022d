/- The reference's slab: what the functions that only read tell. -/
import Derived.Test.YtllibgjajlgnbaaSlab4
import Derived.Test.YtllibgjajlgnbaaRefX
namespace Go.Proofs.Ytllibgjajlgnbaa.SlabRef
open Go Go.RowKit Go.Proofs.Ytllibgjajlgnbaa.Only Go.Proofs.Ytllibgjajlgnbaa.Mem Go.Proofs.Ytllibgjajlgnbaa.New Go.Proofs.Ytllibgjajlgnbaa.Ref Go.Proofs.Ytllibgjajlgnbaa.Slab
set_option linter.unusedVariables false
set_option linter.unusedSimpArgs false

/-- The reference's slab: its slices. -/
structure RefSl (B : Nat) (vC vG vT vR : Value) (C : List Int) (s : Sl) (w : World) : Prop where
  c : RefAt B vC C w
  g : w.ownsRow B 3 1 vG s.gens.length (s.gens.map (Value.int .i64))
  t : w.ownsRow B 4 1 vT s.taken.length (s.taken.map Value.bool)
  r : w.ownsRow B 3 1 vR s.row.length (s.row.map (Value.int .i64))
  rn : ∃ g cap, vR = .slice (some ⟨g, 0, none⟩) s.row.length cap
def xv (vC : Value) (cnt : Int) (s : Sl) (vG vT vR : Value) : Array Value := #[vC, .int .i64 cnt, .int .i64 s.first, .int .i64 s.words, vG, vT, vR]

section
variable {B : Nat} {vC vG vT vR : Value} {C : List Int} {s : Sl} {w : World}
theorem RefSl.keep {S : Nat → Prop} {w' : World} (h : RefSl B vC vG vT vR C s w) (ho : Only S w w') (hS : ∀ k, vC.ownBlock = some k ∨ vG.ownBlock = some k ∨ vT.ownBlock = some k ∨ vR.ownBlock = some k → ¬ S k) : RefSl B vC vG vT vR C s w' :=
  ⟨h.c.keep ho (fun k hk => hS k (.inl hk)), own_keep h.g ho (fun k hk => hS k (.inr (.inl hk))), own_keep h.t ho (fun k hk => hS k (.inr (.inr (.inl hk)))), own_keep h.r ho (fun k hk => hS k (.inr (.inr (.inr hk)))), h.rn⟩
theorem RefSl.below {w' : World} (h : RefSl B vC vG vT vR C s w) (hb : Below w.heap.size w w') : RefSl B vC vG vT vR C s w' := h.keep (S := fun _ => False) (ofBelow hb) (fun _ _ x => x)
theorem own_mono {B B' : Nat} {T : TypeId} {size n : Nat} {v : Value} {xs : List Value} (h : w.ownsRow B T size v n xs) (hB : B' ≤ B) : w.ownsRow B' T size v n xs :=
  ⟨h.1, h.2.imp id fun ⟨g, cap, cur, h1, h2, h3⟩ => ⟨g, cap, cur, h1, Nat.le_trans hB h2, h3⟩⟩
theorem RefSl.mono {B' : Nat} (h : RefSl B vC vG vT vR C s w) (hB : B' ≤ B) : RefSl B' vC vG vT vR C s w := ⟨⟨own_mono h.c.own hB, h.c.most, h.c.pos⟩, own_mono h.g hB, own_mono h.t hB, own_mono h.r hB, h.rn⟩

set_option maxRecDepth 100000 in
theorem rplace (r : Int) (hr : 0 ≤ r ∧ r ≤ 18446744073709551615) (w : World) :
    Calls Try.prog 34 #[.int .u64 r] w fun e w' => e = .returned (.int .i64 (placeOf r)) ∧ w = w' := by
  go_enter Try.func34, Try.ntmps34
  go_wp2
  go_ret
  exact ⟨rfl, rfl⟩
set_option maxRecDepth 100000 in
theorem rgen (r : Int) (hr : 0 ≤ r ∧ r ≤ 18446744073709551615) (w : World) :
    Calls Try.prog 35 #[.int .u64 r] w fun e w' => e = .returned (.int .i64 (genOf r)) ∧ w = w' := by
  go_enter Try.func35, Try.ntmps35
  go_wp2
  go_ret
  exact ⟨rfl, rfl⟩
set_option maxRecDepth 100000 in
theorem rref (p g : Int) (hp : 0 ≤ p ∧ p < 65536) (hg : 0 ≤ g ∧ g ≤ 1000001) (w : World) :
    Calls Try.prog 54 #[.int .i64 p, .int .i64 g] w fun e w' => e = .returned (.int .u64 (refOf p g)) ∧ w = w' := by
  go_enter Try.func54, Try.ntmps54
  go_wp2
  go_ret
  exact ⟨rfl, rfl⟩

set_option maxHeartbeats 4000000 in
set_option maxRecDepth 100000 in
theorem rlive (h : RefSl B vC vG vT vR C s w) (ok : s.Ok) (cnt : Int) :
    Calls Try.prog 37 #[.agg (xv vC cnt s vG vT vR)] w fun e w' => e = .returned (.int .i64 ((s.gens.length : Int) - s.row.length)) ∧ Below w.heap.size w w' := by
  have hmost := ok.most
  have hrows := ok.rows
  have hb : Below w.heap.size w (w.alloc (.cells (xv vC cnt s vG vT vR) 52)) := (Below.refl _ _).alloc (Nat.le_refl _) _
  replace hb := Lib.hid hb
  obtain ⟨Ag, cg, hvg, hcg⟩ := own_any h.g
  obtain ⟨Ar, cr, hvr, hcr⟩ := own_any h.r
  subst hvg
  subst hvr
  clear h ok
  unfold xv at *
  go_enter Try.func37, Try.ntmps37
  go_wp2
  go_ret
  exact ⟨rfl, hb.out⟩

set_option maxHeartbeats 4000000 in
set_option maxRecDepth 100000 in
theorem rthere (h : RefSl B vC vG vT vR C s w) (ok : s.Ok) (cnt r : Int) (hr : 0 ≤ r ∧ r ≤ 18446744073709551615) :
    Calls Try.prog 55 #[.agg (xv vC cnt s vG vT vR), .int .u64 r] w fun e w' => e = .returned (.bool (thereB s r)) ∧ Below w.heap.size w w' := by
  have hl1 : s.gens.length ≤ s.taken.length := by rw [ok.len]; omega
  have hl2 : s.taken.length ≤ s.gens.length := by rw [ok.len]; omega
  have hmost := ok.most
  have hpl : -1 ≤ placeOf r ∧ placeOf r ≤ 4294967295 := by unfold placeOf; omega
  have hgr : 0 ≤ genOf r ∧ genOf r ≤ 4294967295 := by unfold genOf; omega
  have hb : Below w.heap.size w (w.alloc (.cells (xv vC cnt s vG vT vR) 52)) := (Below.refl _ _).alloc (Nat.le_refl _) _
  obtain ⟨Ag, cg, hvg, hcg⟩ := own_any h.g
  obtain ⟨At, ct, hvt, hct⟩ := own_any h.t
  subst hvg
  subst hvt
  unfold xv at *
  have hbd : ∀ a, Below w.heap.size w ((w.alloc (.cells #[vC, .int .i64 cnt, .int .i64 s.first, .int .i64 s.words, .slice Ag s.gens.length cg, .slice At s.taken.length ct, vR] 52)).drewN a) := fun a => hb.trans ((below_drewN _ _).mono hb.size)
  replace hbd := Lib.hid hbd
  have H := Lib.hid h
  replace hb := Lib.hid hb
  obtain ⟨tb, E0⟩ : ∃ tb, tb = (decide (0 ≤ placeOf r ∧ placeOf r < s.gens.length) && (s.taken.getD (placeOf r).toNat false && (s.gens.getD (placeOf r).toNat 0 == genOf r))) := ⟨_, rfl⟩
  rw [show thereB s r = tb from E0.symm]
  replace E0 := Lib.hid E0
  have pl := rplace r hr (w.alloc (.cells #[vC, .int .i64 cnt, .int .i64 s.first, .int .i64 s.words, .slice Ag s.gens.length cg, .slice At s.taken.length ct, vR] 52))
  have gq := fun w' => (rgen r hr w').mono (fun e x (h : e = _ ∧ w' = x) => And.intro h.1 h.2.symm)
  replace gq := Lib.hid gq
  replace pl := Lib.hid pl
  clear h ok
  go_enter Try.func55, Try.ntmps55
  go_wp2_with fail
  refine pl.out.mono ?_
  rintro e w' ⟨rfl, rfl⟩
  have e0 := E0.out
  clear E0 pl
  generalize placeOf r = pl at *
  generalize genOf r = gr at *
  by_cases h0 : pl < 0
  · have b0 : decide (pl < 0) = true := by simpa using h0
    rw [decide_eq_false (by omega), Bool.false_and] at e0
    subst e0
    go_wp2
    go_ret
    exact ⟨rfl, hb.out⟩
  have b0 : decide (pl < 0) = false := by simpa using h0
  by_cases h1 : (s.gens.length : Int) ≤ pl
  · have b1 : decide ((s.gens.length : Int) ≤ pl) = true := by simpa using h1
    rw [decide_eq_false (by omega), Bool.false_and] at e0
    subst e0
    go_wp2
    go_ret
    exact ⟨rfl, hb.out⟩
  have b1 : decide ((s.gens.length : Int) ≤ pl) = false := by simp; omega
  rw [decide_eq_true (by omega), Bool.true_and] at e0
  obtain ⟨i, rfl⟩ := Int.eq_ofNat_of_zero_le (show 0 ≤ pl by omega)
  have hi : i < s.gens.length := by omega
  rw [Int.toNat_natCast] at e0
  obtain ⟨gg, cg', hvg, hBg, hcg', -, hlg, hxg, hfg⟩ := own_shape H.out.g (by omega)
  obtain ⟨gt, ct', hvt, hBt, hct', -, hlt, hxt, hft⟩ := own_shape H.out.t (by omega)
  injection hvg with q1 q2 q3
  injection hvt with q4 q5 q6
  subst q1
  subst q3
  subst q4
  subst q6
  have xt := hxt i (by omega)
  have xg := hxg i hi
  have et : (s.taken.map Value.bool).getD i (.bool false) = .bool (s.taken.getD i false) := by
    have : i < s.taken.length := by omega
    simp [List.getD, this]
  have eg : (s.gens.map (Value.int .i64)).getD i (.bool false) = .int .i64 (s.gens.getD i 0) := by simp [List.getD, hi]
  rw [et] at xt
  rw [eg] at xg
  generalize s.gens.getD i 0 = gv at *
  have b2 : decide ((i : Int) < (s.taken.length : Int)) = true := by simp; omega
  have b3 : decide ((i : Int) < (s.gens.length : Int)) = true := by simp; omega
  have hti : i < s.taken.length := by omega
  clear hxt hxg hft hfg et eg h1 h0
  cases ht : s.taken.getD i false with
  | false =>
    rw [ht] at xt e0
    rw [Bool.false_and] at e0
    subst e0
    go_wp2_with fail
    go_quiet (fail)
    go_wp2
    go_ret
    exact ⟨rfl, hbd.out _⟩
  | true =>
    rw [ht] at xt e0
    rw [Bool.true_and] at e0
    go_wp2_with fail
    go_quiet ((go_at_call 35; exact Calls.quiet_of_same (gq.out _)))
    go_wp2
    go_ret
    exact ⟨by rw [e0]; rfl, hbd.out _⟩

set_option maxHeartbeats 4000000 in
set_option maxRecDepth 100000 in
theorem rcell (h : RefSl B vC vG vT vR C s w) (ok : s.Ok) (cnt r i : Int) (hr : 0 ≤ r ∧ r ≤ 18446744073709551615) (hi : -9223372036854775808 ≤ i ∧ i ≤ 9223372036854775807) :
    Calls Try.prog 50 #[.agg (xv vC cnt s vG vT vR), .int .u64 r, .int .i64 i] w fun e w' => e = .returned (.tuple #[.int .i64 (cellN s r i), .int .i64 (cellE s r i)]) ∧ Below w.heap.size w w' := by
  have hw := ok.w0
  have hf := ok.f0
  have hm := fun hp => mul_in (a := placeOf r) (m := s.gens.length) hp ok.w0.1 ok.fits ok.f0.1
  have eN : cellN s r i = if thereB s r then (if i < 0 ∨ s.words ≤ i then 0 else s.first + placeOf r * s.words + i) else 0 := rfl
  have eE : cellE s r i = if thereB s r then (if i < 0 ∨ s.words ≤ i then 1 else 0) else 4 := rfl
  have hpl := fun h => thereB_place (s := s) (r := r) h
  have hb : Below w.heap.size w (w.alloc (.cells (xv vC cnt s vG vT vR) 52)) := (Below.refl _ _).alloc (Nat.le_refl _) _
  have hs := heap_alloc_new w (.cells (xv vC cnt s vG vT vR) 52)
  have hsl : w.heap.size < (w.alloc (.cells (xv vC cnt s vG vT vR) 52)).heap.size := by simp
  have H := rthere (h.below hb) ok cnt r hr
  unfold xv at *
  generalize hw1 : (w.alloc (.cells #[vC, .int .i64 cnt, .int .i64 s.first, .int .i64 s.words, vG, vT, vR] 52)) = w1 at *
  generalize cellN s r i = N at *
  generalize cellE s r i = E at *
  generalize thereB s r = tb at *
  replace H := Lib.hid H
  replace h := Lib.hid h
  replace hm := Lib.hid hm
  replace hpl := Lib.hid hpl
  replace hs := Lib.hid hs
  replace hb := Lib.hid hb
  replace hw1 := Lib.hid hw1
  cases tb with
  | false =>
    rw [if_neg (by simp)] at eN eE
    subst eN
    subst eE
    go_enter Try.func50, Try.ntmps50
    go_wp2_with fail
    rw [hw1.out]
    refine H.out.mono ?_
    rintro e w2 ⟨rfl, hb2⟩
    have hb2 := Lib.hid (hb.out.trans (hb2.mono hb.out.size))
    go_wp2
    go_ret2
    exact ⟨rfl, hb2.out⟩
  | true =>
    rw [if_pos rfl] at eN eE
    have hp := hpl.out rfl
    have hmm := hm.out hp
    have hq := hp.2
    by_cases hi0 : i < 0
    · rw [if_pos (.inl hi0)] at eN eE
      subst eN
      subst eE
      have b0 : decide (i < 0) = true := by simpa using hi0
      go_enter Try.func50, Try.ntmps50
      go_wp2_with fail
      rw [hw1.out]
      refine H.out.mono ?_
      rintro e w2 ⟨rfl, hb2⟩
      have hb2 := Lib.hid (hb.out.trans (hb2.mono hb.out.size))
      go_wp2
      go_ret2
      exact ⟨rfl, hb2.out⟩
    · have b0 : decide (i < 0) = false := by simpa using hi0
      by_cases hi1 : s.words ≤ i
      · rw [if_pos (.inr hi1)] at eN eE
        subst eN
        subst eE
        have b1 : decide (s.words ≤ i) = true := by simpa using hi1
        go_enter Try.func50, Try.ntmps50
        go_wp2_with fail
        rw [hw1.out]
        refine H.out.mono ?_
        rintro e w2 ⟨rfl, hb2⟩
        have X2 := (hb2.block _ hsl).trans hs.out
        have hb2 := Lib.hid (hb.out.trans (hb2.mono hb.out.size))
        have k2 : w2.cell? ⟨w.heap.size, 2 + 1, none⟩ = some (.int .i64 s.words) := by simp [World.cell?, X2]
        have k3 : w2.cell? ⟨w.heap.size, 3, none⟩ = some (.int .i64 s.words) := k2
        clear X2
        go_wp2
        go_ret2
        exact ⟨rfl, hb2.out⟩
      · rw [if_neg (by omega)] at eN eE
        subst eE
        replace eN := Lib.hid eN
        have b1 : decide (s.words ≤ i) = false := by simpa using hi1
        have pl := fun w' => (rplace r hr w').mono (fun e x (h : e = _ ∧ w' = x) => And.intro h.1 h.2.symm)
        replace pl := Lib.hid pl
        generalize placeOf r = q at *
        have e1 : IntKind.i64.wrap (q * s.words) = q * s.words := IntWalk.i64_in _ (by omega)
        have e2 : IntKind.i64.wrap (s.first + q * s.words) = s.first + q * s.words := IntWalk.i64_in _ (by omega)
        have e3 : IntKind.i64.wrap (s.first + q * s.words + i) = s.first + q * s.words + i := IntWalk.i64_in _ (by omega)
        go_enter Try.func50, Try.ntmps50
        go_wp2_with fail
        rw [hw1.out]
        refine H.out.mono ?_
        rintro e w2 ⟨rfl, hb2⟩
        have X2 := (hb2.block _ hsl).trans hs.out
        have hb2 := Lib.hid (hb.out.trans (hb2.mono hb.out.size))
        have k3 : w2.cell? ⟨w.heap.size, 3, none⟩ = some (.int .i64 s.words) := by simp [World.cell?, X2]
        have k2 : w2.cell? ⟨w.heap.size, 2, none⟩ = some (.int .i64 s.first) := by simp [World.cell?, X2]
        clear X2
        go_wp2_with fail
        go_quiet ((go_at_call 34; exact Calls.quiet_of_same (pl.out _)))
        go_wp2
        go_ret2
        exact ⟨by rw [eN.out]; rfl, hb2.out.trans ((below_drewN _ _).mono hb2.out.size)⟩
end
end Go.Proofs.Ytllibgjajlgnbaa.SlabRef

/- A pool: Enter, Exit. -/
import Derived.Test.YtecjkpjcmgohmacEp
namespace Go.Proofs.Ytecjkpjcmgohmac.Ep
open Go Go.RowKit Go.Maps Go.Proofs.Ytecjkpjcmgohmac.Only
set_option linter.unusedVariables false
set_option linter.unusedSimpArgs false

def inAt (inn : List Int) (t : Int) : Int := inn.getD t.toNat 0
def exitI (inn : List Int) (t : Int) : List Int := if thereP inn t = true ∧ inAt inn t ≠ -1 then inn.set t.toNat (-1) else inn
def exitE (inn : List Int) (t : Int) : Int := if thereP inn t = true then (if inAt inn t = -1 then 4 else 0) else 1
def enterI (inn : List Int) (ep t : Int) : List Int := if thereP inn t = true ∧ inAt inn t = -1 then inn.set t.toNat ep else inn
def enterE (inn : List Int) (t : Int) : Int := if thereP inn t = true then (if inAt inn t = -1 then 0 else 8) else 1
section
variable {B pb mb : Nat} {vin : Value} {inn : List Int} {ep : Int} {G : List Grp} {w w' : World}
theorem thereP_nat {t : Int} (h : thereP inn t = true) : ∃ i : Nat, t = i ∧ i < inn.length := by
  unfold thereP at h
  simp at h
  obtain ⟨i, rfl⟩ := Int.eq_ofNat_of_zero_le h.1
  exact ⟨i, rfl, by omega⟩
/-- A thread's epoch turned. -/
theorem PoolR.setI {g c : Nat} (h : PoolR B pb mb vin inn ep G w) (hv : vin = .slice (some ⟨g, 0, none⟩) inn.length c) {i : Nat} (hi : i < inn.length) (x : Int) :
    PoolR B pb mb vin (inn.set i x) ep G (w.setCell ⟨g, i, none⟩ (.int .i64 x)) ∧ Only (PoolF pb mb vin G) w (w.setCell ⟨g, i, none⟩ (.int .i64 x)) := by
  have hb : vin.ownBlock = some g := by rw [hv]; rfl
  have hg := (own_blk h.inn hb).2.2
  have ho : Only (fun k => k = g) w (w.setCell ⟨g, i, none⟩ (.int .i64 x)) := (refl (fun k => k = g) w).setCell (p := ⟨g, i, none⟩) (fun _ => rfl) _
  obtain ⟨cs, hg⟩ := hg
  have n1 : pb ≠ g := fun e => by subst e; exact ty_ne (by decide) h.blk hg rfl
  have n2 : mb ≠ g := fun e => by
    subst e
    obtain ⟨es, clock, h1, -⟩ := h.map
    rw [hg] at h1; simp at h1
  refine ⟨⟨(ho.block _ (lt_of_heap h.blk) (fun e => n1 e)).trans h.blk, ?_, ?_, fun r hr => own_keep (h.rows r hr) ho (fun k hk e => by have e : k = g := e; subst e; exact own_ty (h.rows r hr) hg (by decide) hk), h.apart, h.asc, h.top, h.pbB, h.mbB⟩, ho.mono (fun k _ e => by have e : k = g := e; subst e; exact .inr (.inr (.inl hb)))⟩
  · have := h.inn
    rw [hv] at this ⊢
    have := own_set this i hi (.int .i64 x)
    simpa [List.map_set] using this
  · have hl := h.map.lt
    obtain ⟨es, clock, h1, r⟩ := h.map
    exact ⟨es, clock, (ho.block _ hl (fun e => n2 e)).trans h1, r⟩
set_option maxHeartbeats 4000000 in
set_option maxRecDepth 100000 in
theorem exit (h : PoolR B pb mb vin inn ep G w) (t : Int) :
    Calls Try.prog 11 #[.pointer (some ⟨pb, 0, none⟩), .int .i64 t] w fun e w' => e = .returned (.int .i64 (exitE inn t)) ∧ PoolR B pb mb vin (exitI inn t) ep G w' ∧ Only (PoolF pb mb vin G) w w' := by
  have TH := there h t
  obtain ⟨⟨k0, k1, k2⟩, -⟩ := cells3 h.blk
  have H := Lib.hid h
  replace TH := Lib.hid TH
  unfold exitE exitI
  cases hth : thereP inn t with
  | false =>
    rw [hth] at TH
    rw [if_neg (by simp), if_neg (by simp)]
    clear h
    go_enter Try.func11, Try.ntmps11
    go_wp2_with fail
    refine TH.out.mono ?_
    rintro e w' ⟨rfl, rfl⟩
    go_wp2
    go_ret
    exact ⟨rfl, H.out, refl _ _⟩
  | true =>
    rw [hth] at TH
    obtain ⟨i, rfl, hi⟩ := thereP_nat hth
    obtain ⟨g, c, e1, -, -, -, hlg, hx, hf⟩ := own_shape h.inn (by omega)
    have xi := hx i hi
    have ei : (inn.map (Value.int .i64)).getD i (.bool false) = .int .i64 (inn.getD i 0) := by simp [List.getD, hi]
    rw [ei] at xi
    have fi := hf i
    have ea : inAt inn (i : Int) = inn.getD i 0 := rfl
    rw [if_pos rfl, ea]
    have nx := Lib.hid (h.setI e1 hi (-1))
    have hlp := lt_of_heap h.blk
    subst e1
    simp only [Int.toNat_natCast]
    generalize inn.getD i 0 = x at *
    have bi : decide ((i : Int) < (inn.length : Int)) = true := decide_eq_true (by omega)
    by_cases h1 : x = -1
    · have b1 : decide (x = -1) = true := decide_eq_true h1
      have b2 : (x == (-1 : Int)) = true := by simp [h1]
      have b3 : (x != (-1 : Int)) = false := by simp [h1]
      rw [if_pos h1, if_neg (by simp [h1])]
      clear h hx hf ei ea h1
      go_enter Try.func11, Try.ntmps11
      go_wp2_with fail
      refine TH.out.mono ?_
      rintro e w' ⟨rfl, rfl⟩
      go_wp2
      go_ret
      exact ⟨rfl, H.out, refl _ _⟩
    · have b1 : decide (x = -1) = false := decide_eq_false h1
      have b2 : (x == (-1 : Int)) = false := by simp [h1]
      have b3 : (x != (-1 : Int)) = true := by simp [h1]
      rw [if_neg h1, if_pos (by simp [h1])]
      clear h hx hf ei ea h1
      go_enter Try.func11, Try.ntmps11
      go_wp2_with fail
      refine TH.out.mono ?_
      rintro e w' ⟨rfl, rfl⟩
      go_wp2
      go_ret
      exact ⟨rfl, nx.out.1, nx.out.2⟩
set_option maxHeartbeats 4000000 in
set_option maxRecDepth 100000 in
theorem enter (h : PoolR B pb mb vin inn ep G w) (t : Int) :
    Calls Try.prog 12 #[.pointer (some ⟨pb, 0, none⟩), .int .i64 t] w fun e w' => e = .returned (.int .i64 (enterE inn t)) ∧ PoolR B pb mb vin (enterI inn ep t) ep G w' ∧ Only (PoolF pb mb vin G) w w' := by
  have TH := there h t
  obtain ⟨⟨k0, k1, k2⟩, -⟩ := cells3 h.blk
  have H := Lib.hid h
  replace TH := Lib.hid TH
  unfold enterE enterI
  cases hth : thereP inn t with
  | false =>
    rw [hth] at TH
    rw [if_neg (by simp), if_neg (by simp)]
    clear h
    go_enter Try.func12, Try.ntmps12
    go_wp2_with fail
    refine TH.out.mono ?_
    rintro e w' ⟨rfl, rfl⟩
    go_wp2
    go_ret
    exact ⟨rfl, H.out, refl _ _⟩
  | true =>
    rw [hth] at TH
    obtain ⟨i, rfl, hi⟩ := thereP_nat hth
    obtain ⟨g, c, e1, -, -, -, hlg, hx, hf⟩ := own_shape h.inn (by omega)
    have xi := hx i hi
    have ei : (inn.map (Value.int .i64)).getD i (.bool false) = .int .i64 (inn.getD i 0) := by simp [List.getD, hi]
    rw [ei] at xi
    have fi := hf i
    have ea : inAt inn (i : Int) = inn.getD i 0 := rfl
    rw [if_pos rfl, ea]
    have nx := h.setI e1 hi ep
    have nx' := Lib.hid (And.intro (nx.1.below (below_drew (Below.refl _ _))) (nx.2.trans (ofBelow (S := fun _ => False) (below_drew (Below.refl _ _))) (fun _ _ x => x.elim)))
    have hlp := lt_of_heap h.blk
    subst e1
    simp only [Int.toNat_natCast]
    generalize inn.getD i 0 = x at *
    have bi : decide ((i : Int) < (inn.length : Int)) = true := decide_eq_true (by omega)
    by_cases h1 : x = -1
    · have b1 : decide (x = -1) = true := decide_eq_true h1
      have b2 : (x == (-1 : Int)) = true := by simp [h1]
      have b3 : (x != (-1 : Int)) = false := by simp [h1]
      rw [if_pos h1, if_pos (by simp [h1])]
      clear h hx hf ei ea h1 nx
      go_enter Try.func12, Try.ntmps12
      go_wp2_with fail
      refine TH.out.mono ?_
      rintro e w' ⟨rfl, rfl⟩
      go_wp2_with fail
      go_region
      go_wp2
      go_ret
      exact ⟨rfl, nx'.out.1, nx'.out.2⟩
    · have b1 : decide (x = -1) = false := decide_eq_false h1
      have b2 : (x == (-1 : Int)) = false := by simp [h1]
      have b3 : (x != (-1 : Int)) = true := by simp [h1]
      rw [if_neg h1, if_neg (by simp [h1])]
      clear h hx hf ei ea h1 nx
      go_enter Try.func12, Try.ntmps12
      go_wp2_with fail
      refine TH.out.mono ?_
      rintro e w' ⟨rfl, rfl⟩
      go_wp2
      go_ret
      exact ⟨rfl, H.out, refl _ _⟩
end
end Go.Proofs.Ytecjkpjcmgohmac.Ep

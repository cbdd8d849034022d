/- What the laws share: arguments. -/
import Derived.Test.YtecjkpjcmgohmabOrR
namespace Go.Proofs.Ytecjkpjcmgohmab.Or
open Go Go.RowKit Go.Maps Go.Proofs.Ytecjkpjcmgohmab.Only Go.Proofs.Ytecjkpjcmgohmab.Pu Go.Proofs.Ytecjkpjcmgohmab.Args
set_option linter.unusedVariables false
set_option linter.unusedSimpArgs false
def ks1 : List Lf := [.str]
def ks5 : List Lf := [.int .i64, .str, .bool, .int .i64, .int .i64]
def strV : Value → ByteArray | .string s => s | _ => ByteArray.empty
def intV : Value → Int | .int _ n => n | _ => 0
def boolV : Value → Bool | .bool b => b | _ => false
def callV (z : List Value) : C := ⟨intV (z.getD 0 (.bool false)), strV (z.getD 1 (.bool false)), boolV (z.getD 2 (.bool false)), intV (z.getD 3 (.bool false)), intV (z.getD 4 (.bool false))⟩
theorem spot_none {w : World} {a : Addr} {u : Value} (h : w.cell? a = some u) : a.spot = none := by
  unfold World.cell? at h
  split at h
  · split at h
    · cases h
    · rename_i q; simpa using q
  · cases h
theorem add_eq {a : Addr} (h : a.spot = none) (n : Nat) : a.add n = ⟨a.block, a.off + n, none⟩ := by
  unfold Addr.add
  split
  · rename_i e; subst e; obtain ⟨b, o, s⟩ := a; simp at h; subst h; rfl
  · rfl
theorem strs_of {w : World} {v : Value} {zs : List (List Value)} (h : StructsV [.str] w v zs) : Strs w v (zs.map (fun z => strV (z.getD 0 (.bool false)))) := by
  obtain ⟨a, cap, hv, hl, hx⟩ := h.shape
  refine ⟨a, cap, by rw [List.length_map]; exact hv, by rw [List.length_map]; exact hl, fun i hi => ?_⟩
  rw [List.length_map] at hi
  obtain ⟨x0, ha0, -, h0⟩ := hx 0 (by omega)
  have s0 := h0 0 .str rfl
  have e0 : (x0.add (0 * 1)).add 0 = x0 := by simp [Addr.add]
  have sp : x0.spot = none := by
    have := spot_none s0
    rw [show ([Lf.str] : List Lf).length = 1 from rfl, e0] at this
    exact this
  obtain ⟨x, ha, hxb, hc⟩ := hx i hi
  rw [ha] at ha0
  injection ha0 with ha0
  subst ha0
  refine ⟨x.block, x.off, by rw [ha]; congr 1; obtain ⟨b, o, s⟩ := x; simp at sp; subst sp; rfl, hxb, ?_⟩
  have h1 := hc 0 .str rfl
  rw [show ([Lf.str] : List Lf).length = 1 from rfl, Nat.mul_one, add_eq sp, add_eq rfl] at h1
  obtain ⟨s, hs, -⟩ := h.ok i hi 0 .str rfl
  rw [hs] at h1
  have e : (zs.map (fun z => strV (z.getD 0 (.bool false)))).getD i ByteArray.empty = s := by
    have ez : zs.getD i [] = zs[i] := by rw [List.getD_eq_getElem?_getD, List.getElem?_eq_getElem hi]; rfl
    rw [ez] at hs
    rw [List.getD_eq_getElem?_getD, List.getElem?_map, List.getElem?_eq_getElem hi]
    show strV (zs[i].getD 0 (.bool false)) = s
    rw [hs]; rfl
  rw [e]
  exact h1
theorem at_map {zs : List (List Value)} {i : Nat} (hi : i < zs.length) : at' (zs.map callV) i = callV (zs.getD i []) := by
  unfold at'
  rw [List.getD_eq_getElem?_getD, List.getElem?_map, List.getD_eq_getElem?_getD, List.getElem?_eq_getElem hi]
  rfl
theorem slR_of {w : World} {v : Value} {zs : List (List Value)} (h : StructsV [.int .i64, .str, .bool, .int .i64, .int .i64] w v zs) : SlR w v (zs.map callV) ∧ ∀ c ∈ zs.map callV, c.key.size ≤ maxLen := by
  obtain ⟨a, cap, hv, hl, hx⟩ := h.shape
  refine ⟨⟨a, cap, by rw [List.length_map]; exact hv, by rw [List.length_map]; exact hl, fun i hi => ?_⟩, fun c hc => ?_⟩
  · rw [List.length_map] at hi
    obtain ⟨x0, ha0, -, h0⟩ := hx 0 (by omega)
    have s0 := h0 0 _ rfl
    have e0 : (x0.add (0 * 5)).add 0 = x0 := by simp [Addr.add]
    have sp : x0.spot = none := by
      have := spot_none s0
      rw [show ([.int .i64, .str, .bool, .int .i64, .int .i64] : List Lf).length = 5 from rfl, e0] at this
      exact this
    obtain ⟨x, ha, hxb, hc⟩ := hx i hi
    rw [ha] at ha0
    injection ha0 with ha0
    subst ha0
    rw [at_map hi]
    refine ⟨x.block, x.off, by rw [ha]; congr 1; obtain ⟨b, o, s⟩ := x; simp at sp; subst sp; rfl, hxb, ?_⟩
    have key : ∀ j k, ([.int .i64, .str, .bool, .int .i64, .int .i64] : List Lf)[j]? = some k → w.cell? ⟨x.block, x.off + i * 5 + j, none⟩ = some ((zs.getD i []).getD j (.bool false)) := fun j k hj => by
      have := hc j k hj
      rw [show ([.int .i64, .str, .bool, .int .i64, .int .i64] : List Lf).length = 5 from rfl, add_eq sp, add_eq rfl] at this
      exact this
    obtain ⟨n0, v0, -⟩ := h.ok i hi 0 _ rfl
    obtain ⟨n1, v1, -⟩ := h.ok i hi 1 _ rfl
    obtain ⟨n2, v2⟩ := h.ok i hi 2 _ rfl
    obtain ⟨n3, v3, -⟩ := h.ok i hi 3 _ rfl
    obtain ⟨n4, v4, -⟩ := h.ok i hi 4 _ rfl
    have k0 := key 0 _ rfl
    have k1 := key 1 _ rfl
    have k2 := key 2 _ rfl
    have k3 := key 3 _ rfl
    have k4 := key 4 _ rfl
    rw [v0] at k0
    rw [v1] at k1
    rw [v2] at k2
    rw [v3] at k3
    rw [v4] at k4
    have e : callV (zs.getD i []) = ⟨n0, n1, n2, n3, n4⟩ := by unfold callV; rw [v0, v1, v2, v3, v4]; rfl
    rw [e]
    exact ⟨k0, k1, k2, k3, k4⟩
  · obtain ⟨z, hz, rfl⟩ := List.mem_map.1 hc
    obtain ⟨i, hi, e⟩ := List.mem_iff_getElem.1 hz
    obtain ⟨s, hs, hss⟩ := h.ok i hi 1 _ rfl
    have ez : zs.getD i [] = zs[i] := by rw [List.getD_eq_getElem?_getD, List.getElem?_eq_getElem hi]; rfl
    rw [ez, e] at hs
    show (strV (z.getD 1 (.bool false))).size ≤ maxLen
    rw [hs]; exact hss
end Go.Proofs.Ytecjkpjcmgohmab.Or

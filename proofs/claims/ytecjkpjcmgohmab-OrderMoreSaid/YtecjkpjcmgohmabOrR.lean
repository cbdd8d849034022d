/- The reference: In, Do, Ahead. -/
import Derived.Test.YtecjkpjcmgohmabOr9
namespace Go.Proofs.Ytecjkpjcmgohmab.Or
open Go Go.RowKit Go.Maps Go.Proofs.Ytecjkpjcmgohmab.Only Go.Proofs.Ytecjkpjcmgohmab.Pu Go.Proofs.YtecjkpjcmgohmabW.PrintLast
set_option linter.unusedVariables false
set_option linter.unusedSimpArgs false
theorem mbr_hit {zs : List ByteArray} {k : ByteArray} {i : Nat} (hi : i < zs.length) (h : zs.getD i ByteArray.empty = k) : mbr zs k = true := by
  rw [mbr_iff, ← h, List.getD_eq_getElem?_getD, List.getElem?_eq_getElem hi]
  exact List.getElem_mem hi
theorem mbr_miss {zs : List ByteArray} {k : ByteArray} (h : ∀ j, j < zs.length → zs.getD j ByteArray.empty ≠ k) : mbr zs k = false := by
  rw [Bool.eq_false_iff]
  intro hm
  obtain ⟨j, hj, e⟩ := List.mem_iff_getElem.1 (mbr_iff.1 hm)
  exact h j hj (by rw [List.getD_eq_getElem?_getD, List.getElem?_eq_getElem hj]; exact e)
theorem str_eq {a b : ByteArray} (h : a = b) : (a.toList == b.toList) = true ∧ (b.toList == a.toList) = true ∧ (a.toList != b.toList) = false := by subst h; simp
theorem str_ne {a b : ByteArray} (h : a ≠ b) : (a.toList == b.toList) = false ∧ (b.toList == a.toList) = false ∧ (a.toList != b.toList) = true := by
  have h1 : (a.toList == b.toList) = false := (Lib.bytes_beq_false_iff _ _).2 h
  have h2 : (b.toList == a.toList) = false := (Lib.bytes_beq_false_iff _ _).2 (Ne.symm h)
  exact ⟨h1, h2, by unfold bne; rw [h1]; rfl⟩
set_option maxRecDepth 100000 in
theorem inC {w : World} {v : Value} {zs : List ByteArray} (h : Strs w v zs) (k : ByteArray) :
    Calls Try.prog 21 #[v, .string k] w fun e w' => e = .returned (.bool (mbr zs k)) ∧ w = w' := by
  obtain ⟨a, cap, rfl, hl, hx⟩ := h.shape
  unfold maxLen at hl
  replace hx := Lib.hid hx
  go_enter Try.func21, Try.ntmps21
  go_wp2_with fail
  go_loopg [5] zs.length (fun g s5 wr => ∃ i : Nat, i + g = zs.length ∧ s5 = .int .i64 i ∧ Aside (∀ j, j < i → zs.getD j ByteArray.empty ≠ k) ∧ w = wr)
  case atStart => exact ⟨0, by omega, rfl, fun j hj => by omega, rfl⟩
  case round =>
    obtain ⟨i, hig, rfl, P, rfl⟩ := hrel
    cases gk with
    | zero =>
      obtain rfl : i = zs.length := by omega
      have hm := Lib.hid (mbr_miss P.out)
      go_wp2_with fail
      go_ret
      exact ⟨by rw [hm.out]; rfl, rfl⟩
    | succ g =>
      have hil : i < zs.length := by omega
      obtain ⟨gb, o, rfl, hgb, hc⟩ := hx.out i hil
      by_cases e : zs.getD i ByteArray.empty = k
      · have hm := Lib.hid (mbr_hit hil e)
        obtain ⟨b1, b2, b3⟩ := str_eq e
        generalize zs.getD i ByteArray.empty = s at *
        clear e
        go_wp2_with fail
        go_ret
        exact ⟨by rw [hm.out]; rfl, rfl⟩
      · obtain ⟨b1, b2, b3⟩ := str_ne e
        have P' : Aside (∀ j, j < i + 1 → zs.getD j ByteArray.empty ≠ k) := fun j hj => by
          by_cases q : j = i
          · subst q; exact e
          · exact P.out j (by omega)
        generalize zs.getD i ByteArray.empty = s at *
        clear e P
        go_wp2_with fail
        go_roundg g
        case measure => omega
        case rel => exact ⟨i + 1, by omega, by go_num, P', rfl⟩
/-- A row of strings of one's own. -/
def OwnS (w : World) (B : Nat) (v : Value) (zs : List ByteArray) : Prop := w.ownsRow B 9 1 v zs.length (zs.map Value.string)
theorem Strs.ofOwn {w : World} {B : Nat} {v : Value} {zs : List ByteArray} (h : OwnS w B v zs) : Strs w v zs := by
  rcases h.2 with ⟨hv, h0⟩ | ⟨g, cap, cur, hv, hB, hg, hc, hm, hz, hx⟩
  · exact ⟨none, 0, by rw [hv, h0], by omega, fun i hi => by omega⟩
  · refine ⟨_, cap, hv, by omega, fun i hi => ⟨g, 0, rfl, lt_of_heap hg, ?_⟩⟩
    have hi2 : i < cur.size := by omega
    have e : (cur.toList.take (zs.length * 1))[i]? = some (.string (zs.getD i ByteArray.empty)) := by
      rw [hx, List.getElem?_map, List.getD_eq_getElem?_getD, List.getElem?_eq_getElem hi]; rfl
    rw [List.getElem?_take_of_lt (by omega)] at e
    simp only [World.cell?, hg]
    rw [Nat.zero_add, ← Array.getElem?_toList]
    exact e
theorem ownS_any {w : World} {B : Nat} {v : Value} {zs : List ByteArray} (h : OwnS w B v zs) : ∃ a cap, v = .slice a zs.length cap := by
  rcases h.2 with ⟨hv, h0⟩ | ⟨g, cap, cur, hv, _⟩
  · exact ⟨none, 0, by rw [hv, h0]⟩
  · exact ⟨_, cap, hv⟩
theorem infoS : (Try.prog.info? 9).map (fun i => (i.zero, i.size, i.bytes)) = some (some (.string ByteArray.empty), 1, 16) := by kernel_rfl
def cutS (zs : List ByteArray) (k : ByteArray) (i : Nat) : List ByteArray := (zs.take i).filter (fun x => decide (x ≠ k))
theorem cutS_all (zs : List ByteArray) (k : ByteArray) : cutS zs k zs.length = zs.filter (fun x => decide (x ≠ k)) := by unfold cutS; rw [List.take_length]
theorem cutS_len (zs : List ByteArray) (k : ByteArray) (i : Nat) : (cutS zs k i).length ≤ zs.length := by
  unfold cutS
  refine Nat.le_trans (List.length_filter_le _ _) ?_
  rw [List.length_take]; omega
theorem cutS_succ {zs : List ByteArray} {k : ByteArray} {i : Nat} (hi : i < zs.length) : cutS zs k (i + 1) = cutS zs k i ++ (if zs.getD i ByteArray.empty = k then [] else [zs.getD i ByteArray.empty]) := by
  unfold cutS
  rw [List.take_succ_eq_append_getElem hi, List.filter_append, List.getD_eq_getElem?_getD, List.getElem?_eq_getElem hi]
  congr 1
  by_cases e : zs[i] = k
  · simp [e]
  · simp [e]
theorem cellS_new (w : World) (s : ByteArray) : ∀ j y, [Value.string s][j]? = some y → (w.alloc (.cells #[.string s] 9)).cell? ((⟨w.heap.size, 0, none⟩ : Addr).add j) = some y := by
  intro j y h
  match j, h with
  | 0, h => cases h; simp [Addr.add]
  | j + 1, h => simp at h
/-- What Do leaves. -/
def Done (w : World) (zs : List ByteArray) (c : C) (e : Ending) (w' : World) : Prop := ∃ v', e = .returned (.tuple #[v', .bool (doR zs c).2]) ∧ Strs w' v' (doR zs c).1 ∧ Below w.heap.size w w'
set_option maxHeartbeats 4000000 in
set_option maxRecDepth 100000 in
theorem doC {w : World} {v : Value} {zs : List ByteArray} (h : Strs w v zs) (hl : zs.length ≤ 1000) (c : C) :
    Calls Try.prog 15 #[v, V c] w (Done w zs c) := by
  obtain ⟨i0, hi, hzz⟩ := Option.map_eq_some_iff.1 infoS
  simp only [Prod.mk.injEq] at hzz
  obtain ⟨hz0, hz1, hz2⟩ := hzz
  generalize hQ : Done w zs c = Q
  replace hQ := Lib.hid hQ
  unfold V
  obtain ⟨a, cap, rfl, -, -⟩ := h.shape
  go_enter Try.func15, Try.ntmps15
  go_upto_region 1 with fail
  obtain ⟨w1, cb, ecb, e1, b1, ⟨x0, x1, x2, x3, x4⟩, hcb⟩ : ∃ w' cb, cb = w.heap.size ∧ w' = w.alloc (.cells #[.int .i64 c.kind, .string c.key, .bool c.ok, .int .i64 c.inv, .int .i64 c.ret] 31) ∧ Below w.heap.size w w' ∧
    (w'.cell? ⟨cb, 0, none⟩ = some (.int .i64 c.kind) ∧ w'.cell? ⟨cb, 1, none⟩ = some (.string c.key) ∧ w'.cell? ⟨cb, 2, none⟩ = some (.bool c.ok) ∧ w'.cell? ⟨cb, 3, none⟩ = some (.int .i64 c.inv) ∧ w'.cell? ⟨cb, 4, none⟩ = some (.int .i64 c.ret)) ∧ cb < w'.heap.size := ⟨_, _, rfl, rfl, (Below.refl _ _).alloc (Nat.le_refl _) _, ⟨by simp, by simp, by simp, by simp, by simp⟩, by simp⟩
  rw [← e1, ← ecb]
  replace ecb := Lib.hid ecb
  have h1 := h.below b1
  have hIn := inC h1 c.key
  replace hIn := Lib.hid hIn
  clear e1
  by_cases hk : c.kind ≠ 1 ∧ c.kind ≠ 2
  · have q1 : (c.kind != 1) = true := by simpa using hk.1
    have q2 : (c.kind != 2) = true := by simpa using hk.2
    have hd : doR zs c = (zs, mbr zs c.key) := by unfold doR; rw [if_pos hk]
    have fin : Q (.returned (.tuple #[.slice a zs.length cap, .bool (mbr zs c.key)])) w1 := by
      rw [← hQ.out]; unfold Done; rw [hd]; exact ⟨_, rfl, h1, b1⟩
    replace fin := Lib.hid fin
    clear hk hd h h1
    go_wp2_with fail
    refine hIn.out.mono ?_
    rintro e w2 ⟨rfl, rfl⟩
    go_wp2_with fail
    exact fin.out
  · have hshape := h1.shape
    obtain ⟨a', cap', hv', hlm, hx⟩ := hshape
    injection hv' with ha _ hcap
    subst ha hcap
    replace hx := Lib.hid hx
    by_cases h2 : c.kind = 2
    · have q1 : (c.kind != 1) = true := by simp [h2]
      have q2 : (c.kind != 2) = false := by simp [h2]
      have q3 : (c.kind == 2) = true := by simp [h2]
      have hd : doR zs c = (zs.filter (fun k => decide (k ≠ c.key)), mbr zs c.key) := by unfold doR; rw [if_neg hk, if_pos h2]
      replace hd := Lib.hid hd
      clear hk h2 h h1
      go_wp2_with fail
      refine hIn.out.mono ?_
      rintro e w2 ⟨rfl, rfl⟩
      go_wp2_with fail
      go_loopg [7, 8] zs.length (fun g s7 s8 wr => ∃ i : Nat, i + g = zs.length ∧ s8 = .int .i64 i ∧ Aside (OwnS wr w1.heap.size s7 (cutS zs c.key i) ∧ Below w1.heap.size w1 wr))
      case atStart => exact ⟨0, by omega, rfl, ⟨rfl, .inl ⟨rfl, rfl⟩⟩, Below.refl _ _⟩
      case round =>
        obtain ⟨i, hig, rfl, P⟩ := hrel
        obtain ⟨A7, C7, e7⟩ := ownS_any P.out.1
        subst e7
        have y0 := (P.out.2.cell (p := ⟨cb, 0, none⟩) hcb).trans x0
        have y1 := (P.out.2.cell (p := ⟨cb, 1, none⟩) hcb).trans x1
        cases gk with
        | zero =>
          obtain rfl : i = zs.length := by omega
          go_wp2_with fail
          have F : Q (.returned (.tuple #[.slice A7 (cutS zs c.key zs.length).length C7, .bool (mbr zs c.key)])) wr := by
            rw [← hQ.out]; unfold Done; rw [hd.out, ← cutS_all]; exact ⟨_, rfl, Strs.ofOwn P.out.1, b1.trans (P.out.2.mono b1.size)⟩
          exact F
        | succ g =>
          have hil : i < zs.length := by omega
          obtain ⟨gb, o, rfl, hgb, hc⟩ := hx.out i hil
          have z0 := (P.out.2.cell (p := ⟨gb, o + i, none⟩) hgb).trans hc
          have hcs := cutS_succ (k := c.key) hil
          have hcl := cutS_len zs c.key i
          by_cases e : zs.getD i ByteArray.empty = c.key
          · rw [if_pos e, List.append_nil] at hcs
            obtain ⟨b1', b2', b3'⟩ := str_eq e
            generalize zs.getD i ByteArray.empty = s at *
            replace hcs := Lib.hid hcs
            clear e hc
            go_wp2_with fail
            go_region
            go_wp2_with fail
            go_roundg g
            case measure => omega
            case rel => exact ⟨i + 1, by omega, by go_num, by rw [hcs.out]; exact own_below P.out.1 (below_drew (Below.refl _ _)), below_drew P.out.2⟩
          · rw [if_neg e] at hcs
            obtain ⟨b1', b2', b3'⟩ := str_ne e
            generalize zs.getD i ByteArray.empty = s at *
            replace hcs := Lib.hid hcs
            clear e hc
            go_wp2_with fail
            go_region
            obtain ⟨wd, ed, bd⟩ : ∃ wd, wd = wr.drew ∧ Below wr.heap.size wr wd := ⟨_, rfl, below_drew (Below.refl _ _)⟩
            rw [← ed]
            clear ed
            have P2 := P.out.2.trans (bd.mono P.out.2.size)
            have P1 := own_below P.out.1 bd
            have z0 := (bd.cell (p := ⟨gb, o + i, none⟩) (cell_lt z0)).trans z0
            have o1 : Below wd.heap.size wd (wd.alloc (.cells #[.string s] 9)) := (Below.refl _ _).alloc (Nat.le_refl _) _
            have hV1 := own_below P1 o1
            have P3 := P2.trans (o1.mono P2.size)
            have hB1 : w1.heap.size ≤ (wd.alloc (.cells #[.string s] 9)).heap.size := P3.size
            have h63 : (cutS zs c.key i).length + 1 ≤ maxLen := by unfold maxLen; omega
            have h64 : ((cutS zs c.key i).length + 1) * 16 ≤ 140737488355328 := by omega
            have oneS : ∀ u ∈ [Value.string s], u.oneCell' = true := fun u hu => by simp at hu; subst hu; rfl
            have fin : ∀ v' w3, w3.ownsRow w1.heap.size 9 1 v' ((cutS zs c.key i).length + 1) ((cutS zs c.key i).map Value.string ++ [.string s]) → (wd.alloc (.cells #[.string s] 9)).grownBy w3 (Value.slice A7 (cutS zs c.key i).length C7).ownBlock → OwnS w3 w1.heap.size v' (cutS zs c.key (i + 1)) ∧ Below w1.heap.size w1 w3 := fun v' w3 hr hg => by
              refine ⟨?_, P3.grown hg hB1 (fun k hk => (own_blk P1 hk).1)⟩
              unfold OwnS
              rw [hcs.out, List.length_append, List.map_append]
              exact hr
            replace fin := Lib.hid fin
            replace h63 := Lib.hid h63
            replace h64 := Lib.hid h64
            go_wp2_with (first
              | (at_builtin; refine wpList_append_own_at _ rfl _ _ 22 rfl w1.heap.size 9 i0 (.string ByteArray.empty) 1 16 Try.underlying22 hi hz0 hz1 hz2 rfl (by decide) _ _ _ rfl hV1 ⟨wd.heap.size, 0, none⟩ 1 1 [.string s] rfl rfl (cellS_new _ _) oneS h63.out h64.out hB1 ?_; intro v2 w3 hr2 hg2 hn2 hat2)
              | go_in)
            go_roundg g
            case measure => omega
            case rel => exact ⟨i + 1, by omega, by go_num, fin.out _ _ hr2 hg2⟩
    · have h3 : c.kind = 1 := by
        by_cases q : c.kind = 1
        · exact q
        · exact absurd ⟨q, h2⟩ hk
      have q1 : (c.kind != 1) = false := by simp [h3]
      have q3 : (c.kind == 2) = false := by simp [h3]
      have hd : doR zs c = (zs.filter (fun k => decide (k ≠ c.key)) ++ [c.key], !mbr zs c.key) := by unfold doR; rw [if_neg hk, if_neg h2]
      replace hd := Lib.hid hd
      clear hk h2 h3 h h1
      go_wp2_with fail
      refine hIn.out.mono ?_
      rintro e w2 ⟨rfl, rfl⟩
      go_wp2_with fail
      go_loopg [7, 8] zs.length (fun g s7 s8 wr => ∃ i : Nat, i + g = zs.length ∧ s8 = .int .i64 i ∧ Aside (OwnS wr w1.heap.size s7 (cutS zs c.key i) ∧ Below w1.heap.size w1 wr))
      case atStart => exact ⟨0, by omega, rfl, ⟨rfl, .inl ⟨rfl, rfl⟩⟩, Below.refl _ _⟩
      case round =>
        obtain ⟨i, hig, rfl, P⟩ := hrel
        obtain ⟨A7, C7, e7⟩ := ownS_any P.out.1
        subst e7
        have y0 := (P.out.2.cell (p := ⟨cb, 0, none⟩) hcb).trans x0
        have y1 := (P.out.2.cell (p := ⟨cb, 1, none⟩) hcb).trans x1
        cases gk with
        | zero =>
          obtain rfl : i = zs.length := by omega
          have hcl := cutS_len zs c.key zs.length
          have o1 : Below wr.heap.size wr (wr.alloc (.cells #[.string c.key] 9)) := (Below.refl _ _).alloc (Nat.le_refl _) _
          have hV1 := own_below P.out.1 o1
          have P3 := P.out.2.trans (o1.mono P.out.2.size)
          have hB1 := P3.size
          have h63 : (cutS zs c.key zs.length).length + 1 ≤ maxLen := by unfold maxLen; omega
          have h64 : ((cutS zs c.key zs.length).length + 1) * 16 ≤ 140737488355328 := by omega
          have oneS : ∀ u ∈ [Value.string c.key], u.oneCell' = true := fun u hu => by simp at hu; subst hu; rfl
          have fin : ∀ v' w3, w3.ownsRow w1.heap.size 9 1 v' ((cutS zs c.key zs.length).length + 1) ((cutS zs c.key zs.length).map Value.string ++ [.string c.key]) → (wr.alloc (.cells #[.string c.key] 9)).grownBy w3 (Value.slice A7 (cutS zs c.key zs.length).length C7).ownBlock → Q (.returned (.tuple #[v', .bool (!mbr zs c.key)])) w3 := fun v' w3 hr hg => by
            have P4 := P3.grown hg hB1 (fun k hk => (own_blk P.out.1 hk).1)
            rw [← hQ.out]
            unfold Done
            rw [hd.out, ← cutS_all]
            refine ⟨_, rfl, Strs.ofOwn (B := w1.heap.size) ?_, b1.trans (P4.mono b1.size)⟩
            unfold OwnS
            rw [List.length_append, List.map_append]
            exact hr
          replace fin := Lib.hid fin
          replace h63 := Lib.hid h63
          replace h64 := Lib.hid h64
          go_wp2_with (first
            | (at_builtin; refine wpList_append_own_at _ rfl _ _ 22 rfl w1.heap.size 9 i0 (.string ByteArray.empty) 1 16 Try.underlying22 hi hz0 hz1 hz2 rfl (by decide) _ _ _ rfl hV1 ⟨wr.heap.size, 0, none⟩ 1 1 [.string c.key] rfl rfl (cellS_new _ _) oneS h63.out h64.out hB1 ?_; intro v2 w3 hr2 hg2 hn2 hat2)
            | go_in)
          exact fin.out _ _ hr2 hg2
        | succ g =>
          have hil : i < zs.length := by omega
          obtain ⟨gb, o, rfl, hgb, hc⟩ := hx.out i hil
          have z0 := (P.out.2.cell (p := ⟨gb, o + i, none⟩) hgb).trans hc
          have hcs := cutS_succ (k := c.key) hil
          have hcl := cutS_len zs c.key i
          by_cases e : zs.getD i ByteArray.empty = c.key
          · rw [if_pos e, List.append_nil] at hcs
            obtain ⟨b1', b2', b3'⟩ := str_eq e
            generalize zs.getD i ByteArray.empty = s at *
            replace hcs := Lib.hid hcs
            clear e hc
            go_wp2_with fail
            go_region
            go_wp2_with fail
            go_roundg g
            case measure => omega
            case rel => exact ⟨i + 1, by omega, by go_num, by rw [hcs.out]; exact own_below P.out.1 (below_drew (Below.refl _ _)), below_drew P.out.2⟩
          · rw [if_neg e] at hcs
            obtain ⟨b1', b2', b3'⟩ := str_ne e
            generalize zs.getD i ByteArray.empty = s at *
            replace hcs := Lib.hid hcs
            clear e hc
            go_wp2_with fail
            go_region
            obtain ⟨wd, ed, bd⟩ : ∃ wd, wd = wr.drew ∧ Below wr.heap.size wr wd := ⟨_, rfl, below_drew (Below.refl _ _)⟩
            rw [← ed]
            clear ed
            have P2 := P.out.2.trans (bd.mono P.out.2.size)
            have P1 := own_below P.out.1 bd
            have z0 := (bd.cell (p := ⟨gb, o + i, none⟩) (cell_lt z0)).trans z0
            have o1 : Below wd.heap.size wd (wd.alloc (.cells #[.string s] 9)) := (Below.refl _ _).alloc (Nat.le_refl _) _
            have hV1 := own_below P1 o1
            have P3 := P2.trans (o1.mono P2.size)
            have hB1 : w1.heap.size ≤ (wd.alloc (.cells #[.string s] 9)).heap.size := P3.size
            have h63 : (cutS zs c.key i).length + 1 ≤ maxLen := by unfold maxLen; omega
            have h64 : ((cutS zs c.key i).length + 1) * 16 ≤ 140737488355328 := by omega
            have oneS : ∀ u ∈ [Value.string s], u.oneCell' = true := fun u hu => by simp at hu; subst hu; rfl
            have fin : ∀ v' w3, w3.ownsRow w1.heap.size 9 1 v' ((cutS zs c.key i).length + 1) ((cutS zs c.key i).map Value.string ++ [.string s]) → (wd.alloc (.cells #[.string s] 9)).grownBy w3 (Value.slice A7 (cutS zs c.key i).length C7).ownBlock → OwnS w3 w1.heap.size v' (cutS zs c.key (i + 1)) ∧ Below w1.heap.size w1 w3 := fun v' w3 hr hg => by
              refine ⟨?_, P3.grown hg hB1 (fun k hk => (own_blk P1 hk).1)⟩
              unfold OwnS
              rw [hcs.out, List.length_append, List.map_append]
              exact hr
            replace fin := Lib.hid fin
            replace h63 := Lib.hid h63
            replace h64 := Lib.hid h64
            go_wp2_with (first
              | (at_builtin; refine wpList_append_own_at _ rfl _ _ 22 rfl w1.heap.size 9 i0 (.string ByteArray.empty) 1 16 Try.underlying22 hi hz0 hz1 hz2 rfl (by decide) _ _ _ rfl hV1 ⟨wd.heap.size, 0, none⟩ 1 1 [.string s] rfl rfl (cellS_new _ _) oneS h63.out h64.out hB1 ?_; intro v2 w3 hr2 hg2 hn2 hat2)
              | go_in)
            go_roundg g
            case measure => omega
            case rel => exact ⟨i + 1, by omega, by go_num, fin.out _ _ hr2 hg2⟩
end Go.Proofs.Ytecjkpjcmgohmab.Or

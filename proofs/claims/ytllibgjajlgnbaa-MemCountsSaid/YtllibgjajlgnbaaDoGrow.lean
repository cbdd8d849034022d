/- MemPlays' step, a deed that grows. -/
import Derived.Test.YtllibgjajlgnbaaDo
namespace Go.Proofs.Ytllibgjajlgnbaa.Do
open Go Go.RowKit Go.Proofs.Ytllibgjajlgnbaa.Only Go.Proofs.Ytllibgjajlgnbaa.Mem Go.Proofs.Ytllibgjajlgnbaa.New
set_option linter.unusedVariables false
set_option linter.unusedSimpArgs false

/-- A slice that stayed, or lies in new memory. -/
def Near (v' v : Value) (n : Nat) : Prop := v'.ownBlock = v.ownBlock ∨ ∃ k, v'.ownBlock = some k ∧ n ≤ k

theorem foot_lt2 {B p : Nat} {v : Value} {C : List Int} {n : Int} {w : World} (h : MemAt B p v C n w) {j : Nat} (hj : Foot p v j) : j < w.heap.size :=
  Nat.lt_of_not_le (fun hh => foot_lt h j hh hj)

set_option maxHeartbeats 4000000 in
set_option maxRecDepth 100000 in
theorem grows {B p : Nat} {v s : Value} {C D : List Int} {n : Int} {w : World} (h : MemAt B p v C n w) (hC : C.length ≤ 65536) (hr : Ref.RefAt B s D w) (hap : Apart p v s) (hB : B ≤ w.heap.size) (cnt k a o x : Int) (ha : -9223372036854775808 ≤ a ∧ a ≤ 9223372036854775807)
    (hk : ¬ (k = 1 ∨ k = 2 ∨ k = 3 ∨ k = 4)) :
    Calls Try.prog 18 #[.pointer (some ⟨p, 0, none⟩), .agg #[s, .int .i64 cnt], .agg #[.int .i64 k, .int .i64 a, .int .u64 o, .int .u64 x]] w (Did B p v (doC C k a o x) n w) := by
  obtain ⟨A, cap, rfl, hcap⟩ := own_any hr.own
  have hlow := foot_lt h
  have hrl := ref_lt hr
  have hb2 : Below w.heap.size w (((w.alloc (.cells #[.slice A D.length cap, .int .i64 cnt] 37)).alloc (.cells #[.int .i64 k, .int .i64 a, .int .u64 o, .int .u64 x] 34)).alloc (.cells #[.slice none 0 0, .int .i64 0] 37)) :=
    (((Below.refl _ _).alloc (Nat.le_refl _) _).alloc (by simp) _).alloc (by simp; omega) _
  have F := DF.start w (.slice A D.length cap) cnt k a o x
  have h2 := h.below hb2
  have hr2 := hr.below hb2
  obtain ⟨a0, a1, a2, a3⟩ := Ref.cell2 F.arg
  obtain ⟨d0, d1, d2, d3⟩ := cell4 F.deed
  have hS := Lib.hid h2
  have hR := Lib.hid hr2
  have F := Lib.hid F
  have hb2 := Lib.hid hb2
  have hlow := Lib.hid hlow
  have hrl := Lib.hid hrl
  have hap := Lib.hid hap
  have k1 : (k == 1) = false := by simp; omega
  have k2 : (k == 2) = false := by simp; omega
  have k3 : (k == 3) = false := by simp; omega
  have k4 : (k == 4) = false := by simp; omega
  clear h h2 hr hr2
  by_cases hle : a ≤ 40
  · by_cases hbad : a < 0 ∨ 65536 < (C.length : Int) + a
    · have hd : doC C k a o x = C := by
        unfold doC
        rw [if_neg (by omega), if_neg (by omega), if_neg (by omega), if_neg (by omega), if_pos (by omega)]
      rw [hd]
      clear hd
      go_enter Try.func18, Try.ntmps18
      go_wp2_with fail
      refine (Grow.grow_bad hS.out hC a (by omega) hbad).mono ?_
      rintro e w3 ⟨rfl, hw3⟩
      have ho3 : Only (Foot p v) (((w.alloc (.cells #[.slice A D.length cap, .int .i64 cnt] 37)).alloc (.cells #[.int .i64 k, .int .i64 a, .int .u64 o, .int .u64 x] 34)).alloc (.cells #[.slice none 0 0, .int .i64 0] 37)) w3 := by rw [← hw3]; exact refl _ _
      have h3 : MemAt B p v C n w3 := by rw [← hw3]; exact hS.out
      have hat : v.ownBlock = v.ownBlock ∨ v.ownBlock = some ((((w.alloc (.cells #[.slice A D.length cap, .int .i64 cnt] 37)).alloc (.cells #[.int .i64 k, .int .i64 a, .int .u64 o, .int .u64 x] 34)).alloc (.cells #[.slice none 0 0, .int .i64 0] 37)).heap.size + 1) := .inl rfl
      clear hw3
      have F3 := F.out.next ho3 hlow.out
      have hr3 := hR.out.keep ho3 (fun k hk hf => by
        rcases hf with e | e
        · exact (hap.out k hk).1 e
        · exact (hap.out k hk).2 e)
      obtain ⟨a0, a1, a2, a3⟩ := Ref.cell2 F3.arg
      obtain ⟨d0, d1, d2, d3⟩ := cell4 F3.deed
      have hs3 := ho3.size
      simp at hs3
      have hvl : ∀ k, Foot p v k → k < w.heap.size ∨ w.heap.size + 4 ≤ k ∧ k < w3.heap.size := by
        intro k hk
        rcases hk with e | e
        · exact .inl (by rw [e]; exact Nat.lt_of_not_le (fun hh => hlow.out p hh (.inl rfl)))
        · rcases hat with e2 | e2
          · exact .inl (Nat.lt_of_not_le (fun hh => hlow.out k hh (.inr (by rw [← e2]; exact e))))
          · rw [e2] at e
            cases e
            exact .inr ⟨by simp, foot_lt2 h3 (.inr e2)⟩
      have hat2 : Near v v w.heap.size := by
        rcases hat with e2 | e2
        · exact .inl e2
        · exact .inr ⟨_, e2, by simp; omega⟩
      have h3 := Lib.hid h3
      have ho3 := Lib.hid ho3
      have F3 := Lib.hid F3
      have hr3 := Lib.hid hr3
      have hat2 := Lib.hid hat2
      have hvl := Lib.hid hvl
      clear F hat
      go_wp2_with fail
      refine (Ref.grow _ D w3 B hr3.out (by omega) cnt a (by omega)).mono ?_
      rintro e w5 ⟨s', cnt', D', y, bad, rfl, h5⟩
      obtain ⟨A', cap', hs', hcap'⟩ := own_any h5.ref.own
      subst hs'
      have F5 := F3.out.next (ofBelow (S := fun _ => False) h5.bel) (fun _ _ x => x)
      have hnew5 : (w5.alloc (.cells #[.slice A' D'.length cap', .int .i64 cnt'] 37)).heap[w.heap.size + 1 + 1]? = some (.cells #[.slice none 0 0, .int .i64 0] 37 (0, 0)) := (heap_alloc_old w5 _ (lt_of_heap F5.res)).trans F5.res
      obtain ⟨r0, r1, r2, r3⟩ := Ref.cell2 hnew5
      have Z := Ref.cell2 (Ref.put2 hnew5 (.slice A' D'.length cap') (.int .i64 cnt'))
      have Z := Lib.hid Z
      clear hnew5
      have h5 := Lib.hid h5
      have F5 := Lib.hid F5
      have hs5 := h5.out.bel.size
      clear F3 a0 a1 a2 a3 d0 d1 d2 d3
      have fin : ∀ (u0 u1 : Value) (T : TypeId) (ok : Bool), Did B p v (C) n w (.returned (.tuple #[.agg #[.slice A' D'.length cap', .int .i64 cnt'], .bool ok])) (((w5.alloc (.cells #[.slice A' D'.length cap', .int .i64 cnt'] T)).setCell ⟨w.heap.size + 1 + 1, 0, none⟩ u0).setCell ⟨w.heap.size + 1 + 1, 1, none⟩ u1) := by
        intro u0 u1 T ok
        have o6 : Only (fun k => w.heap.size ≤ k ∧ k = w.heap.size + 1 + 1) w5 (((w5.alloc (.cells #[.slice A' D'.length cap', .int .i64 cnt'] T)).setCell ⟨w.heap.size + 1 + 1, 0, none⟩ u0).setCell ⟨w.heap.size + 1 + 1, 1, none⟩ u1) :=
          (((refl _ w5).alloc _).setCell (p := ⟨w.heap.size + 1 + 1, 0, none⟩) (fun _ => ⟨by simp; omega, rfl⟩) u0).setCell (p := ⟨w.heap.size + 1 + 1, 1, none⟩) (fun _ => ⟨by simp; omega, rfl⟩) u1
        have m5 := h3.out.below h5.out.bel
        refine ⟨v, _, cnt', D', ok, rfl, ?_, ?_, ?_, ?_, hat2.out⟩
        · exact m5.keep o6 (fun hh => by have := hvl.out p (.inl rfl); omega) (fun k hk hh => by have := hvl.out k (.inr hk); omega)
        · refine h5.out.ref.keep o6 (fun k hk hh => ?_)
          rcases h5.out.new with e | e
          · rw [e] at hk; have := hrl.out k hk; omega
          · have := e k hk; omega
        · intro k hk
          rcases h5.out.new with e | e
          · rw [e] at hk
            have hk2 := hrl.out k hk
            refine ⟨(hap.out k hk).1, fun hh => ?_⟩
            rcases hat2.out with e2 | ⟨j, e2, hj⟩
            · exact (hap.out k hk).2 (by rw [← e2]; exact hh)
            · rw [e2] at hh; cases hh; omega
          · have hk2 := e k hk
            exact ⟨fun hh => by have := hvl.out p (.inl rfl); omega, fun hh => by have := hvl.out k (.inr hh); omega⟩
        · have q1 : Only (Foot p v) w w3 := (ofBelow hb2.out).trans ho3.out (fun _ _ x => x)
          have q2 : Only (Foot p v) w w5 := q1.trans (ofBelow (S := fun _ => False) h5.out.bel) (fun _ _ x => x.elim)
          exact q2.trans o6 (fun k hk hh => by omega)
      have fin := Lib.hid fin
      cases hq : (0 == y) with
      | true =>
        go_wp2
        have Z := Z.out
        refine bodyPost_ret (v := .tuple #[.agg #[.slice A' D'.length cap', .int .i64 cnt'], .bool (7 == bad)]) ?_ rfl (fin.out _ _ _ _)
        generalize (((w5.alloc (.cells #[.slice A' D'.length cap', .int .i64 cnt'] 37)).setCell ⟨w.heap.size + 1 + 1, 0, none⟩ (.slice A' D'.length cap')).setCell ⟨w.heap.size + 1 + 1, 1, none⟩ (.int .i64 cnt')) = wz at Z ⊢
        simp [results, Try.results18, go_sem, Z]
      | false =>
        go_wp2
        have Z := Z.out
        refine bodyPost_ret (v := .tuple #[.agg #[.slice A' D'.length cap', .int .i64 cnt'], .bool false]) ?_ rfl (fin.out _ _ _ _)
        generalize (((w5.alloc (.cells #[.slice A' D'.length cap', .int .i64 cnt'] 37)).setCell ⟨w.heap.size + 1 + 1, 0, none⟩ (.slice A' D'.length cap')).setCell ⟨w.heap.size + 1 + 1, 1, none⟩ (.int .i64 cnt')) = wz at Z ⊢
        simp [results, Try.results18, go_sem, Z]
    · obtain ⟨N, rfl⟩ := Int.eq_ofNat_of_zero_le (show 0 ≤ a by omega)
      have hd : doC C k (N : Int) o x = C ++ List.replicate N 0 := by
        unfold doC
        rw [if_neg (by omega), if_neg (by omega), if_neg (by omega), if_neg (by omega), if_neg (by omega), show (min (N : Int) 40).toNat = N by omega]
      rw [hd]
      clear hd
      go_enter Try.func18, Try.ntmps18
      go_wp2_with fail
      refine (Grow.grow hS.out (by simp; omega) N (by omega)).mono ?_
      rintro e w3 ⟨rfl, v', h3, ho3, hat⟩
      have F3 := F.out.next ho3 hlow.out
      have hr3 := hR.out.keep ho3 (fun k hk hf => by
        rcases hf with e | e
        · exact (hap.out k hk).1 e
        · exact (hap.out k hk).2 e)
      obtain ⟨a0, a1, a2, a3⟩ := Ref.cell2 F3.arg
      obtain ⟨d0, d1, d2, d3⟩ := cell4 F3.deed
      have hs3 := ho3.size
      simp at hs3
      have hvl : ∀ k, Foot p v' k → k < w.heap.size ∨ w.heap.size + 4 ≤ k ∧ k < w3.heap.size := by
        intro k hk
        rcases hk with e | e
        · exact .inl (by rw [e]; exact Nat.lt_of_not_le (fun hh => hlow.out p hh (.inl rfl)))
        · rcases hat with e2 | e2
          · exact .inl (Nat.lt_of_not_le (fun hh => hlow.out k hh (.inr (by rw [← e2]; exact e))))
          · rw [e2] at e
            cases e
            exact .inr ⟨by simp, foot_lt2 h3 (.inr e2)⟩
      have hat2 : Near v' v w.heap.size := by
        rcases hat with e2 | e2
        · exact .inl e2
        · exact .inr ⟨_, e2, by simp; omega⟩
      have h3 := Lib.hid h3
      have ho3 := Lib.hid ho3
      have F3 := Lib.hid F3
      have hr3 := Lib.hid hr3
      have hat2 := Lib.hid hat2
      have hvl := Lib.hid hvl
      clear F hat
      go_wp2_with fail
      refine (Ref.grow _ D w3 B hr3.out (by omega) cnt N (by omega)).mono ?_
      rintro e w5 ⟨s', cnt', D', y, bad, rfl, h5⟩
      obtain ⟨A', cap', hs', hcap'⟩ := own_any h5.ref.own
      subst hs'
      have F5 := F3.out.next (ofBelow (S := fun _ => False) h5.bel) (fun _ _ x => x)
      have hnew5 : (w5.alloc (.cells #[.slice A' D'.length cap', .int .i64 cnt'] 37)).heap[w.heap.size + 1 + 1]? = some (.cells #[.slice none 0 0, .int .i64 0] 37 (0, 0)) := (heap_alloc_old w5 _ (lt_of_heap F5.res)).trans F5.res
      obtain ⟨r0, r1, r2, r3⟩ := Ref.cell2 hnew5
      have Z := Ref.cell2 (Ref.put2 hnew5 (.slice A' D'.length cap') (.int .i64 cnt'))
      have Z := Lib.hid Z
      clear hnew5
      have h5 := Lib.hid h5
      have F5 := Lib.hid F5
      have hs5 := h5.out.bel.size
      clear F3 a0 a1 a2 a3 d0 d1 d2 d3
      have fin : ∀ (u0 u1 : Value) (T : TypeId) (ok : Bool), Did B p v (C ++ List.replicate N 0) n w (.returned (.tuple #[.agg #[.slice A' D'.length cap', .int .i64 cnt'], .bool ok])) (((w5.alloc (.cells #[.slice A' D'.length cap', .int .i64 cnt'] T)).setCell ⟨w.heap.size + 1 + 1, 0, none⟩ u0).setCell ⟨w.heap.size + 1 + 1, 1, none⟩ u1) := by
        intro u0 u1 T ok
        have o6 : Only (fun k => w.heap.size ≤ k ∧ k = w.heap.size + 1 + 1) w5 (((w5.alloc (.cells #[.slice A' D'.length cap', .int .i64 cnt'] T)).setCell ⟨w.heap.size + 1 + 1, 0, none⟩ u0).setCell ⟨w.heap.size + 1 + 1, 1, none⟩ u1) :=
          (((refl _ w5).alloc _).setCell (p := ⟨w.heap.size + 1 + 1, 0, none⟩) (fun _ => ⟨by simp; omega, rfl⟩) u0).setCell (p := ⟨w.heap.size + 1 + 1, 1, none⟩) (fun _ => ⟨by simp; omega, rfl⟩) u1
        have m5 := h3.out.below h5.out.bel
        refine ⟨v', _, cnt', D', ok, rfl, ?_, ?_, ?_, ?_, hat2.out⟩
        · exact m5.keep o6 (fun hh => by have := hvl.out p (.inl rfl); omega) (fun k hk hh => by have := hvl.out k (.inr hk); omega)
        · refine h5.out.ref.keep o6 (fun k hk hh => ?_)
          rcases h5.out.new with e | e
          · rw [e] at hk; have := hrl.out k hk; omega
          · have := e k hk; omega
        · intro k hk
          rcases h5.out.new with e | e
          · rw [e] at hk
            have hk2 := hrl.out k hk
            refine ⟨(hap.out k hk).1, fun hh => ?_⟩
            rcases hat2.out with e2 | ⟨j, e2, hj⟩
            · exact (hap.out k hk).2 (by rw [← e2]; exact hh)
            · rw [e2] at hh; cases hh; omega
          · have hk2 := e k hk
            exact ⟨fun hh => by have := hvl.out p (.inl rfl); omega, fun hh => by have := hvl.out k (.inr hh); omega⟩
        · have q1 : Only (Foot p v) w w3 := (ofBelow hb2.out).trans ho3.out (fun _ _ x => x)
          have q2 : Only (Foot p v) w w5 := q1.trans (ofBelow (S := fun _ => False) h5.out.bel) (fun _ _ x => x.elim)
          exact q2.trans o6 (fun k hk hh => by omega)
      have fin := Lib.hid fin
      cases hq : ((C.length : Int) == y) with
      | true =>
        go_wp2
        have Z := Z.out
        refine bodyPost_ret (v := .tuple #[.agg #[.slice A' D'.length cap', .int .i64 cnt'], .bool (0 == bad)]) ?_ rfl (fin.out _ _ _ _)
        generalize (((w5.alloc (.cells #[.slice A' D'.length cap', .int .i64 cnt'] 37)).setCell ⟨w.heap.size + 1 + 1, 0, none⟩ (.slice A' D'.length cap')).setCell ⟨w.heap.size + 1 + 1, 1, none⟩ (.int .i64 cnt')) = wz at Z ⊢
        simp [results, Try.results18, go_sem, Z]
      | false =>
        go_wp2
        have Z := Z.out
        refine bodyPost_ret (v := .tuple #[.agg #[.slice A' D'.length cap', .int .i64 cnt'], .bool false]) ?_ rfl (fin.out _ _ _ _)
        generalize (((w5.alloc (.cells #[.slice A' D'.length cap', .int .i64 cnt'] 37)).setCell ⟨w.heap.size + 1 + 1, 0, none⟩ (.slice A' D'.length cap')).setCell ⟨w.heap.size + 1 + 1, 1, none⟩ (.int .i64 cnt')) = wz at Z ⊢
        simp [results, Try.results18, go_sem, Z]
  · have hle : 40 < a := by omega
    by_cases hbad : 65536 < (C.length : Int) + 40
    · have hd : doC C k a o x = C := by
        unfold doC
        rw [if_neg (by omega), if_neg (by omega), if_neg (by omega), if_neg (by omega), if_pos (by omega)]
      rw [hd]
      clear hd
      go_enter Try.func18, Try.ntmps18
      go_wp2_with fail
      refine (Grow.grow_bad hS.out hC 40 (by omega) (.inr hbad)).mono ?_
      rintro e w3 ⟨rfl, hw3⟩
      have ho3 : Only (Foot p v) (((w.alloc (.cells #[.slice A D.length cap, .int .i64 cnt] 37)).alloc (.cells #[.int .i64 k, .int .i64 a, .int .u64 o, .int .u64 x] 34)).alloc (.cells #[.slice none 0 0, .int .i64 0] 37)) w3 := by rw [← hw3]; exact refl _ _
      have h3 : MemAt B p v C n w3 := by rw [← hw3]; exact hS.out
      have hat : v.ownBlock = v.ownBlock ∨ v.ownBlock = some ((((w.alloc (.cells #[.slice A D.length cap, .int .i64 cnt] 37)).alloc (.cells #[.int .i64 k, .int .i64 a, .int .u64 o, .int .u64 x] 34)).alloc (.cells #[.slice none 0 0, .int .i64 0] 37)).heap.size + 1) := .inl rfl
      clear hw3
      have F3 := F.out.next ho3 hlow.out
      have hr3 := hR.out.keep ho3 (fun k hk hf => by
        rcases hf with e | e
        · exact (hap.out k hk).1 e
        · exact (hap.out k hk).2 e)
      obtain ⟨a0, a1, a2, a3⟩ := Ref.cell2 F3.arg
      obtain ⟨d0, d1, d2, d3⟩ := cell4 F3.deed
      have hs3 := ho3.size
      simp at hs3
      have hvl : ∀ k, Foot p v k → k < w.heap.size ∨ w.heap.size + 4 ≤ k ∧ k < w3.heap.size := by
        intro k hk
        rcases hk with e | e
        · exact .inl (by rw [e]; exact Nat.lt_of_not_le (fun hh => hlow.out p hh (.inl rfl)))
        · rcases hat with e2 | e2
          · exact .inl (Nat.lt_of_not_le (fun hh => hlow.out k hh (.inr (by rw [← e2]; exact e))))
          · rw [e2] at e
            cases e
            exact .inr ⟨by simp, foot_lt2 h3 (.inr e2)⟩
      have hat2 : Near v v w.heap.size := by
        rcases hat with e2 | e2
        · exact .inl e2
        · exact .inr ⟨_, e2, by simp; omega⟩
      have h3 := Lib.hid h3
      have ho3 := Lib.hid ho3
      have F3 := Lib.hid F3
      have hr3 := Lib.hid hr3
      have hat2 := Lib.hid hat2
      have hvl := Lib.hid hvl
      clear F hat
      go_wp2_with fail
      refine (Ref.grow _ D w3 B hr3.out (by omega) cnt 40 (by omega)).mono ?_
      rintro e w5 ⟨s', cnt', D', y, bad, rfl, h5⟩
      obtain ⟨A', cap', hs', hcap'⟩ := own_any h5.ref.own
      subst hs'
      have F5 := F3.out.next (ofBelow (S := fun _ => False) h5.bel) (fun _ _ x => x)
      have hnew5 : (w5.alloc (.cells #[.slice A' D'.length cap', .int .i64 cnt'] 37)).heap[w.heap.size + 1 + 1]? = some (.cells #[.slice none 0 0, .int .i64 0] 37 (0, 0)) := (heap_alloc_old w5 _ (lt_of_heap F5.res)).trans F5.res
      obtain ⟨r0, r1, r2, r3⟩ := Ref.cell2 hnew5
      have Z := Ref.cell2 (Ref.put2 hnew5 (.slice A' D'.length cap') (.int .i64 cnt'))
      have Z := Lib.hid Z
      clear hnew5
      have h5 := Lib.hid h5
      have F5 := Lib.hid F5
      have hs5 := h5.out.bel.size
      clear F3 a0 a1 a2 a3 d0 d1 d2 d3
      have fin : ∀ (u0 u1 : Value) (T : TypeId) (ok : Bool), Did B p v (C) n w (.returned (.tuple #[.agg #[.slice A' D'.length cap', .int .i64 cnt'], .bool ok])) (((w5.alloc (.cells #[.slice A' D'.length cap', .int .i64 cnt'] T)).setCell ⟨w.heap.size + 1 + 1, 0, none⟩ u0).setCell ⟨w.heap.size + 1 + 1, 1, none⟩ u1) := by
        intro u0 u1 T ok
        have o6 : Only (fun k => w.heap.size ≤ k ∧ k = w.heap.size + 1 + 1) w5 (((w5.alloc (.cells #[.slice A' D'.length cap', .int .i64 cnt'] T)).setCell ⟨w.heap.size + 1 + 1, 0, none⟩ u0).setCell ⟨w.heap.size + 1 + 1, 1, none⟩ u1) :=
          (((refl _ w5).alloc _).setCell (p := ⟨w.heap.size + 1 + 1, 0, none⟩) (fun _ => ⟨by simp; omega, rfl⟩) u0).setCell (p := ⟨w.heap.size + 1 + 1, 1, none⟩) (fun _ => ⟨by simp; omega, rfl⟩) u1
        have m5 := h3.out.below h5.out.bel
        refine ⟨v, _, cnt', D', ok, rfl, ?_, ?_, ?_, ?_, hat2.out⟩
        · exact m5.keep o6 (fun hh => by have := hvl.out p (.inl rfl); omega) (fun k hk hh => by have := hvl.out k (.inr hk); omega)
        · refine h5.out.ref.keep o6 (fun k hk hh => ?_)
          rcases h5.out.new with e | e
          · rw [e] at hk; have := hrl.out k hk; omega
          · have := e k hk; omega
        · intro k hk
          rcases h5.out.new with e | e
          · rw [e] at hk
            have hk2 := hrl.out k hk
            refine ⟨(hap.out k hk).1, fun hh => ?_⟩
            rcases hat2.out with e2 | ⟨j, e2, hj⟩
            · exact (hap.out k hk).2 (by rw [← e2]; exact hh)
            · rw [e2] at hh; cases hh; omega
          · have hk2 := e k hk
            exact ⟨fun hh => by have := hvl.out p (.inl rfl); omega, fun hh => by have := hvl.out k (.inr hh); omega⟩
        · have q1 : Only (Foot p v) w w3 := (ofBelow hb2.out).trans ho3.out (fun _ _ x => x)
          have q2 : Only (Foot p v) w w5 := q1.trans (ofBelow (S := fun _ => False) h5.out.bel) (fun _ _ x => x.elim)
          exact q2.trans o6 (fun k hk hh => by omega)
      have fin := Lib.hid fin
      cases hq : (0 == y) with
      | true =>
        go_wp2
        have Z := Z.out
        refine bodyPost_ret (v := .tuple #[.agg #[.slice A' D'.length cap', .int .i64 cnt'], .bool (7 == bad)]) ?_ rfl (fin.out _ _ _ _)
        generalize (((w5.alloc (.cells #[.slice A' D'.length cap', .int .i64 cnt'] 37)).setCell ⟨w.heap.size + 1 + 1, 0, none⟩ (.slice A' D'.length cap')).setCell ⟨w.heap.size + 1 + 1, 1, none⟩ (.int .i64 cnt')) = wz at Z ⊢
        simp [results, Try.results18, go_sem, Z]
      | false =>
        go_wp2
        have Z := Z.out
        refine bodyPost_ret (v := .tuple #[.agg #[.slice A' D'.length cap', .int .i64 cnt'], .bool false]) ?_ rfl (fin.out _ _ _ _)
        generalize (((w5.alloc (.cells #[.slice A' D'.length cap', .int .i64 cnt'] 37)).setCell ⟨w.heap.size + 1 + 1, 0, none⟩ (.slice A' D'.length cap')).setCell ⟨w.heap.size + 1 + 1, 1, none⟩ (.int .i64 cnt')) = wz at Z ⊢
        simp [results, Try.results18, go_sem, Z]
    · have hd : doC C k a o x = C ++ List.replicate 40 0 := by
        unfold doC
        rw [if_neg (by omega), if_neg (by omega), if_neg (by omega), if_neg (by omega), if_neg (by omega), show (min a 40).toNat = 40 by omega]
      rw [hd]
      clear hd
      go_enter Try.func18, Try.ntmps18
      go_wp2_with fail
      refine (Grow.grow hS.out (by simp; omega) 40 (by omega)).mono ?_
      rintro e w3 ⟨rfl, v', h3, ho3, hat⟩
      have F3 := F.out.next ho3 hlow.out
      have hr3 := hR.out.keep ho3 (fun k hk hf => by
        rcases hf with e | e
        · exact (hap.out k hk).1 e
        · exact (hap.out k hk).2 e)
      obtain ⟨a0, a1, a2, a3⟩ := Ref.cell2 F3.arg
      obtain ⟨d0, d1, d2, d3⟩ := cell4 F3.deed
      have hs3 := ho3.size
      simp at hs3
      have hvl : ∀ k, Foot p v' k → k < w.heap.size ∨ w.heap.size + 4 ≤ k ∧ k < w3.heap.size := by
        intro k hk
        rcases hk with e | e
        · exact .inl (by rw [e]; exact Nat.lt_of_not_le (fun hh => hlow.out p hh (.inl rfl)))
        · rcases hat with e2 | e2
          · exact .inl (Nat.lt_of_not_le (fun hh => hlow.out k hh (.inr (by rw [← e2]; exact e))))
          · rw [e2] at e
            cases e
            exact .inr ⟨by simp, foot_lt2 h3 (.inr e2)⟩
      have hat2 : Near v' v w.heap.size := by
        rcases hat with e2 | e2
        · exact .inl e2
        · exact .inr ⟨_, e2, by simp; omega⟩
      have h3 := Lib.hid h3
      have ho3 := Lib.hid ho3
      have F3 := Lib.hid F3
      have hr3 := Lib.hid hr3
      have hat2 := Lib.hid hat2
      have hvl := Lib.hid hvl
      clear F hat
      go_wp2_with fail
      refine (Ref.grow _ D w3 B hr3.out (by omega) cnt 40 (by omega)).mono ?_
      rintro e w5 ⟨s', cnt', D', y, bad, rfl, h5⟩
      obtain ⟨A', cap', hs', hcap'⟩ := own_any h5.ref.own
      subst hs'
      have F5 := F3.out.next (ofBelow (S := fun _ => False) h5.bel) (fun _ _ x => x)
      have hnew5 : (w5.alloc (.cells #[.slice A' D'.length cap', .int .i64 cnt'] 37)).heap[w.heap.size + 1 + 1]? = some (.cells #[.slice none 0 0, .int .i64 0] 37 (0, 0)) := (heap_alloc_old w5 _ (lt_of_heap F5.res)).trans F5.res
      obtain ⟨r0, r1, r2, r3⟩ := Ref.cell2 hnew5
      have Z := Ref.cell2 (Ref.put2 hnew5 (.slice A' D'.length cap') (.int .i64 cnt'))
      have Z := Lib.hid Z
      clear hnew5
      have h5 := Lib.hid h5
      have F5 := Lib.hid F5
      have hs5 := h5.out.bel.size
      clear F3 a0 a1 a2 a3 d0 d1 d2 d3
      have fin : ∀ (u0 u1 : Value) (T : TypeId) (ok : Bool), Did B p v (C ++ List.replicate 40 0) n w (.returned (.tuple #[.agg #[.slice A' D'.length cap', .int .i64 cnt'], .bool ok])) (((w5.alloc (.cells #[.slice A' D'.length cap', .int .i64 cnt'] T)).setCell ⟨w.heap.size + 1 + 1, 0, none⟩ u0).setCell ⟨w.heap.size + 1 + 1, 1, none⟩ u1) := by
        intro u0 u1 T ok
        have o6 : Only (fun k => w.heap.size ≤ k ∧ k = w.heap.size + 1 + 1) w5 (((w5.alloc (.cells #[.slice A' D'.length cap', .int .i64 cnt'] T)).setCell ⟨w.heap.size + 1 + 1, 0, none⟩ u0).setCell ⟨w.heap.size + 1 + 1, 1, none⟩ u1) :=
          (((refl _ w5).alloc _).setCell (p := ⟨w.heap.size + 1 + 1, 0, none⟩) (fun _ => ⟨by simp; omega, rfl⟩) u0).setCell (p := ⟨w.heap.size + 1 + 1, 1, none⟩) (fun _ => ⟨by simp; omega, rfl⟩) u1
        have m5 := h3.out.below h5.out.bel
        refine ⟨v', _, cnt', D', ok, rfl, ?_, ?_, ?_, ?_, hat2.out⟩
        · exact m5.keep o6 (fun hh => by have := hvl.out p (.inl rfl); omega) (fun k hk hh => by have := hvl.out k (.inr hk); omega)
        · refine h5.out.ref.keep o6 (fun k hk hh => ?_)
          rcases h5.out.new with e | e
          · rw [e] at hk; have := hrl.out k hk; omega
          · have := e k hk; omega
        · intro k hk
          rcases h5.out.new with e | e
          · rw [e] at hk
            have hk2 := hrl.out k hk
            refine ⟨(hap.out k hk).1, fun hh => ?_⟩
            rcases hat2.out with e2 | ⟨j, e2, hj⟩
            · exact (hap.out k hk).2 (by rw [← e2]; exact hh)
            · rw [e2] at hh; cases hh; omega
          · have hk2 := e k hk
            exact ⟨fun hh => by have := hvl.out p (.inl rfl); omega, fun hh => by have := hvl.out k (.inr hh); omega⟩
        · have q1 : Only (Foot p v) w w3 := (ofBelow hb2.out).trans ho3.out (fun _ _ x => x)
          have q2 : Only (Foot p v) w w5 := q1.trans (ofBelow (S := fun _ => False) h5.out.bel) (fun _ _ x => x.elim)
          exact q2.trans o6 (fun k hk hh => by omega)
      have fin := Lib.hid fin
      cases hq : ((C.length : Int) == y) with
      | true =>
        go_wp2
        have Z := Z.out
        refine bodyPost_ret (v := .tuple #[.agg #[.slice A' D'.length cap', .int .i64 cnt'], .bool (0 == bad)]) ?_ rfl (fin.out _ _ _ _)
        generalize (((w5.alloc (.cells #[.slice A' D'.length cap', .int .i64 cnt'] 37)).setCell ⟨w.heap.size + 1 + 1, 0, none⟩ (.slice A' D'.length cap')).setCell ⟨w.heap.size + 1 + 1, 1, none⟩ (.int .i64 cnt')) = wz at Z ⊢
        simp [results, Try.results18, go_sem, Z]
      | false =>
        go_wp2
        have Z := Z.out
        refine bodyPost_ret (v := .tuple #[.agg #[.slice A' D'.length cap', .int .i64 cnt'], .bool false]) ?_ rfl (fin.out _ _ _ _)
        generalize (((w5.alloc (.cells #[.slice A' D'.length cap', .int .i64 cnt'] 37)).setCell ⟨w.heap.size + 1 + 1, 0, none⟩ (.slice A' D'.length cap')).setCell ⟨w.heap.size + 1 + 1, 1, none⟩ (.int .i64 cnt')) = wz at Z ⊢
        simp [results, Try.results18, go_sem, Z]
end Go.Proofs.Ytllibgjajlgnbaa.Do

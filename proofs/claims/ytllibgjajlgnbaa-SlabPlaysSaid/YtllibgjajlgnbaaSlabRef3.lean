/- The reference's slab: Alloc. -/
import Derived.Test.YtllibgjajlgnbaaSlabRef2
import Derived.Test.YtllibgjajlgnbaaWLast
namespace Go.Proofs.Ytllibgjajlgnbaa.SlabRef
open Go Go.RowKit Go.Proofs.Ytllibgjajlgnbaa.Only Go.Proofs.Ytllibgjajlgnbaa.Mem Go.Proofs.Ytllibgjajlgnbaa.New Go.Proofs.Ytllibgjajlgnbaa.Ref Go.Proofs.Ytllibgjajlgnbaa.Slab Go.Proofs.YtllibgjajlgnbaaW.PrintLast
set_option linter.unusedVariables false
set_option linter.unusedSimpArgs false

theorem tail_cells {w : World} {B n : Nat} {T : TypeId} {x : Value} {xs : List Value} {g cap : Nat} (h : w.ownsRow B T 1 (.slice (some ⟨g, 0, none⟩) n cap) n (x :: xs)) (o' : Nat) (ho : o' = (if cap = 1 then 0 else 1)) :
    ∀ j u, xs[j]? = some u → w.cell? ((⟨g, o', none⟩ : Addr).add j) = some u := by
  intro j u hj
  have hc := src_cells h (j + 1) u (by simpa using hj)
  have hlt : j < xs.length := by
    rcases Nat.lt_or_ge j xs.length with q | q
    · exact q
    · rw [List.getElem?_eq_none q] at hj; cases hj
  have hcap : cap ≠ 1 := by
    obtain ⟨h1, h2⟩ := h
    rcases h2 with h2 | ⟨g', cap', cur, e, _, _, h3, _⟩
    · obtain ⟨e, _⟩ := h2
      cases e
    · injection e with e1 e2 e3
      subst e3
      simp at h1
      omega
  rw [if_neg hcap] at ho
  subst ho
  have : ((⟨g, 0, none⟩ : Addr).add (j + 1)) = ((⟨g, 1, none⟩ : Addr).add j) := by simp [Addr.add, Nat.add_comm]
  rw [← this]
  exact hc
theorem add_blk (g o j : Nat) : ((⟨g, o, none⟩ : Addr).add j).block = g := by unfold Addr.add; split <;> rfl
theorem own_grown' {w w' : World} {B n : Nat} {T : TypeId} {v v' : Value} {xs : List Value} (h : w.ownsRow B T 1 v n xs) (hg : w.grownBy w' v'.ownBlock) (hne : ∀ k, v.ownBlock = some k → v'.ownBlock ≠ some k) : w'.ownsRow B T 1 v n xs :=
  h.kept hg (by
    cases hk : v.ownBlock with
    | none => exact .inl rfl
    | some k => exact .inr (fun e => hne k hk e.symm))
theorem own_lt {w : World} {B n k : Nat} {T : TypeId} {v : Value} {xs : List Value} (h : w.ownsRow B T 1 v n xs) (hk : v.ownBlock = some k) : B ≤ k ∧ k < w.heap.size := by
  obtain ⟨hB, _, c, hc⟩ := own_blk h hk
  exact ⟨hB, lt_of_heap hc⟩
theorem X7.drew {q : Nat} {c : Array Value} {w : World} (h : X7 q c w) : X7 q c w.drew := h
theorem own_drew {w : World} {B n : Nat} {T : TypeId} {v : Value} {xs : List Value} (h : w.ownsRow B T 1 v n xs) : w.drew.ownsRow B T 1 v n xs := h
theorem own_named {w : World} {B n k : Nat} {T : TypeId} {v : Value} {xs : List Value} (h : w.ownsRow B T 1 v n xs) (hk : v.ownBlock = some k) : ∃ c, v = .slice (some ⟨k, 0, none⟩) n c := by
  obtain ⟨A, c, e, -⟩ := own_any h
  subst e
  rcases h.2 with h2 | ⟨g, cap, cur, e, _⟩
  · obtain ⟨e, _⟩ := h2
    rw [e] at hk
    cases hk
  · rw [e] at hk
    injection hk with hk
    exact ⟨cap, by rw [e, ← hk]⟩

section
variable {B : Nat} {vC vG vT vR : Value} {C : List Int} {s : Sl} {w : World}
set_option maxHeartbeats 8000000 in
set_option maxRecDepth 100000 in
theorem ralloc_no (h : RefSl B vC vG vT vR C s w) (cnt : Int) (hno : s.row = []) :
    Calls Try.prog 48 #[.agg (xv vC cnt s vG vT vR)] w fun e w' => e = .returned (.tuple #[.agg (xv vC cnt s vG vT vR), .int .u64 0, .int .i64 7]) ∧ Below w.heap.size w w' := by
  obtain ⟨AC, cC, e1, -⟩ := own_any h.c.own
  obtain ⟨AG, cG, e2, -⟩ := own_any h.g
  obtain ⟨AT, cT, e3, -⟩ := own_any h.t
  obtain ⟨AR, cR, e4, -⟩ := own_any h.r
  subst e1 e2 e3 e4
  rw [hno]
  have hb : Below w.heap.size w ((w.alloc (.cells (xv (.slice AC C.length cC) cnt s (.slice AG s.gens.length cG) (.slice AT s.taken.length cT) (.slice AR ([] : List Int).length cR)) 52)).alloc (.cells #[.slice none 0 0, .int .i64 0, .int .i64 0, .int .i64 0, .slice none 0 0, .slice none 0 0, .slice none 0 0] 52)) := ((Below.refl _ _).alloc (Nat.le_refl _) _).alloc (by simp) _
  have ha : X7 w.heap.size (xv (.slice AC C.length cC) cnt s (.slice AG s.gens.length cG) (.slice AT s.taken.length cT) (.slice AR ([] : List Int).length cR)) ((w.alloc (.cells (xv (.slice AC C.length cC) cnt s (.slice AG s.gens.length cG) (.slice AT s.taken.length cT) (.slice AR ([] : List Int).length cR)) 52)).alloc (.cells #[.slice none 0 0, .int .i64 0, .int .i64 0, .int .i64 0, .slice none 0 0, .slice none 0 0, .slice none 0 0] 52)) := X7.alloc (heap_alloc_new w _) _
  have hx := two7 w (.cells (xv (.slice AC C.length cC) cnt s (.slice AG s.gens.length cG) (.slice AT s.taken.length cT) (.slice AR ([] : List Int).length cR)) 52)
  unfold xv at *
  simp only [List.length_nil] at *
  replace hb := Lib.hid hb
  replace ha := Lib.hid ha
  replace hx := Lib.hid hx
  clear h hno
  go_enter Try.func48, Try.ntmps48
  go_upto_region 1 with fail
  generalize ((w.alloc (.cells #[.slice AC C.length cC, .int .i64 cnt, .int .i64 s.first, .int .i64 s.words, .slice AG s.gens.length cG, .slice AT s.taken.length cT, .slice AR 0 cR] 52)).alloc (.cells #[.slice none 0 0, .int .i64 0, .int .i64 0, .int .i64 0, .slice none 0 0, .slice none 0 0, .slice none 0 0] 52)) = w2 at *
  obtain ⟨⟨c0, c1, c2, c3, c4, c5, c6⟩, fa⟩ := cells7 ha.out
  obtain ⟨⟨d0, d1, d2, d3, d4, d5, d6⟩, fx⟩ := cells7 hx.out
  have f0 := fx 0
  have f1 := fx 1
  have f2 := fx 2
  have f3 := fx 3
  have f4 := fx 4
  have f5 := fx 5
  have f6 := fx 6
  clear fa fx
  go_wp2
  obtain ⟨w4, e4, ⟨y0, y1, y2, y3, y4, y5, y6⟩, b4, -⟩ := end7 hx.out hb.out (by omega) (.slice AC C.length cC) (.int .i64 cnt) (.int .i64 s.first) (.int .i64 s.words) (.slice AG s.gens.length cG) (.slice AT s.taken.length cT) (.slice AR 0 cR)
  rw [← e4]
  exact bodyPost_ret (v := .tuple #[.agg #[.slice AC C.length cC, .int .i64 cnt, .int .i64 s.first, .int .i64 s.words, .slice AG s.gens.length cG, .slice AT s.taken.length cT, .slice AR 0 cR], .int .u64 0, .int .i64 7]) (by simp [results, Try.results48, go_sem, y0, y1, y2, y3, y4, y5, y6]) rfl ⟨rfl, b4⟩

/-- The loop of Alloc. -/
structure RLoop (o : Nat) (w1 : World) (uC vC vG vT vR : Value) (C : List Int) (cnt : Int) (s : Sl) (B : Nat) (wr : World) : Prop where
  x : X7 o (xv vC cnt s vG vT vR) wr
  r : RefSl B vC vG vT vR C s wr
  b : Below o w1 wr
  fr : ∀ k, vC.ownBlock = some k → uC.ownBlock = some k ∨ o ≤ k
theorem RLoop.next {o B : Nat} {w1 wr w2 : World} {uC vC vG vT vR u : Value} {C D : List Int} {cnt c' : Int} {s : Sl} (h : RLoop o w1 uC vC vG vT vR C cnt s B wr) (nx : RefNext B vC u D wr w2) (X : Obj) :
    RLoop o w1 uC u vG vT vR D c' s B (((w2.setCell ⟨o, 0, none⟩ u).setCell ⟨o, 1, none⟩ (.int .i64 c')).alloc X) := by
  have hx := h.x.below nx.bel
  have hr := h.r.below nx.bel
  have hlt := X7.lt h.x
  have hle := h.b.size
  have x2 : X7 o (xv u c' s vG vT vR) ((w2.setCell ⟨o, 0, none⟩ u).setCell ⟨o, 1, none⟩ (.int .i64 c')) := by
    unfold X7 xv at hx ⊢
    simp [World.setCell, Array.getElem?_modify, hx]
  have ho : Only (fun k => k = o) w2 ((w2.setCell ⟨o, 0, none⟩ u).setCell ⟨o, 1, none⟩ (.int .i64 c')) := ((refl (fun k => k = o) w2).setCell (p := ⟨o, 0, none⟩) (fun _ => rfl) _).setCell (p := ⟨o, 1, none⟩) (fun _ => rfl) _
  have r2 : RefSl B u vG vT vR D s w2 := ⟨nx.ref, hr.g, hr.t, hr.r, hr.rn⟩
  have r3 := r2.keepX hx ho
  have bx := (((h.b.trans (nx.bel.mono (Nat.le_of_lt hlt))).setCell (p := ⟨o, 0, none⟩) (Nat.le_refl _) u).setCell (p := ⟨o, 1, none⟩) (Nat.le_refl _) (.int .i64 c'))
  refine ⟨x2.alloc X, r3.below ((Below.refl _ _).alloc (Nat.le_refl _) X), bx.alloc (Nat.le_of_lt (X7.lt x2)) X, fun k hk => ?_⟩
  rcases nx.new with e | e
  · exact h.fr k (e ▸ hk)
  · have := e k hk
    exact .inr (by omega)
theorem cntN_le (D : List Int) (a cnt : Int) (h : -1000 ≤ cnt ∧ cnt < 4000000000) : cnt ≤ RefX.cntN D a cnt ∧ RefX.cntN D a cnt ≤ cnt + 1 := by
  unfold RefX.cntN
  split
  · rw [wrap_in _ (by omega)]; omega
  · omega

/-- What a worked Alloc leaves. -/
def RAllocd (B : Nat) (uC uG uT uR : Value) (cnt : Int) (C : List Int) (s : Sl) (px : Int) (t : List Int) (w : World) (e : Ending) (w' : World) : Prop :=
  ∃ vC vG vT vR cnt', e = .returned (.tuple #[.agg (xv vC cnt' (allocS s px t) vG vT vR), .int .u64 (refOf px (s.gens.getD px.toNat 0 + 1)), .int .i64 0]) ∧ cnt ≤ cnt' ∧ cnt' ≤ cnt + s.words ∧ RefSl B vC vG vT vR (zeros C (s.first + px * s.words) s.words.toNat) (allocS s px t) w' ∧ Below w.heap.size w w' ∧ ∀ k, OwnX vC vG vT vR k → OwnX uC uG uT uR k ∨ w.heap.size ≤ k

set_option maxHeartbeats 16000000 in
set_option maxRecDepth 100000 in
theorem ralloc (h : RefSl B vC vG vT vR C s w) (hB : B ≤ w.heap.size) (ok : s.Ok) (cnt : Int) (hn : 0 ≤ cnt ∧ cnt < 1000000000) (px : Int) (t : List Int) (hrow : s.row = px :: t) :
    Calls Try.prog 48 #[.agg (xv vC cnt s vG vT vR)] w (RAllocd B vC vG vT vR cnt C s px t w) := by
  obtain ⟨i0, hi, hzz⟩ := Option.map_eq_some_iff.1 info_int
  simp only [Prod.mk.injEq] at hzz
  obtain ⟨hz0, hz1, hz2⟩ := hzz
  obtain ⟨ib, hib, hzz⟩ := Option.map_eq_some_iff.1 info_bool
  simp only [Prod.mk.injEq] at hzz
  obtain ⟨hb0, hb1, hb2⟩ := hzz
  have hp := ok.row px (by rw [hrow]; simp)
  have hw := ok.w0
  have hf := ok.f0
  have hm := mul_in (a := px) (m := s.gens.length) hp ok.w0.1 ok.fits ok.f0.1
  have hmost := ok.most
  have hrows := ok.rows
  have hlen := ok.len
  obtain ⟨i, hpi⟩ := Int.eq_ofNat_of_zero_le hp.1
  have hgi : i < s.gens.length := by omega
  have hti : i < s.taken.length := by omega
  have htl : s.taken.length ≤ 65536 := by omega
  have hgr := ok.gen (s.gens.getD i 0) (by rw [List.getD, List.getElem?_eq_getElem hgi]; exact List.getElem_mem hgi)
  have eS : allocS s px t = { s with gens := s.gens.set i (s.gens.getD i 0 + 1), taken := s.taken.set i true, row := t } := by unfold allocS; rw [hpi]; rfl
  unfold RAllocd
  rw [eS, hpi, Int.toNat_natCast]
  clear eS
  have hrl : s.row.length = t.length + 1 := by rw [hrow]; simp
  obtain ⟨AC, cC, e1, -⟩ := own_any h.c.own
  obtain ⟨gG, cG, e2, -, -, -, -, xg, -⟩ := own_shape h.g (by omega)
  obtain ⟨gT, cT, e3, -, -, -, -, -, -⟩ := own_shape h.t (by omega)
  obtain ⟨gR, cR, e4, -, hcR, -, -, xr, -⟩ := own_shape h.r (by omega)
  subst e1 e2 e3 e4
  have hzero : (0 : Nat) < s.row.length := by omega
  have xr := xr 0 hzero
  have xg := xg i hgi
  rw [hrow] at xr
  have er : (((px :: t).map (Value.int .i64)).getD 0 (.bool false)) = .int .i64 i := by rw [hpi]; rfl
  have eg : (s.gens.map (Value.int .i64)).getD i (.bool false) = .int .i64 (s.gens.getD i 0) := by simp [List.getD, hgi]
  rw [er] at xr
  rw [eg] at xg
  clear er eg
  obtain ⟨gv, hgv⟩ : ∃ gv, s.gens.getD i 0 = gv := ⟨_, rfl⟩
  rw [hgv] at hgr xg ⊢
  replace hgv := Lib.hid hgv
  have hb : Below w.heap.size w ((w.alloc (.cells (xv (.slice AC C.length cC) cnt s (.slice (some ⟨gG, 0, none⟩) s.gens.length cG) (.slice (some ⟨gT, 0, none⟩) s.taken.length cT) (.slice (some ⟨gR, 0, none⟩) s.row.length cR)) 52)).alloc (.cells #[.slice none 0 0, .int .i64 0, .int .i64 0, .int .i64 0, .slice none 0 0, .slice none 0 0, .slice none 0 0] 52)) := ((Below.refl _ _).alloc (Nat.le_refl _) _).alloc (by simp) _
  have ha : X7 w.heap.size (xv (.slice AC C.length cC) cnt s (.slice (some ⟨gG, 0, none⟩) s.gens.length cG) (.slice (some ⟨gT, 0, none⟩) s.taken.length cT) (.slice (some ⟨gR, 0, none⟩) s.row.length cR)) ((w.alloc (.cells (xv (.slice AC C.length cC) cnt s (.slice (some ⟨gG, 0, none⟩) s.gens.length cG) (.slice (some ⟨gT, 0, none⟩) s.taken.length cT) (.slice (some ⟨gR, 0, none⟩) s.row.length cR)) 52)).alloc (.cells #[.slice none 0 0, .int .i64 0, .int .i64 0, .int .i64 0, .slice none 0 0, .slice none 0 0, .slice none 0 0] 52)) := X7.alloc (heap_alloc_new w _) _
  have hx := two7 w (.cells (xv (.slice AC C.length cC) cnt s (.slice (some ⟨gG, 0, none⟩) s.gens.length cG) (.slice (some ⟨gT, 0, none⟩) s.taken.length cT) (.slice (some ⟨gR, 0, none⟩) s.row.length cR)) 52)
  have h1 := h.below hb
  have hq := own_lt h.r (k := gR) rfl
  have hq2 := own_lt h.g (k := gG) rfl
  have hq3 := own_lt h.t (k := gT) rfl
  have xr1 := (Below.cell hb (p := ⟨gR, 0, none⟩) hq.2).trans xr
  have xg1 := (Below.cell hb (p := ⟨gG, i, none⟩) hq2.2).trans xg
  unfold xv at *
  have b1 : (((t.length : Int) + 1) == 0) = false := by simp; omega
  have b2 : decide ((0 : Int) < (t.length : Int) + 1) = true := decide_eq_true (by omega)
  rw [hrl] at hb ha hx h1 xr1 xg1 ⊢
  replace hb := Lib.hid hb
  replace ha := Lib.hid ha
  replace hx := Lib.hid hx
  replace h1 := Lib.hid h1
  replace hrow := Lib.hid hrow
  replace hrl := Lib.hid hrl
  replace hlen := Lib.hid hlen
  replace hpi := Lib.hid hpi
  clear h ok xr xg hzero
  go_enter Try.func48, Try.ntmps48
  go_upto_region 1 with fail
  generalize ((w.alloc (.cells #[.slice AC C.length cC, .int .i64 cnt, .int .i64 s.first, .int .i64 s.words, .slice (some ⟨gG, 0, none⟩) s.gens.length cG, .slice (some ⟨gT, 0, none⟩) s.taken.length cT, .slice (some ⟨gR, 0, none⟩) (t.length + 1) cR] 52)).alloc (.cells #[.slice none 0 0, .int .i64 0, .int .i64 0, .int .i64 0, .slice none 0 0, .slice none 0 0, .slice none 0 0] 52)) = w1 at *
  have sz1 : w.heap.size + 2 ≤ w1.heap.size := by have := X7.lt hx.out; omega
  obtain ⟨⟨c0, c1, c2, c3, c4, c5, c6⟩, -⟩ := cells7 ha.out
  go_upto_region 5 with fail
  have O2 : X7 w1.heap.size #[.slice AC C.length cC, .int .i64 cnt, .int .i64 s.first, .int .i64 s.words, .slice (some ⟨gG, 0, none⟩) s.gens.length cG, .slice (some ⟨gT, 0, none⟩) s.taken.length cT, .slice (some ⟨gR, 0, none⟩) (t.length + 1) cR] (w1.alloc (.cells #[.slice AC C.length cC, .int .i64 cnt, .int .i64 s.first, .int .i64 s.words, .slice (some ⟨gG, 0, none⟩) s.gens.length cG, .slice (some ⟨gT, 0, none⟩) s.taken.length cT, .slice (some ⟨gR, 0, none⟩) (t.length + 1) cR] 52)) := heap_alloc_new w1 _
  have A2 := ha.out.alloc (.cells #[.slice AC C.length cC, .int .i64 cnt, .int .i64 s.first, .int .i64 s.words, .slice (some ⟨gG, 0, none⟩) s.gens.length cG, .slice (some ⟨gT, 0, none⟩) s.taken.length cT, .slice (some ⟨gR, 0, none⟩) (t.length + 1) cR] 52)
  have bel1 : Below w1.heap.size w1 (w1.alloc (.cells #[.slice AC C.length cC, .int .i64 cnt, .int .i64 s.first, .int .i64 s.words, .slice (some ⟨gG, 0, none⟩) s.gens.length cG, .slice (some ⟨gT, 0, none⟩) s.taken.length cT, .slice (some ⟨gR, 0, none⟩) (t.length + 1) cR] 52)) := (Below.refl _ _).alloc (Nat.le_refl _) _
  generalize (w1.alloc (.cells #[.slice AC C.length cC, .int .i64 cnt, .int .i64 s.first, .int .i64 s.words, .slice (some ⟨gG, 0, none⟩) s.gens.length cG, .slice (some ⟨gT, 0, none⟩) s.taken.length cT, .slice (some ⟨gR, 0, none⟩) (t.length + 1) cR] 52)) = w2 at *
  obtain ⟨o', ho'⟩ : ∃ o', o' = (if cR = 1 then 0 else 1) := ⟨_, rfl⟩
  have eA : (if cR = 1 then some (⟨gR, 0, none⟩ : Addr) else some ⟨gR, 1, none⟩) = some ⟨gR, o', none⟩ := by rw [ho']; split <;> rfl
  have sz2 : w1.heap.size < w2.heap.size := X7.lt O2
  have bel2 := bel1
  have R2 := h1.out.below bel1
  have q2 : w.heap.size ≤ w2.heap.size := by omega
  have tc := tail_cells (by have := R2.r; rw [hrow.out] at this; exact this) o' ho'
  have tc' : ∀ j u, (t.map (Value.int .i64))[j]? = some u → (w2.alloc (.cells #[] 3)).cell? ((⟨gR, o', none⟩ : Addr).add j) = some u := fun j u hj => (Below.cell ((Below.refl _ w2).alloc (Nat.le_refl _) _) (p := (⟨gR, o', none⟩ : Addr).add j) ((add_blk gR o' j).symm ▸ Nat.lt_of_lt_of_le hq.2 q2)).trans (tc j u hj)
  have hlt0 : w.heap.size < w2.heap.size := by omega
  have hlt1 : w.heap.size + 1 < w2.heap.size := by omega
  have hm1 : 0 + t.length ≤ maxLen := by unfold maxLen; have := hrl.out; omega
  have hn1 : (0 + t.length) * 8 ≤ 140737488355328 := by have := hrl.out; omega
  replace O2 := Lib.hid O2
  replace bel2 := Lib.hid bel2
  replace R2 := Lib.hid R2
  replace ho' := Lib.hid ho'
  replace tc' := Lib.hid tc'
  clear tc c0 c1 c2 c3 c4 c5 c6 bel1 xr1 xg1
  obtain ⟨⟨c0, c1, c2, c3, c4, c5, c6⟩, -⟩ := cells7 A2
  replace A2 := Lib.hid A2
  go_wp2_with (at_builtin; refine wpList_append_own_at _ rfl _ _ 49 rfl w.heap.size 3 i0 (.int .i64 0) 1 8 Try.underlying49 hi hz0 hz1 hz2 rfl (by decide) _ _ _ rfl (newEmpty w2 3 w.heap.size q2) ⟨gR, o', none⟩ t.length (cR - 1) (t.map (Value.int .i64)) rfl (by simp) tc'.out (ints_one _) hm1 hn1 (le_alloc q2 _) ?_)
  intro v1 w3 hv1 hg1 _ hat1
  have Bel3 : Below w2.heap.size w2 w3 := bel_grown ((Below.refl _ _).alloc (Nat.le_refl _) _) hg1 (fun k hk => by simp [Value.ownBlock] at hk; omega) (le_alloc (Nat.le_refl _) _)
  have O3 := X7.grown (O2.out.alloc _) (newEmpty w2 3 w.heap.size q2) hg1 (by decide)
  obtain ⟨k1, hk1, hkb1⟩ : ∃ k, v1.ownBlock = some k ∧ w2.heap.size ≤ k := by
    rcases hat1 with e | e
    · exact ⟨_, e, Nat.le_refl _⟩
    · exact ⟨_, e, by omega⟩
  obtain ⟨n1, e1⟩ := own_named hv1 hk1
  subst e1
  have q3 : w2.heap.size ≤ w3.heap.size := Bel3.size
  have f6 := (cells7 O3).2 6
  have o6 := (cells7 O3).1.2.2.2.2.2.2
  have O4 := set7_6 O3 (.slice (some ⟨k1, 0, none⟩) t.length n1)
  have V4 := own_far (k := w1.heap.size) (o := 6) hv1 (ne_of_own O3 hv1 (by decide)) (.slice (some ⟨k1, 0, none⟩) t.length n1)
  have Bel4 := (bel2.out.trans (Bel3.mono (by omega))).setCell (p := ⟨w1.heap.size, 6, none⟩) (Nat.le_refl _) (.slice (some ⟨k1, 0, none⟩) t.length n1)
  have A4 := (A2.out.below Bel3).set (k := w1.heap.size) (o := 6) (by omega) (.slice (some ⟨k1, 0, none⟩) t.length n1)
  have R4 := (R2.out.below Bel3).keepX O3 ((refl (fun k => k = w1.heap.size) w3).setCell (p := ⟨w1.heap.size, 6, none⟩) (fun _ => rfl) (.slice (some ⟨k1, 0, none⟩) t.length n1))
  have sz4 : w2.heap.size ≤ (w3.setCell ⟨w1.heap.size, 6, none⟩ (.slice (some ⟨k1, 0, none⟩) t.length n1)).heap.size := by simpa [World.setCell] using q3
  have kl4 := (own_lt V4 (k := k1) rfl).2
  clear hv1 hg1 hat1 Bel3 O3 c0 c1 c2 c3 c4 c5 c6 tc' hm1 hn1 R2 A2 O2 bel2
  replace O4 := Lib.hid O4
  replace V4 := Lib.hid V4
  replace Bel4 := Lib.hid Bel4
  replace A4 := Lib.hid A4
  replace R4 := Lib.hid R4
  go_upto_region 6 with fail
  generalize (w3.setCell ⟨w1.heap.size, 6, none⟩ (.slice (some ⟨k1, 0, none⟩) t.length n1)) = w4 at *
  clear f6 q3 o6
  have q4 : w.heap.size ≤ w4.heap.size := by omega
  have hlt0 : w.heap.size < w4.heap.size := by omega
  have hm2 : 0 + s.gens.length ≤ maxLen := by unfold maxLen; omega
  have hn2 : (0 + s.gens.length) * 8 ≤ 140737488355328 := by omega
  obtain ⟨⟨c0, c1, c2, c3, c4, c5, c6⟩, -⟩ := cells7 A4.out
  go_wp2_with (at_builtin; refine wpList_append_own_at _ rfl _ _ 49 rfl w.heap.size 3 i0 (.int .i64 0) 1 8 Try.underlying49 hi hz0 hz1 hz2 rfl (by decide) _ _ _ rfl (newEmpty w4 3 w.heap.size q4) ⟨gG, 0, none⟩ s.gens.length cG (s.gens.map (Value.int .i64)) rfl (by simp) (src_cells (own_alloc R4.out.g _)) (ints_one _) hm2 hn2 (le_alloc q4 _) ?_)
  intro v2 w5 hv2 hg2 _ hat2
  have Bel5 : Below w4.heap.size w4 w5 := bel_grown ((Below.refl _ _).alloc (Nat.le_refl _) _) hg2 (fun k hk => by simp [Value.ownBlock] at hk; omega) (le_alloc (Nat.le_refl _) _)
  have O5 := X7.grown (O4.out.alloc _) (newEmpty w4 3 w.heap.size q4) hg2 (by decide)
  have V5 := own_grown' (own_alloc V4.out _) hg2 (fun k hk e => by simp [Value.ownBlock] at hk e; omega)
  obtain ⟨k2, hk2, hkb2⟩ : ∃ k, v2.ownBlock = some k ∧ w4.heap.size ≤ k := by
    rcases hat2 with e | e
    · exact ⟨_, e, Nat.le_refl _⟩
    · exact ⟨_, e, by omega⟩
  obtain ⟨n2, e2⟩ := own_named hv2 hk2
  subst e2
  have q5 : w4.heap.size ≤ w5.heap.size := Bel5.size
  have f4 := (cells7 O5).2 4
  have o4 := (cells7 O5).1.2.2.2.2.1
  have O6 := set7_4 O5 (.slice (some ⟨k2, 0, none⟩) s.gens.length n2)
  have V6 := own_far (k := w1.heap.size) (o := 4) V5 (ne_of_own O5 V5 (by decide)) (.slice (some ⟨k2, 0, none⟩) s.gens.length n2)
  have G6 := own_far (k := w1.heap.size) (o := 4) hv2 (ne_of_own O5 hv2 (by decide)) (.slice (some ⟨k2, 0, none⟩) s.gens.length n2)
  have Bel6 := (Bel4.out.trans (Bel5.mono (by omega))).setCell (p := ⟨w1.heap.size, 4, none⟩) (Nat.le_refl _) (.slice (some ⟨k2, 0, none⟩) s.gens.length n2)
  have A6 := (A4.out.below Bel5).set (k := w1.heap.size) (o := 4) (by omega) (.slice (some ⟨k2, 0, none⟩) s.gens.length n2)
  have R6 := (R4.out.below Bel5).keepX O5 ((refl (fun k => k = w1.heap.size) w5).setCell (p := ⟨w1.heap.size, 4, none⟩) (fun _ => rfl) (.slice (some ⟨k2, 0, none⟩) s.gens.length n2))
  have sz6 : w4.heap.size ≤ (w5.setCell ⟨w1.heap.size, 4, none⟩ (.slice (some ⟨k2, 0, none⟩) s.gens.length n2)).heap.size := by simpa [World.setCell] using q5
  have kl6 := (own_lt G6 (k := k2) rfl).2
  clear hv2 hg2 hat2 Bel5 O5 V5 c0 c1 c2 c3 c4 c5 c6 hm2 hn2 R4 A4 O4 V4 Bel4
  replace O6 := Lib.hid O6
  replace V6 := Lib.hid V6
  replace G6 := Lib.hid G6
  replace Bel6 := Lib.hid Bel6
  replace A6 := Lib.hid A6
  replace R6 := Lib.hid R6
  go_upto_region 7 with fail
  generalize (w5.setCell ⟨w1.heap.size, 4, none⟩ (.slice (some ⟨k2, 0, none⟩) s.gens.length n2)) = w6 at *
  clear f4 q5 o4
  have q6 : w.heap.size ≤ w6.heap.size := by omega
  obtain ⟨⟨c0, c1, c2, c3, c4, c5, c6⟩, -⟩ := cells7 A6.out
  obtain ⟨⟨o0, o1, o2, o3, o4, o5, o6⟩, -⟩ := cells7 O6.out
  obtain ⟨xg, fg⟩ : w6.cell? ⟨k2, i, none⟩ = some (.int .i64 gv) ∧ w6.frozen? ⟨k2, i, none⟩ = false := by
    obtain ⟨g', c', hv', -, -, -, -, hx', hf'⟩ := own_shape G6.out (by omega)
    injection hv' with e1
    injection e1 with e1
    injection e1 with e1
    subst e1
    refine ⟨(hx' i hgi).trans ?_, hf' i⟩
    rw [← hgv.out]
    simp [List.getD, hgi]
  have yg : w6.cell? ⟨gG, i, none⟩ = some (.int .i64 gv) := by
    obtain ⟨g', c', hv', -, -, -, -, hx', -⟩ := own_shape R6.out.g (by omega)
    injection hv' with e1
    injection e1 with e1
    injection e1 with e1
    subst e1
    refine (hx' i hgi).trans ?_
    rw [← hgv.out]
    simp [List.getD, hgi]
  have b3 : decide ((i : Int) < (s.gens.length : Int)) = true := decide_eq_true (by omega)
  have ew := Lib.hid (wrap_in (gv + 1) (by omega))
  go_region
  have n12 : ¬ k1 = k2 := by omega
  have n21 : ¬ k2 = k1 := by omega
  have no2 : ¬ w1.heap.size = k2 := by omega
  have O7 := (O6.out.set (k := k2) (o := i) no2 (.int .i64 (gv + 1))).drew
  have A7 := (A6.out.set (k := k2) (o := i) (by omega) (.int .i64 (gv + 1))).drew
  have V7 := own_drew (own_far (k := k2) (o := i) V6.out (fun e => by simp [Value.ownBlock] at e; omega) (.int .i64 (gv + 1)))
  have G7 := own_drew (own_set G6.out i hgi (.int .i64 (gv + 1)))
  rw [← List.map_set] at G7
  have Bel7 := below_drew (Bel6.out.setCell (p := ⟨k2, i, none⟩) (show w1.heap.size ≤ k2 by omega) (.int .i64 (gv + 1)))
  have sz7 : w6.heap.size ≤ (w6.setCell ⟨k2, i, none⟩ (.int .i64 (gv + 1))).drew.heap.size := by simp [World.setCell, World.drew]
  have R7 := h1.out.below Bel7
  replace O7 := Lib.hid O7
  replace A7 := Lib.hid A7
  replace V7 := Lib.hid V7
  replace G7 := Lib.hid G7
  replace Bel7 := Lib.hid Bel7
  replace R7 := Lib.hid R7
  generalize ((w6.setCell ⟨k2, i, none⟩ (.int .i64 (gv + 1))).drew) = w7 at *
  clear O6 A6 V6 G6 Bel6 R6 c0 c1 c2 c3 c4 c5 c6 o0 o1 o2 o3 o4 o5 o6 xg fg yg
  have q7 : w.heap.size ≤ w7.heap.size := by omega
  have hlt0 : w.heap.size < w7.heap.size := by omega
  have hm3 : 0 + s.taken.length ≤ maxLen := by unfold maxLen; omega
  have hn3 : (0 + s.taken.length) * 1 ≤ 140737488355328 := by omega
  obtain ⟨⟨c0, c1, c2, c3, c4, c5, c6⟩, -⟩ := cells7 A7.out
  go_wp2_with (at_builtin; refine wpList_append_own_at _ rfl _ _ 50 rfl w.heap.size 4 ib (.bool false) 1 1 Try.underlying50 hib hb0 hb1 hb2 rfl (by decide) _ _ _ rfl (newEmpty w7 4 w.heap.size q7) ⟨gT, 0, none⟩ s.taken.length cT (s.taken.map Value.bool) rfl (by simp) (src_cells (own_alloc R7.out.t _)) (bools_one _) hm3 hn3 (le_alloc q7 _) ?_)
  intro v3 w8 hv3 hg3 _ hat3
  have Bel8 : Below w7.heap.size w7 w8 := bel_grown ((Below.refl _ _).alloc (Nat.le_refl _) _) hg3 (fun k hk => by simp [Value.ownBlock] at hk; omega) (le_alloc (Nat.le_refl _) _)
  have O8 := X7.grown (O7.out.alloc _) (newEmpty w7 4 w.heap.size q7) hg3 (by decide)
  have V8 := own_grown' (own_alloc V7.out _) hg3 (fun k hk e => by simp [Value.ownBlock] at hk e; omega)
  have G8 := own_grown' (own_alloc G7.out _) hg3 (fun k hk e => by simp [Value.ownBlock] at hk e; omega)
  obtain ⟨k3, hk3, hkb3⟩ : ∃ k, v3.ownBlock = some k ∧ w7.heap.size ≤ k := by
    rcases hat3 with e | e
    · exact ⟨_, e, Nat.le_refl _⟩
    · exact ⟨_, e, by omega⟩
  obtain ⟨n3, e3⟩ := own_named hv3 hk3
  subst e3
  have q8 : w7.heap.size ≤ w8.heap.size := Bel8.size
  have f5 := (cells7 O8).2 5
  have o5 := (cells7 O8).1.2.2.2.2.2.1
  have O9 := set7_5 O8 (.slice (some ⟨k3, 0, none⟩) s.taken.length n3)
  have V9 := own_far (k := w1.heap.size) (o := 5) V8 (ne_of_own O8 V8 (by decide)) (.slice (some ⟨k3, 0, none⟩) s.taken.length n3)
  have G9 := own_far (k := w1.heap.size) (o := 5) G8 (ne_of_own O8 G8 (by decide)) (.slice (some ⟨k3, 0, none⟩) s.taken.length n3)
  have T9 := own_far (k := w1.heap.size) (o := 5) hv3 (ne_of_own O8 hv3 (by decide)) (.slice (some ⟨k3, 0, none⟩) s.taken.length n3)
  have Bel9 := (Bel7.out.trans (Bel8.mono (by omega))).setCell (p := ⟨w1.heap.size, 5, none⟩) (Nat.le_refl _) (.slice (some ⟨k3, 0, none⟩) s.taken.length n3)
  have A9 := (A7.out.below Bel8).set (k := w1.heap.size) (o := 5) (by omega) (.slice (some ⟨k3, 0, none⟩) s.taken.length n3)
  have sz9 : w7.heap.size ≤ (w8.setCell ⟨w1.heap.size, 5, none⟩ (.slice (some ⟨k3, 0, none⟩) s.taken.length n3)).heap.size := by simpa [World.setCell] using q8
  have kl9 := (own_lt T9 (k := k3) rfl).2
  clear hv3 hg3 hat3 Bel8 O8 V8 G8 c0 c1 c2 c3 c4 c5 c6 hm3 hn3 A7 O7 V7 G7 Bel7 R7
  replace O9 := Lib.hid O9
  replace V9 := Lib.hid V9
  replace G9 := Lib.hid G9
  replace T9 := Lib.hid T9
  replace Bel9 := Lib.hid Bel9
  replace A9 := Lib.hid A9
  go_upto_region 9 with fail
  generalize (w8.setCell ⟨w1.heap.size, 5, none⟩ (.slice (some ⟨k3, 0, none⟩) s.taken.length n3)) = w9 at *
  clear f5 q8 o5
  obtain ⟨⟨o0, o1, o2, o3, o4, o5, o6⟩, -⟩ := cells7 O9.out
  obtain ⟨xt, ft⟩ : w9.cell? ⟨k3, i, none⟩ = some (.bool (s.taken.getD i false)) ∧ w9.frozen? ⟨k3, i, none⟩ = false := by
    obtain ⟨g', c', hv', -, -, -, -, hx', hf'⟩ := own_shape T9.out (by omega)
    injection hv' with e1
    injection e1 with e1
    injection e1 with e1
    subst e1
    refine ⟨(hx' i hti).trans ?_, hf' i⟩
    simp [List.getD, hti]
  have b4 : decide ((i : Int) < (s.taken.length : Int)) = true := decide_eq_true (by omega)
  go_upto_region 10 with fail
  have no3 : ¬ w1.heap.size = k3 := by omega
  have O10 := O9.out.set (k := k3) (o := i) no3 (.bool true)
  have A10 := A9.out.set (k := k3) (o := i) (by omega) (.bool true)
  have V10 := own_far (k := k3) (o := i) V9.out (fun e => by simp [Value.ownBlock] at e; omega) (.bool true)
  have G10 := own_far (k := k3) (o := i) G9.out (fun e => by simp [Value.ownBlock] at e; omega) (.bool true)
  have T10 := own_set T9.out i hti (.bool true)
  rw [← List.map_set] at T10
  have Bel10 := Bel9.out.setCell (p := ⟨k3, i, none⟩) (show w1.heap.size ≤ k3 by omega) (.bool true)
  have sz10 : w9.heap.size ≤ (w9.setCell ⟨k3, i, none⟩ (.bool true)).heap.size := by simp [World.setCell]
  replace O10 := Lib.hid O10
  replace A10 := Lib.hid A10
  replace V10 := Lib.hid V10
  replace G10 := Lib.hid G10
  replace T10 := Lib.hid T10
  replace Bel10 := Lib.hid Bel10
  generalize (w9.setCell ⟨k3, i, none⟩ (.bool true)) = w10 at *
  clear O9 A9 V9 G9 T9 Bel9 o0 o1 o2 o3 o4 o5 o6 xt ft
  have hwo' := hw
  rw [hpi.out] at hm
  obtain ⟨words, hwo⟩ := Int.eq_ofNat_of_zero_le (show 0 ≤ s.words by omega)
  rw [hwo] at hm hw
  replace hwo := Lib.hid hwo
  have I0 : RLoop w1.heap.size w1 (.slice AC C.length cC) (.slice AC C.length cC) (.slice (some ⟨k2, 0, none⟩) s.gens.length n2) (.slice (some ⟨k3, 0, none⟩) s.taken.length n3) (.slice (some ⟨k1, 0, none⟩) t.length n1) (zeros C (s.first + (i : Int) * words) 0) cnt { s with gens := s.gens.set i (gv + 1), taken := s.taken.set i true, row := t } B w10 := by
    refine ⟨O10.out, ⟨(h1.out.below Bel10.out).c, ?_, ?_, own_mono V10.out hB, _, _, rfl⟩, Bel10.out, fun k hk => .inl hk⟩
    · have := own_mono G10.out hB
      simpa using this
    · have := own_mono T10.out hB
      simpa using this
  have sO := X7.lt O10.out
  have lv := own_lt V10.out (k := k1) rfl
  have lg := own_lt G10.out (k := k2) rfl
  have lt := own_lt T10.out (k := k3) rfl
  replace I0 := Lib.hid I0
  clear O10 A10 V10 G10 T10 Bel10
  go_wp2_with fail
  go_loopw [7] (fun c wr => ∃ (k : Nat) (cnt' : Int) (vC' : Value), k ≤ words ∧ c = .int .i64 k ∧ cnt ≤ cnt' ∧ cnt' ≤ cnt + k ∧ Hid (RLoop w1.heap.size w1 (.slice AC C.length cC) vC' (.slice (some ⟨k2, 0, none⟩) s.gens.length n2) (.slice (some ⟨k3, 0, none⟩) s.taken.length n3) (.slice (some ⟨k1, 0, none⟩) t.length n1) (zeros C (s.first + (i : Int) * words) k) cnt' { s with gens := s.gens.set i (gv + 1), taken := s.taken.set i true, row := t } B wr))
    (fun c _ => words - (intOf c).toNat)
  case atStart => exact ⟨0, cnt, _, by omega, rfl, by omega, by omega, I0⟩
  case round =>
    clear I0
    obtain ⟨k, cnt', vC', hk, rfl, hc1, hc2, I⟩ := hrel
    obtain ⟨A', c', e1, -⟩ := own_any I.out.r.c.own
    subst e1
    have IX : X7 w1.heap.size #[.slice A' (zeros C (s.first + (i : Int) * words) k).length c', .int .i64 cnt', .int .i64 s.first, .int .i64 s.words, .slice (some ⟨k2, 0, none⟩) s.gens.length n2, .slice (some ⟨k3, 0, none⟩) s.taken.length n3, .slice (some ⟨k1, 0, none⟩) t.length n1] wr := I.out.x
    have hr1 := X7.lt IX
    have AX := ha.out.below I.out.b
    obtain ⟨⟨o0, o1, o2, o3, o4, o5, o6⟩, -⟩ := cells7 IX
    obtain ⟨⟨c0, c1, c2, c3, c4, c5, c6⟩, -⟩ := cells7 AX
    rw [hwo.out] at c3
    replace IX := Lib.hid IX
    replace AX := Lib.hid AX
    by_cases hlt : k < words
    · have bk : decide ((k : Int) < (words : Int)) = true := decide_eq_true (by omega)
      have e1 : IntKind.i64.wrap ((i : Int) * words) = (i : Int) * words := IntWalk.i64_in _ (by omega)
      have e2 : IntKind.i64.wrap (s.first + (i : Int) * words) = s.first + (i : Int) * words := IntWalk.i64_in _ (by omega)
      have e3 : IntKind.i64.wrap (s.first + (i : Int) * words + k) = s.first + (i : Int) * words + k := IntWalk.i64_in _ (by omega)
      have q9 : B ≤ wr.heap.size := by clear e1 e2 e3 bk hc1 hc2 hk hm hlt; omega
      have hcn := cntN_le (zeros C (s.first + (i : Int) * words) k) (s.first + (i : Int) * words + k) cnt' (by clear e1 e2 e3; omega)
      go_wp2_with fail
      refine (RefX.store _ _ _ _ I.out.r.c q9 cnt' (s.first + (i : Int) * words + k) 0).mono ?_
      rintro e w12 ⟨s', rfl, nx⟩
      generalize RefX.cntN (zeros C (s.first + (i : Int) * words) k) (s.first + (i : Int) * words + k) cnt' = cn at *
      obtain ⟨As, cs, es, -⟩ := own_any nx.ref.own
      subst es
      have X12 := IX.out.below nx.bel
      obtain ⟨⟨p0, p1, p2, p3, p4, p5, p6⟩, fp⟩ := cells7 X12
      have f0 := fp 0
      have f1 := fp 1
      have hr12 : w1.heap.size < w12.heap.size := X7.lt X12
      have nr12 : ¬ w1.heap.size = w12.heap.size := by clear e1 e2 e3; omega
      have nr12' : ¬ w12.heap.size = w1.heap.size := by clear e1 e2 e3; omega
      have I' := I.out.next (c' := cn) nx (.cells #[.slice As (setAt (zeros C (s.first + (i : Int) * words) k) (s.first + (i : Int) * words + k) 0).length cs, .int .i64 cn] 37)
      replace I' := Lib.hid I'
      clear X12 fp o0 o1 o2 o3 o4 o5 o6 c0 c1 c2 c3 c4 c5 c6 nx I IX AX e1 e2 e3 p2 p3 p4 p5 p6
      go_wp2_with fail
      exact ⟨⟨k + 1, cn, _, by omega, by go_num, by omega, by omega, I'⟩, by simp [intOf]; omega⟩
    · obtain rfl : k = words := by omega
      have bk : decide ((k : Int) < (k : Int)) = false := by simp
      have X0 := hx.out.below I.out.b
      obtain ⟨⟨d0, d1, d2, d3, d4, d5, d6⟩, fx⟩ := cells7 X0
      have f0 := fx 0
      have f1 := fx 1
      have f2 := fx 2
      have f3 := fx 3
      have f4 := fx 4
      have f5 := fx 5
      have f6 := fx 6
      have xg : wr.cell? ⟨k2, i, none⟩ = some (.int .i64 (gv + 1)) := by
        obtain ⟨g', c', hv', -, -, -, -, hx', hf'⟩ := own_shape I.out.r.g (by show 0 < (s.gens.set i (gv + 1)).length; simp; omega)
        injection hv' with e1
        injection e1 with e1
        injection e1 with e1
        subst e1
        refine (hx' i (by simpa using hgi)).trans ?_
        simp [List.getD, hgi]
      have rf := fun w' => (rref (i : Int) (gv + 1) (by omega) (by omega) w').mono (fun e x (h : e = _ ∧ w' = x) => And.intro h.1 h.2.symm)
      replace rf := Lib.hid rf
      go_wp2_with fail
      refine start_ (n := 11) (S := fun w' => w'.cell? ⟨w1.heap.size, 0, none⟩ = some (.slice A' (zeros C (s.first + (i : Int) * k) k).length c') ∧ w'.cell? ⟨w1.heap.size, 1, none⟩ = some (.int .i64 cnt') ∧ w'.cell? ⟨w1.heap.size, 2, none⟩ = some (.int .i64 s.first) ∧ w'.cell? ⟨w1.heap.size, 3, none⟩ = some (.int .i64 s.words) ∧ w'.cell? ⟨w1.heap.size, 4, none⟩ = some (.slice (some ⟨k2, 0, none⟩) s.gens.length n2) ∧ w'.cell? ⟨w1.heap.size, 5, none⟩ = some (.slice (some ⟨k3, 0, none⟩) s.taken.length n3) ∧ w'.cell? ⟨w1.heap.size, 6, none⟩ = some (.slice (some ⟨k1, 0, none⟩) t.length n1) ∧ w'.cell? ⟨k2, i, none⟩ = some (.int .i64 (gv + 1))) (ds := [8]) #[false, false, false, false, false, false, false, false, false, false, false] (by kernel_rfl) rfl rfl ⟨o0, o1, o2, o3, o4, o5, o6, xg⟩ (fun hHeld => ?_)
      refine pure_ (i := 1) (N := some 74) (v := ?_) (a' := ?_) #[false, true, false, false, false, false, false, false, false, false, false] rfl rfl (by kernel_rfl) (fun _ _ _ h => h) (Or.inl ⟨by rfl, ?_⟩) ?_ ?_
      rotate_left
      · intro w'
        go_simp
        with_reducible rfl
      rotate_left
      · simp only [Act.put, List.setIfInBounds_toArray, List.set_cons_zero, List.set_cons_succ, i64_w, i32_w]
        rfl
      refine pure_ (i := 2) (N := some 75) (v := ?_) (a' := ?_) #[false, true, true, false, false, false, false, false, false, false, false] rfl rfl (by kernel_rfl) (fun _ _ _ h => h) (Or.inl ⟨by rfl, ?_⟩) ?_ ?_
      rotate_left
      · intro w'
        go_simp
        with_reducible rfl
      rotate_left
      · simp only [Act.put, List.setIfInBounds_toArray, List.set_cons_zero, List.set_cons_succ, i64_w, i32_w]
        rfl
      refine pure_ (i := 4) (N := some 77) (v := ?_) (a' := ?_) #[false, true, true, false, true, false, false, false, false, false, false] rfl rfl (by kernel_rfl) (fun _ _ _ h => h) (Or.inl ⟨by rfl, ?_⟩) ?_ ?_
      rotate_left
      · intro w'
        go_simp
        with_reducible rfl
      rotate_left
      · simp only [Act.put, List.setIfInBounds_toArray, List.set_cons_zero, List.set_cons_succ, i64_w, i32_w]
        rfl
      refine take_ (i := 0) (N := some 73) (v := ?_) (a' := ?_) #[true, true, true, false, true, false, false, false, false, false, false] rfl rfl (by kernel_rfl) (fun _ _ _ h => h) (Or.inl ⟨by rfl, ?_⟩) hHeld ?_ ?_
      rotate_left
      · rintro w' ⟨s0, s1, s2, s3, s4, s5, s6, s7⟩
        go_simp
        with_reducible rfl
      rotate_left
      · simp only [Act.put, List.setIfInBounds_toArray, List.set_cons_zero, List.set_cons_succ, i64_w, i32_w]
        rfl
      refine take_ (i := 3) (N := some 76) (v := ?_) (a' := ?_) #[true, true, true, true, true, false, false, false, false, false, false] rfl rfl (by kernel_rfl) (fun _ _ _ h => h) (Or.inl ⟨by rfl, ?_⟩) hHeld ?_ ?_
      rotate_left
      · rintro w' ⟨s0, s1, s2, s3, s4, s5, s6, s7⟩
        go_simp
        with_reducible rfl
      rotate_left
      · simp only [Act.put, List.setIfInBounds_toArray, List.set_cons_zero, List.set_cons_succ, i64_w, i32_w]
        rfl
      refine pure_ (i := 5) (N := some 78) (v := ?_) (a' := ?_) #[true, true, true, true, true, true, false, false, false, false, false] rfl rfl (by kernel_rfl) (fun _ _ _ h => h) (Or.inl ⟨by rfl, ?_⟩) ?_ ?_
      rotate_left
      · intro w'
        go_simp
        with_reducible rfl
      rotate_left
      · simp only [Act.put, List.setIfInBounds_toArray, List.set_cons_zero, List.set_cons_succ, i64_w, i32_w]
        rfl
      refine take_ (i := 6) (N := some 79) (v := ?_) (a' := ?_) #[true, true, true, true, true, true, true, false, false, false, false] rfl rfl (by kernel_rfl) (fun _ _ _ h => h) (Or.inl ⟨by rfl, ?_⟩) hHeld ?_ ?_
      rotate_left
      · rintro w' ⟨s0, s1, s2, s3, s4, s5, s6, s7⟩
        go_simp
        with_reducible rfl
      rotate_left
      · simp only [Act.put, List.setIfInBounds_toArray, List.set_cons_zero, List.set_cons_succ, i64_w, i32_w]
        rfl
      refine one_ (i := 7) (N := some 80) #[true, true, true, true, true, true, true, true, false, false, false] rfl rfl (by kernel_rfl) (by decide) (fun K hK => ?_)
      refine goes_ Try.func54 (by kernel_rfl) rfl #[.int .i64 (i : Int), .int .i64 (gv + 1)] (by rfl) rfl rfl (by simp only [List.map_toArray, List.map_cons, List.map_nil]; rfl) ?_
      with_reducible refine (rf.out _).mono ?_
      rintro e w5 ⟨rfl, rfl⟩
      refine ⟨_, rfl, ?_⟩
      refine hK.out _ _ ⟨o0, o1, o2, o3, o4, o5, o6, xg⟩ (fun hHeld => ?_)
      clear hK K
      refine norm_ (a' := ?_) ?_ ?_
      rotate_left
      · show Act.put _ (some 80) _ = _
        simp only [Act.put, List.setIfInBounds_toArray, List.set_cons_zero, List.set_cons_succ, i64_w, i32_w]
        rfl
      refine last_ (i := 8) (N := none) #[true, true, true, true, true, true, true, true, true, false, false] rfl rfl (by kernel_rfl) (by decide) (fun K hK => ?_)
      refine skip_ (w1 := ?_) (by rfl) rfl ?_ ?_
      rotate_left
      · go_simp
        rfl
      refine hK.out _ _ ?_
      clear hK K
      refine pure_ (i := 9) (N := some 3) (v := ?_) (a' := ?_) #[true, true, true, true, true, true, true, true, true, true, false] rfl rfl (by kernel_rfl) (fun _ _ _ h => h) (Or.inl ⟨by rfl, ?_⟩) ?_ ?_
      rotate_left
      · intro w'
        go_simp
        with_reducible rfl
      rotate_left
      · simp only [Act.put, List.setIfInBounds_toArray, List.set_cons_zero, List.set_cons_succ, i64_w, i32_w]
        rfl
      refine pure_ (i := 10) (N := some 4) (v := ?_) (a' := ?_) #[true, true, true, true, true, true, true, true, true, true, true] rfl rfl (by kernel_rfl) (fun _ _ _ h => h) (Or.inl ⟨by rfl, ?_⟩) ?_ ?_
      rotate_left
      · intro w'
        go_simp
        with_reducible rfl
      rotate_left
      · simp only [Act.put, List.setIfInBounds_toArray, List.set_cons_zero, List.set_cons_succ, i64_w, i32_w]
        rfl
      refine done_ (by kernel_rfl) ?_
      obtain ⟨w9, e9, ⟨y0, y1, y2, y3, y4, y5, y6⟩, b9, on9⟩ := end7 X0 (hb.out.trans (I.out.b.mono hb.out.size)) (by omega) (.slice A' (zeros C (s.first + (i : Int) * k) k).length c') (.int .i64 cnt') (.int .i64 s.first) (.int .i64 s.words) (.slice (some ⟨k2, 0, none⟩) s.gens.length n2) (.slice (some ⟨k3, 0, none⟩) s.taken.length n3) (.slice (some ⟨k1, 0, none⟩) t.length n1)
      have S9 := (I.out.r.keepX X0 on9).below (below_drew (Below.refl _ _))
      replace S9 := Lib.hid S9
      have b9 := Lib.hid (below_drew b9)
      replace e9 := Lib.hid e9
      have fr : ∀ k', OwnX (.slice A' (zeros C (s.first + (i : Int) * k) k).length c') (.slice (some ⟨k2, 0, none⟩) s.gens.length n2) (.slice (some ⟨k3, 0, none⟩) s.taken.length n3) (.slice (some ⟨k1, 0, none⟩) t.length n1) k' → OwnX (.slice AC C.length cC) (.slice (some ⟨gG, 0, none⟩) s.gens.length cG) (.slice (some ⟨gT, 0, none⟩) s.taken.length cT) (.slice (some ⟨gR, 0, none⟩) (t.length + 1) cR) k' ∨ w.heap.size ≤ k' := by
        rintro k' (e | e | e | e)
        · rcases I.out.fr k' e with q | q
          · exact .inl (.inl q)
          · exact .inr (by omega)
        · simp [Value.ownBlock] at e; exact .inr (by omega)
        · simp [Value.ownBlock] at e; exact .inr (by omega)
        · simp [Value.ownBlock] at e; exact .inr (by omega)
      replace fr := Lib.hid fr
      have ez : s.words.toNat = k := by rw [hwo.out]; simp
      replace ez := Lib.hid ez
      clear X0 fx on9 IX AX I hx ha hb h1 f0 f1 f2 f3 f4 f5 f6 d0 d1 d2 d3 d4 d5 d6
      go_wp2
      rw [← e9.out]
      refine bodyPost_ret (v := .tuple #[.agg #[.slice A' (zeros C (s.first + (i : Int) * k) k).length c', .int .i64 cnt', .int .i64 s.first, .int .i64 s.words, .slice (some ⟨k2, 0, none⟩) s.gens.length n2, .slice (some ⟨k3, 0, none⟩) s.taken.length n3, .slice (some ⟨k1, 0, none⟩) t.length n1], .int .u64 (refOf (i : Int) (gv + 1)), .int .i64 0]) (by simp [results, Try.results48, go_sem, y0, y1, y2, y3, y4, y5, y6]) rfl ⟨_, _, _, _, cnt', rfl, hc1, by rw [hwo.out]; exact hc2, ?_, b9.out, fr.out⟩
      rw [hwo.out, Int.toNat_natCast]
      have hh := S9.out
      rw [hwo.out] at hh
      exact hh
end
end Go.Proofs.Ytllibgjajlgnbaa.SlabRef

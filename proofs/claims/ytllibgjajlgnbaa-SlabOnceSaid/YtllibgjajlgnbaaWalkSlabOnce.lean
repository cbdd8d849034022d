/- SlabOnce: no ref is told twice. -/
import Derived.Test.YtllibgjajlgnbaaSlabRan2
namespace Go.Proofs.Ytllibgjajlgnbaa.WalkSlabOnce
open Go Go.RowKit Go.Proofs.Ytllibgjajlgnbaa.Only Go.Proofs.Ytllibgjajlgnbaa.Mem Go.Proofs.Ytllibgjajlgnbaa.New Go.Proofs.Ytllibgjajlgnbaa.Ref Go.Proofs.Ytllibgjajlgnbaa.Slab Go.Proofs.Ytllibgjajlgnbaa.SlabRef Go.Proofs.Ytllibgjajlgnbaa.SlabDo Go.Proofs.Ytllibgjajlgnbaa.SlabLaw Go.Proofs.Ytllibgjajlgnbaa.SlabRan Go.Proofs.Ytllibgjajlgnbaa.Args
set_option linter.unusedVariables false
set_option linter.unusedSimpArgs false

/-- What is told later has a generation above those noted. -/
def Above (G L : List Int) (i : Nat) : Prop := ∀ j, i ≤ j → j < L.length → G.getD (placeOf (L.getD j 0)).toNat 0 < genOf (L.getD j 0)
theorem getD_mem {L : List Int} {j : Nat} (h : j < L.length) : L.getD j 0 ∈ L := by
  rw [List.getD, List.getElem?_eq_getElem h]; exact List.getElem_mem _
theorem above0 {f wd : Int} {most j : Nat} {st : St} (I : SlabLaw.Inv f wd most j st) (n : Nat) : Above (List.replicate n 0) st.L 0 := by
  intro i _ hi
  obtain ⟨p, -, -, h1, -⟩ := I.old _ (getD_mem hi)
  have : (List.replicate n (0 : Int)).getD (placeOf (st.L.getD i 0)).toNat 0 = 0 := by
    simp only [List.getD, List.getElem?_replicate]
    split <;> rfl
  omega
theorem above_next {f wd : Int} {most m : Nat} {st : St} (I : SlabLaw.Inv f wd most m st) {G : List Int} {i p : Nat} (hG : G.length = most) (hi : i < st.L.length) (hp : placeOf (st.L.getD i 0) = p) (h : Above G st.L i) : Above (G.set p (genOf (st.L.getD i 0))) st.L (i + 1) := by
  intro j hj hjl
  obtain ⟨p', hp1, hp2, h1, -⟩ := I.old _ (getD_mem hjl)
  obtain ⟨p2, hq1, hq2, -, -⟩ := I.old _ (getD_mem hi)
  rw [hp2]
  simp only [Int.toNat_natCast]
  have hup := (List.pairwise_iff_getElem.1 I.up) i j hi hjl (by omega)
  have ei : st.L.getD i 0 = st.L[i] := by rw [List.getD, List.getElem?_eq_getElem hi]; rfl
  have ej : st.L.getD j 0 = st.L[j] := by rw [List.getD, List.getElem?_eq_getElem hjl]; rfl
  have ha := h j (by omega) hjl
  rw [hp2] at ha
  simp only [Int.toNat_natCast] at ha
  by_cases e : p = p'
  · subst e
    rw [List.getD, List.getElem?_set_self (by omega)]
    show genOf (st.L.getD i 0) < genOf (st.L.getD j 0)
    rw [ei, ej]
    exact hup (by rw [← ei, ← ej, hp]; exact hp2.symm)
  · rw [List.getD, List.getElem?_set_ne e]; exact ha

/-- What holds at each round. -/
structure Rd (q g B : Nat) (bc : Array Value) (vL : Value) (L G : List Int) (W wr : World) : Prop where
  x : X10 q bc wr
  l : wr.ownsRow B 26 1 vL L.length (L.map (Value.int .u64))
  g : wr.heap[g]? = some (.cells (G.map (Value.int .i64)).toArray 56 (0, 0))
  bel : Below W.heap.size W wr
theorem Rd.set {q g B : Nat} {bc : Array Value} {vL : Value} {L G : List Int} {W wr : World} (h : Rd q g B bc vL L G W wr) (hg : W.heap.size ≤ g) (p : Nat) (x : Int) : Rd q g B bc vL L (G.set p x) W (wr.setCell ⟨g, p, none⟩ (.int .i64 x)) := by
  have hne : q ≠ g := fun e => by subst e; have := h.x; unfold X10 at this; rw [h.g] at this; simp at this
  refine ⟨(Below.heap_setCell _ _ _ _ (by exact hne)).trans h.x, own_keep h.l ((refl (fun k => k = g) wr).setCell (p := ⟨g, p, none⟩) (fun _ => rfl) _) (fun k hk e => by have e : k = g := e; subst e; exact own_ty h.l h.g (by decide) hk), ?_, h.bel.setCell (p := ⟨g, p, none⟩) hg _⟩
  have := h.g
  simp [World.setCell, Array.getElem?_modify, this, List.map_set]

set_option maxHeartbeats 8000000 in
set_option maxRecDepth 2000000 in
theorem walk (V : Value) (ds : List (List Int)) (W : World) (hV : Structs ks5 W V ds) :
    Calls Try.prog 7 #[V] W fun e w' => e = .returned (.bool true) ∧ Below W.heap.size W w' := by
  have hV := Lib.hid hV
  go_enter Try.func7, Try.ntmps7
  go_wp2_with fail
  refine (SlabAwake.awake _).mono ?_
  rintro e wA ⟨rfl, hbA⟩
  have hVA := Lib.hid (structs_below hV.out hbA)
  replace hbA := Lib.hid hbA
  clear hV
  go_wp2_with fail
  refine (SlabRan.ran V ds _ hVA.out).mono ?_
  rintro e w2 ⟨sb, p, v, vg, vt, vr, xC, xG, xT, xR, vL, n, cnt, st, rfl, b2, I, -, -, -, -, B2⟩
  clear hVA
  obtain ⟨AC, cC, e1, -⟩ := own_any b2.x.c.own
  obtain ⟨AG, cG, e2, -⟩ := own_any b2.x.g
  obtain ⟨AT, cT, e3, -⟩ := own_any b2.x.t
  obtain ⟨AR, cR, e4, -⟩ := own_any b2.x.r
  obtain ⟨AL, cL, e5, -⟩ := own_any b2.l
  subst e1 e2 e3 e4 e5
  have hLL := I.ll
  have hr := fun (r : Int) (hr : r ∈ st.L) => I.ref bd4 (by omega) hr
  have s2 := B2.size
  replace b2 := Lib.hid b2
  replace B2 := Lib.hid B2
  replace I := Lib.hid I
  replace hr := Lib.hid hr
  unfold bv
  go_upto_region 4 with fail
  have R : Rd w2.heap.size (w2.heap.size + 1) wA.heap.size #[.pointer (some ⟨sb, 0, none⟩), .pointer (some ⟨p, 0, none⟩), .slice AC st.C.length cC, .int .i64 cnt, .int .i64 st.s.first, .int .i64 st.s.words, .slice AG st.s.gens.length cG, .slice AT st.s.taken.length cT, .slice AR st.s.row.length cR, .slice AL st.L.length cL] (.slice AL st.L.length cL) st.L (List.replicate 4 0) wA ((w2.alloc (.cells #[.pointer (some ⟨sb, 0, none⟩), .pointer (some ⟨p, 0, none⟩), .slice AC st.C.length cC, .int .i64 cnt, .int .i64 st.s.first, .int .i64 st.s.words, .slice AG st.s.gens.length cG, .slice AT st.s.taken.length cT, .slice AR st.s.row.length cR, .slice AL st.L.length cL] 54)).alloc (.cells #[.int .i64 0, .int .i64 0, .int .i64 0, .int .i64 0] 56)) := by
    refine ⟨(heap_alloc_old _ _ (by simp)).trans (heap_alloc_new w2 _), own_alloc (own_alloc b2.out.l _) _, ?_, (B2.out.alloc s2 _).alloc (by simp; omega) _⟩
    have := heap_alloc_new (w2.alloc (.cells #[.pointer (some ⟨sb, 0, none⟩), .pointer (some ⟨p, 0, none⟩), .slice AC st.C.length cC, .int .i64 cnt, .int .i64 st.s.first, .int .i64 st.s.words, .slice AG st.s.gens.length cG, .slice AT st.s.taken.length cT, .slice AR st.s.row.length cR, .slice AL st.L.length cL] 54)) (.cells #[.int .i64 0, .int .i64 0, .int .i64 0, .int .i64 0] 56)
    simpa using this
  have h0 := Lib.hid (above0 I.out 4)
  replace R := Lib.hid R
  clear b2 B2
  generalize ((w2.alloc (.cells _ _)).alloc (.cells _ _)) = w3 at *
  have hqg : ¬ w2.heap.size = w2.heap.size + 1 := by omega
  have hqg' : ¬ w2.heap.size + 1 = w2.heap.size := by omega
  have hgA : wA.heap.size ≤ w2.heap.size + 1 := by omega
  generalize w2.heap.size + 1 = g at *
  generalize w2.heap.size = q at *
  go_wp2_with fail
  go_loopw [6] (fun i wr => ∃ k G, k ≤ st.L.length ∧ i = .int .i64 k ∧ G.length = 4 ∧ Hid (Above G st.L k) ∧ Hid (Rd q g wA.heap.size #[.pointer (some ⟨sb, 0, none⟩), .pointer (some ⟨p, 0, none⟩), .slice AC st.C.length cC, .int .i64 cnt, .int .i64 st.s.first, .int .i64 st.s.words, .slice AG st.s.gens.length cG, .slice AT st.s.taken.length cT, .slice AR st.s.row.length cR, .slice AL st.L.length cL] (.slice AL st.L.length cL) st.L G wA wr))
    (fun i _ => st.L.length - (intOf i).toNat)
  case atStart => exact ⟨0, _, by omega, rfl, rfl, h0, R⟩
  case round =>
    clear R h0
    obtain ⟨k, G, hk, rfl, hG, hA, R⟩ := hrel
    obtain ⟨⟨a0, a1, a2, a3, a4, a5, a6, a7, a8, a9⟩, -⟩ := cells10 R.out.x
    have hlq := lt_of_heap R.out.x
    by_cases hlt : k < st.L.length
    · have b1 : decide ((k : Int) < (st.L.length : Int)) = true := by simp; omega
      obtain ⟨gL, c', e1, -, -, -, -, hx, -⟩ := own_shape R.out.l (by omega)
      injection e1 with e2 e3 e4
      subst e2 e4
      have xk := hx k hlt
      have ek : (st.L.map (Value.int .u64)).getD k (.bool false) = .int .u64 (st.L.getD k 0) := by simp [List.getD, hlt]
      rw [ek] at xk
      have hm := getD_mem hlt
      have hrr := hr.out _ hm
      obtain ⟨pp, hp1, hp2, -, -⟩ := I.out.old _ hm
      have hab := hA.out k (Nat.le_refl _) hlt
      rw [hp2] at hab
      simp only [Int.toNat_natCast] at hab
      have nx := Lib.hid (above_next I.out hG hlt hp2 hA.out)
      have R' := Lib.hid (R.out.set hgA pp (genOf (st.L.getD k 0)))
      have xg : wr.cell? ⟨g, pp, none⟩ = some (.int .i64 (G.getD pp 0)) := by
        have : pp < G.length := by omega
        simp [World.cell?, R.out.g, List.getD, this]
      have fg : wr.frozen? ⟨g, pp, none⟩ = false := by simp [World.frozen?, R.out.g]
      have P1 := Slab.place _ hrr wr
      have P2 := Slab.gen _ hrr wr
      rw [hp2] at P1
      generalize st.L.getD k 0 = r at *
      generalize genOf r = gr at *
      generalize G.getD pp 0 = gx at *
      have b2 : decide ((pp : Int) < 0) = false := by simp
      have b3 : decide (3 < (pp : Int)) = false := by simp; omega
      have b4 : decide (gr ≤ gx) = false := by simp; omega
      have b5 : decide ((pp : Int) < 4) = true := by simp; omega
      replace P1 := Lib.hid P1
      replace P2 := Lib.hid P2
      replace R := Lib.hid R.out.bel
      clear ek hm hrr hp2 hab hx hA
      go_wp2_with fail
      refine P1.out.mono ?_
      rintro e w' ⟨rfl, rfl⟩
      go_wp2_with fail
      refine P2.out.mono ?_
      rintro e w' ⟨rfl, rfl⟩
      clear P1 P2
      go_wp2
      go_roundw
      case rel => exact ⟨k + 1, _, by omega, by go_num, by simpa using hG, nx, R'⟩
      case measure => simp [intOf]; omega
    · have b1 : decide ((k : Int) < (st.L.length : Int)) = false := by simp; omega
      have bb := Lib.hid (hbA.out.trans (R.out.bel.mono hbA.out.size))
      go_wp2
      go_ret
      exact ⟨rfl, bb.out⟩
end Go.Proofs.Ytllibgjajlgnbaa.WalkSlabOnce

/- SlabApart: records that aren't free have cells of their own. Laid by genlaws02.py. -/
import Derived.Test.YtllibgjajlgnbaaSlabKit
import Derived.Test.YtllibgjajlgnbaaSlabApart
namespace Go.Proofs.Ytllibgjajlgnbaa.WalkSlabApart
open Go Go.RowKit Go.Proofs.Ytllibgjajlgnbaa.Only Go.Proofs.Ytllibgjajlgnbaa.Mem Go.Proofs.Ytllibgjajlgnbaa.New Go.Proofs.Ytllibgjajlgnbaa.Ref Go.Proofs.Ytllibgjajlgnbaa.Slab Go.Proofs.Ytllibgjajlgnbaa.SlabRef Go.Proofs.Ytllibgjajlgnbaa.SlabDo Go.Proofs.Ytllibgjajlgnbaa.SlabLaw Go.Proofs.Ytllibgjajlgnbaa.SlabRan Go.Proofs.Ytllibgjajlgnbaa.SlabKit Go.Proofs.Ytllibgjajlgnbaa.SlabApart Go.Proofs.Ytllibgjajlgnbaa.Args
set_option linter.unusedVariables false
set_option linter.unusedSimpArgs false

/-- The slab, the law's copy, what was told, and the cells that were seen, in block g. -/
structure Ap (q g sb p : Nat) (v vg vt vr : Value) (bc : Array Value) (n : Int) (C : List Int) (s : Sl) (vL : Value) (L : List Int) (Sn : List Bool) (W wr : World) : Prop where
  sd : Sd q sb p v vg vt vr bc n C s W wr
  l : wr.ownsRow W.heap.size 26 1 vL L.length (L.map (Value.int .u64))
  gb : wr.heap[g]? = some (.cells (Sn.map Value.bool).toArray 60 (0, 0))
  low : ∀ k, SlF sb p v vg vt vr k → k < g
  ql : q < g
  ll : ∀ k, vL.ownBlock = some k → k < g
  gW : W.heap.size ≤ g
section
variable {q g sb p : Nat} {v vg vt vr : Value} {bc : Array Value} {n : Int} {C : List Int} {s : Sl} {vL : Value} {L : List Int} {Sn : List Bool} {W wr : World}
theorem Ap.below {w' : World} (h : Ap q g sb p v vg vt vr bc n C s vL L Sn W wr) (hb : Below wr.heap.size wr w') : Ap q g sb p v vg vt vr bc n C s vL L Sn W w' :=
  ⟨h.sd.below hb, own_keep h.l (ofBelow (S := fun _ => False) hb) (fun _ _ x => x), (hb.block _ (lt_of_heap h.gb)).trans h.gb, h.low, h.ql, h.ll, h.gW⟩
theorem Ap.set (h : Ap q g sb p v vg vt vr bc n C s vL L Sn W wr) (m : Nat) (b : Bool) : Ap q g sb p v vg vt vr bc n C s vL L (Sn.set m b) W (wr.setCell ⟨g, m, none⟩ (.bool b)) := by
  have ho : Only (fun k => k = g) wr (wr.setCell ⟨g, m, none⟩ (.bool b)) := (refl (fun k => k = g) wr).setCell (p := ⟨g, m, none⟩) (fun _ => rfl) _
  have hql := h.ql
  refine ⟨⟨h.sd.sl.keep ho (fun k hk e => by have e : k = g := e; have := h.low k hk; omega), (ho.block _ (lt_of_heap h.sd.x) (fun e => by have e : q = g := e; omega)).trans h.sd.x, h.sd.bel.setCell (p := ⟨g, m, none⟩) h.gW _⟩, own_keep h.l ho (fun k hk e => by have e : k = g := e; have := h.ll k hk; omega), ?_, h.low, h.ql, h.ll, h.gW⟩
  have := h.gb
  simp [World.setCell, Array.getElem?_modify, this, List.map_set]
end

set_option maxHeartbeats 8000000 in
set_option maxRecDepth 2000000 in
theorem walk (V : Value) (ds : List (List Int)) (W : World) (hV : Structs ks5 W V ds) :
    Calls Try.prog 8 #[V] W fun e w' => e = .returned (.bool true) ∧ Below W.heap.size W w' := by
  have hV := Lib.hid hV
  go_enter Try.func8, Try.ntmps8
  go_wp2_with fail
  refine (SlabAwake.awake _).mono ?_
  rintro e wA ⟨rfl, hbA⟩
  have hVA := Lib.hid (structs_below hV.out hbA)
  replace hbA := Lib.hid hbA
  clear hV
  go_wp2_with fail
  refine (SlabRan.ran V ds _ hVA.out).mono ?_
  rintro e w2 ⟨sb, p, v, vg, vt, vr, xC, xG, xT, xR, vL, n, cnt, st, rfl, b2, I, hn0, hn1, -, -, B2⟩
  clear hVA
  obtain ⟨AC, cC, e1, -⟩ := own_any b2.x.c.own
  obtain ⟨AG, cG, e2, -⟩ := own_any b2.x.g
  obtain ⟨AT, cT, e3, -⟩ := own_any b2.x.t
  obtain ⟨AR, cR, e4, -⟩ := own_any b2.x.r
  obtain ⟨AL, cL, e5, -⟩ := own_any b2.l
  subst e1 e2 e3 e4 e5
  have hLL := I.ll
  have s2 := B2.size
  unfold bv
  go_upto_region 3 with fail
  have R : Sd w2.heap.size sb p v vg vt vr #[.pointer (some ⟨sb, 0, none⟩), .pointer (some ⟨p, 0, none⟩), .slice AC st.C.length cC, .int .i64 cnt, .int .i64 st.s.first, .int .i64 st.s.words, .slice AG st.s.gens.length cG, .slice AT st.s.taken.length cT, .slice AR st.s.row.length cR, .slice AL st.L.length cL] n st.C st.s wA (w2.alloc (.cells #[.pointer (some ⟨sb, 0, none⟩), .pointer (some ⟨p, 0, none⟩), .slice AC st.C.length cC, .int .i64 cnt, .int .i64 st.s.first, .int .i64 st.s.words, .slice AG st.s.gens.length cG, .slice AT st.s.taken.length cT, .slice AR st.s.row.length cR, .slice AL st.L.length cL] 54)) :=
    ⟨b2.sl.alloc _, heap_alloc_new w2 _, B2.alloc s2 _⟩
  have l3 := own_alloc b2.l (.cells #[.pointer (some ⟨sb, 0, none⟩), .pointer (some ⟨p, 0, none⟩), .slice AC st.C.length cC, .int .i64 cnt, .int .i64 st.s.first, .int .i64 st.s.words, .slice AG st.s.gens.length cG, .slice AT st.s.taken.length cT, .slice AR st.s.row.length cR, .slice AL st.L.length cL] 54)
  have far : ∀ k, SlF sb p v vg vt vr k → (Value.slice AL st.L.length cL).ownBlock ≠ some k := fun k hk => (b2.far k hk).2.2.2.2
  generalize (w2.alloc (.cells #[.pointer (some ⟨sb, 0, none⟩), .pointer (some ⟨p, 0, none⟩), .slice AC st.C.length cC, .int .i64 cnt, .int .i64 st.s.first, .int .i64 st.s.words, .slice AG st.s.gens.length cG, .slice AT st.s.taken.length cT, .slice AR st.s.row.length cR, .slice AL st.L.length cL] 54)) = w3 at *
  generalize w2.heap.size = q at *
  replace R := Lib.hid R
  replace l3 := Lib.hid l3
  replace far := Lib.hid far
  replace I := Lib.hid I
  clear b2 B2
  obtain ⟨⟨a0, a1, a2, a3, a4, a5, a6, a7, a8, a9⟩, -⟩ := cells10 R.out.x
  have low0 := fun k hk => (R.out.sl.low k hk).2
  have ll0 := fun (k : Nat) (hk : (Value.slice AL st.L.length cL).ownBlock = some k) => (own_lt l3.out hk).2
  have hq0 := lt_of_heap R.out.x
  replace low0 := Lib.hid low0
  replace ll0 := Lib.hid ll0
  go_upto_region 6 with fail
  obtain ⟨w5, e5, K5⟩ : ∃ w5, w5 = w3.alloc (.cells #[.bool false, .bool false, .bool false, .bool false, .bool false, .bool false, .bool false, .bool false, .bool false, .bool false, .bool false, .bool false, .bool false, .bool false, .bool false] 60) ∧ Ap q w3.heap.size sb p v vg vt vr #[.pointer (some ⟨sb, 0, none⟩), .pointer (some ⟨p, 0, none⟩), .slice AC st.C.length cC, .int .i64 cnt, .int .i64 st.s.first, .int .i64 st.s.words, .slice AG st.s.gens.length cG, .slice AT st.s.taken.length cT, .slice AR st.s.row.length cR, .slice AL st.L.length cL] n st.C st.s (.slice AL st.L.length cL) st.L (List.replicate 15 false) wA w5 :=
    ⟨_, rfl, R.out.below ((Below.refl _ _).alloc (Nat.le_refl _) _), own_alloc l3.out _, heap_alloc_new w3 _, low0.out, hq0, ll0.out, R.out.bel.size⟩
  rw [← e5]
  replace K5 := Lib.hid K5
  clear e5 R l3 low0 ll0 hq0
  generalize w3.heap.size = g at *
  have h0 := Lib.hid (seen0 st.s st.L 15)
  have ok := Lib.hid (I.out.ok bd4 (by omega) (by omega))
  have hlv : ∀ k, lv st.s st.L k ≤ 60 := fun k => Nat.le_trans (lv_le k) hLL
  replace hlv := Lib.hid hlv
  go_wp2_with fail
  go_loopw [6, 7] (fun c i wr => ∃ (k : Nat) (Sn : List Bool), k ≤ st.L.length ∧ i = .int .i64 k ∧ c = .int .i64 (lv st.s st.L k) ∧ Sn.length = 15 ∧ Hid (Seen st.s st.L k Sn) ∧ Hid (Ap q g sb p v vg vt vr #[.pointer (some ⟨sb, 0, none⟩), .pointer (some ⟨p, 0, none⟩), .slice AC st.C.length cC, .int .i64 cnt, .int .i64 st.s.first, .int .i64 st.s.words, .slice AG st.s.gens.length cG, .slice AT st.s.taken.length cT, .slice AR st.s.row.length cR, .slice AL st.L.length cL] n st.C st.s (.slice AL st.L.length cL) st.L Sn wA wr))
    (fun _ i _ => st.L.length - (intOf i).toNat)
  case atStart => exact ⟨0, _, by omega, rfl, rfl, rfl, h0, K5⟩
  case round =>
    clear K5 h0
    obtain ⟨k, Sn, hk, rfl, rfl, hS, hSn, K⟩ := hrel
    clear a0 a1 a2 a3 a4 a5 a6 a7 a8 a9
    obtain ⟨⟨a0, a1, a2, a3, a4, a5, a6, a7, a8, a9⟩, -⟩ := cells10 K.out.sd.x
    have hv1 := hlv.out k
    by_cases hlt : k < st.L.length
    · have b1 : decide ((k : Int) < (st.L.length : Int)) = true := by simp; omega
      obtain ⟨gL, c', e1, -, -, -, -, hx, -⟩ := own_shape K.out.l (by omega)
      injection e1 with e2 e3 e4
      subst e2 e4
      have xk := hx k hlt
      have ek : (st.L.map (Value.int .u64)).getD k (.bool false) = .int .u64 (st.L.getD k 0) := by simp [List.getD, hlt]
      rw [ek] at xk
      have hrr := I.out.ref bd4 (by omega) (getD_mem hlt)
      have C1 := Slab.cell K.out.sd.sl ok.out _ 0 hrr (by omega)
      have nv := lv_next (s := st.s) hlt
      cases ht : thereB st.s (st.L.getD k 0) with
      | false =>
        rw [cellE_gone ht] at C1
        rw [ht, if_neg (by simp)] at nv
        have nv' := Lib.hid (show ((lv st.s st.L k : Nat) : Int) = lv st.s st.L (k + 1) by rw [nv]; simp)
        generalize cellN st.s (st.L.getD k 0) 0 = cn at *
        generalize st.L.getD k 0 = r at *
        generalize lv st.s st.L k = lk at *
        have C1 := Lib.hid C1
        clear ek hx hrr nv ht
        go_wp2_with fail
        refine C1.out.mono ?_
        rintro e w6 ⟨rfl, b6⟩
        have K6 := Lib.hid (K.out.below b6)
        clear C1 b6 a0 a1 a2 a3 a4 a5 a6 a7 a8 a9
        go_wp2
        go_roundw
        case rel => exact ⟨k + 1, Sn, by omega, by go_num, by rw [nv'.out], hS, Lib.hid (seen_skip hSn.out), K6⟩
        case measure => simp [intOf]; omega
      | true =>
        obtain ⟨p0, hp0, hp, -, -⟩ := there_at I.out ht
        obtain ⟨c1, c2⟩ := cell_at I.out ht hp 0 0 rfl (by omega)
        rw [c1, c2] at C1
        rw [ht, if_pos rfl] at nv
        have nv' := Lib.hid (show ((lv st.s st.L k : Nat) : Int) + 1 = lv st.s st.L (k + 1) by rw [nv]; simp)
        have Ks := Lib.hid (seenIn0 (p := p0) hSn.out)
        have hat := Lib.hid (fun (k2 : Nat) (hk2 : k2 < 3) => cell_at I.out ht hp k2 k2 rfl hk2)
        have hfree := Lib.hid (fun (k2 : Nat) (hk2 : k2 < 3) Sn' (h : SeenIn st.s st.L k p0 k2 Sn') => seenIn_free I.out hlt ht hp hk2 h)
        have hall := Lib.hid (fun Sn' (h : SeenIn st.s st.L k p0 3 Sn') => seenIn_all hlt ht hp h)
        obtain ⟨aa, haa⟩ : ∃ aa, 3 + p0 * 3 = aa := ⟨_, rfl⟩
        have haa1 : 3 ≤ aa ∧ aa ≤ 12 := by omega
        rw [show 3 + p0 * 3 + 0 = aa by omega] at C1
        rw [haa] at hat hfree
        obtain ⟨r, er⟩ : ∃ r, st.L.getD k 0 = r := ⟨_, rfl⟩
        rw [er] at C1 xk hat hrr
        obtain ⟨lk, elk⟩ : ∃ lk, lv st.s st.L k = lk := ⟨_, rfl⟩
        rw [elk] at nv' hv1 ⊢
        replace C1 := Lib.hid C1
        replace haa := Lib.hid haa
        clear ek hx nv ht c1 c2 hp er elk hSn
        go_wp2_with fail
        refine C1.out.mono ?_
        rintro e w6 ⟨rfl, b6⟩
        have K6 := Lib.hid (K.out.below b6)
        clear C1 b6 K a0 a1 a2 a3 a4 a5 a6 a7 a8 a9
        go_wp2_with fail
        go_loopw [11] (fun i wq => ∃ (k2 : Nat) (Sn' : List Bool), k2 ≤ 3 ∧ i = .int .i64 k2 ∧ Sn'.length = 15 ∧ Hid (SeenIn st.s st.L k p0 k2 Sn') ∧ Hid (Ap q g sb p v vg vt vr #[.pointer (some ⟨sb, 0, none⟩), .pointer (some ⟨p, 0, none⟩), .slice AC st.C.length cC, .int .i64 cnt, .int .i64 st.s.first, .int .i64 st.s.words, .slice AG st.s.gens.length cG, .slice AT st.s.taken.length cT, .slice AR st.s.row.length cR, .slice (some ⟨gL, 0, none⟩) st.L.length cL] n st.C st.s (.slice (some ⟨gL, 0, none⟩) st.L.length cL) st.L Sn' wA wq))
          (fun i _ => 3 - (intOf i).toNat)
        case atStart => exact ⟨0, Sn, by omega, rfl, hS, Ks, K6⟩
        case round =>
          clear K6 Ks hS Sn
          obtain ⟨k2, Sn, hk2, rfl, hS, hSn, K⟩ := hrel
          obtain ⟨⟨a0, a1, a2, a3, a4, a5, a6, a7, a8, a9⟩, -⟩ := cells10 K.out.sd.x
          by_cases hlt2 : k2 < 3
          · have b2 : decide ((k2 : Int) < 3) = true := by simp; omega
            have C2 := Slab.cell K.out.sd.sl ok.out r k2 hrr (by omega)
            obtain ⟨c1, c2⟩ := hat.out k2 hlt2
            rw [c1, c2] at C2
            have hf := hfree.out k2 hlt2 Sn hSn.out
            have nx := Lib.hid (seenIn_next hSn.out)
            obtain ⟨m, em⟩ : ∃ m, aa + k2 = m := ⟨_, rfl⟩
            rw [haa.out] at nx
            rw [em] at C2 hf nx
            have e1 : IntKind.i64.wrap ((aa : Int) + k2) = (m : Int) := by rw [IntWalk.i64_in _ (by omega)]; omega
            have e2 : (aa : Int) + k2 = (m : Int) := by omega
            have hm1 : 3 ≤ m ∧ m < 15 := by omega
            have b3 : decide ((m : Int) < 3) = false := by simp; omega
            have b4 : decide ((15 : Int) ≤ m) = false := by simp; omega
            have b5 : decide ((m : Int) < 15) = true := by simp; omega
            replace C2 := Lib.hid C2
            replace em := Lib.hid em
            replace hf := Lib.hid hf
            clear c1 c2
            go_wp2_with fail
            refine C2.out.mono ?_
            rintro e w7 ⟨rfl, b7⟩
            have K7 := K.out.below b7
            have xg : w7.cell? ⟨g, m, none⟩ = some (.bool false) := by
              have : m < Sn.length := by omega
              have hf := hf.out
              rw [List.getD, List.getElem?_eq_getElem this] at hf
              simp at hf
              simp [World.cell?, K7.gb, this, hf]
            have fg : w7.frozen? ⟨g, m, none⟩ = false := by simp [World.frozen?, K7.gb]
            have K8 := Lib.hid (K7.set m true)
            have hlg : g < w7.heap.size := lt_of_heap K7.gb
            clear C2 b7 K7 K a0 a1 a2 a3 a4 a5 a6 a7 a8 a9
            go_wp2
            go_roundw
            case rel => exact ⟨k2 + 1, _, by omega, by go_num, by simpa using hS, nx, K8⟩
            case measure => simp [intOf]; omega
          · have b2 : decide ((k2 : Int) < 3) = false := by simp; omega
            obtain rfl : k2 = 3 := by omega
            have nx := Lib.hid (hall.out Sn hSn.out)
            go_wp2
            go_roundw
            case rel => exact ⟨k + 1, Sn, by omega, by go_num, by rw [← nv'.out], hS, nx, K⟩
            case measure => simp [intOf]; omega
    · have b1 : decide ((k : Int) < (st.L.length : Int)) = false := by simp; omega
      have L1 := Slab.live K.out.sd.sl ok.out
      rw [I.out.gl, ← lv_all I.out] at L1
      obtain rfl : k = st.L.length := by omega
      replace L1 := Lib.hid L1
      generalize lv st.s st.L st.L.length = lk at *
      go_wp2_with fail
      refine L1.out.mono ?_
      rintro e w6 ⟨rfl, b6⟩
      have B6 := Lib.hid (hbA.out.trans ((K.out.sd.bel.trans (b6.mono K.out.sd.bel.size)).mono hbA.out.size))
      clear L1 b6
      go_wp2
      go_ret
      exact ⟨rfl, B6.out⟩
end Go.Proofs.Ytllibgjajlgnbaa.WalkSlabApart

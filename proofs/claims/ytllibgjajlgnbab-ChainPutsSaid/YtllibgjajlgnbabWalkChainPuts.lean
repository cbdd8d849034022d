/- ChainPuts: events put one behind the other. Laid by genputs.py. -/
import Derived.Test.YtllibgjajlgnbabPutsKit
import Derived.Test.YtllibgjajlgnbabWalkChainTwo
namespace Go.Proofs.Ytllibgjajlgnbab.WalkChainPuts
open Go Go.RowKit Go.Proofs.Ytllibgjajlgnbab.Only Go.Proofs.Ytllibgjajlgnbab.Mem Go.Proofs.Ytllibgjajlgnbab.New Go.Proofs.Ytllibgjajlgnbab.Chain Go.Proofs.Ytllibgjajlgnbab.Args Go.Proofs.Ytllibgjajlgnbab.StayLaw Go.Proofs.Ytllibgjajlgnbab.Ref17 Go.Proofs.Ytllibgjajlgnbab.PutsKit Go.Proofs.Ytllibgjajlgnbab.WalkChainTwo
set_option linter.unusedVariables false
set_option linter.unusedSimpArgs false

def NilE (Vs : List Ver) (sE sA : Value) : Prop := Vs = [] → sE = .slice none 0 0 ∧ sA = .slice none 0 0
theorem rputX {B : Nat} {sE sA : Value} {Vs : List Ver} {w : World} (h : RefS B sE sA Vs w) (hn : NilE Vs sE sA) (hl : Vs.length ≤ 1000) (al r : Int) (key val : ByteArray) (del : Bool) :
    Calls Try.prog 37 #[.agg #[sE, sA], .int .i64 al, .agg #[.int .i64 r, .string key, .string val, .bool del]] w (RPut17 Vs ⟨r, key, val, del, al⟩ w) := by
  cases Vs with
  | nil => obtain ⟨rfl, rfl⟩ := hn rfl; exact rput0 w al r key val del
  | cons x t => exact rput h (by simp) hl al r key val del
theorem box2 {T : TypeId} {q : Nat} {a b : Value} {w : World} (h : AtT T q #[a, b] w) : w.cell? ⟨q, 0, none⟩ = some a ∧ w.cell? ⟨q, 1, none⟩ = some b ∧ w.frozen? ⟨q, 0, none⟩ = false ∧ w.frozen? ⟨q, 1, none⟩ = false := by
  unfold AtT at h
  simp [World.cell?, World.frozen?, h]

theorem kv3 {q : Nat} {a b c : Value} {T : TypeId} {w : World} (h : w.heap[q]? = some (.cells #[a, b, c] T (0, 0))) : w.cell? ⟨q, 0, none⟩ = some a ∧ w.cell? ⟨q, 1, none⟩ = some b ∧ w.cell? ⟨q, 2, none⟩ = some c := by
  simp [World.cell?, h]

theorem bput2 {w : World} {k : Nat} {c0 c1 : Value} {T : TypeId} (h : AtT T k #[c0, c1] w) (u0 u1 : Value) : AtT T k #[u0, u1] ((w.setCell ⟨k, 0, none⟩ u0).setCell ⟨k, 1, none⟩ u1) := by
  unfold AtT at h ⊢
  simp [World.setCell, Array.getElem?_modify, h]
theorem bnew2 (w : World) (c0 c1 : Value) (T : TypeId) : AtT T w.heap.size #[c0, c1] (w.alloc (.cells #[c0, c1] T)) := heap_alloc_new w _
theorem ownT {w : World} {B : Nat} {T : TypeId} {size n : Nat} {v : Value} {xs : List Value} (h : w.ownsRow B T size v n xs) {k : Nat} (hk : v.ownBlock = some k) : ∃ cs, AtT T k cs w := by
  rcases h.2 with ⟨h2, _⟩ | ⟨g, cap, cur, hg, hb, hgg, _⟩
  · rw [h2] at hk; cases hk
  · rw [hg] at hk; cases hk; exact ⟨cur, hgg⟩
/-- The reference's store is put where it is kept: what else there is stays. -/
theorem afterPut {B sb p : Nat} {v : Value} {C : List Int} {n : Int} {vs : Value} {Vs Ws : List Ver} {sE sA : Value} {w9 wz : World} {X t : Nat} {cx ct : Array Value} (h : StoreAt B sb p v C n vs Vs w9) (hR : RefS B sE sA Ws w9) (hX : AtT 78 X cx w9)
    (ht : w9.heap.size ≤ t ∨ AtT 78 t ct w9) (ho : Only (fun j => j = X ∨ j = t) w9 wz) : StoreAt B sb p v C n vs Vs wz ∧ RefS B sE sA Ws wz := by
  refine ⟨h.keep ho (fun k hk e => ?_), ⟨own_keep hR.e ho (fun k hk e => ?_), own_keep hR.a ho (fun k hk e => ?_)⟩⟩
  · rcases e with e | e
    · subst e; exact sfar h apartS hX hk
    · subst e
      rcases ht with ht | ht
      · have := h.lt _ hk; omega
      · exact sfar h apartS ht hk
  · have hT := ownT hR.e hk
    obtain ⟨cs, hT⟩ := hT
    have hl := lt_of_heap hT
    rcases e with e | e
    · subst e; exact absurd (hX.ty hT) (by decide)
    · subst e
      rcases ht with ht | ht
      · omega
      · exact absurd (ht.ty hT) (by decide)
  · have hT := ownT hR.a hk
    obtain ⟨cs, hT⟩ := hT
    have hl := lt_of_heap hT
    rcases e with e | e
    · subst e; exact absurd (hX.ty hT) (by decide)
    · subst e
      rcases ht with ht | ht
      · omega
      · exact absurd (ht.ty hT) (by decide)
theorem RefS.mono {B B' : Nat} {sE sA : Value} {Vs : List Ver} {w : World} (h : RefS B sE sA Vs w) (hb : B' ≤ B) : RefS B' sE sA Vs w := ⟨h.e.mono hb, h.a.mono hb⟩
theorem own1 {w9 : World} {X : Nat} {a0 a1 : Value} (hX : AtT 78 X #[a0, a1] w9) (u0 u1 : Value) :
    AtT 78 X #[u0, u1] (((w9.setCell ⟨X, 0, none⟩ u0).setCell ⟨X, 1, none⟩ u1).alloc (.cells #[u0, u1] 78)) ∧
    Only (fun j => j = X ∨ j = w9.heap.size) w9 (((w9.setCell ⟨X, 0, none⟩ u0).setCell ⟨X, 1, none⟩ u1).alloc (.cells #[u0, u1] 78)) := by
  have n1 := bput2 hX u0 u1
  exact ⟨(heap_alloc_old _ _ (lt_of_heap n1)).trans n1, ((((refl _ w9).setCell (p := ⟨X, 0, none⟩) (fun _ => .inl rfl) _).setCell (p := ⟨X, 1, none⟩) (fun _ => .inl rfl) _).alloc _)⟩
theorem own2 {w9 : World} {X t : Nat} {a0 a1 c0 c1 : Value} (hX : AtT 78 X #[a0, a1] w9) (hT : w9.heap.size ≤ t ∨ AtT 78 t #[c0, c1] w9) (hlt : t < w9.heap.size) (hne : ¬ t = X) (u0 u1 : Value) :
    ((w9.setCell ⟨t, 0, none⟩ u0).setCell ⟨t, 1, none⟩ u1).cell? ⟨t, 0, none⟩ = some u0 ∧ ((w9.setCell ⟨t, 0, none⟩ u0).setCell ⟨t, 1, none⟩ u1).cell? ⟨t, 1, none⟩ = some u1 ∧
    ((w9.setCell ⟨t, 0, none⟩ u0).setCell ⟨t, 1, none⟩ u1).frozen? ⟨X, 0, none⟩ = false ∧ ((w9.setCell ⟨t, 0, none⟩ u0).setCell ⟨t, 1, none⟩ u1).frozen? ⟨X, 1, none⟩ = false ∧ ((w9.setCell ⟨t, 0, none⟩ u0).setCell ⟨t, 1, none⟩ u1).cell? ⟨X, 0, none⟩ = some a0 ∧ ((w9.setCell ⟨t, 0, none⟩ u0).setCell ⟨t, 1, none⟩ u1).cell? ⟨X, 1, none⟩ = some a1 ∧
    AtT 78 X #[u0, u1] ((((w9.setCell ⟨t, 0, none⟩ u0).setCell ⟨t, 1, none⟩ u1).setCell ⟨X, 0, none⟩ u0).setCell ⟨X, 1, none⟩ u1) ∧
    Only (fun j => j = X ∨ j = t) w9 ((((w9.setCell ⟨t, 0, none⟩ u0).setCell ⟨t, 1, none⟩ u1).setCell ⟨X, 0, none⟩ u0).setCell ⟨X, 1, none⟩ u1) := by
  have hT : AtT 78 t #[c0, c1] w9 := hT.resolve_left (by omega)
  have n1 := bput2 hT u0 u1
  have hX2 : AtT 78 X #[a0, a1] ((w9.setCell ⟨t, 0, none⟩ u0).setCell ⟨t, 1, none⟩ u1) := by
    unfold AtT
    rw [Below.heap_setCell _ _ _ _ (fun e => hne e.symm), Below.heap_setCell _ _ _ _ (fun e => hne e.symm)]
    exact hX
  obtain ⟨b0, b1, b2, b3⟩ := box2 hX2
  obtain ⟨c0, c1, c2, c3⟩ := box2 n1
  exact ⟨c0, c1, b2, b3, b0, b1, bput2 hX2 u0 u1, (((((refl _ w9).setCell (p := ⟨t, 0, none⟩) (fun _ => .inr rfl) _).setCell (p := ⟨t, 1, none⟩) (fun _ => .inr rfl) _).setCell (p := ⟨X, 0, none⟩) (fun _ => .inl rfl) _).setCell (p := ⟨X, 1, none⟩) (fun _ => .inl rfl) _)⟩

set_option maxHeartbeats 16000000 in
set_option maxRecDepth 2000000 in
theorem walk (V : Value) (ds : List (List Value)) (rev : Int) (hrev : -9223372036854775808 ≤ rev ∧ rev ≤ 9223372036854775807) (W : World) (hV : StructsV [.int .i64, .str, .str, .bool] W V ds) :
    Calls Try.prog 10 #[V, .int .i64 rev] W fun e w' => e = .returned (.bool true) ∧ Below W.heap.size W w' := by
  obtain ⟨A, cap, rfl, hl, -⟩ := hV.shape
  unfold maxLen at hl
  have hV := Lib.hid hV
  go_enter Try.func10, Try.ntmps10
  go_wp2_with fail
  refine (Chain.awake _).mono ?_
  rintro e w1 ⟨rfl, hb1⟩
  have q1 := hb1.size
  have B1 := Lib.hid hb1
  clear hb1
  go_wp2_with fail
  refine (New.new 0 (by omega) w1).mono ?_
  rintro e w2 ⟨p, v, rfl, h2, hb2⟩
  have C2 := Lib.hid hb2
  have q2 := hb2.size
  clear hb2
  go_wp2_with fail
  refine (Chain.new h2 q2).mono ?_
  rintro e w3 ⟨sb, rfl, h3, hb3⟩
  have C3 := Lib.hid (C2.out.trans (hb3.mono q2))
  have q3 := C3.out.size
  clear h2 hb3 C2
  go_wp2_with fail
  refine (Chain.cell h3 q3 (by simp)).mono ?_
  rintro e w4 ⟨v3, rfl, h4, o4⟩
  have C4 := Lib.hid (C3.out.trans (footB h3.mem o4 q3))
  have q4 := C4.out.size
  have h4 : StoreAt w1.heap.size sb p v3 [0] 0 (.slice none 0 0) [] w4 := h4
  rw [show ((List.replicate 0 (0:Int)).length : Int) = 0 by simp]
  clear h3 o4 C3
  have hbx := al9 w4 (.cells #[.slice none 0 0, .slice none 0 0] 78)
  have h5 := Lib.hid (h4.below hbx)
  have C5 := Lib.hid (C4.out.trans (hbx.mono q4))
  have X5 := Lib.hid (show AtT 78 w4.heap.size #[.slice none 0 0, .slice none 0 0] _ from heap_alloc_new w4 (.cells #[.slice none 0 0, .slice none 0 0] 78))
  have R5 := Lib.hid (show RefS w1.heap.size (.slice none 0 0) (.slice none 0 0) [] (w4.alloc (.cells #[.slice none 0 0, .slice none 0 0] 78)) from ⟨World.ownsRow_nil _ _ _ _, World.ownsRow_nil _ _ _ _⟩)
  have g0 : Chain.Good 0 [] := ⟨by omega, by simp, fun id ho => by simp [okV] at ho; omega, by simp, by simp⟩
  have g0 := Lib.hid g0
  have N5 := Lib.hid (show NilE [] (.slice none 0 0) (.slice none 0 0) from fun _ => ⟨rfl, rfl⟩)
  have hXB : w1.heap.size ≤ w4.heap.size := q4
  clear hbx h4 C4
  go_wp2_with fail
  generalize (w4.alloc (.cells #[.slice none 0 0, .slice none 0 0] 78)) = w5 at *
  generalize w4.heap.size = X at *
  go_loopw [11, 12] (fun l i wr => ∃ (k : Nat) (x : Int) (Vs : List Ver) (n : Int) (vs sE sA : Value), k ≤ ds.length ∧ k ≤ 40 ∧ i = .int .i64 k ∧ l = .int .i64 x ∧ Vs.length ≤ k ∧ 0 ≤ n ∧ n ≤ 40 * k ∧ Hid (Chain.Good x Vs) ∧ Hid (StoreAt w1.heap.size sb p v3 [x] n vs Vs wr) ∧ Hid (AtT 78 X #[sE, sA] wr) ∧ Hid (RefS w1.heap.size sE sA Vs wr) ∧ Hid (NilE Vs sE sA) ∧ Hid (Below w1.heap.size w1 wr))
    (fun _ i _ => 40 - (intOf i).toNat)
  case atStart => exact ⟨0, 0, [], 0, _, _, _, by omega, by omega, rfl, rfl, by simp, by omega, by omega, g0, h5, X5, R5, N5, C5⟩
  case round =>
    clear h5 C5 X5 R5 g0 N5
    obtain ⟨k, x, Vs, n, vs, sE, sA, hk, hk40, rfl, rfl, hvl, hn0, hnk, hg, h, hX, hR, hN, hb⟩ := hrel
    by_cases hlt : k < ds.length ∧ k < 40
    · obtain ⟨hlt, hlt40⟩ := hlt
      obtain ⟨ad, rfl, hre, hxb, hcell⟩ := eventCells hV.out hlt
      have b1 : decide ((k : Int) < ds.length) = true := by simp; omega
      have b2 : decide ((k : Int) < 40) = true := by simp; omega
      have hcell := Lib.hid hcell
      generalize eventOf (ds.getD k []) = ev at *
      have hre := Lib.hid hre
      obtain ⟨f0, f1, f2, f3⟩ := hcell.out wr (B1.out.trans (hb.out.mono q1))
      go_wp2_with fail
      refine (Chain.put sb wr 0 ev.rev ev.key ev.val ev.del).mono ?_
      rintro e w6 ⟨pb, rfl, hp6, hpl, hb6⟩
      have hW := hb.out.size
      have B6 := Lib.hid (hb.out.trans (hb6.mono hW))
      have s6 := B6.out.size
      have O6 : OneAt w1.heap.size sb p pb v3 n ⟨[x], Vs, ⟨0, ev.rev, ev.key, ev.val, ev.del, 0, false, false⟩⟩ w6 := ⟨vs, h.out.below hb6, hp6, s6⟩
      have K6 : (Chain.One.mk [x] Vs ⟨0, ev.rev, ev.key, ev.val, ev.del, 0, false, false⟩).Ok 40 := ⟨fun y hy => by have h0 := hg.out.x0; have h1 := hg.out.xl; simp at hy; subst hy; omega, by simp, by simp; omega⟩
      have X6 := Lib.hid (hX.out.below hb6)
      have R6 := Lib.hid (hR.out.below hb6)
      have O6 := Lib.hid O6
      have K6 := Lib.hid K6
      clear hb6 hp6 hX hR h hb f0 f1 f2 f3
      go_wp2_with fail
      refine (PutsKit.runT O6.out (by omega) K6.out (by omega) (by omega)).mono ?_
      rintro e w7 ⟨rfl, n7, hn7, hn8, O7, hb7, hT7⟩
      rw [runFresh] at O7
      have B7 := Lib.hid (B6.out.trans hb7)
      have q7 := B7.out.size
      have X7 := hT7 _ _ _ apartS X6.out
      have R7 := Lib.hid (RefS.T R6.out hT7)
      have O7 := Lib.hid O7
      have hx0 := hg.out.x0
      have hxl := hg.out.xl
      obtain ⟨x0, x1, x2, x3⟩ := box2 X7
      have hXl := lt_of_heap X7
      have X7 := Lib.hid X7
      obtain ⟨f0, f1, f2, f3⟩ := hcell.out w7 (B1.out.trans (B7.out.mono q1))
      have hbe : (ad.add (k * 4)).block < w1.heap.size := Nat.lt_of_lt_of_le (by rw [add_block]; exact hxb) q1
      have hneX : ¬ (ad.add (k * 4)).block = X := by omega
      have hneX' : ¬ X = (ad.add (k * 4)).block := by omega
      clear hb7 hT7 O6 K6 X6 R6 B6 hpl
      go_wp2_with fail
      by_cases hlate : ev.rev ≤ (ofV Vs x).rev
      · rw [if_pos hlate] at O7
        have b3 : decide ((ofV Vs x).rev < ev.rev) = false := by simp; omega
        obtain ⟨vs7, h7, _, _⟩ := O7.out
        have h7 := Lib.hid h7
        clear O7 hlate
        generalize hr0 : (ofV Vs x).rev = r0 at *
        go_region_held3 (fun w' => w'.cell? ⟨X, 0, none⟩ = some sE ∧ w'.cell? ⟨X, 1, none⟩ = some sA ∧ w'.cell? (ad.add (k * 4)) = some (.int .i64 ev.rev))
          (first | go_keep | exact S8)
          (first | (go_at_call 36 ; refine (rrev (R7.out.below (w' := w7.drew) (Below.refl _ _).drew) x (by omega) (by omega)).mono ?_ ; rintro e w8 ⟨rfl, hb8⟩ ; rw [hr0] ; have hc8 := ((Below.refl w7.heap.size w7).drew).trans hb8 ; have S8 := And.intro ((hc8.cell (p := ⟨X, 0, none⟩) hXl).trans x0) (And.intro ((hc8.cell (p := ⟨X, 1, none⟩) hXl).trans x1) ((hc8.cell (p := ad.add (k * 4)) (by omega)).trans f0)) ; have hc8 := Lib.hid hc8 ; clear hb8))
        have h8 := Lib.hid (h7.out.below hc8.out)
        have X8 := X7.out.below hc8.out
        obtain ⟨y0, y1, y2, y3⟩ := box2 X8
        have R8 := Lib.hid (R7.out.below hc8.out)
        have q78 := hc8.out.size
        have B8 := Lib.hid (B7.out.trans (hc8.out.mono q7))
        have q8 := B8.out.size
        have hXl8 := lt_of_heap X8
        have X8 := Lib.hid X8
        obtain ⟨d0, d1, d2, d3⟩ := hcell.out w8 (B1.out.trans (B8.out.mono q1))
        clear x0 x1 x2 x3 f0 f1 f2 f3 X7 R7 h7 hc8 B7
        go_wp2_with fail
        have h9 := h8
        have X9 := X8
        have R9 := R8
        have B9 := B8
        have q9 := q8
        have g9 := hg
        have N9 := hN
        clear h8 X8 R8 B8 q8
        refine (Mem.peek h9.out.mem 0 (by omega) (by omega)).mono ?_
        rintro e wa ⟨rfl, ma, oa⟩
        rw [rd1, show errAt [x] 0 = 0 by simp [errAt, inR]]
        have ha := Lib.hid (h9.out.mems ma oa)
        have Ba := Lib.hid (B9.out.trans (footB h9.out.mem oa q9))
        have qa := Ba.out.size
        have Xa := Lib.hid (memsT h9.out oa _ _ _ apartS X9.out)
        have Ra := Lib.hid (RefS.T R9.out (memsT h9.out oa))
        have hac := Lib.hid g9.out.ac
        have hrg := Lib.hid g9.out.rg
        have gx0 := g9.out.x0
        have gxl := g9.out.xl
        clear ma oa h9 X9 R9 B9
        go_wp2_with fail
        refine (at_ ha.out hac.out hrg.out x rev (by omega) (by omega) (by omega)).mono ?_
        rintro e wb ⟨rfl, hbb⟩
        generalize hO : atR Vs x rev = O at *
        replace hO := Lib.hid hO
        have hbx := al9 wb (.cells #[.string (kvK O), .string (kvV O), .int .i64 (kvR O)] 63)
        have hc := hbb.trans (hbx.mono hbb.size)
        have Y10 := heap_alloc_new wb (.cells #[.string (kvK O), .string (kvV O), .int .i64 (kvR O)] 63)
        have h10 := Lib.hid (ha.out.below hc)
        have R10 := Lib.hid (Ra.out.below hc)
        have X10 := Xa.out.below hc
        have B10 := Lib.hid (Ba.out.trans (hc.mono qa))
        have q10 := B10.out.size
        obtain ⟨x0, x1, x2, x3⟩ := box2 X10
        have X10 := Lib.hid X10
        have Y10 := Lib.hid Y10
        rw [kv_eq]
        clear hbx hbb hc ha Ra Xa Ba
        go_wp2_with fail
        generalize (wb.alloc (.cells #[.string (kvK O), .string (kvV O), .int .i64 (kvR O)] 63)) = wc at *
        generalize wb.heap.size = Y at *
        refine (rat R10.out hac.out x rev (by omega) (by omega) (by omega)).mono ?_
        rintro e wd ⟨rfl, hbd⟩
        rw [hO.out, kv_eq]
        have hbx := al9 wd (.cells #[.string (kvK O), .string (kvV O), .int .i64 (kvR O)] 63)
        have hc := hbd.trans (hbx.mono hbd.size)
        have Z11 := heap_alloc_new wd (.cells #[.string (kvK O), .string (kvV O), .int .i64 (kvR O)] 63)
        have Y11 := (hc.block _ (lt_of_heap Y10.out)).trans Y10.out
        have h11 := Lib.hid (h10.out.below hc)
        have R11 := Lib.hid (R10.out.below hc)
        have X11 := X10.out.below hc
        have B11 := Lib.hid (B10.out.trans (hc.mono q10))
        have q11 := B11.out.size
        clear x0 x1 x2 x3
        obtain ⟨x0, x1, x2, x3⟩ := box2 X11
        have X11 := Lib.hid X11
        have hYl := lt_of_heap Y11
        have hZl := lt_of_heap Z11
        have hXl9 := lt_of_heap X11.out
        obtain ⟨y0, y1, y2⟩ := kv3 Y11
        obtain ⟨z0, z1, z2⟩ := kv3 Z11
        have Y11 := Lib.hid Y11
        have Z11 := Lib.hid Z11
        clear hbx hbd hc h10 R10 X10 B10 Y10
        go_wp2_with fail
        generalize (wd.alloc (.cells #[.string (kvK O), .string (kvV O), .int .i64 (kvR O)] 63)) = we at *
        generalize wd.heap.size = Z at *
        generalize kvK O = kk at *
        generalize kvV O = kv at *
        generalize kvR O = kr at *
        generalize O.isSome = bo at *
        have hrr := ofV_rr g9.out.rr x
        generalize hr9 : (ofV Vs x).rev = r9 at *
        have hrw := ofV_rr g9.out.rr x
        go_region_held3 (fun w' => w'.cell? ⟨X, 0, none⟩ = some sE ∧ w'.cell? ⟨X, 1, none⟩ = some sA ∧ w'.cell? ⟨Y, 0, none⟩ = some (.string kk) ∧ w'.cell? ⟨Y, 1, none⟩ = some (.string kv) ∧ w'.cell? ⟨Y, 2, none⟩ = some (.int .i64 kr) ∧ w'.cell? ⟨Z, 0, none⟩ = some (.string kk) ∧ w'.cell? ⟨Z, 1, none⟩ = some (.string kv) ∧ w'.cell? ⟨Z, 2, none⟩ = some (.int .i64 kr))
          (first | go_keep | exact S12 | exact S13)
          (first | (go_at_call 31 ; refine (Chain.rev h11.out.drew x (by omega) (by omega)).mono ?_ ; rintro e wf ⟨rfl, hbf⟩ ; rw [hr9] ; have hcf := ((Below.refl we.heap.size we).drew).trans hbf ; have S12 := And.intro ((hcf.cell (p := ⟨X, 0, none⟩) (by omega)).trans x0) (And.intro ((hcf.cell (p := ⟨X, 1, none⟩) (by omega)).trans x1) (And.intro ((hcf.cell (p := ⟨Y, 0, none⟩) (by omega)).trans y0) (And.intro ((hcf.cell (p := ⟨Y, 1, none⟩) (by omega)).trans y1) (And.intro ((hcf.cell (p := ⟨Y, 2, none⟩) (by omega)).trans y2) (And.intro ((hcf.cell (p := ⟨Z, 0, none⟩) (by omega)).trans z0) (And.intro ((hcf.cell (p := ⟨Z, 1, none⟩) (by omega)).trans z1) (((hcf.cell (p := ⟨Z, 2, none⟩) (by omega)).trans z2)))))))) ; have qf := hcf.size ; have hcf := Lib.hid hcf ; clear hbf) | (go_at_call 36 ; refine (rrev (R11.out.below hcf.out) x (by omega) (by omega)).mono ?_ ; rintro e wg ⟨rfl, hbg⟩ ; rw [hr9] ; have hcg := hcf.out.trans (hbg.mono qf) ; have S13 := And.intro ((hcg.cell (p := ⟨X, 0, none⟩) (by omega)).trans x0) (And.intro ((hcg.cell (p := ⟨X, 1, none⟩) (by omega)).trans x1) (And.intro ((hcg.cell (p := ⟨Y, 0, none⟩) (by omega)).trans y0) (And.intro ((hcg.cell (p := ⟨Y, 1, none⟩) (by omega)).trans y1) (And.intro ((hcg.cell (p := ⟨Y, 2, none⟩) (by omega)).trans y2) (And.intro ((hcg.cell (p := ⟨Z, 0, none⟩) (by omega)).trans z0) (And.intro ((hcg.cell (p := ⟨Z, 1, none⟩) (by omega)).trans z1) (((hcg.cell (p := ⟨Z, 2, none⟩) (by omega)).trans z2)))))))) ; have qg := hcg.size ; have hcg := Lib.hid hcg ; clear hbg))
        have h12 := Lib.hid (h11.out.below hcg.out)
        have X12 := Lib.hid (X11.out.below hcg.out)
        have R12 := Lib.hid (R11.out.below hcg.out)
        have B12 := Lib.hid (B11.out.trans (hcg.out.mono q11))
        clear h11 X11 R11 B11 hcg hcf
        go_wp2
        go_roundw
        case rel => exact ⟨k + 1, x, Vs, _, _, sE, sA, by omega, by omega, by go_num, rfl, by omega, by omega, by omega, g9, h12, X12, R12, N9, B12⟩
        case measure => simp [intOf]; omega
      · rw [if_neg hlate] at O7
        have b3 : decide ((ofV Vs x).rev < ev.rev) = true := by simp; omega
        obtain ⟨vs7, h7, _, _⟩ := O7.out
        have h7 := Lib.hid h7
        clear O7 hlate
        generalize hr0 : (ofV Vs x).rev = r0 at *
        go_region_held3 (fun w' => w'.cell? ⟨X, 0, none⟩ = some sE ∧ w'.cell? ⟨X, 1, none⟩ = some sA ∧ w'.cell? (ad.add (k * 4)) = some (.int .i64 ev.rev))
          (first | go_keep | exact S8)
          (first | (go_at_call 36 ; refine (rrev (R7.out.below (w' := w7.drew) (Below.refl _ _).drew) x (by omega) (by omega)).mono ?_ ; rintro e w8 ⟨rfl, hb8⟩ ; rw [hr0] ; have hc8 := ((Below.refl w7.heap.size w7).drew).trans hb8 ; have S8 := And.intro ((hc8.cell (p := ⟨X, 0, none⟩) hXl).trans x0) (And.intro ((hc8.cell (p := ⟨X, 1, none⟩) hXl).trans x1) ((hc8.cell (p := ad.add (k * 4)) (by omega)).trans f0)) ; have hc8 := Lib.hid hc8 ; clear hb8))
        have h8 := Lib.hid (h7.out.below hc8.out)
        have X8 := X7.out.below hc8.out
        obtain ⟨y0, y1, y2, y3⟩ := box2 X8
        have R8 := Lib.hid (R7.out.below hc8.out)
        have q78 := hc8.out.size
        have B8 := Lib.hid (B7.out.trans (hc8.out.mono q7))
        have q8 := B8.out.size
        have hXl8 := lt_of_heap X8
        have X8 := Lib.hid X8
        obtain ⟨d0, d1, d2, d3⟩ := hcell.out w8 (B1.out.trans (B8.out.mono q1))
        clear x0 x1 x2 x3 f0 f1 f2 f3 X7 R7 h7 hc8 B7
        go_wp2_with fail
        have ne1 : ∀ o, ¬ (⟨w8.heap.size, o, none⟩ : Addr) = ad.add (k * 4) := fun o e => by
          have e2 : w8.heap.size = (ad.add (k * 4)).block := by rw [← e]
          omega
        have ne2 : ∀ o, ¬ ad.add (k * 4) = (⟨w8.heap.size, o, none⟩ : Addr) := fun o e => ne1 o e.symm
        have ne3 : ¬ w8.heap.size = (ad.add (k * 4)).block := by omega
        have ne4 : ¬ (ad.add (k * 4)).block = w8.heap.size := by omega
        have ne5 : ¬ w8.heap.size = X := by omega
        have ne6 : ¬ X = w8.heap.size := by omega
        go_region_held3 (fun w' => w'.cell? ⟨X, 0, none⟩ = some sE ∧ w'.cell? ⟨X, 1, none⟩ = some sA ∧ w'.cell? (ad.add (k * 4)) = some (.int .i64 ev.rev) ∧ w'.cell? ⟨(ad.add (k * 4)).block, (ad.add (k * 4)).off + 1, none⟩ = some (.string ev.key) ∧ w'.cell? ⟨(ad.add (k * 4)).block, (ad.add (k * 4)).off + 2, none⟩ = some (.string ev.val) ∧ w'.cell? ⟨(ad.add (k * 4)).block, (ad.add (k * 4)).off + 3, none⟩ = some (.bool ev.del))
          (first | go_keep | exact S9)
          (first | (go_at_call 37 ; refine (rputX (R8.out.below (w' := w8.drew) ((Below.refl w8.heap.size w8).drew)) hN.out (by omega) x ev.rev ev.key ev.val ev.del).mono ?_ ; rintro e w9 ⟨sE2, sA2, rfl, hr9, hb9⟩ ; obtain ⟨Ae, ce, he2, hce⟩ := own_any' hr9.e ; obtain ⟨Aa, ca, ha2, hca⟩ := own_any' hr9.a ; subst he2 ; subst ha2 ; have hc9 := ((Below.refl w8.heap.size w8).drew).trans (hb9.mono (by simp)) ; have S9 := And.intro ((hc9.cell (p := ⟨X, 0, none⟩) hXl8).trans y0) (And.intro ((hc9.cell (p := ⟨X, 1, none⟩) hXl8).trans y1) (And.intro ((hc9.cell (p := ad.add (k * 4)) (by omega)).trans d0) (And.intro ((hc9.cell (p := ⟨(ad.add (k * 4)).block, (ad.add (k * 4)).off + 1, none⟩) (by simp only []; omega)).trans d1) (And.intro ((hc9.cell (p := ⟨(ad.add (k * 4)).block, (ad.add (k * 4)).off + 2, none⟩) (by simp only []; omega)).trans d2) ((hc9.cell (p := ⟨(ad.add (k * 4)).block, (ad.add (k * 4)).off + 3, none⟩) (by simp only []; omega)).trans d3))))) ; have T9 := Lib.hid (show w9.heap.size ≤ w9.heap.size ∨ AtT 78 w9.heap.size #[.slice none 0 0, .slice none 0 0] w9 from .inl (Nat.le_refl _)) ; have hr9 := Lib.hid hr9 ; have hc9 := Lib.hid hc9 ; clear hb9) | (go_at_call 37 ; refine (rputX (R8.out.below (w' := (w8.alloc (.cells #[.slice none 0 0, .slice none 0 0] 78)).drew) ((al9 w8 (.cells #[.slice none 0 0, .slice none 0 0] 78)).drew)) hN.out (by omega) x ev.rev ev.key ev.val ev.del).mono ?_ ; rintro e w9 ⟨sE2, sA2, rfl, hr9, hb9⟩ ; obtain ⟨Ae, ce, he2, hce⟩ := own_any' hr9.e ; obtain ⟨Aa, ca, ha2, hca⟩ := own_any' hr9.a ; subst he2 ; subst ha2 ; have hc9 := ((al9 w8 (.cells #[.slice none 0 0, .slice none 0 0] 78)).drew).trans (hb9.mono (by simp)) ; have S9 := And.intro ((hc9.cell (p := ⟨X, 0, none⟩) hXl8).trans y0) (And.intro ((hc9.cell (p := ⟨X, 1, none⟩) hXl8).trans y1) (And.intro ((hc9.cell (p := ad.add (k * 4)) (by omega)).trans d0) (And.intro ((hc9.cell (p := ⟨(ad.add (k * 4)).block, (ad.add (k * 4)).off + 1, none⟩) (by simp only []; omega)).trans d1) (And.intro ((hc9.cell (p := ⟨(ad.add (k * 4)).block, (ad.add (k * 4)).off + 2, none⟩) (by simp only []; omega)).trans d2) ((hc9.cell (p := ⟨(ad.add (k * 4)).block, (ad.add (k * 4)).off + 3, none⟩) (by simp only []; omega)).trans d3))))) ; have T9 : AtT 78 w8.heap.size #[.slice none 0 0, .slice none 0 0] w9 := (hb9.block w8.heap.size (by simp)).trans (heap_alloc_new w8 (.cells #[.slice none 0 0, .slice none 0 0] 78)) ; obtain ⟨t0, t1, t2, t3⟩ := box2 T9 ; have hlt9 := lt_of_heap T9 ; have T9 := Lib.hid (show w9.heap.size ≤ w8.heap.size ∨ AtT 78 w8.heap.size #[.slice none 0 0, .slice none 0 0] w9 from .inr T9) ; have hr9 := Lib.hid hr9 ; have hc9 := Lib.hid hc9 ; clear hb9))
        all_goals
          have X9 := X8.out.below hc9.out
          have e1 : ((Vs.length + 1 : Nat) : Int) = (Vs.length : Int) + 1 := by simp
          have h9 := h8.out.below hc9.out
          rw [e1] at h9
          have h9 := Lib.hid h9
          have q89 := hc9.out.size
          have B9 := Lib.hid (B8.out.trans (hc9.out.mono q8))
          have q9 := B9.out.size
          have hXl9 := lt_of_heap X9
          have X9 := Lib.hid X9
          have hr9 := RefS.mono hr9.out (B' := w1.heap.size) (by first | exact q8 | (simp; omega))
          rw [show (Vs ++ [(⟨ev.rev, ev.key, ev.val, ev.del, x⟩ : Ver)]).length = Vs.length + 1 by simp] at hr9
          have hr9 := Lib.hid hr9
          have hl2 : (Vs ++ [(⟨ev.rev, ev.key, ev.val, ev.del, x⟩ : Ver)]).length ≤ k + 1 := by simp; omega
          have g9 := Lib.hid (hg.out.new (y := ⟨ev.rev, ev.key, ev.val, ev.del, x⟩) ⟨hx0, hxl⟩ hre.out (by omega) (z := (Vs.length : Int) + 1) ⟨by omega, by omega⟩)
          have N9 : NilE (Vs ++ [(⟨ev.rev, ev.key, ev.val, ev.del, x⟩ : Ver)]) (.slice Ae (Vs.length + 1) ce) (.slice Aa (Vs.length + 1) ca) := fun h => by simp at h
          have N9 := Lib.hid N9
          clear y0 y1 y2 y3 d0 d1 d2 d3 X8 R8 h8 B8 hc9 hr0 ne1 ne2
        · obtain ⟨v0, v1, v2, v3⟩ := box2 X9.out
          have v4 := True.intro
          have v7 := True.intro
          obtain ⟨v5, v6⟩ := own1 X9.out (.slice Ae (Vs.length + 1) ce) (.slice Aa (Vs.length + 1) ca)
          have fin := Lib.hid (afterPut h9.out hr9.out X9.out T9.out v6)
          have belz := Lib.hid (B9.out.trans (v6.toBelow _ q9 (fun j _ e => by rcases e with e | e <;> omega)))
          have v5 := Lib.hid v5
          have v6 := Lib.hid v6
          clear T9 B9 h9 X9 hr9
          go_wp2_with fail
          generalize (((w9.setCell ⟨X, 0, none⟩ (.slice Ae (Vs.length + 1) ce)).setCell ⟨X, 1, none⟩ (.slice Aa (Vs.length + 1) ca)).alloc (.cells #[.slice Ae (Vs.length + 1) ce, .slice Aa (Vs.length + 1) ca] 78)) = wz at *
          have h9 := Lib.hid fin.out.1
          have R9 := Lib.hid fin.out.2
          have X9 := v5
          have B9 := belz
          have q9 := B9.out.size
          clear fin v0 v1 v2 v3 v4 v5 v6 v7 belz
          clear e1
          generalize ((Vs.length : Int) + 1) = xx at *
          generalize (Vs ++ [(⟨ev.rev, ev.key, ev.val, ev.del, x⟩ : Ver)]) = V2 at *
          refine (Mem.peek h9.out.mem 0 (by omega) (by omega)).mono ?_
          rintro e wa ⟨rfl, ma, oa⟩
          rw [rd1, show errAt [xx] 0 = 0 by simp [errAt, inR]]
          have ha := Lib.hid (h9.out.mems ma oa)
          have Ba := Lib.hid (B9.out.trans (footB h9.out.mem oa q9))
          have qa := Ba.out.size
          have Xa := Lib.hid (memsT h9.out oa _ _ _ apartS X9.out)
          have Ra := Lib.hid (RefS.T R9.out (memsT h9.out oa))
          have hac := Lib.hid g9.out.ac
          have hrg := Lib.hid g9.out.rg
          have gx0 := g9.out.x0
          have gxl := g9.out.xl
          clear ma oa h9 X9 R9 B9
          go_wp2_with fail
          refine (at_ ha.out hac.out hrg.out xx rev (by omega) (by omega) (by omega)).mono ?_
          rintro e wb ⟨rfl, hbb⟩
          generalize hO : atR V2 xx rev = O at *
          replace hO := Lib.hid hO
          have hbx := al9 wb (.cells #[.string (kvK O), .string (kvV O), .int .i64 (kvR O)] 63)
          have hc := hbb.trans (hbx.mono hbb.size)
          have Y10 := heap_alloc_new wb (.cells #[.string (kvK O), .string (kvV O), .int .i64 (kvR O)] 63)
          have h10 := Lib.hid (ha.out.below hc)
          have R10 := Lib.hid (Ra.out.below hc)
          have X10 := Xa.out.below hc
          have B10 := Lib.hid (Ba.out.trans (hc.mono qa))
          have q10 := B10.out.size
          obtain ⟨x0, x1, x2, x3⟩ := box2 X10
          have X10 := Lib.hid X10
          have Y10 := Lib.hid Y10
          rw [kv_eq]
          clear hbx hbb hc ha Ra Xa Ba
          go_wp2_with fail
          generalize (wb.alloc (.cells #[.string (kvK O), .string (kvV O), .int .i64 (kvR O)] 63)) = wc at *
          generalize wb.heap.size = Y at *
          refine (rat R10.out hac.out xx rev (by omega) (by omega) (by omega)).mono ?_
          rintro e wd ⟨rfl, hbd⟩
          rw [hO.out, kv_eq]
          have hbx := al9 wd (.cells #[.string (kvK O), .string (kvV O), .int .i64 (kvR O)] 63)
          have hc := hbd.trans (hbx.mono hbd.size)
          have Z11 := heap_alloc_new wd (.cells #[.string (kvK O), .string (kvV O), .int .i64 (kvR O)] 63)
          have Y11 := (hc.block _ (lt_of_heap Y10.out)).trans Y10.out
          have h11 := Lib.hid (h10.out.below hc)
          have R11 := Lib.hid (R10.out.below hc)
          have X11 := X10.out.below hc
          have B11 := Lib.hid (B10.out.trans (hc.mono q10))
          have q11 := B11.out.size
          clear x0 x1 x2 x3
          obtain ⟨x0, x1, x2, x3⟩ := box2 X11
          have X11 := Lib.hid X11
          have hYl := lt_of_heap Y11
          have hZl := lt_of_heap Z11
          have hXl9 := lt_of_heap X11.out
          obtain ⟨y0, y1, y2⟩ := kv3 Y11
          obtain ⟨z0, z1, z2⟩ := kv3 Z11
          have Y11 := Lib.hid Y11
          have Z11 := Lib.hid Z11
          clear hbx hbd hc h10 R10 X10 B10 Y10
          go_wp2_with fail
          generalize (wd.alloc (.cells #[.string (kvK O), .string (kvV O), .int .i64 (kvR O)] 63)) = we at *
          generalize wd.heap.size = Z at *
          generalize kvK O = kk at *
          generalize kvV O = kv at *
          generalize kvR O = kr at *
          generalize O.isSome = bo at *
          have hrr := ofV_rr g9.out.rr xx
          generalize hr9 : (ofV V2 xx).rev = r9 at *
          have hrw := ofV_rr g9.out.rr xx
          go_region_held3 (fun w' => w'.cell? ⟨X, 0, none⟩ = some (.slice Ae (Vs.length + 1) ce) ∧ w'.cell? ⟨X, 1, none⟩ = some (.slice Aa (Vs.length + 1) ca) ∧ w'.cell? ⟨Y, 0, none⟩ = some (.string kk) ∧ w'.cell? ⟨Y, 1, none⟩ = some (.string kv) ∧ w'.cell? ⟨Y, 2, none⟩ = some (.int .i64 kr) ∧ w'.cell? ⟨Z, 0, none⟩ = some (.string kk) ∧ w'.cell? ⟨Z, 1, none⟩ = some (.string kv) ∧ w'.cell? ⟨Z, 2, none⟩ = some (.int .i64 kr))
            (first | go_keep | exact S12 | exact S13)
            (first | (go_at_call 31 ; refine (Chain.rev h11.out.drew xx (by omega) (by omega)).mono ?_ ; rintro e wf ⟨rfl, hbf⟩ ; rw [hr9] ; have hcf := ((Below.refl we.heap.size we).drew).trans hbf ; have S12 := And.intro ((hcf.cell (p := ⟨X, 0, none⟩) (by omega)).trans x0) (And.intro ((hcf.cell (p := ⟨X, 1, none⟩) (by omega)).trans x1) (And.intro ((hcf.cell (p := ⟨Y, 0, none⟩) (by omega)).trans y0) (And.intro ((hcf.cell (p := ⟨Y, 1, none⟩) (by omega)).trans y1) (And.intro ((hcf.cell (p := ⟨Y, 2, none⟩) (by omega)).trans y2) (And.intro ((hcf.cell (p := ⟨Z, 0, none⟩) (by omega)).trans z0) (And.intro ((hcf.cell (p := ⟨Z, 1, none⟩) (by omega)).trans z1) (((hcf.cell (p := ⟨Z, 2, none⟩) (by omega)).trans z2)))))))) ; have qf := hcf.size ; have hcf := Lib.hid hcf ; clear hbf) | (go_at_call 36 ; refine (rrev (R11.out.below hcf.out) xx (by omega) (by omega)).mono ?_ ; rintro e wg ⟨rfl, hbg⟩ ; rw [hr9] ; have hcg := hcf.out.trans (hbg.mono qf) ; have S13 := And.intro ((hcg.cell (p := ⟨X, 0, none⟩) (by omega)).trans x0) (And.intro ((hcg.cell (p := ⟨X, 1, none⟩) (by omega)).trans x1) (And.intro ((hcg.cell (p := ⟨Y, 0, none⟩) (by omega)).trans y0) (And.intro ((hcg.cell (p := ⟨Y, 1, none⟩) (by omega)).trans y1) (And.intro ((hcg.cell (p := ⟨Y, 2, none⟩) (by omega)).trans y2) (And.intro ((hcg.cell (p := ⟨Z, 0, none⟩) (by omega)).trans z0) (And.intro ((hcg.cell (p := ⟨Z, 1, none⟩) (by omega)).trans z1) (((hcg.cell (p := ⟨Z, 2, none⟩) (by omega)).trans z2)))))))) ; have qg := hcg.size ; have hcg := Lib.hid hcg ; clear hbg))
          have h12 := Lib.hid (h11.out.below hcg.out)
          have X12 := Lib.hid (X11.out.below hcg.out)
          have R12 := Lib.hid (R11.out.below hcg.out)
          have B12 := Lib.hid (B11.out.trans (hcg.out.mono q11))
          clear h11 X11 R11 B11 hcg hcf
          go_wp2
          go_roundw
          case rel => exact ⟨k + 1, xx, V2, _, _, (.slice Ae (Vs.length + 1) ce), (.slice Aa (Vs.length + 1) ca), by omega, by omega, by go_num, rfl, by omega, by omega, by omega, g9, h12, X12, R12, N9, B12⟩
          case measure => simp [intOf]; omega
        · obtain ⟨v0, v1, v2, v3, v4, v7, v5, v6⟩ := own2 X9.out T9.out hlt9 ne5 (.slice Ae (Vs.length + 1) ce) (.slice Aa (Vs.length + 1) ca)
          have fin := Lib.hid (afterPut h9.out hr9.out X9.out T9.out v6)
          have belz := Lib.hid (B9.out.trans (v6.toBelow _ q9 (fun j _ e => by rcases e with e | e <;> omega)))
          have v5 := Lib.hid v5
          have v6 := Lib.hid v6
          clear T9 B9 h9 X9 hr9
          go_wp2_with fail
          generalize ((((w9.setCell ⟨w8.heap.size, 0, none⟩ (.slice Ae (Vs.length + 1) ce)).setCell ⟨w8.heap.size, 1, none⟩ (.slice Aa (Vs.length + 1) ca)).setCell ⟨X, 0, none⟩ (.slice Ae (Vs.length + 1) ce)).setCell ⟨X, 1, none⟩ (.slice Aa (Vs.length + 1) ca)) = wz at *
          have h9 := Lib.hid fin.out.1
          have R9 := Lib.hid fin.out.2
          have X9 := v5
          have B9 := belz
          have q9 := B9.out.size
          clear fin v0 v1 v2 v3 v4 v5 v6 v7 belz
          clear e1
          generalize ((Vs.length : Int) + 1) = xx at *
          generalize (Vs ++ [(⟨ev.rev, ev.key, ev.val, ev.del, x⟩ : Ver)]) = V2 at *
          refine (Mem.peek h9.out.mem 0 (by omega) (by omega)).mono ?_
          rintro e wa ⟨rfl, ma, oa⟩
          rw [rd1, show errAt [xx] 0 = 0 by simp [errAt, inR]]
          have ha := Lib.hid (h9.out.mems ma oa)
          have Ba := Lib.hid (B9.out.trans (footB h9.out.mem oa q9))
          have qa := Ba.out.size
          have Xa := Lib.hid (memsT h9.out oa _ _ _ apartS X9.out)
          have Ra := Lib.hid (RefS.T R9.out (memsT h9.out oa))
          have hac := Lib.hid g9.out.ac
          have hrg := Lib.hid g9.out.rg
          have gx0 := g9.out.x0
          have gxl := g9.out.xl
          clear ma oa h9 X9 R9 B9
          go_wp2_with fail
          refine (at_ ha.out hac.out hrg.out xx rev (by omega) (by omega) (by omega)).mono ?_
          rintro e wb ⟨rfl, hbb⟩
          generalize hO : atR V2 xx rev = O at *
          replace hO := Lib.hid hO
          have hbx := al9 wb (.cells #[.string (kvK O), .string (kvV O), .int .i64 (kvR O)] 63)
          have hc := hbb.trans (hbx.mono hbb.size)
          have Y10 := heap_alloc_new wb (.cells #[.string (kvK O), .string (kvV O), .int .i64 (kvR O)] 63)
          have h10 := Lib.hid (ha.out.below hc)
          have R10 := Lib.hid (Ra.out.below hc)
          have X10 := Xa.out.below hc
          have B10 := Lib.hid (Ba.out.trans (hc.mono qa))
          have q10 := B10.out.size
          obtain ⟨x0, x1, x2, x3⟩ := box2 X10
          have X10 := Lib.hid X10
          have Y10 := Lib.hid Y10
          rw [kv_eq]
          clear hbx hbb hc ha Ra Xa Ba
          go_wp2_with fail
          generalize (wb.alloc (.cells #[.string (kvK O), .string (kvV O), .int .i64 (kvR O)] 63)) = wc at *
          generalize wb.heap.size = Y at *
          refine (rat R10.out hac.out xx rev (by omega) (by omega) (by omega)).mono ?_
          rintro e wd ⟨rfl, hbd⟩
          rw [hO.out, kv_eq]
          have hbx := al9 wd (.cells #[.string (kvK O), .string (kvV O), .int .i64 (kvR O)] 63)
          have hc := hbd.trans (hbx.mono hbd.size)
          have Z11 := heap_alloc_new wd (.cells #[.string (kvK O), .string (kvV O), .int .i64 (kvR O)] 63)
          have Y11 := (hc.block _ (lt_of_heap Y10.out)).trans Y10.out
          have h11 := Lib.hid (h10.out.below hc)
          have R11 := Lib.hid (R10.out.below hc)
          have X11 := X10.out.below hc
          have B11 := Lib.hid (B10.out.trans (hc.mono q10))
          have q11 := B11.out.size
          clear x0 x1 x2 x3
          obtain ⟨x0, x1, x2, x3⟩ := box2 X11
          have X11 := Lib.hid X11
          have hYl := lt_of_heap Y11
          have hZl := lt_of_heap Z11
          have hXl9 := lt_of_heap X11.out
          obtain ⟨y0, y1, y2⟩ := kv3 Y11
          obtain ⟨z0, z1, z2⟩ := kv3 Z11
          have Y11 := Lib.hid Y11
          have Z11 := Lib.hid Z11
          clear hbx hbd hc h10 R10 X10 B10 Y10
          go_wp2_with fail
          generalize (wd.alloc (.cells #[.string (kvK O), .string (kvV O), .int .i64 (kvR O)] 63)) = we at *
          generalize wd.heap.size = Z at *
          generalize kvK O = kk at *
          generalize kvV O = kv at *
          generalize kvR O = kr at *
          generalize O.isSome = bo at *
          have hrr := ofV_rr g9.out.rr xx
          generalize hr9 : (ofV V2 xx).rev = r9 at *
          have hrw := ofV_rr g9.out.rr xx
          go_region_held3 (fun w' => w'.cell? ⟨X, 0, none⟩ = some (.slice Ae (Vs.length + 1) ce) ∧ w'.cell? ⟨X, 1, none⟩ = some (.slice Aa (Vs.length + 1) ca) ∧ w'.cell? ⟨Y, 0, none⟩ = some (.string kk) ∧ w'.cell? ⟨Y, 1, none⟩ = some (.string kv) ∧ w'.cell? ⟨Y, 2, none⟩ = some (.int .i64 kr) ∧ w'.cell? ⟨Z, 0, none⟩ = some (.string kk) ∧ w'.cell? ⟨Z, 1, none⟩ = some (.string kv) ∧ w'.cell? ⟨Z, 2, none⟩ = some (.int .i64 kr))
            (first | go_keep | exact S12 | exact S13)
            (first | (go_at_call 31 ; refine (Chain.rev h11.out.drew xx (by omega) (by omega)).mono ?_ ; rintro e wf ⟨rfl, hbf⟩ ; rw [hr9] ; have hcf := ((Below.refl we.heap.size we).drew).trans hbf ; have S12 := And.intro ((hcf.cell (p := ⟨X, 0, none⟩) (by omega)).trans x0) (And.intro ((hcf.cell (p := ⟨X, 1, none⟩) (by omega)).trans x1) (And.intro ((hcf.cell (p := ⟨Y, 0, none⟩) (by omega)).trans y0) (And.intro ((hcf.cell (p := ⟨Y, 1, none⟩) (by omega)).trans y1) (And.intro ((hcf.cell (p := ⟨Y, 2, none⟩) (by omega)).trans y2) (And.intro ((hcf.cell (p := ⟨Z, 0, none⟩) (by omega)).trans z0) (And.intro ((hcf.cell (p := ⟨Z, 1, none⟩) (by omega)).trans z1) (((hcf.cell (p := ⟨Z, 2, none⟩) (by omega)).trans z2)))))))) ; have qf := hcf.size ; have hcf := Lib.hid hcf ; clear hbf) | (go_at_call 36 ; refine (rrev (R11.out.below hcf.out) xx (by omega) (by omega)).mono ?_ ; rintro e wg ⟨rfl, hbg⟩ ; rw [hr9] ; have hcg := hcf.out.trans (hbg.mono qf) ; have S13 := And.intro ((hcg.cell (p := ⟨X, 0, none⟩) (by omega)).trans x0) (And.intro ((hcg.cell (p := ⟨X, 1, none⟩) (by omega)).trans x1) (And.intro ((hcg.cell (p := ⟨Y, 0, none⟩) (by omega)).trans y0) (And.intro ((hcg.cell (p := ⟨Y, 1, none⟩) (by omega)).trans y1) (And.intro ((hcg.cell (p := ⟨Y, 2, none⟩) (by omega)).trans y2) (And.intro ((hcg.cell (p := ⟨Z, 0, none⟩) (by omega)).trans z0) (And.intro ((hcg.cell (p := ⟨Z, 1, none⟩) (by omega)).trans z1) (((hcg.cell (p := ⟨Z, 2, none⟩) (by omega)).trans z2)))))))) ; have qg := hcg.size ; have hcg := Lib.hid hcg ; clear hbg))
          have h12 := Lib.hid (h11.out.below hcg.out)
          have X12 := Lib.hid (X11.out.below hcg.out)
          have R12 := Lib.hid (R11.out.below hcg.out)
          have B12 := Lib.hid (B11.out.trans (hcg.out.mono q11))
          clear h11 X11 R11 B11 hcg hcf
          go_wp2
          go_roundw
          case rel => exact ⟨k + 1, xx, V2, _, _, (.slice Ae (Vs.length + 1) ce), (.slice Aa (Vs.length + 1) ca), by omega, by omega, by go_num, rfl, by omega, by omega, by omega, g9, h12, X12, R12, N9, B12⟩
          case measure => simp [intOf]; omega
    · have b12 : (decide ((k : Int) < ds.length) = false ∧ ¬ k < ds.length) ∨ (decide ((k : Int) < ds.length) = true ∧ decide ((k : Int) < 40) = false) := by
        by_cases e : k < ds.length
        · exact .inr ⟨by simp; omega, by simp; omega⟩
        · exact .inl ⟨by simp; omega, e⟩
      have fin := Lib.hid (B1.out.trans (hb.out.mono q1))
      clear h hX hR hN hg hb hlt
      rcases b12 with ⟨b1, b2⟩ | ⟨b1, b2⟩
      all_goals
        go_wp2
        all_goals
          go_ret
          exact ⟨rfl, fin.out⟩
end Go.Proofs.Ytllibgjajlgnbab.WalkChainPuts

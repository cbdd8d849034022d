/- The store: Step. -/
import Derived.Test.YtllibgjajlgnbabChain3
namespace Go.Proofs.Ytllibgjajlgnbab.Chain
open Go Go.RowKit Go.Proofs.Ytllibgjajlgnbab.Only Go.Proofs.Ytllibgjajlgnbab.Mem Go.Proofs.Ytllibgjajlgnbab.New
set_option linter.unusedVariables false
set_option linter.unusedSimpArgs false

theorem cell9 {w : World} {j : Nat} {c0 c1 c2 c3 c4 c5 c6 c7 c8 : Value} {T : TypeId} (h : w.heap[j]? = some (.cells #[c0, c1, c2, c3, c4, c5, c6, c7, c8] T (0, 0))) :
    (w.cell? ⟨j, 0, none⟩ = some c0 ∧ w.cell? ⟨j, 1, none⟩ = some c1 ∧ w.cell? ⟨j, 2, none⟩ = some c2 ∧ w.cell? ⟨j, 3, none⟩ = some c3 ∧ w.cell? ⟨j, 4, none⟩ = some c4 ∧ w.cell? ⟨j, 5, none⟩ = some c5 ∧ w.cell? ⟨j, 6, none⟩ = some c6 ∧ w.cell? ⟨j, 7, none⟩ = some c7 ∧ w.cell? ⟨j, 8, none⟩ = some c8) ∧ (∀ i, w.frozen? ⟨j, i, none⟩ = false) := by
  refine ⟨by simp [World.cell?, h], fun i => ?_⟩
  simp [World.frozen?, h]

/-- A step of a put: the cells, the versions, the put. -/
def stepP (C : List Int) (Vs : List Ver) (P : PutS) : PutS :=
  if P.done then P
  else if P.seen then { P with seen := false, done := casB C P.c P.last }
  else { P with last := rdAt C P.c, seen := true, done := decide (P.rev ≤ (ofV Vs (rdAt C P.c)).rev) }
def stepC (C : List Int) (Vs : List Ver) (P : PutS) : List Int :=
  if P.done then C else if P.seen then casAt C P.c P.last (Vs.length + 1 : Nat) else C
def stepV (Vs : List Ver) (P : PutS) : List Ver := if P.done then Vs else if P.seen then Vs ++ [P.ver] else Vs
def stepN (C : List Int) (P : PutS) : Int := if P.done then 0 else hit C P.c

/-- The blocks that a step may turn. -/
def StepFoot (pb sb p : Nat) (v vs : Value) (k : Nat) : Prop := k = pb ∨ SFoot sb p v vs k

/-- What Step leaves. -/
def Stepped (B pb sb p : Nat) (v : Value) (C : List Int) (n : Int) (vs : Value) (Vs : List Ver) (P : PutS) (w : World) (e : Ending) (w' : World) : Prop :=
  ∃ vs', e = .returned (.bool (stepP C Vs P).done) ∧ StoreAt B sb p v (stepC C Vs P) (n + stepN C P) vs' (stepV Vs P) w' ∧ PutAt pb sb (stepP C Vs P) w' ∧ Only (StepFoot pb sb p v vs) w w'

section
variable {B pb sb p : Nat} {v : Value} {C : List Int} {n : Int} {vs : Value} {Vs : List Ver} {P : PutS} {w : World}

theorem put_far (h : StoreAt B sb p v C n vs Vs w) (hp : PutAt pb sb P w) : ¬ SFoot sb p v vs pb := by
  unfold PutAt at hp
  intro hf
  rcases hf with hf | e | e
  · rcases hf with e | e
    · have h1 := h.mem.blk; rw [← e, hp] at h1; cases h1
    · rcases h.mem.own.2 with ⟨h2, _⟩ | ⟨g, cap, cur, hg, hb, hgg, _⟩
      · rw [h2] at e; cases e
      · rw [hg] at e; cases e; rw [hgg] at hp; cases hp
  · have h1 := h.blk; rw [← e, hp] at h1; cases h1
  · rcases h.own.2 with ⟨h2, _⟩ | ⟨g, cap, cur, hg, hb, hgg, _⟩
    · rw [h2] at e; cases e
    · rw [hg] at e; cases e; rw [hgg] at hp; cases hp

theorem PutAt.set6 (hp : PutAt pb sb P w) (x : Int) : PutAt pb sb { P with last := x } (w.setCell ⟨pb, 6, none⟩ (.int .u64 x)) := by
  unfold PutAt at *
  simp [World.setCell, Array.getElem?_modify, hp]
theorem PutAt.set7 (hp : PutAt pb sb P w) (x : Bool) : PutAt pb sb { P with seen := x } (w.setCell ⟨pb, 7, none⟩ (.bool x)) := by
  unfold PutAt at *
  simp [World.setCell, Array.getElem?_modify, hp]
theorem PutAt.set8 (hp : PutAt pb sb P w) (x : Bool) : PutAt pb sb { P with done := x } (w.setCell ⟨pb, 8, none⟩ (.bool x)) := by
  unfold PutAt at *
  simp [World.setCell, Array.getElem?_modify, hp]
theorem PutAt.next {S : Nat → Prop} {w' : World} (hp : PutAt pb sb P w) (ho : Only S w w') (hS : ¬ S pb) : PutAt pb sb P w' := (ho.block _ (lt_of_heap hp) hS).trans hp
theorem PutAt.below {w' : World} (hp : PutAt pb sb P w) (hb : Below w.heap.size w w') : PutAt pb sb P w' := (hb.block _ (lt_of_heap hp)).trans hp
theorem same (w : World) (q o i : Nat) (u : Value) (h : i ≠ o) : (w.setCell ⟨q, o, none⟩ u).cell? ⟨q, i, none⟩ = w.cell? ⟨q, i, none⟩ := World.cell?_setCell_other _ _ _ _ (by intro e; injection e with e1 e2; exact h e2.symm)
theorem other (w : World) (q q' o i : Nat) (u : Value) (h : ¬ q = q') : (w.setCell ⟨q, o, none⟩ u).cell? ⟨q', i, none⟩ = w.cell? ⟨q', i, none⟩ := World.cell?_setCell_other _ _ _ _ (by intro e; injection e with e1 e2; exact h e1)
theorem only1 (w : World) (q o : Nat) (u : Value) : Only (fun k => k = q) w (w.setCell ⟨q, o, none⟩ u) := (refl (fun k => k = q) w).setCell (p := ⟨q, o, none⟩) (fun _ => rfl) u
theorem StoreAt.set (h : StoreAt B sb p v C n vs Vs w) {q : Nat} (hq : ¬ SFoot sb p v vs q) (o : Nat) (u : Value) : StoreAt B sb p v C n vs Vs (w.setCell ⟨q, o, none⟩ u) :=
  h.keep (only1 w q o u) (fun k hk e => hq ((show k = q from e) ▸ hk))

set_option maxRecDepth 100000 in
theorem step_done (h : StoreAt B sb p v C n vs Vs w) (hp : PutAt pb sb P w) (hd : P.done = true) :
    Calls Try.prog 33 #[.pointer (some ⟨pb, 0, none⟩)] w (Stepped B pb sb p v C n vs Vs P w) := by
  have fin : Stepped B pb sb p v C n vs Vs P w (.returned (.bool true)) w := by
    refine ⟨vs, ?_, ?_, ?_, refl _ _⟩
    · simp [stepP, hd]
    · simpa [stepC, stepN, stepV, hd] using h
    · simpa [stepP, hd] using hp
  have fin := Lib.hid fin
  obtain ⟨⟨a0, a1, a2, a3, a4, a5, a6, a7, a8⟩, af⟩ := cell9 hp
  rw [hd] at a8
  clear h hp
  go_enter Try.func33, Try.ntmps33
  go_wp2
  go_ret
  exact fin.out

set_option maxHeartbeats 4000000 in
set_option maxRecDepth 100000 in
theorem step_load (h : StoreAt B sb p v C n vs Vs w) (hp : PutAt pb sb P w) (hd : P.done = false) (hs : P.seen = false) (hB : B ≤ w.heap.size) (hC : ∀ x ∈ C, 0 ≤ x ∧ x ≤ 18446744073709551615) (hc : -9223372036854775808 ≤ P.c ∧ P.c ≤ 9223372036854775807) (hn : 0 ≤ n ∧ n < 4611686018427387904) (hl : Vs.length ≤ 1000000) :
    Calls Try.prog 33 #[.pointer (some ⟨pb, 0, none⟩)] w (Stepped B pb sb p v C n vs Vs P w) := by
  obtain ⟨⟨a0, a1, a2, a3, a4, a5, a6, a7, a8⟩, af⟩ := cell9 hp
  obtain ⟨c0, c1, c2⟩ := h.cells
  have hfar := put_far h hp
  rw [hd] at a8
  rw [hs] at a7
  have H := Lib.hid h
  have hpp := Lib.hid hp
  have hC := Lib.hid hC
  clear h hp af
  go_enter Try.func33, Try.ntmps33
  go_wp2_with fail
  have H0 := Lib.hid H.out.drew
  have hpb : ¬ pb = sb := fun e => hfar (.inr (.inl e))
  have hpb2 : ¬ sb = pb := fun e => hpb e.symm
  have hpf : ¬ Foot p v pb := fun e => hfar (.inl e)
  have hsf := H.out.far
  go_region_held3 (fun w' => w'.cell? ⟨pb, 0, none⟩ = some (.pointer (some ⟨sb, 0, none⟩)) ∧ w'.cell? ⟨pb, 1, none⟩ = some (.int .i64 P.c) ∧ w'.cell? ⟨sb, 0, none⟩ = some (.pointer (some ⟨p, 0, none⟩)))
    (first | exact S5 | exact S6 _ | go_keep)
    (first
      | (go_at_call 50 ; refine (Mem.load H0.out.mem P.c hc hn).mono ?_ ; rintro e w2 ⟨rfl, h2, ho2⟩ ; have L2 := H0.out.mems h2 ho2 ; have P2 : PutAt pb sb P w2 := (ho2.block _ (lt_of_heap hpp.out) hpf).trans hpp.out ; obtain ⟨⟨g0, g1, g2, g3, g4, g5, g6, g7, g8⟩, gf⟩ := cell9 P2 ; rw [hd] at g8 ; rw [hs] at g7 ; obtain ⟨f0, f1, f2⟩ := L2.cells ; have S5 := And.intro g0 (And.intro g1 f0) ; have S6 := fun u : Value => And.intro ((same w2 pb 6 0 u (by decide)).trans g0) (And.intro ((same w2 pb 6 1 u (by decide)).trans g1) ((other w2 pb sb 6 0 u hpb).trans f0)) ; have gf6 := gf 6 ; have gf7 := gf 7 ; have gf8 := gf 8 ; have L2 := Lib.hid L2 ; have P2 := Lib.hid P2 ; have ho2 := Lib.hid ho2 ; clear h2 gf))
  have hx := rdAt_range hC.out P.c
  have hN : stepN C P = hit C P.c := by simp [stepN, hd]
  have hVs : stepV Vs P = Vs := by simp [stepV, hd, hs]
  have hCs : stepC C Vs P = C := by simp [stepC, hd, hs]
  have hPs : stepP C Vs P = { P with last := rdAt C P.c, seen := true, done := decide (P.rev ≤ (ofV Vs (rdAt C P.c)).rev) } := by simp [stepP, hd, hs]
  have fin : ∀ w', StoreAt B sb p v C (n + hit C P.c) vs Vs w' → PutAt pb sb { P with last := rdAt C P.c, seen := true, done := decide (P.rev ≤ (ofV Vs (rdAt C P.c)).rev) } w' → Only (StepFoot pb sb p v vs) w w' → Stepped B pb sb p v C n vs Vs P w (.returned (.bool (decide (P.rev ≤ (ofV Vs (rdAt C P.c)).rev)))) w' := fun w' k1 k2 k3 =>
    ⟨vs, by rw [hPs], by rw [hCs, hN, hVs]; exact k1, by rw [hPs]; exact k2, k3⟩
  have fin := Lib.hid fin
  clear hN hVs hCs hPs
  generalize rdAt C P.c = x at *
  generalize errAt C P.c = er at *
  have P4 := (P2.out.set6 x).set7 true
  have L4 := (L2.out.set hfar 6 (.int .u64 x)).set hfar 7 (.bool true)
  have hO : Only (StepFoot pb sb p v vs) w w2 := (refl (StepFoot pb sb p v vs) w).trans ((ofBelow (S := StepFoot pb sb p v vs) (Below.refl w.heap.size w)).trans ⟨ho2.out.os, ho2.out.tape, ho2.out.output, ho2.out.size, ho2.out.block⟩ (fun i _ hi => .inr (.inl hi))) (fun _ _ y => y)
  have O4 : Only (StepFoot pb sb p v vs) w ((w2.setCell ⟨pb, 6, none⟩ (.int .u64 x)).setCell ⟨pb, 7, none⟩ (.bool true)) := (hO.setCell (p := ⟨pb, 6, none⟩) (fun _ => .inl rfl) _).setCell (p := ⟨pb, 7, none⟩) (fun _ => .inl rfl) _
  have P4 := Lib.hid P4
  have L4 := Lib.hid L4
  have O4 := Lib.hid O4
  clear hO a0 a1 a2 a3 a4 a5 a6 a7 a8 c0 c1 c2
  go_wp2_with fail
  generalize ((w2.setCell ⟨pb, 6, none⟩ (.int .u64 x)).setCell ⟨pb, 7, none⟩ (.bool true)) = w4 at *
  clear g0 g1 g2 g3 g4 g5 g6 g7 g8 f0 f1 f2 gf6 gf7 gf8
  obtain ⟨⟨g0, g1, g2, g3, g4, g5, g6, g7, g8⟩, gf⟩ := cell9 P4.out
  have gf8 := gf 8
  have L4d := Lib.hid L4.out.drew
  dsimp only at g0 g1 g2 g3 g4 g5 g6 g7 g8
  clear gf
  go_region_held3 (fun w' => w'.cell? ⟨pb, 0, none⟩ = some (.pointer (some ⟨sb, 0, none⟩)) ∧ w'.cell? ⟨pb, 6, none⟩ = some (.int .u64 x) ∧ w'.cell? ⟨pb, 2, none⟩ = some (.int .i64 P.rev))
    (first | exact S5 | exact S6 _ | go_keep)
    (first
      | (go_at_call 31 ; refine (Chain.rev L4d.out x hx hl).mono ?_ ; rintro e w5 ⟨rfl, hb5⟩ ; have P5 : PutAt pb sb _ w5 := (hb5.block _ (lt_of_heap P4.out)).trans P4.out ; obtain ⟨⟨y0, y1, y2, y3, y4, y5, y6, y7, y8⟩, yf⟩ := cell9 P5 ; dsimp only at y0 y1 y2 y3 y4 y5 y6 y7 y8 ; have S5 := And.intro y0 (And.intro y6 y2) ; have S6 := fun u : Value => And.intro ((same w5 pb 8 0 u (by decide)).trans y0) (And.intro ((same w5 pb 8 6 u (by decide)).trans y6) ((same w5 pb 8 2 u (by decide)).trans y2)) ; have yf8 := yf 8 ; have L5 := Lib.hid (L4d.out.below hb5) ; have P5 := Lib.hid P5 ; have hb5 := Lib.hid hb5 ; clear yf))
  generalize hdec : decide (P.rev ≤ (ofV Vs x).rev) = dn at *
  have hdec := Lib.hid hdec
  have P6 := P5.out.set8 dn
  have L6 := L5.out.set hfar 8 (.bool dn)
  have O6 : Only (StepFoot pb sb p v vs) w (w5.setCell ⟨pb, 8, none⟩ (.bool dn)) := by
    have q : Only (StepFoot pb sb p v vs) w w4.drew := ⟨O4.out.os, O4.out.tape, O4.out.output, O4.out.size, O4.out.block⟩
    exact (q.trans (ofBelow (S := fun _ => False) hb5.out) (fun _ _ y => y.elim)).setCell (p := ⟨pb, 8, none⟩) (fun _ => .inl rfl) _
  have fin2 := Lib.hid (fin.out _ L6 P6 O6)
  clear P6 L6 O6
  go_wp2
  go_ret
  exact fin2.out

theorem s8 (hp : PutAt pb sb P w) (L : StoreAt B sb p v C n vs Vs w) : w.cell? ⟨pb, 0, none⟩ = some (.pointer (some ⟨sb, 0, none⟩)) ∧ w.cell? ⟨pb, 1, none⟩ = some (.int .i64 P.c) ∧ w.cell? ⟨pb, 2, none⟩ = some (.int .i64 P.rev) ∧ w.cell? ⟨pb, 3, none⟩ = some (.string P.key) ∧ w.cell? ⟨pb, 4, none⟩ = some (.string P.val) ∧ w.cell? ⟨pb, 5, none⟩ = some (.bool P.del) ∧ w.cell? ⟨pb, 6, none⟩ = some (.int .u64 P.last) ∧ w.cell? ⟨sb, 0, none⟩ = some (.pointer (some ⟨p, 0, none⟩)) := by
  obtain ⟨⟨g0, g1, g2, g3, g4, g5, g6, g7, g8⟩, gf⟩ := cell9 hp
  exact ⟨g0, g1, g2, g3, g4, g5, g6, L.cells.1⟩
theorem s8set (hp : PutAt pb sb P w) (L : StoreAt B sb p v C n vs Vs w) (hpb : ¬ pb = sb) (u : Value) : (w.setCell ⟨pb, 8, none⟩ u).cell? ⟨pb, 0, none⟩ = some (.pointer (some ⟨sb, 0, none⟩)) ∧ (w.setCell ⟨pb, 8, none⟩ u).cell? ⟨pb, 1, none⟩ = some (.int .i64 P.c) ∧ (w.setCell ⟨pb, 8, none⟩ u).cell? ⟨pb, 2, none⟩ = some (.int .i64 P.rev) ∧ (w.setCell ⟨pb, 8, none⟩ u).cell? ⟨pb, 3, none⟩ = some (.string P.key) ∧ (w.setCell ⟨pb, 8, none⟩ u).cell? ⟨pb, 4, none⟩ = some (.string P.val) ∧ (w.setCell ⟨pb, 8, none⟩ u).cell? ⟨pb, 5, none⟩ = some (.bool P.del) ∧ (w.setCell ⟨pb, 8, none⟩ u).cell? ⟨pb, 6, none⟩ = some (.int .u64 P.last) ∧ (w.setCell ⟨pb, 8, none⟩ u).cell? ⟨sb, 0, none⟩ = some (.pointer (some ⟨p, 0, none⟩)) := by
  obtain ⟨⟨g0, g1, g2, g3, g4, g5, g6, g7, g8⟩, gf⟩ := cell9 hp
  exact ⟨(same w pb 8 0 u (by decide)).trans g0, (same w pb 8 1 u (by decide)).trans g1, (same w pb 8 2 u (by decide)).trans g2, (same w pb 8 3 u (by decide)).trans g3, (same w pb 8 4 u (by decide)).trans g4, (same w pb 8 5 u (by decide)).trans g5, (same w pb 8 6 u (by decide)).trans g6, (other w pb sb 8 0 u hpb).trans L.cells.1⟩

set_option maxHeartbeats 4000000 in
set_option maxRecDepth 100000 in
theorem step_cas (h : StoreAt B sb p v C n vs Vs w) (hp : PutAt pb sb P w) (hd : P.done = false) (hs : P.seen = true) (hB : B ≤ w.heap.size) (hc : -9223372036854775808 ≤ P.c ∧ P.c ≤ 9223372036854775807) (hn : 0 ≤ n ∧ n < 4611686018427387904) (hl : Vs.length ≤ 1000000) :
    Calls Try.prog 33 #[.pointer (some ⟨pb, 0, none⟩)] w (Stepped B pb sb p v C n vs Vs P w) := by
  obtain ⟨⟨a0, a1, a2, a3, a4, a5, a6, a7, a8⟩, af⟩ := cell9 hp
  obtain ⟨c0, c1, c2⟩ := h.cells
  have hfar := put_far h hp
  have hpb : ¬ pb = sb := fun e => hfar (.inr (.inl e))
  have hpb2 : ¬ sb = pb := fun e => hpb e.symm
  have hbw := (Below.refl w.heap.size w).alloc (Nat.le_refl _) (.cells #[.int .i64 P.rev, .string P.key, .string P.val, .bool P.del, .int .u64 P.last] 116)
  have L1 := (h.below hbw).drew
  have P1 := PutAt.below hp hbw
  have x1 := heap_alloc_new w (.cells #[.int .i64 P.rev, .string P.key, .string P.val, .bool P.del, .int .u64 P.last] 116)
  have hpl := lt_of_heap hp
  have hsl := lt_of_heap h.blk
  have np1 : ¬ w.heap.size = pb := by omega
  have np2 : ¬ pb = w.heap.size := by omega
  have np3 : ¬ w.heap.size = sb := by omega
  have np4 : ¬ sb = w.heap.size := by omega
  rw [hd] at a8
  rw [hs] at a7
  have H := Lib.hid h
  have hpp := Lib.hid hp
  have L1 := Lib.hid L1
  have P1 := Lib.hid P1
  have x1 := Lib.hid x1
  have hbw := Lib.hid hbw
  clear h hp af
  go_enter Try.func33, Try.ntmps33
  go_wp2_with fail
  go_region_held3 (fun w' => w'.cell? ⟨pb, 0, none⟩ = some (.pointer (some ⟨sb, 0, none⟩)) ∧ w'.cell? ⟨pb, 1, none⟩ = some (.int .i64 P.c) ∧ w'.cell? ⟨pb, 2, none⟩ = some (.int .i64 P.rev) ∧ w'.cell? ⟨pb, 3, none⟩ = some (.string P.key) ∧ w'.cell? ⟨pb, 4, none⟩ = some (.string P.val) ∧ w'.cell? ⟨pb, 5, none⟩ = some (.bool P.del) ∧ w'.cell? ⟨pb, 6, none⟩ = some (.int .u64 P.last) ∧ w'.cell? ⟨sb, 0, none⟩ = some (.pointer (some ⟨p, 0, none⟩)))
    (first | exact S5 | exact S6 _ | go_keep)
    (first
      | (go_at_call 56 ; refine (Chain.add L1.out (Nat.le_trans hB hbw.out.size) hl P.ver w.heap.size x1.out).mono ?_ ; rintro e w2 ⟨vs', rfl, L2, o2⟩ ; have P2 : PutAt pb sb P w2 := (o2.block _ (lt_of_heap P1.out) (fun e => e.elim (fun e => hfar (.inr (.inl e))) (fun e => hfar (.inr (.inr e))))).trans P1.out ; have S5 := s8 P2 L2 ; have L2 := Lib.hid L2 ; have P2 := Lib.hid P2 ; have o2 := Lib.hid o2)
      | (go_at_call 52 ; refine (Mem.cas L2.out.mem P.c P.last (Vs.length + 1 : Nat) hc hn).mono ?_ ; rintro e w3 ⟨rfl, h3, o3⟩ ; have L3 := L2.out.mems h3 o3 ; have P3 : PutAt pb sb P w3 := (o3.block _ (lt_of_heap P2.out) (fun e => hfar (.inl e))).trans P2.out ; have S5 := s8 P3 L3 ; have S6 := s8set P3 L3 hpb ; have gf8 := (cell9 P3).2 8 ; have gf7 := (cell9 P3).2 7 ; have g7 := (cell9 P3).1.2.2.2.2.2.2.2.1 ; have g8 := (cell9 P3).1.2.2.2.2.2.2.2.2 ; have L3 := Lib.hid L3 ; have P3 := Lib.hid P3 ; have o3 := Lib.hid o3 ; clear h3))
  have hN : stepN C P = hit C P.c := by simp [stepN, hd]
  have hVs : stepV Vs P = Vs ++ [P.ver] := by simp [stepV, hd, hs]
  have hCs : stepC C Vs P = casAt C P.c P.last (Vs.length + 1 : Nat) := by simp [stepC, hd, hs]
  have hPs : stepP C Vs P = { P with seen := false, done := casB C P.c P.last } := by simp [stepP, hd, hs]
  have hvs' : ∀ k, vs'.ownBlock = some k → vs.ownBlock = some k ∨ w.heap.size ≤ k ∨ True := fun _ _ => .inr (.inr trivial)
  have fin : ∀ w', StoreAt B sb p v (casAt C P.c P.last (Vs.length + 1 : Nat)) (n + hit C P.c) vs' (Vs ++ [P.ver]) w' → PutAt pb sb { P with seen := false, done := casB C P.c P.last } w' → Only (StepFoot pb sb p v vs) w w' → Stepped B pb sb p v C n vs Vs P w (.returned (.bool (casB C P.c P.last))) w' := fun w' k1 k2 k3 =>
    ⟨vs', by rw [hPs], by rw [hCs, hN, hVs]; exact k1, by rw [hPs]; exact k2, k3⟩
  have fin := Lib.hid fin
  have hfar3 := put_far L3.out P3.out
  have P4 := (P3.out.set8 (casB C P.c P.last)).set7 false
  have L4 := (L3.out.set hfar3 8 (.bool (casB C P.c P.last))).set hfar3 7 (.bool false)
  have O2 : Only (StepFoot pb sb p v vs) w w2 := by
    have q : Only (StepFoot pb sb p v vs) w (w.alloc (.cells #[.int .i64 P.rev, .string P.key, .string P.val, .bool P.del, .int .u64 P.last] 116)).drew := ofBelow (hbw.out.drew)
    exact q.trans o2.out (fun i _ hi => hi.elim (fun e => .inr (.inr (.inl e))) (fun e => .inr (.inr (.inr e))))
  have O3 : Only (StepFoot pb sb p v vs) w w3 := O2.trans o3.out (fun i _ hi => .inr (.inl hi))
  have O4 : Only (StepFoot pb sb p v vs) w ((w3.setCell ⟨pb, 8, none⟩ (.bool (casB C P.c P.last))).setCell ⟨pb, 7, none⟩ (.bool false)) := (O3.setCell (p := ⟨pb, 8, none⟩) (fun _ => .inl rfl) _).setCell (p := ⟨pb, 7, none⟩) (fun _ => .inl rfl) _
  have fin2 := Lib.hid (fin.out _ L4 P4 O4)
  clear L4 P4 O4 O2 O3 hN hVs hCs hPs
  generalize casB C P.c P.last = bb at *
  go_wp2
  go_ret
  exact fin2.out
end
end Go.Proofs.Ytllibgjajlgnbab.Chain

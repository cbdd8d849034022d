/- look: a closure that calls itself. Laid by genor4.py. -/
import Derived.Test.YtecjkpjcmgohmabOr3
import Derived.Deep.LoopGhost
import Derived.WalkMore
import Derived.Deep.Cut
import Derived.Test.YtecjkpjcmgohmabWLast
namespace Go.Proofs.Ytecjkpjcmgohmab.Or
open Go Go.RowKit Go.Maps Go.Proofs.Ytecjkpjcmgohmab.Only Go.Proofs.Ytecjkpjcmgohmab.Pu Go.Proofs.YtecjkpjcmgohmabW.PrintLast
set_option linter.unusedVariables false
set_option linter.unusedSimpArgs false

/-- What lies in memory while it looks. -/
structure Env (w : World) (sb lb kb mb : Nat) (v : Value) (l : List C) : Prop where
  c1 : w.cell? ⟨sb, 0, none⟩ = some (.map (some mb))
  c2 : w.cell? ⟨lb, 0, none⟩ = some v
  c3 : w.cell? ⟨kb, 0, none⟩ = some (.func (.func 23) #[] #[.pointer (some ⟨sb, 0, none⟩), .pointer (some ⟨lb, 0, none⟩), .pointer (some ⟨kb, 0, none⟩)])
  own : Own w 0 v l
  n1 : sb ≠ mb
  n2 : lb ≠ mb
  n3 : kb ≠ mb
  n4 : v.ownBlock ≠ some mb
theorem cell_lt {w : World} {k o : Nat} {u : Value} (h : w.cell? ⟨k, o, none⟩ = some u) : k < w.heap.size := by
  simp only [World.cell?] at h
  split at h
  · rename_i e; exact lt_of_heap e
  · cases h
theorem Env.keep {w w' : World} {sb lb kb mb : Nat} {v : Value} {l : List C} (h : Env w sb lb kb mb v l) (ho : Only (fun k => k = mb) w w') : Env w' sb lb kb mb v l :=
  ⟨(ho.cell (p := ⟨sb, 0, none⟩) (cell_lt h.c1) h.n1).trans h.c1, (ho.cell (p := ⟨lb, 0, none⟩) (cell_lt h.c2) h.n2).trans h.c2, (ho.cell (p := ⟨kb, 0, none⟩) (cell_lt h.c3) h.n3).trans h.c3, own_keep h.own ho (fun k hk e => h.n4 (by rw [hk]; exact congrArg some e)), h.n1, h.n2, h.n3, h.n4⟩
/-- What a look leaves. -/
def Looked (mb n k : Nat) (l : List C) (S : List (Nat × Bool)) (d : Nat) (b : Bool) (w : World) (e : Ending) (w' : World) : Prop :=
  e = .returned (.bool (okB l d b)) ∧ Only (fun j => j = mb) w w' ∧ ∃ n' D' S', w'.ownsMap Try.prog 51 heldR mb n' D' ∧ Seen D' S' ∧ n' ≤ n + 13 ^ k ∧ (okB l d b = false → ∀ q ∈ S', q ∈ S ∨ okB l q.1 q.2 = false)

def pw : Nat → Nat
  | 0 => 0
  | k + 1 => 13 ^ k
theorem pw_le (k m : Nat) (hm : m ≤ 12) : 1 + m * pw k ≤ 13 ^ k := by
  cases k with
  | zero => simp [pw]
  | succ k =>
    show 1 + m * 13 ^ k ≤ 13 ^ (k + 1)
    have h1 : 0 < 13 ^ k := Nat.pow_pos (by omega)
    have h2 : m * 13 ^ k ≤ 12 * 13 ^ k := Nat.mul_le_mul_right _ hm
    rw [Nat.pow_succ]
    generalize 13 ^ k = x at *
    generalize m * x = y at *
    omega
def lf (l : List C) (d i : Nat) : Bool := (List.range i).any (fun j => ub d j && !opn (at' l j))
def noB (l : List C) (d : Nat) (b : Bool) (i : Nat) : Prop := ∀ j, j < i → goB l d b j = false
/-- What holds at each round. -/
structure Rnd (w : World) (mb n k : Nat) (l : List C) (S : List (Nat × Bool)) (d : Nat) (b : Bool) (i : Nat) (wr : World) : Prop where
  no : noB l d b i
  only : Only (fun j => j = mb) w wr
  map : ∃ n' D' S', wr.ownsMap Try.prog 51 heldR mb n' D' ∧ Seen D' S' ∧ n' ≤ n + 1 + i * pw k ∧ ∀ q ∈ S', q ∈ S ∨ q = (d, b) ∨ okB l q.1 q.2 = false
  x0 : wr.cell? ⟨w.heap.size, 0, none⟩ = some (.int .i64 d)
  x1 : wr.cell? ⟨w.heap.size, 1, none⟩ = some (.bool b)
theorem Rnd.below {w : World} {mb n k : Nat} {l : List C} {S : List (Nat × Bool)} {d : Nat} {b : Bool} {i : Nat} {wr w' : World} (h : Rnd w mb n k l S d b i wr) (hb : Below wr.heap.size wr w') : Rnd w mb n k l S d b i w' := by
  obtain ⟨n', D', S', m1, m2, m3, m4⟩ := h.map
  have hl := m1.lt
  refine ⟨h.no, h.only.trans (ofBelow hb) (fun _ _ e => e), ⟨n', D', S', ?_, m2, m3, m4⟩, (hb.cell (p := ⟨w.heap.size, 0, none⟩) (cell_lt h.x0)).trans h.x0, (hb.cell (p := ⟨w.heap.size, 1, none⟩) (cell_lt h.x1)).trans h.x1⟩
  obtain ⟨es, clock, h1, r⟩ := m1
  exact ⟨es, clock, (hb.block _ hl).trans h1, r⟩
theorem Rnd.next {w : World} {mb n k : Nat} {l : List C} {S : List (Nat × Bool)} {d : Nat} {b : Bool} {i : Nat} {wr : World} (h : Rnd w mb n k l S d b i wr) (hg : goB l d b i = false) : Rnd w mb n k l S d b (i + 1) wr := by
  obtain ⟨n', D', S', m1, m2, m3, m4⟩ := h.map
  refine ⟨fun j hj => ?_, h.only, ⟨n', D', S', m1, m2, Nat.le_trans m3 (Nat.add_le_add_left (Nat.mul_le_mul_right _ (Nat.le_succ _)) _), m4⟩, h.x0, h.x1⟩
  by_cases e : j = i
  · subst e; exact hg
  · exact h.no j (by omega)
theorem new5 (wr : World) (c : C) : ∃ w' cb, cb = wr.heap.size ∧ w' = wr.alloc (.cells #[.int .i64 c.kind, .string c.key, .bool c.ok, .int .i64 c.inv, .int .i64 c.ret] 29) ∧ Below wr.heap.size wr w' ∧
    (w'.cell? ⟨cb, 0, none⟩ = some (.int .i64 c.kind) ∧ w'.cell? ⟨cb, 1, none⟩ = some (.string c.key) ∧ w'.cell? ⟨cb, 2, none⟩ = some (.bool c.ok) ∧ w'.cell? ⟨cb, 3, none⟩ = some (.int .i64 c.inv) ∧ w'.cell? ⟨cb, 4, none⟩ = some (.int .i64 c.ret)) ∧ cb < w'.heap.size :=
  ⟨_, _, rfl, rfl, (Below.refl _ _).alloc (Nat.le_refl _) _, ⟨by simp, by simp, by simp, by simp, by simp⟩, by simp⟩
theorem lf_all (l : List C) (d : Nat) : lf l d l.length = lft l (ub d) := rfl
theorem Rnd.fin {w : World} {mb n k : Nat} {l : List C} {S : List (Nat × Bool)} {d : Nat} {b : Bool} {wr : World} (h : Rnd w mb n k l S d b l.length wr) (hl : l.length ≤ 12) (hv : ∀ c ∈ l, ahd c c = false) : Looked mb n k l S d b w (.returned (.bool (!lf l d l.length))) wr := by
  have e : okB l d b = !lf l d l.length := by
    rw [okB_step hv, lf_all]
    have : (List.range l.length).any (goB l d b) = false := by
      rw [List.any_eq_false]
      intro j hj
      rw [h.no j (List.mem_range.1 hj)]; simp
    rw [this, Bool.false_or]
  obtain ⟨n', D', S', m1, m2, m3, m4⟩ := h.map
  have hp := pw_le k l.length hl
  refine ⟨by rw [e], h.only, n', D', S', m1, m2, by omega, fun hf q hq => ?_⟩
  rcases m4 q hq with x | rfl | x
  · exact .inl x
  · exact .inr hf
  · exact .inr x
theorem Rnd.finT {w : World} {mb n k' : Nat} {l : List C} {S : List (Nat × Bool)} {d : Nat} {b : Bool} {i : Nat} {w5 w6 : World} (h : Rnd w mb n (k' + 1) l S d b i w5) (hl : l.length ≤ 12) (hv : ∀ c ∈ l, ahd c c = false) (hi : i < l.length) (hg : goB l d b i = true)
    {n1 n' : Nat} {D' : DataW Value} {S' : List (Nat × Bool)} (m3 : n1 ≤ n + 1 + i * pw (k' + 1)) (o6 : Only (fun j => j = mb) w5 w6) (M' : w6.ownsMap Try.prog 51 heldR mb n' D') (s' : Seen D' S') (l' : n' ≤ n1 + 13 ^ k') : Looked mb n (k' + 1) l S d b w (.returned (.bool true)) w6 := by
  have e : okB l d b = true := by
    rw [okB_step hv]
    have : (List.range l.length).any (goB l d b) = true := List.any_eq_true.2 ⟨i, List.mem_range.2 hi, hg⟩
    rw [this]; rfl
  have hp := pw_le (k' + 1) (i + 1) (by omega)
  rw [Nat.add_mul, Nat.one_mul] at hp
  have e2 : pw (k' + 1) = 13 ^ k' := rfl
  refine ⟨by rw [e], h.only.trans o6 (fun _ _ e => e), n', D', S', M', s', by omega, fun hf => by rw [e] at hf; cases hf⟩
theorem Rnd.after {w : World} {mb n k' : Nat} {l : List C} {S S1 : List (Nat × Bool)} {d : Nat} {b : Bool} {i : Nat} {w5 w6 : World} (h : Rnd w mb n (k' + 1) l S d b i w5) (hmb : mb < w.heap.size) (hg : goB l d b i = false)
    {n1 n' : Nat} {D' : DataW Value} {S' : List (Nat × Bool)} (m3 : n1 ≤ n + 1 + i * pw (k' + 1)) (m4 : ∀ q ∈ S1, q ∈ S ∨ q = (d, b) ∨ okB l q.1 q.2 = false) (o6 : Only (fun j => j = mb) w5 w6) (M' : w6.ownsMap Try.prog 51 heldR mb n' D') (s' : Seen D' S') (l' : n' ≤ n1 + 13 ^ k')
    (hf : ∀ q ∈ S', q ∈ S1 ∨ okB l q.1 q.2 = false) : Rnd w mb n (k' + 1) l S d b (i + 1) w6 := by
  have e2 : pw (k' + 1) = 13 ^ k' := rfl
  have hne : ¬ w.heap.size = mb := by omega
  refine ⟨fun j hj => ?_, h.only.trans o6 (fun _ _ e => e), ⟨n', D', S', M', s', ?_, fun q hq => ?_⟩, (o6.cell (p := ⟨w.heap.size, 0, none⟩) (cell_lt h.x0) hne).trans h.x0, (o6.cell (p := ⟨w.heap.size, 1, none⟩) (cell_lt h.x1) hne).trans h.x1⟩
  · by_cases e : j = i
    · subst e; exact hg
    · exact h.no j (by omega)
  · rw [Nat.add_mul, Nat.one_mul]; omega
  · rcases hf q hq with x | x
    · exact m4 q x
    · exact .inr (.inr x)
/-- A call through a function value, as an arm. -/
theorem goesV_ {P : Program} {ops : Array Oper} {Q : Exit → Act → World → Prop} {oi : Oper} {N : Option Tmp} {a : Act} {w : World} {K : Act → World → Prop} {f : FuncId} {fn : Func} {cal : Operand} {az : Array Operand} {ts : Array TypeId} (hf : P.funcs[f]? = some fn) (hname : (fn.name == "runtime.NumGoroutine") = false) (hb : fn.body.isSome = true) (args caps all : Array Value)
    (hw : Region.wanted oi (yielded ops a.tmps) = true) (hN : oi.dst = N) (hop : oi.op = .call { callee := .value cal, args := az, argTypes := ts }) (hcal : a.eval cal = .func (.func f) #[] caps) (hargs : az.map a.eval = args) (hall : args ++ caps = all)
    (h : Calls P f all w fun e w' => ∃ v, e = .returned v ∧ K (a.put N v) w') : if Region.wanted oi (yielded ops a.tmps) = true then Oper.wp P oi a w K Q else K (a.put N undef) w := by
  subst hall
  refine call_ f _ hw hN ?_ h
  have he := enters_ hf hname hb (args ++ caps) w
  unfold execOp
  simp [hop, resolve, hcal, Deferred.ofValue, invoke, hargs, he]
theorem bit_or {d i : Nat} (hd : d < 4096) (hi : i < 12) : Go.bits .or .i64 (d : Int) (wrap64 (2 ^ i)) = ((d ||| 1 <<< i : Nat) : Int) := by
  have h2 : 2 ^ i < 4096 := Nat.pow_lt_pow_right (a := 2) (by omega) hi
  have h3 := (bits_nat .i64 63 (by decide) wraps_i64 d (2 ^ i) (by omega) (by omega)).2
  have h4 : wrap64 (2 ^ i) = ((2 ^ i : Nat) : Int) := by
    have : ((2 : Int) ^ i) = ((2 ^ i : Nat) : Int) := by norm_cast
    rw [this]
    generalize 2 ^ i = x at *
    unfold wrap64
    omega
  rw [Nat.one_shiftLeft, h4, h3]
set_option maxHeartbeats 4000000 in
set_option maxRecDepth 100000 in
theorem look {sb lb kb mb : Nat} {v : Value} {l : List C} (hl : l.length ≤ 12) (hv : ∀ c ∈ l, ahd c c = false) : ∀ (k : Nat) (d : Nat) (b : Bool) (w : World) (n : Nat) (D : DataW Value) (S : List (Nat × Bool)),
    (rem l (ub d)).length ≤ k → k ≤ 12 → d < 2 ^ l.length → Env w sb lb kb mb v l → w.ownsMap Try.prog 51 heldR mb n D → Seen D S → n + 13 ^ k ≤ 100000000000000 → (∀ q ∈ S, okB l q.1 q.2 = true → q.1 < d) →
    Calls Try.prog 23 #[.agg #[.int .i64 d, .bool b], .pointer (some ⟨sb, 0, none⟩), .pointer (some ⟨lb, 0, none⟩), .pointer (some ⟨kb, 0, none⟩)] w (Looked mb n k l S d b w) := by
  intro k
  induction k using Nat.strongRecOn with
  | _ k ih =>
    intro d b w n D S hk hk12 hd hE hM hS hn hq
    have hd2 : d < 4096 := Nat.lt_of_lt_of_le hd (Nat.pow_le_pow_right (by omega) hl : 2 ^ l.length ≤ 2 ^ 12)
    have hb1 : Below w.heap.size w (w.alloc (.cells #[.int .i64 d, .bool b] 51)) := (Below.refl _ _).alloc (Nat.le_refl _) _
    have E1 := hE.keep (ofBelow hb1)
    have M1 := hM.alloc (.cells #[.int .i64 d, .bool b] 51)
    have L1 := look_eq M1 hS hd2 b
    have hmb := hM.lt
    have e1 := hE.n1
    have e2 := hE.n2
    obtain ⟨a1, a2, a3, -, -, -, -, -⟩ := E1
    by_cases hin : (d, b) ∈ S
    · have hok : okB l d b = false := by
        cases h : okB l d b with
        | false => rfl
        | true => exact absurd (hq _ hin h) (Nat.lt_irrefl d)
      rw [decide_eq_true hin] at L1
      have fin : Looked mb n k l S d b w (.returned (.bool false)) (w.alloc (.cells #[.int .i64 d, .bool b] 51)) :=
        ⟨by rw [hok], ofBelow hb1, n, D, S, M1, hS, Nat.le_add_right _ _, fun _ q h => .inl h⟩
      replace fin := Lib.hid fin
      clear ih hE hM hS hq hok hb1 M1 hk hn hd
      generalize hQ : Looked mb n k l S d b w = Q at *
      clear hQ
      go_enter Try.func23, Try.ntmps23
      go_wp2_with fail
      go_step3
      go_wp2_with fail
      exact fin.out
    · rw [decide_eq_false hin] at L1
      have hkey := keyS hd2 b
      have hnm : n < maxLen := by
        have := Nat.le_trans (Nat.le_add_right n (13 ^ k)) hn
        unfold maxLen; omega
      obtain ⟨vA, vcap, hvs, hvc, hvm⟩ := own_any hE.own
      subst hvs
      have fin := Lib.hid (fun e w' => (rfl : Looked mb n k l S d b w e w' = Looked mb n k l S d b w e w'))
      replace hn := Lib.hid hn
      replace ih := Lib.hid ih
      replace hE := Lib.hid hE
      replace hS := Lib.hid hS
      replace hq := Lib.hid hq
      replace hk := Lib.hid hk
      replace hd := Lib.hid hd
      clear hM
      generalize hQ : Looked mb n k l S d b w = Q at *
      replace hQ := Lib.hid hQ
      go_enter Try.func23, Try.ntmps23
      go_wp2_with fail
      go_step3
      go_wp2_with (first
        | (at_mapUpdate; refine wpList_mapUpdate_own _ rfl _ _ _ 48 rfl 51 4 lawPt Try.underlying48 heldR mb n D rfl M1 hnm _ _ _ rfl rfl hkey (.held (.bool true)) [] rfl ?_; intro w2 M2 g2)
        | go_in)
      have B2 : Only (fun j => j = mb) w w2 := (ofBelow hb1).grown g2 (fun j hj _ => by injection hj with hj; exact hj.symm)
      have E2 := hE.out.keep B2
      obtain ⟨a1, a2, a3, -, -, -, -, -⟩ := E2
      have R0 : Rnd w mb n k l S d b 0 w2 := by
        have hx := fun (o : Nat) (u : Value) (h : (w.alloc (.cells #[.int .i64 d, .bool b] 51)).cell? ⟨w.heap.size, o, none⟩ = some u) => (World.cell?_of_block (a := ⟨w.heap.size, o, none⟩) (g2.block w.heap.size (by simp) (by intro e; injection e with e; omega))).trans h
        exact ⟨fun j hj => by omega, B2, ⟨n + 1, _, _, M2, seen_put M1.isMap hS.out hd2 b, by omega, fun q hq => by
          rcases List.mem_cons.1 hq with h | h
          · exact .inr (.inl h)
          · exact .inl h⟩, hx 0 _ (by simp), hx 1 _ (by simp)⟩
      replace R0 := Lib.hid R0
      clear M1 M2 g2 B2 hkey L1 hb1
      go_wp2_with fail
      go_step3
      go_wp2_with fail
      go_loopg [6, 20] l.length (fun g s6 s20 wr => ∃ i : Nat, i + g = l.length ∧ s20 = .int .i64 i ∧ s6 = .bool (lf l d i) ∧ Aside (Rnd w mb n k l S d b i wr))
      case atStart => exact ⟨0, by omega, rfl, rfl, R0⟩
      case round =>
        obtain ⟨i, hig, rfl, rfl, R⟩ := hrel
        cases gk with
        | zero =>
          obtain rfl : i = l.length := by omega
          go_wp2_with fail
          show Q (.returned (.bool (!lf l d l.length))) wr
          rw [← hQ.out]
          exact R.out.fin hl hv
        | succ g =>
          have hi : i < l.length := by omega
          have E := hE.out.keep R.out.only
          obtain ⟨gb, cap', hvA, -, hgb, hc⟩ := own_cells E.own hi
          injection hvA with hvA hcn hcc
          clear hcn
          subst hcc
          subst hvA
          obtain ⟨a1, a2, a3, -, -, -, -, -⟩ := E
          have x0 := R.out.x0
          have x1 := R.out.x1
          obtain ⟨c0, c1, c2, c3, c4⟩ := hc
          go_upto_region 8 with fail
          obtain ⟨w3, cb, ecb, e3, b3, C3⟩ := new5 wr (at' l i)
          rw [← e3, ← ecb]
          have R3 := R.out.below b3
          clear R a1 a2 a3 x0 x1 c0 c1 c2 c3 c4
          have E := hE.out.keep R3.only
          obtain ⟨a1, a2, a3, -, -, -, -, -⟩ := E
          have x0 := R3.x0
          have x1 := R3.x1
          obtain ⟨⟨c0, c1, c2, c3, c4⟩, hcb⟩ := C3
          have hA := fun (m : Nat) (w : World) => aheadC (at' l m) (at' l i) w
          unfold V at hA
          replace hA := Lib.hid hA
          have hDo := fun (w : World) => doesC (at' l i) b w
          unfold V at hDo
          replace hDo := Lib.hid hDo
          replace R3 := Lib.hid R3
          replace b3 := Lib.hid b3
          clear e3
          replace ecb := Lib.hid ecb
          cases hu : ub d i with
          | false =>
            have hbit := bit_is hd2 (by omega : i < 12)
            rw [hu] at hbit
            replace hu := Lib.hid hu
            go_wp2_with fail
            go_roundg g
            case measure => omega
            case rel =>
              have h1 : lf l d (i + 1) = lf l d i := by
                unfold lf
                rw [List.range_succ, List.any_append]
                simp [hu.out]
              exact ⟨i + 1, by omega, by go_num, by rw [h1], R3.out.next (by unfold goB; rw [hu.out]; rfl)⟩
          | true =>
            have hbit := bit_is hd2 (by omega : i < 12)
            rw [hu] at hbit
            have hl1 : lf l d (i + 1) = (lf l d i || !opn (at' l i)) := by
              unfold lf
              rw [List.range_succ, List.any_append]
              simp [hu]
            have hopn : (!opn (at' l i)) = decide (0 ≤ (at' l i).ret) := by
              unfold opn
              by_cases h : (at' l i).ret < 0 <;> simp [h] <;> omega
            rw [hopn] at hl1
            clear hopn
            replace hu := Lib.hid hu
            cases hlf : lf l d i
            all_goals rw [hlf] at hl1
            all_goals simp only [Bool.false_or, Bool.true_or] at hl1
            all_goals replace hl1 := Lib.hid hl1
            all_goals clear hlf
            all_goals (
              go_upto_region 11 with fail
              go_loopg [39] l.length (fun g s39 wx => ∃ m : Nat, m + g = l.length ∧ s39 = .int .i64 m ∧ Aside (∀ j, j < m → ub d j = true → ahd (at' l j) (at' l i) = false) ∧ Aside (Below w3.heap.size w3 wx))
              case atStart => exact ⟨0, by omega, rfl, fun j hj => by omega, Below.refl _ _⟩
              case round =>
                obtain ⟨m, hmg, rfl, HM, BX⟩ := hrel
                have E := hE.out.keep (R3.out.below BX.out).only
                have x0 := (R3.out.below BX.out).x0
                have x1 := (R3.out.below BX.out).x1
                obtain ⟨a1, a2, a3, -, -, -, -, -⟩ := E
                have y0 := (BX.out.cell (p := ⟨cb, 0, none⟩) (cell_lt c0)).trans c0
                have y1 := (BX.out.cell (p := ⟨cb, 1, none⟩) (cell_lt c0)).trans c1
                have y2 := (BX.out.cell (p := ⟨cb, 2, none⟩) (cell_lt c0)).trans c2
                have y3 := (BX.out.cell (p := ⟨cb, 3, none⟩) (cell_lt c0)).trans c3
                have y4 := (BX.out.cell (p := ⟨cb, 4, none⟩) (cell_lt c0)).trans c4
                cases gk with
                | zero =>
                  obtain rfl : m = l.length := by omega
                  go_upto_region 16 with (refine (hDo.out _).mono ?_; rintro e w5 ⟨rfl, hb5⟩)
                  have BX5 := BX.out.trans (hb5.mono BX.out.size)
                  have R5 := R3.out.below BX5
                  clear a1 a2 a3 x0 x1 y0 y1 y2 y3 y4
                  have E5 := hE.out.keep R5.only
                  have x0 := R5.x0
                  have a3 := E5.c3
                  have y2 := (BX5.cell (p := ⟨cb, 2, none⟩) (cell_lt c2)).trans c2
                  have y4 := (BX5.cell (p := ⟨cb, 4, none⟩) (cell_lt c4)).trans c4
                  have hfre : fre l (ub d) i = true := fre_iff.2 (fun c hcm => by
                    obtain ⟨j, h1, h2, rfl⟩ := mbr_rem.1 hcm
                    exact HM.out j h1 h2)
                  have hbor := bit_or hd2 (by omega : i < 12)
                  have hopn : opn (at' l i) = decide ((at' l i).ret < 0) := rfl
                  cases ht : tls does b (at' l i) with
                  | false =>
                    have hg : goB l d b i = false := by unfold goB; rw [ht]; simp
                    unfold tls at ht
                    rw [Bool.or_eq_false_iff] at ht
                    obtain ⟨ht1, ht2⟩ := ht
                    rw [hopn] at ht1
                    have nx := R5.next hg
                    replace nx := Lib.hid nx
                    replace hg := Lib.hid hg
                    replace hfre := Lib.hid hfre
                    clear hopn hbor R5 E5
                    refine start_ (n := 20) (S := fun w' => w'.cell? ⟨w.heap.size, 0, none⟩ = some (.int .i64 d) ∧ w'.cell? ⟨kb, 0, none⟩ = some (.func (.func 23) #[] #[.pointer (some ⟨sb, 0, none⟩), .pointer (some ⟨lb, 0, none⟩), .pointer (some ⟨kb, 0, none⟩)]) ∧ w'.cell? ⟨cb, 2, none⟩ = some (.bool (at' l i).ok) ∧ w'.cell? ⟨cb, 4, none⟩ = some (.int .i64 (at' l i).ret)) (ds := []) #[false, false, false, false, false, false, false, false, false, false, false, false, false, false, false, false, false, false, false, false] (by kernel_rfl) rfl rfl ⟨x0, a3, y2, y4⟩ (fun hHeld => ?_)
                    refine pure_ (i := 0) (N := some 63) (v := ?_) (a' := ?_) #[true, false, false, false, false, false, false, false, false, false, false, false, false, false, false, false, false, false, false, false] rfl rfl (by kernel_rfl) (fun _ _ _ h => h) (Or.inl ⟨by rfl, ?_⟩) ?_ ?_
                    rotate_left
                    · intro w'
                      go_simp
                      with_reducible rfl
                    rotate_left
                    · simp only [Act.put, List.setIfInBounds_toArray, List.set_cons_zero, List.set_cons_succ, i64_w, i32_w]
                      rfl
                    refine take_ (i := 1) (N := some 64) (v := ?_) (a' := ?_) #[true, true, false, false, false, false, false, false, false, false, false, false, false, false, false, false, false, false, false, false] rfl rfl (by kernel_rfl) (fun _ _ _ h => h) (Or.inl ⟨by rfl, ?_⟩) hHeld ?_ ?_
                    rotate_left
                    · rintro w' ⟨s0, s1, s2, s3⟩
                      go_simp
                      with_reducible rfl
                    rotate_left
                    · simp only [Act.put, List.setIfInBounds_toArray, List.set_cons_zero, List.set_cons_succ, i64_w, i32_w]
                      rfl
                    refine pure_ (i := 2) (N := some 65) (v := ?_) (a' := ?_) #[true, true, true, false, false, false, false, false, false, false, false, false, false, false, false, false, false, false, false, false] rfl rfl (by kernel_rfl) (fun _ _ _ h => h) (Or.inl ⟨by rfl, ?_⟩) ?_ ?_
                    rotate_left
                    · intro w'
                      go_simp
                      with_reducible rfl
                    rotate_left
                    · simp only [Act.put, List.setIfInBounds_toArray, List.set_cons_zero, List.set_cons_succ, i64_w, i32_w]
                      rfl
                    refine pure_ (i := 3) (N := some 66) (v := ?_) (a' := ?_) #[true, true, true, true, false, false, false, false, false, false, false, false, false, false, false, false, false, false, false, false] rfl rfl (by kernel_rfl) (fun _ _ _ h => h) (Or.inl ⟨by rfl, ?_⟩) ?_ ?_
                    rotate_left
                    · intro w'
                      go_simp
                      with_reducible rfl
                    rotate_left
                    · simp only [Act.put, List.setIfInBounds_toArray, List.set_cons_zero, List.set_cons_succ, i64_w, i32_w]
                      rfl
                    refine pure_ (i := 4) (N := some 67) (v := ?_) (a' := ?_) #[true, true, true, true, true, false, false, false, false, false, false, false, false, false, false, false, false, false, false, false] rfl rfl (by kernel_rfl) (fun _ _ _ h => h) (Or.inl ⟨by rfl, ?_⟩) ?_ ?_
                    rotate_left
                    · intro w'
                      go_simp
                      with_reducible rfl
                    rotate_left
                    · simp only [Act.put, List.setIfInBounds_toArray, List.set_cons_zero, List.set_cons_succ, i64_w, i32_w]
                      rfl
                    refine pure_ (i := 5) (N := some 68) (v := ?_) (a' := ?_) #[true, true, true, true, true, true, false, false, false, false, false, false, false, false, false, false, false, false, false, false] rfl rfl (by kernel_rfl) (fun _ _ _ h => h) (Or.inl ⟨by rfl, ?_⟩) ?_ ?_
                    rotate_left
                    · intro w'
                      go_simp
                      with_reducible rfl
                    rotate_left
                    · simp only [Act.put, List.setIfInBounds_toArray, List.set_cons_zero, List.set_cons_succ, i64_w, i32_w]
                      rfl
                    refine take_ (i := 6) (N := some 69) (v := ?_) (a' := ?_) #[true, true, true, true, true, true, true, false, false, false, false, false, false, false, false, false, false, false, false, false] rfl rfl (by kernel_rfl) (fun _ _ _ h => h) (Or.inl ⟨by rfl, ?_⟩) hHeld ?_ ?_
                    rotate_left
                    · rintro w' ⟨s0, s1, s2, s3⟩
                      go_simp
                      with_reducible rfl
                    rotate_left
                    · simp only [Act.put, List.setIfInBounds_toArray, List.set_cons_zero, List.set_cons_succ, i64_w, i32_w]
                      rfl
                    refine pure_ (i := 7) (N := some 70) (v := ?_) (a' := ?_) #[true, true, true, true, true, true, true, true, false, false, false, false, false, false, false, false, false, false, false, false] rfl rfl (by kernel_rfl) (fun _ _ _ h => h) (Or.inl ⟨by rfl, ?_⟩) ?_ ?_
                    rotate_left
                    · intro w'
                      go_simp
                      with_reducible rfl
                    rotate_left
                    · simp only [Act.put, List.setIfInBounds_toArray, List.set_cons_zero, List.set_cons_succ, i64_w, i32_w]
                      rfl
                    refine pure_ (i := 8) (N := some 71) (v := ?_) (a' := ?_) #[true, true, true, true, true, true, true, true, true, false, false, false, false, false, false, false, false, false, false, false] rfl rfl (by kernel_rfl) (fun _ _ _ h => h) (Or.inl ⟨by rfl, ?_⟩) ?_ ?_
                    rotate_left
                    · intro w'
                      go_simp
                      with_reducible rfl
                    rotate_left
                    · simp only [Act.put, List.setIfInBounds_toArray, List.set_cons_zero, List.set_cons_succ, i64_w, i32_w]
                      rfl
                    refine pure_ (i := 9) (N := some 72) (v := ?_) (a' := ?_) #[true, true, true, true, true, true, true, true, true, true, false, false, false, false, false, false, false, false, false, false] rfl rfl (by kernel_rfl) (fun _ _ _ h => h) (Or.inl ⟨by rfl, ?_⟩) ?_ ?_
                    rotate_left
                    · intro w'
                      go_simp
                      with_reducible rfl
                    rotate_left
                    · simp only [Act.put, List.setIfInBounds_toArray, List.set_cons_zero, List.set_cons_succ, i64_w, i32_w]
                      rfl
                    refine pure_ (i := 10) (N := some 73) (v := undef) (a' := ?_) #[true, true, true, true, true, true, true, true, true, true, true, false, false, false, false, false, false, false, false, false] rfl rfl (by kernel_rfl) (fun _ _ _ h => h) (Or.inr ⟨by rfl, rfl⟩) ?_ ?_
                    rotate_left
                    (focus (simp only [Act.put, List.setIfInBounds_toArray, List.set_cons_zero, List.set_cons_succ, i64_w, i32_w]; rfl))
                    refine pure_ (i := 11) (N := some 74) (v := undef) (a' := ?_) #[true, true, true, true, true, true, true, true, true, true, true, true, false, false, false, false, false, false, false, false] rfl rfl (by kernel_rfl) (fun _ _ _ h => h) (Or.inr ⟨by rfl, rfl⟩) ?_ ?_
                    rotate_left
                    (focus (simp only [Act.put, List.setIfInBounds_toArray, List.set_cons_zero, List.set_cons_succ, i64_w, i32_w]; rfl))
                    refine pure_ (i := 12) (N := some 75) (v := undef) (a' := ?_) #[true, true, true, true, true, true, true, true, true, true, true, true, true, false, false, false, false, false, false, false] rfl rfl (by kernel_rfl) (fun _ _ _ h => h) (Or.inr ⟨by rfl, rfl⟩) ?_ ?_
                    rotate_left
                    (focus (simp only [Act.put, List.setIfInBounds_toArray, List.set_cons_zero, List.set_cons_succ, i64_w, i32_w]; rfl))
                    refine pure_ (i := 13) (N := some 76) (v := undef) (a' := ?_) #[true, true, true, true, true, true, true, true, true, true, true, true, true, true, false, false, false, false, false, false] rfl rfl (by kernel_rfl) (fun _ _ _ h => h) (Or.inr ⟨by rfl, rfl⟩) ?_ ?_
                    rotate_left
                    (focus (simp only [Act.put, List.setIfInBounds_toArray, List.set_cons_zero, List.set_cons_succ, i64_w, i32_w]; rfl))
                    refine pure_ (i := 14) (N := some 77) (v := undef) (a' := ?_) #[true, true, true, true, true, true, true, true, true, true, true, true, true, true, true, false, false, false, false, false] rfl rfl (by kernel_rfl) (fun _ _ _ h => h) (Or.inr ⟨by rfl, rfl⟩) ?_ ?_
                    rotate_left
                    (focus (simp only [Act.put, List.setIfInBounds_toArray, List.set_cons_zero, List.set_cons_succ, i64_w, i32_w]; rfl))
                    refine pure_ (i := 15) (N := some 78) (v := undef) (a' := ?_) #[true, true, true, true, true, true, true, true, true, true, true, true, true, true, true, true, false, false, false, false] rfl rfl (by kernel_rfl) (fun _ _ _ h => h) (Or.inr ⟨by rfl, rfl⟩) ?_ ?_
                    rotate_left
                    (focus (simp only [Act.put, List.setIfInBounds_toArray, List.set_cons_zero, List.set_cons_succ, i64_w, i32_w]; rfl))
                    refine pure_ (i := 16) (N := some 79) (v := undef) (a' := ?_) #[true, true, true, true, true, true, true, true, true, true, true, true, true, true, true, true, true, false, false, false] rfl rfl (by kernel_rfl) (fun _ _ _ h => h) (Or.inr ⟨by rfl, rfl⟩) ?_ ?_
                    rotate_left
                    (focus (simp only [Act.put, List.setIfInBounds_toArray, List.set_cons_zero, List.set_cons_succ, i64_w, i32_w]; rfl))
                    refine pure_ (i := 17) (N := some 80) (v := undef) (a' := ?_) #[true, true, true, true, true, true, true, true, true, true, true, true, true, true, true, true, true, true, false, false] rfl rfl (by kernel_rfl) (fun _ _ _ h => h) (Or.inr ⟨by rfl, rfl⟩) ?_ ?_
                    rotate_left
                    (focus (simp only [Act.put, List.setIfInBounds_toArray, List.set_cons_zero, List.set_cons_succ, i64_w, i32_w]; rfl))
                    refine pure_ (i := 18) (N := some 81) (v := undef) (a' := ?_) #[true, true, true, true, true, true, true, true, true, true, true, true, true, true, true, true, true, true, true, false] rfl rfl (by kernel_rfl) (fun _ _ _ h => h) (Or.inr ⟨by rfl, rfl⟩) ?_ ?_
                    rotate_left
                    (focus (simp only [Act.put, List.setIfInBounds_toArray, List.set_cons_zero, List.set_cons_succ, i64_w, i32_w]; rfl))
                    refine pure_ (i := 19) (N := some 82) (v := ?_) (a' := ?_) #[true, true, true, true, true, true, true, true, true, true, true, true, true, true, true, true, true, true, true, true] rfl rfl (by kernel_rfl) (fun _ _ _ h => h) (Or.inl ⟨by rfl, ?_⟩) ?_ ?_
                    rotate_left
                    · intro w'
                      go_simp
                      with_reducible rfl
                    rotate_left
                    · simp only [Act.put, List.setIfInBounds_toArray, List.set_cons_zero, List.set_cons_succ, i64_w, i32_w]
                      rfl
                    refine done_ (by kernel_rfl) ?_
                    go_wp2_with fail
                    go_roundg g
                    case measure => omega
                    case rel => exact ⟨i + 1, by omega, by go_num, by rw [hl1.out], nx.out.below (below_drew (Below.refl _ _))⟩
                  | true =>
                    obtain ⟨k', hkk⟩ : ∃ k', k = k' + 1 := by
                      have q1 := rem_dec hi hu.out
                      have q2 := hk.out
                      exact ⟨k - 1, by omega⟩
                    subst hkk
                    obtain ⟨n1, D1, S1, m1, m2, m3, m4⟩ := R5.map
                    have R6 := R5.below (below_drew (Below.refl _ w5))
                    have hb14 : n1 + 13 ^ k' ≤ 100000000000000 := by
                      have q1 := pw_le (k' + 1) (i + 1) (by omega)
                      rw [Nat.add_mul, Nat.one_mul] at q1
                      have q2 : pw (k' + 1) = 13 ^ k' := rfl
                      have q3 := hn.out
                      omega
                    have hrem : (rem l (ub (d ||| 1 <<< i))).length ≤ k' := by
                      have q1 := rem_dec hi hu.out
                      have q2 := hk.out
                      omega
                    have IH := ih.out k' (by omega) (d ||| 1 <<< i) (does b (at' l i)).1 w5.drew n1 D1 S1 hrem (by omega) (set_lt hd.out hi) (hE.out.keep R6.only) m1 m2 hb14 (fun q hqm hqt => by
                      have hgt := set_gt hu.out
                      rcases m4 q hqm with x | rfl | x
                      · have := hq.out q x hqt; omega
                      · exact hgt
                      · rw [x] at hqt; cases hqt)
                    unfold Looked at IH
                    rw [← hbor] at IH
                    replace hbor := Lib.hid hbor
                    have hg : goB l d b i = okB l (d ||| 1 <<< i) (does b (at' l i)).1 := by unfold goB; rw [ht, hu.out, hfre]; simp
                    generalize okB l (d ||| 1 <<< i) (does b (at' l i)).1 = r at IH hg
                    replace IH := Lib.hid IH
                    replace hg := Lib.hid hg
                    replace m3 := Lib.hid m3
                    replace m4 := Lib.hid m4
                    replace R6 := Lib.hid R6
                    clear m1 m2 R5 E5 hb14 hrem hfre
                    cases ho : opn (at' l i) with
                    | true =>
                      rw [hopn] at ho
                      clear hopn ht
                      refine start_ (n := 20) (S := fun w' => w'.cell? ⟨w.heap.size, 0, none⟩ = some (.int .i64 d) ∧ w'.cell? ⟨kb, 0, none⟩ = some (.func (.func 23) #[] #[.pointer (some ⟨sb, 0, none⟩), .pointer (some ⟨lb, 0, none⟩), .pointer (some ⟨kb, 0, none⟩)]) ∧ w'.cell? ⟨cb, 2, none⟩ = some (.bool (at' l i).ok) ∧ w'.cell? ⟨cb, 4, none⟩ = some (.int .i64 (at' l i).ret)) (ds := [18]) #[false, false, false, false, false, false, false, false, false, false, false, false, false, false, false, false, false, false, false, false] (by kernel_rfl) rfl rfl ⟨x0, a3, y2, y4⟩ (fun hHeld => ?_)
                      refine pure_ (i := 0) (N := some 63) (v := ?_) (a' := ?_) #[true, false, false, false, false, false, false, false, false, false, false, false, false, false, false, false, false, false, false, false] rfl rfl (by kernel_rfl) (fun _ _ _ h => h) (Or.inl ⟨by rfl, ?_⟩) ?_ ?_
                      rotate_left
                      · intro w'
                        go_simp
                        with_reducible rfl
                      rotate_left
                      · simp only [Act.put, List.setIfInBounds_toArray, List.set_cons_zero, List.set_cons_succ, i64_w, i32_w]
                        rfl
                      refine take_ (i := 1) (N := some 64) (v := ?_) (a' := ?_) #[true, true, false, false, false, false, false, false, false, false, false, false, false, false, false, false, false, false, false, false] rfl rfl (by kernel_rfl) (fun _ _ _ h => h) (Or.inl ⟨by rfl, ?_⟩) hHeld ?_ ?_
                      rotate_left
                      · rintro w' ⟨s0, s1, s2, s3⟩
                        go_simp
                        with_reducible rfl
                      rotate_left
                      · simp only [Act.put, List.setIfInBounds_toArray, List.set_cons_zero, List.set_cons_succ, i64_w, i32_w]
                        rfl
                      refine pure_ (i := 2) (N := some 65) (v := ?_) (a' := ?_) #[true, true, true, false, false, false, false, false, false, false, false, false, false, false, false, false, false, false, false, false] rfl rfl (by kernel_rfl) (fun _ _ _ h => h) (Or.inl ⟨by rfl, ?_⟩) ?_ ?_
                      rotate_left
                      · intro w'
                        go_simp
                        with_reducible rfl
                      rotate_left
                      · simp only [Act.put, List.setIfInBounds_toArray, List.set_cons_zero, List.set_cons_succ, i64_w, i32_w]
                        rfl
                      refine pure_ (i := 3) (N := some 66) (v := ?_) (a' := ?_) #[true, true, true, true, false, false, false, false, false, false, false, false, false, false, false, false, false, false, false, false] rfl rfl (by kernel_rfl) (fun _ _ _ h => h) (Or.inl ⟨by rfl, ?_⟩) ?_ ?_
                      rotate_left
                      · intro w'
                        go_simp
                        with_reducible rfl
                      rotate_left
                      · simp only [Act.put, List.setIfInBounds_toArray, List.set_cons_zero, List.set_cons_succ, i64_w, i32_w]
                        rfl
                      refine pure_ (i := 4) (N := some 67) (v := undef) (a' := ?_) #[true, true, true, true, true, false, false, false, false, false, false, false, false, false, false, false, false, false, false, false] rfl rfl (by kernel_rfl) (fun _ _ _ h => h) (Or.inr ⟨by rfl, rfl⟩) ?_ ?_
                      rotate_left
                      (focus (simp only [Act.put, List.setIfInBounds_toArray, List.set_cons_zero, List.set_cons_succ, i64_w, i32_w]; rfl))
                      refine pure_ (i := 5) (N := some 68) (v := undef) (a' := ?_) #[true, true, true, true, true, true, false, false, false, false, false, false, false, false, false, false, false, false, false, false] rfl rfl (by kernel_rfl) (fun _ _ _ h => h) (Or.inr ⟨by rfl, rfl⟩) ?_ ?_
                      rotate_left
                      (focus (simp only [Act.put, List.setIfInBounds_toArray, List.set_cons_zero, List.set_cons_succ, i64_w, i32_w]; rfl))
                      refine pure_ (i := 6) (N := some 69) (v := undef) (a' := ?_) #[true, true, true, true, true, true, true, false, false, false, false, false, false, false, false, false, false, false, false, false] rfl rfl (by kernel_rfl) (fun _ _ _ h => h) (Or.inr ⟨by rfl, rfl⟩) ?_ ?_
                      rotate_left
                      (focus (simp only [Act.put, List.setIfInBounds_toArray, List.set_cons_zero, List.set_cons_succ, i64_w, i32_w]; rfl))
                      refine pure_ (i := 7) (N := some 70) (v := undef) (a' := ?_) #[true, true, true, true, true, true, true, true, false, false, false, false, false, false, false, false, false, false, false, false] rfl rfl (by kernel_rfl) (fun _ _ _ h => h) (Or.inr ⟨by rfl, rfl⟩) ?_ ?_
                      rotate_left
                      (focus (simp only [Act.put, List.setIfInBounds_toArray, List.set_cons_zero, List.set_cons_succ, i64_w, i32_w]; rfl))
                      refine pure_ (i := 8) (N := some 71) (v := ?_) (a' := ?_) #[true, true, true, true, true, true, true, true, true, false, false, false, false, false, false, false, false, false, false, false] rfl rfl (by kernel_rfl) (fun _ _ _ h => h) (Or.inl ⟨by rfl, ?_⟩) ?_ ?_
                      rotate_left
                      · intro w'
                        go_simp
                        with_reducible rfl
                      rotate_left
                      · simp only [Act.put, List.setIfInBounds_toArray, List.set_cons_zero, List.set_cons_succ, i64_w, i32_w]
                        rfl
                      refine pure_ (i := 9) (N := some 72) (v := ?_) (a' := ?_) #[true, true, true, true, true, true, true, true, true, true, false, false, false, false, false, false, false, false, false, false] rfl rfl (by kernel_rfl) (fun _ _ _ h => h) (Or.inl ⟨by rfl, ?_⟩) ?_ ?_
                      rotate_left
                      · intro w'
                        go_simp
                        with_reducible rfl
                      rotate_left
                      · simp only [Act.put, List.setIfInBounds_toArray, List.set_cons_zero, List.set_cons_succ, i64_w, i32_w]
                        rfl
                      refine pure_ (i := 11) (N := some 74) (v := ?_) (a' := ?_) #[true, true, true, true, true, true, true, true, true, true, false, true, false, false, false, false, false, false, false, false] rfl rfl (by kernel_rfl) (fun _ _ _ h => h) (Or.inl ⟨by rfl, ?_⟩) ?_ ?_
                      rotate_left
                      · intro w'
                        go_simp
                        with_reducible rfl
                      rotate_left
                      · simp only [Act.put, List.setIfInBounds_toArray, List.set_cons_zero, List.set_cons_succ, i64_w, i32_w]
                        rfl
                      refine pure_ (i := 13) (N := some 76) (v := ?_) (a' := ?_) #[true, true, true, true, true, true, true, true, true, true, false, true, false, true, false, false, false, false, false, false] rfl rfl (by kernel_rfl) (fun _ _ _ h => h) (Or.inl ⟨by rfl, ?_⟩) ?_ ?_
                      rotate_left
                      · intro w'
                        go_simp
                        with_reducible rfl
                      rotate_left
                      · simp only [Act.put, List.setIfInBounds_toArray, List.set_cons_zero, List.set_cons_succ, i64_w, i32_w]
                        rfl
                      refine pure_ (i := 14) (N := some 77) (v := ?_) (a' := ?_) #[true, true, true, true, true, true, true, true, true, true, false, true, false, true, true, false, false, false, false, false] rfl rfl (by kernel_rfl) (fun _ _ _ h => h) (Or.inl ⟨by rfl, ?_⟩) ?_ ?_
                      rotate_left
                      · intro w'
                        go_simp
                        with_reducible rfl
                      rotate_left
                      · simp only [Act.put, List.setIfInBounds_toArray, List.set_cons_zero, List.set_cons_succ, i64_w, i32_w]
                        rfl
                      refine pure_ (i := 16) (N := some 79) (v := ?_) (a' := ?_) #[true, true, true, true, true, true, true, true, true, true, false, true, false, true, true, false, true, false, false, false] rfl rfl (by kernel_rfl) (fun _ _ _ h => h) (Or.inl ⟨by rfl, ?_⟩) ?_ ?_
                      rotate_left
                      · intro w'
                        go_simp
                        with_reducible rfl
                      rotate_left
                      · simp only [Act.put, List.setIfInBounds_toArray, List.set_cons_zero, List.set_cons_succ, i64_w, i32_w]
                        rfl
                      refine take_ (i := 10) (N := some 73) (v := ?_) (a' := ?_) #[true, true, true, true, true, true, true, true, true, true, true, true, false, true, true, false, true, false, false, false] rfl rfl (by kernel_rfl) (fun _ _ _ h => h) (Or.inl ⟨by rfl, ?_⟩) hHeld ?_ ?_
                      rotate_left
                      · rintro w' ⟨s0, s1, s2, s3⟩
                        go_simp
                        with_reducible rfl
                      rotate_left
                      · simp only [Act.put, List.setIfInBounds_toArray, List.set_cons_zero, List.set_cons_succ, i64_w, i32_w]
                        rfl
                      refine take_ (i := 12) (N := some 75) (v := ?_) (a' := ?_) #[true, true, true, true, true, true, true, true, true, true, true, true, true, true, true, false, true, false, false, false] rfl rfl (by kernel_rfl) (fun _ _ _ h => h) (Or.inl ⟨by rfl, ?_⟩) hHeld ?_ ?_
                      rotate_left
                      · rintro w' ⟨s0, s1, s2, s3⟩
                        go_simp
                        with_reducible rfl
                      rotate_left
                      · simp only [Act.put, List.setIfInBounds_toArray, List.set_cons_zero, List.set_cons_succ, i64_w, i32_w]
                        rfl
                      refine pure_ (i := 15) (N := some 78) (v := ?_) (a' := ?_) #[true, true, true, true, true, true, true, true, true, true, true, true, true, true, true, true, true, false, false, false] rfl rfl (by kernel_rfl) (fun _ _ _ h => h) (Or.inl ⟨by rfl, ?_⟩) ?_ ?_
                      rotate_left
                      · intro w'
                        go_simp
                        with_reducible rfl
                      rotate_left
                      · simp only [Act.put, List.setIfInBounds_toArray, List.set_cons_zero, List.set_cons_succ, i64_w, i32_w]
                        rfl
                      refine pure_ (i := 17) (N := some 80) (v := ?_) (a' := ?_) #[true, true, true, true, true, true, true, true, true, true, true, true, true, true, true, true, true, true, false, false] rfl rfl (by kernel_rfl) (fun _ _ _ h => h) (Or.inl ⟨by rfl, ?_⟩) ?_ ?_
                      rotate_left
                      · intro w'
                        go_simp
                        with_reducible rfl
                      rotate_left
                      · simp only [Act.put, List.setIfInBounds_toArray, List.set_cons_zero, List.set_cons_succ, i64_w, i32_w]
                        rfl
                      refine last_ (i := 18) (N := some 81) #[true, true, true, true, true, true, true, true, true, true, true, true, true, true, true, true, true, true, true, false] rfl rfl (by kernel_rfl) (by decide) (fun K hK => ?_)
                      refine goesV_ Try.func23 (by kernel_rfl) rfl #[.agg #[.int .i64 (Go.bits .or .i64 (d : Int) (wrap64 (2 ^ i))), .bool (does b (at' l i)).1]] #[.pointer (some ⟨sb, 0, none⟩), .pointer (some ⟨lb, 0, none⟩), .pointer (some ⟨kb, 0, none⟩)] #[.agg #[.int .i64 (Go.bits .or .i64 (d : Int) (wrap64 (2 ^ i))), .bool (does b (at' l i)).1], .pointer (some ⟨sb, 0, none⟩), .pointer (some ⟨lb, 0, none⟩), .pointer (some ⟨kb, 0, none⟩)] (by rfl) rfl rfl rfl (by simp only [List.map_toArray, List.map_cons, List.map_nil]; rfl) rfl ?_
                      with_reducible refine (IH.out).mono ?_
                      rintro e w6 ⟨rfl, o6, n2, D2, S2, M2, s2, l2, f2⟩
                      have mq := And.intro o6 (And.intro M2 (And.intro s2 (And.intro l2 f2)))
                      replace mq := Lib.hid mq
                      clear o6 M2 s2 l2 f2
                      refine ⟨_, rfl, ?_⟩
                      refine hK.out _ _ ?_
                      clear hK K
                      refine norm_ (a' := ?_) ?_ ?_
                      rotate_left
                      · show Act.put _ (some 81) _ = _
                        simp only [Act.put, List.setIfInBounds_toArray, List.set_cons_zero, List.set_cons_succ, i64_w, i32_w]
                        rfl
                      refine pure_ (i := 19) (N := some 82) (v := ?_) (a' := ?_) #[true, true, true, true, true, true, true, true, true, true, true, true, true, true, true, true, true, true, true, true] rfl rfl (by kernel_rfl) (fun _ _ _ h => h) (Or.inl ⟨by rfl, ?_⟩) ?_ ?_
                      rotate_left
                      · intro w'
                        go_simp
                        with_reducible rfl
                      rotate_left
                      · simp only [Act.put, List.setIfInBounds_toArray, List.set_cons_zero, List.set_cons_succ, i64_w, i32_w]
                        rfl
                      refine done_ (by kernel_rfl) ?_

                      cases r with
                      | true =>
                        go_wp2_with fail
                        show Q (.returned (.bool true)) w6
                        rw [← hQ.out]
                        exact R6.out.finT hl hv hi hg.out m3.out mq.out.1 mq.out.2.1 mq.out.2.2.1 mq.out.2.2.2.1
                      | false =>
                        go_wp2_with fail
                        go_roundg g
                        case measure => omega
                        case rel => exact ⟨i + 1, by omega, by go_num, by rw [hl1.out], R6.out.after hmb hg.out m3.out m4.out mq.out.1 mq.out.2.1 mq.out.2.2.1 mq.out.2.2.2.1 (mq.out.2.2.2.2 (by first | rfl | trivial))⟩

                    | false =>
                      have ht2 : ((does b (at' l i)).2 == (at' l i).ok) = true := by
                        unfold tls at ht
                        rw [ho] at ht
                        simpa using ht
                      rw [hopn] at ho
                      clear hopn ht
                      refine start_ (n := 20) (S := fun w' => w'.cell? ⟨w.heap.size, 0, none⟩ = some (.int .i64 d) ∧ w'.cell? ⟨kb, 0, none⟩ = some (.func (.func 23) #[] #[.pointer (some ⟨sb, 0, none⟩), .pointer (some ⟨lb, 0, none⟩), .pointer (some ⟨kb, 0, none⟩)]) ∧ w'.cell? ⟨cb, 2, none⟩ = some (.bool (at' l i).ok) ∧ w'.cell? ⟨cb, 4, none⟩ = some (.int .i64 (at' l i).ret)) (ds := [18]) #[false, false, false, false, false, false, false, false, false, false, false, false, false, false, false, false, false, false, false, false] (by kernel_rfl) rfl rfl ⟨x0, a3, y2, y4⟩ (fun hHeld => ?_)
                      refine pure_ (i := 0) (N := some 63) (v := ?_) (a' := ?_) #[true, false, false, false, false, false, false, false, false, false, false, false, false, false, false, false, false, false, false, false] rfl rfl (by kernel_rfl) (fun _ _ _ h => h) (Or.inl ⟨by rfl, ?_⟩) ?_ ?_
                      rotate_left
                      · intro w'
                        go_simp
                        with_reducible rfl
                      rotate_left
                      · simp only [Act.put, List.setIfInBounds_toArray, List.set_cons_zero, List.set_cons_succ, i64_w, i32_w]
                        rfl
                      refine take_ (i := 1) (N := some 64) (v := ?_) (a' := ?_) #[true, true, false, false, false, false, false, false, false, false, false, false, false, false, false, false, false, false, false, false] rfl rfl (by kernel_rfl) (fun _ _ _ h => h) (Or.inl ⟨by rfl, ?_⟩) hHeld ?_ ?_
                      rotate_left
                      · rintro w' ⟨s0, s1, s2, s3⟩
                        go_simp
                        with_reducible rfl
                      rotate_left
                      · simp only [Act.put, List.setIfInBounds_toArray, List.set_cons_zero, List.set_cons_succ, i64_w, i32_w]
                        rfl
                      refine pure_ (i := 2) (N := some 65) (v := ?_) (a' := ?_) #[true, true, true, false, false, false, false, false, false, false, false, false, false, false, false, false, false, false, false, false] rfl rfl (by kernel_rfl) (fun _ _ _ h => h) (Or.inl ⟨by rfl, ?_⟩) ?_ ?_
                      rotate_left
                      · intro w'
                        go_simp
                        with_reducible rfl
                      rotate_left
                      · simp only [Act.put, List.setIfInBounds_toArray, List.set_cons_zero, List.set_cons_succ, i64_w, i32_w]
                        rfl
                      refine pure_ (i := 3) (N := some 66) (v := ?_) (a' := ?_) #[true, true, true, true, false, false, false, false, false, false, false, false, false, false, false, false, false, false, false, false] rfl rfl (by kernel_rfl) (fun _ _ _ h => h) (Or.inl ⟨by rfl, ?_⟩) ?_ ?_
                      rotate_left
                      · intro w'
                        go_simp
                        with_reducible rfl
                      rotate_left
                      · simp only [Act.put, List.setIfInBounds_toArray, List.set_cons_zero, List.set_cons_succ, i64_w, i32_w]
                        rfl
                      refine pure_ (i := 4) (N := some 67) (v := ?_) (a' := ?_) #[true, true, true, true, true, false, false, false, false, false, false, false, false, false, false, false, false, false, false, false] rfl rfl (by kernel_rfl) (fun _ _ _ h => h) (Or.inl ⟨by rfl, ?_⟩) ?_ ?_
                      rotate_left
                      · intro w'
                        go_simp
                        with_reducible rfl
                      rotate_left
                      · simp only [Act.put, List.setIfInBounds_toArray, List.set_cons_zero, List.set_cons_succ, i64_w, i32_w]
                        rfl
                      refine pure_ (i := 5) (N := some 68) (v := ?_) (a' := ?_) #[true, true, true, true, true, true, false, false, false, false, false, false, false, false, false, false, false, false, false, false] rfl rfl (by kernel_rfl) (fun _ _ _ h => h) (Or.inl ⟨by rfl, ?_⟩) ?_ ?_
                      rotate_left
                      · intro w'
                        go_simp
                        with_reducible rfl
                      rotate_left
                      · simp only [Act.put, List.setIfInBounds_toArray, List.set_cons_zero, List.set_cons_succ, i64_w, i32_w]
                        rfl
                      refine take_ (i := 6) (N := some 69) (v := ?_) (a' := ?_) #[true, true, true, true, true, true, true, false, false, false, false, false, false, false, false, false, false, false, false, false] rfl rfl (by kernel_rfl) (fun _ _ _ h => h) (Or.inl ⟨by rfl, ?_⟩) hHeld ?_ ?_
                      rotate_left
                      · rintro w' ⟨s0, s1, s2, s3⟩
                        go_simp
                        with_reducible rfl
                      rotate_left
                      · simp only [Act.put, List.setIfInBounds_toArray, List.set_cons_zero, List.set_cons_succ, i64_w, i32_w]
                        rfl
                      refine pure_ (i := 7) (N := some 70) (v := ?_) (a' := ?_) #[true, true, true, true, true, true, true, true, false, false, false, false, false, false, false, false, false, false, false, false] rfl rfl (by kernel_rfl) (fun _ _ _ h => h) (Or.inl ⟨by rfl, ?_⟩) ?_ ?_
                      rotate_left
                      · intro w'
                        go_simp
                        with_reducible rfl
                      rotate_left
                      · simp only [Act.put, List.setIfInBounds_toArray, List.set_cons_zero, List.set_cons_succ, i64_w, i32_w]
                        rfl
                      refine pure_ (i := 8) (N := some 71) (v := ?_) (a' := ?_) #[true, true, true, true, true, true, true, true, true, false, false, false, false, false, false, false, false, false, false, false] rfl rfl (by kernel_rfl) (fun _ _ _ h => h) (Or.inl ⟨by rfl, ?_⟩) ?_ ?_
                      rotate_left
                      · intro w'
                        go_simp
                        with_reducible rfl
                      rotate_left
                      · simp only [Act.put, List.setIfInBounds_toArray, List.set_cons_zero, List.set_cons_succ, i64_w, i32_w]
                        rfl
                      refine pure_ (i := 9) (N := some 72) (v := ?_) (a' := ?_) #[true, true, true, true, true, true, true, true, true, true, false, false, false, false, false, false, false, false, false, false] rfl rfl (by kernel_rfl) (fun _ _ _ h => h) (Or.inl ⟨by rfl, ?_⟩) ?_ ?_
                      rotate_left
                      · intro w'
                        go_simp
                        with_reducible rfl
                      rotate_left
                      · simp only [Act.put, List.setIfInBounds_toArray, List.set_cons_zero, List.set_cons_succ, i64_w, i32_w]
                        rfl
                      refine pure_ (i := 11) (N := some 74) (v := ?_) (a' := ?_) #[true, true, true, true, true, true, true, true, true, true, false, true, false, false, false, false, false, false, false, false] rfl rfl (by kernel_rfl) (fun _ _ _ h => h) (Or.inl ⟨by rfl, ?_⟩) ?_ ?_
                      rotate_left
                      · intro w'
                        go_simp
                        with_reducible rfl
                      rotate_left
                      · simp only [Act.put, List.setIfInBounds_toArray, List.set_cons_zero, List.set_cons_succ, i64_w, i32_w]
                        rfl
                      refine pure_ (i := 13) (N := some 76) (v := ?_) (a' := ?_) #[true, true, true, true, true, true, true, true, true, true, false, true, false, true, false, false, false, false, false, false] rfl rfl (by kernel_rfl) (fun _ _ _ h => h) (Or.inl ⟨by rfl, ?_⟩) ?_ ?_
                      rotate_left
                      · intro w'
                        go_simp
                        with_reducible rfl
                      rotate_left
                      · simp only [Act.put, List.setIfInBounds_toArray, List.set_cons_zero, List.set_cons_succ, i64_w, i32_w]
                        rfl
                      refine pure_ (i := 14) (N := some 77) (v := ?_) (a' := ?_) #[true, true, true, true, true, true, true, true, true, true, false, true, false, true, true, false, false, false, false, false] rfl rfl (by kernel_rfl) (fun _ _ _ h => h) (Or.inl ⟨by rfl, ?_⟩) ?_ ?_
                      rotate_left
                      · intro w'
                        go_simp
                        with_reducible rfl
                      rotate_left
                      · simp only [Act.put, List.setIfInBounds_toArray, List.set_cons_zero, List.set_cons_succ, i64_w, i32_w]
                        rfl
                      refine pure_ (i := 16) (N := some 79) (v := ?_) (a' := ?_) #[true, true, true, true, true, true, true, true, true, true, false, true, false, true, true, false, true, false, false, false] rfl rfl (by kernel_rfl) (fun _ _ _ h => h) (Or.inl ⟨by rfl, ?_⟩) ?_ ?_
                      rotate_left
                      · intro w'
                        go_simp
                        with_reducible rfl
                      rotate_left
                      · simp only [Act.put, List.setIfInBounds_toArray, List.set_cons_zero, List.set_cons_succ, i64_w, i32_w]
                        rfl
                      refine take_ (i := 10) (N := some 73) (v := ?_) (a' := ?_) #[true, true, true, true, true, true, true, true, true, true, true, true, false, true, true, false, true, false, false, false] rfl rfl (by kernel_rfl) (fun _ _ _ h => h) (Or.inl ⟨by rfl, ?_⟩) hHeld ?_ ?_
                      rotate_left
                      · rintro w' ⟨s0, s1, s2, s3⟩
                        go_simp
                        with_reducible rfl
                      rotate_left
                      · simp only [Act.put, List.setIfInBounds_toArray, List.set_cons_zero, List.set_cons_succ, i64_w, i32_w]
                        rfl
                      refine take_ (i := 12) (N := some 75) (v := ?_) (a' := ?_) #[true, true, true, true, true, true, true, true, true, true, true, true, true, true, true, false, true, false, false, false] rfl rfl (by kernel_rfl) (fun _ _ _ h => h) (Or.inl ⟨by rfl, ?_⟩) hHeld ?_ ?_
                      rotate_left
                      · rintro w' ⟨s0, s1, s2, s3⟩
                        go_simp
                        with_reducible rfl
                      rotate_left
                      · simp only [Act.put, List.setIfInBounds_toArray, List.set_cons_zero, List.set_cons_succ, i64_w, i32_w]
                        rfl
                      refine pure_ (i := 15) (N := some 78) (v := ?_) (a' := ?_) #[true, true, true, true, true, true, true, true, true, true, true, true, true, true, true, true, true, false, false, false] rfl rfl (by kernel_rfl) (fun _ _ _ h => h) (Or.inl ⟨by rfl, ?_⟩) ?_ ?_
                      rotate_left
                      · intro w'
                        go_simp
                        with_reducible rfl
                      rotate_left
                      · simp only [Act.put, List.setIfInBounds_toArray, List.set_cons_zero, List.set_cons_succ, i64_w, i32_w]
                        rfl
                      refine pure_ (i := 17) (N := some 80) (v := ?_) (a' := ?_) #[true, true, true, true, true, true, true, true, true, true, true, true, true, true, true, true, true, true, false, false] rfl rfl (by kernel_rfl) (fun _ _ _ h => h) (Or.inl ⟨by rfl, ?_⟩) ?_ ?_
                      rotate_left
                      · intro w'
                        go_simp
                        with_reducible rfl
                      rotate_left
                      · simp only [Act.put, List.setIfInBounds_toArray, List.set_cons_zero, List.set_cons_succ, i64_w, i32_w]
                        rfl
                      refine last_ (i := 18) (N := some 81) #[true, true, true, true, true, true, true, true, true, true, true, true, true, true, true, true, true, true, true, false] rfl rfl (by kernel_rfl) (by decide) (fun K hK => ?_)
                      refine goesV_ Try.func23 (by kernel_rfl) rfl #[.agg #[.int .i64 (Go.bits .or .i64 (d : Int) (wrap64 (2 ^ i))), .bool (does b (at' l i)).1]] #[.pointer (some ⟨sb, 0, none⟩), .pointer (some ⟨lb, 0, none⟩), .pointer (some ⟨kb, 0, none⟩)] #[.agg #[.int .i64 (Go.bits .or .i64 (d : Int) (wrap64 (2 ^ i))), .bool (does b (at' l i)).1], .pointer (some ⟨sb, 0, none⟩), .pointer (some ⟨lb, 0, none⟩), .pointer (some ⟨kb, 0, none⟩)] (by rfl) rfl rfl rfl (by simp only [List.map_toArray, List.map_cons, List.map_nil]; rfl) rfl ?_
                      with_reducible refine (IH.out).mono ?_
                      rintro e w6 ⟨rfl, o6, n2, D2, S2, M2, s2, l2, f2⟩
                      have mq := And.intro o6 (And.intro M2 (And.intro s2 (And.intro l2 f2)))
                      replace mq := Lib.hid mq
                      clear o6 M2 s2 l2 f2
                      refine ⟨_, rfl, ?_⟩
                      refine hK.out _ _ ?_
                      clear hK K
                      refine norm_ (a' := ?_) ?_ ?_
                      rotate_left
                      · show Act.put _ (some 81) _ = _
                        simp only [Act.put, List.setIfInBounds_toArray, List.set_cons_zero, List.set_cons_succ, i64_w, i32_w]
                        rfl
                      refine pure_ (i := 19) (N := some 82) (v := ?_) (a' := ?_) #[true, true, true, true, true, true, true, true, true, true, true, true, true, true, true, true, true, true, true, true] rfl rfl (by kernel_rfl) (fun _ _ _ h => h) (Or.inl ⟨by rfl, ?_⟩) ?_ ?_
                      rotate_left
                      · intro w'
                        go_simp
                        with_reducible rfl
                      rotate_left
                      · simp only [Act.put, List.setIfInBounds_toArray, List.set_cons_zero, List.set_cons_succ, i64_w, i32_w]
                        rfl
                      refine done_ (by kernel_rfl) ?_

                      cases r with
                      | true =>
                        go_wp2_with fail
                        show Q (.returned (.bool true)) w6
                        rw [← hQ.out]
                        exact R6.out.finT hl hv hi hg.out m3.out mq.out.1 mq.out.2.1 mq.out.2.2.1 mq.out.2.2.2.1
                      | false =>
                        go_wp2_with fail
                        go_roundg g
                        case measure => omega
                        case rel => exact ⟨i + 1, by omega, by go_num, by rw [hl1.out], R6.out.after hmb hg.out m3.out m4.out mq.out.1 mq.out.2.1 mq.out.2.2.1 mq.out.2.2.2.1 (mq.out.2.2.2.2 (by first | rfl | trivial))⟩
                | succ g' =>
                  have hm : m < l.length := by omega
                  obtain ⟨gb', cap', hvA, -, hgb', hc⟩ := own_cells (hE.out.keep (R3.out.below BX.out).only).own hm
                  injection hvA with hvA hcn hcc
                  injection hvA with hvA
                  injection hvA with hvA
                  clear hcn
                  subst hcc
                  subst hvA
                  obtain ⟨z0, z1, z2, z3, z4⟩ := hc
                  go_upto_region 13 with fail
                  obtain ⟨w4, db, edb, e4, b4, ⟨f0, f1, f2, f3, f4⟩, hdb⟩ := new5 wr (at' l m)
                  rw [← e4, ← edb]
                  have BX4 := BX.out.trans (b4.mono BX.out.size)
                  have R4 := R3.out.below BX4
                  clear a1 a2 a3 x0 x1 y0 y1 y2 y3 y4 z0 z1 z2 z3 z4
                  have E4 := hE.out.keep R4.only
                  have x0 := R4.x0
                  have y0 := (BX4.cell (p := ⟨cb, 0, none⟩) (cell_lt c0)).trans c0
                  have y1 := (BX4.cell (p := ⟨cb, 1, none⟩) (cell_lt c0)).trans c1
                  have y2 := (BX4.cell (p := ⟨cb, 2, none⟩) (cell_lt c0)).trans c2
                  have y3 := (BX4.cell (p := ⟨cb, 3, none⟩) (cell_lt c0)).trans c3
                  have y4 := (BX4.cell (p := ⟨cb, 4, none⟩) (cell_lt c0)).trans c4
                  replace R4 := Lib.hid R4
                  replace E4 := Lib.hid E4
                  replace BX4 := Lib.hid BX4
                  replace edb := Lib.hid edb
                  clear e4 b4
                  have hbm := bit_is hd2 (by omega : m < 12)
                  cases hum : ub d m with
                  | false =>
                    rw [hum] at hbm
                    replace hum := Lib.hid hum
                    go_wp2_with fail
                    go_roundg g'
                    case measure => omega
                    case rel => exact ⟨m + 1, by omega, by go_num, fun j hj hu2 => by
                      by_cases e : j = m
                      · subst e; rw [hum.out] at hu2; cases hu2
                      · exact HM.out j (by omega) hu2, BX4.out⟩
                  | true =>
                    rw [hum] at hbm
                    replace hum := Lib.hid hum
                    have hAm := hA.out m
                    cases hah : ahd (at' l m) (at' l i) with
                    | true =>
                      rw [hah] at hAm
                      replace hAm := Lib.hid hAm
                      replace hah := Lib.hid hah
                      go_wp2_with (refine (hAm.out _).mono ?_; rintro e w5 ⟨rfl, hb5⟩)
                      go_roundg g
                      case measure => omega
                      case rel => exact ⟨i + 1, by omega, by go_num, by rw [hl1.out], (R4.out.below hb5).next (by
                        unfold goB
                        have : fre l (ub d) i = false := by
                          rw [Bool.eq_false_iff]
                          intro h
                          have := fre_iff.1 h _ (mbr_rem.2 ⟨m, hm, hum.out, rfl⟩)
                          rw [hah.out] at this; cases this
                        rw [this]; simp)⟩
                    | false =>
                      rw [hah] at hAm
                      replace hAm := Lib.hid hAm
                      replace hah := Lib.hid hah
                      go_wp2_with (refine (hAm.out _).mono ?_; rintro e w5 ⟨rfl, hb5⟩)
                      go_roundg g'
                      case measure => omega
                      case rel => exact ⟨m + 1, by omega, by go_num, fun j hj hu2 => by
                        by_cases e : j = m
                        · subst e; exact hah.out
                        · exact HM.out j (by omega) hu2, BX4.out.trans (hb5.mono BX4.out.size)⟩)
end Go.Proofs.Ytecjkpjcmgohmab.Or

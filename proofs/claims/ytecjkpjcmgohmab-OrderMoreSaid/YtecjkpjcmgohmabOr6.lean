/- Fits: calls by their keys. Laid by genor6.py. -/
import Derived.Test.YtecjkpjcmgohmabOr5
namespace Go.Proofs.Ytecjkpjcmgohmab.Or
open Go Go.RowKit Go.Maps Go.Proofs.Ytecjkpjcmgohmab.Only Go.Proofs.Ytecjkpjcmgohmab.Pu Go.Proofs.YtecjkpjcmgohmabW.PrintLast
set_option linter.unusedVariables false
set_option linter.unusedSimpArgs false

theorem lawS : Keyed Try.prog 9 := string_keyed Try.underlying9
def nilV : Value := .slice none 0 0
theorem zeroG (w : World) : (zeroValue 25).run Try.prog w = .ok nilV w := by kernel_rfl
def KS (k : ByteArray) : Lit := .string k.data.toList
theorem keyT {k : ByteArray} (h : k.size ≤ maxLen) : keyOf Try.prog 9 (.string k) = some (KS k) := Go.WideMaps.keyOf_string_mk Try.underlying9 h
theorem KS_inj {a b : ByteArray} (h : KS a = KS b) : a = b := by
  unfold KS at h
  injection h with h
  have : a.data = b.data := Array.toList_inj.1 h
  cases a; cases b; simpa using this
theorem keyInv {key : Value} {kl : Lit} (h : keyOf Try.prog 9 key = some kl) : ∃ x : ByteArray, key = .string x ∧ kl = KS x ∧ x.size ≤ maxLen := by
  rw [keyOf_string Try.underlying9] at h
  unfold mapKey at h
  rw [Try.underlying9] at h
  cases key <;> simp at h
  rename_i s
  exact ⟨s, rfl, h.2.symm, h.1⟩
/-- A map of calls by their keys. -/
structure GM (B mb n : Nat) (l : List C) (val : ByteArray → Value) (D : DataW Value) (w : World) : Prop where
  map : w.ownsMap Try.prog 9 heldR mb n D
  at' : ∀ k, k.size ≤ maxLen → D.atKey (KS k) (.held nilV) = .held (val k)
  has : ∀ k, k.size ≤ maxLen → Maps.has D (KS k) = true → grp l k ≠ []
  hat : ∀ k, k.size ≤ maxLen → grp l k ≠ [] → Maps.has D (KS k) = true
  own : ∀ k, Own w B (val k) (grp l k)
  apart : ∀ j k, j ≠ k → ∀ b, (val j).ownBlock = some b → (val k).ownBlock ≠ some b
  mbB : B ≤ mb
section
variable {B mb n : Nat} {l : List C} {val : ByteArray → Value} {D : DataW Value} {w w' w1 w2 w3 : World}
theorem map_lt_ne {w : World} {P : Program} {k0 : TypeId} {R : Value → Option (DataW Value × List MemPlace)} (h : w.ownsMap P k0 R mb n D) {k : Nat} {cs : Array Value} {T : TypeId} (hk : w.heap[k]? = some (.cells cs T (0, 0))) : k ≠ mb := by
  rintro rfl
  obtain ⟨es, clock, h1, -⟩ := h
  rw [hk] at h1; simp at h1
theorem GM.below (h : GM B mb n l val D w) (hb : Below w.heap.size w w') : GM B mb n l val D w' := by
  refine ⟨?_, h.at', h.has, h.hat, fun k => own_below (h.own k) hb, h.apart, h.mbB⟩
  have hl := h.map.lt
  obtain ⟨es, clock, h1, r⟩ := h.map
  exact ⟨es, clock, (hb.block _ hl).trans h1, r⟩
theorem GM.new (w : World) (B : Nat) (hB : B ≤ w.heap.size) : GM B w.heap.size 0 [] (fun _ => nilV) (.map []) (w.alloc (.map #[] 0)) :=
  ⟨World.ownsMap_made w Try.prog 9 heldR, fun k _ => rfl, fun k _ h => (by cases h), fun k _ h => absurd rfl h, fun k => own_nil _ _, fun j k _ b h => (by cases h), hB⟩
theorem grp_snoc (l : List C) (c : C) (k : ByteArray) : grp (l ++ [c]) k = if c.key = k then grp l k ++ [c] else grp l k := by
  rw [grp_append, grp_cons]
  split
  · rfl
  · show grp l k ++ [] = _
    rw [List.append_nil]
def valP (val : ByteArray → Value) (k : ByteArray) (v : Value) : ByteArray → Value := fun j => if j = k then v else val j
theorem GM.put (h : GM B mb n l val D w) (hB : B ≤ w.heap.size) (c : C) (hck : c.key.size ≤ maxLen) (o1 : Below w.heap.size w w1) {v' : Value} (hr : w2.ownsRow B 29 5 v' ((grp l c.key).length + 1) (flat (grp l c.key) ++ cel c))
    (hg : w1.grownBy w2 (val c.key).ownBlock) (hat : v'.ownBlock = (val c.key).ownBlock ∨ v'.ownBlock = some w1.heap.size) (hm : w3.ownsMap Try.prog 9 heldR mb (n + 1) (D.put (KS c.key) (.held v'))) (hg3 : w2.grownBy w3 (some mb)) :
    GM B mb (n + 1) (l ++ [c]) (valP val c.key v') (D.put (KS c.key) (.held v')) w3 := by
  have h1 := h.below o1
  have s1 := o1.size
  have isM := h.map.isMap
  have kl := lawS.key (keyT hck)
  have hm2 : w2.ownsMap Try.prog 9 heldR mb n D := h1.map.kept hg (fun e2 => by
    obtain ⟨cs2, hc2⟩ := (own_blk (h1.own c.key) e2.symm).2.2
    exact map_lt_ne h1.map hc2 rfl)
  refine ⟨hm, fun k hk => ?_, fun k hk hh => ?_, fun k hk hh => ?_, fun k => ?_, fun j k hjk b hj hk => ?_, h.mbB⟩
  · unfold valP
    by_cases e : k = c.key
    · subst e; rw [if_pos rfl]; exact atKey_put_same isM kl _ _
    · rw [if_neg e, atKey_put_other (fun e2 => e (KS_inj e2))]; exact h.at' k hk
  · rw [grp_snoc]
    by_cases e : c.key = k
    · rw [if_pos e]; simp
    · rw [if_neg e]
      rw [has_put_other (fun e2 => e (KS_inj e2).symm)] at hh
      exact h.has k hk hh
  · by_cases e : c.key = k
    · subst e; exact has_put_same isM kl _
    · rw [has_put_other (fun e2 => e (KS_inj e2).symm)]
      rw [grp_snoc, if_neg e] at hh
      exact h.hat k hk hh
  · unfold valP
    by_cases e : k = c.key
    · subst e
      rw [if_pos rfl]
      have r3 := own_grown hr hg3 (fun j hj e => by
        obtain ⟨cs, hc⟩ := (own_blk hr hj).2.2
        injection e with e
        exact map_lt_ne hm2 hc e.symm)
      unfold Own
      rw [grp_snoc, if_pos rfl, List.length_append, flat_append]
      show w3.ownsRow B 29 5 v' ((grp l c.key).length + 1) (flat (grp l c.key) ++ (cel c ++ []))
      rw [List.append_nil]
      exact r3
    · rw [if_neg e]
      have r1 := h1.own k
      have r2 := own_grown r1 hg (fun j hj e2 => h.apart k c.key e j hj e2)
      have r3 := own_grown r2 hg3 (fun j hj e2 => by
        obtain ⟨cs, hc⟩ := (own_blk r1 hj).2.2
        injection e2 with e2
        exact map_lt_ne h1.map hc e2.symm)
      unfold Own
      rw [grp_snoc, if_neg (fun e2 => e e2.symm)]
      exact r3
  · have key : ∀ j, j ≠ c.key → ∀ b, (val j).ownBlock = some b → v'.ownBlock ≠ some b := by
      intro j hj b hb hv
      rcases hat with e | e
      · exact h.apart j c.key hj b hb (e ▸ hv)
      · rw [hv] at e; injection e with e
        have := (own_blk (h.own j) hb).2.1
        omega
    unfold valP at hj hk
    by_cases e1 : j = c.key
    · by_cases e2 : k = c.key
      · exact hjk (e1.trans e2.symm)
      · rw [if_pos e1] at hj; rw [if_neg e2] at hk; exact key k e2 b hk hj
    · rw [if_neg e1] at hj
      by_cases e2 : k = c.key
      · rw [if_pos e2] at hk; exact key j e1 b hj hk
      · rw [if_neg e2] at hk; exact h.apart j k hjk b hj hk
theorem GM.look (h : GM B mb n l val D w) {k : ByteArray} (hk : k.size ≤ maxLen) : (Instr.lookup 42 (.map (some mb)) (.string k) false).run Try.prog w = .ok (val k) w := by
  obtain ⟨v, ps, hrun, hv⟩ := h.map.lookup lawS Try.underlying42 (zeroG w) (zd := .held nilV) (zp := []) rfl (keyT hk)
  rw [h.at' k hk] at hv
  unfold heldR at hv
  simp at hv
  rw [hrun, hv.1]
theorem infoC : (Try.prog.info? 29).map (fun i => (i.zero, i.size, i.bytes)) = some (some (.agg #[.int .i64 0, .string ByteArray.empty, .bool false, .int .i64 0, .int .i64 0]), 5, 48) := by kernel_rfl
/-- 'append' of one call, as an arm. -/
theorem append5_arm {P : Program} {ops : Array Oper} {Q : Exit → Act → World → Prop} {oi : Oper} {N : Option Tmp} {a : Act} {w : World} {K : Act → World → Prop} {so xo : Operand} {t e : TypeId}
    (hw : Region.wanted oi (yielded ops a.tmps) = true) (hN : oi.dst = N) (ho : oi.op = .call { callee := .builtin .append, args := #[so, xo], argTypes := #[t, t] }) (i : TypeInfo) (z : Value) (bytes : Nat) (ht : P.underlying t = some (.slice e)) (hi : P.info? e = some i) (hz : i.zero = some z) (hsz : i.size = 5) (hby : i.bytes = bytes) (hzs : z.cells.size = 5)
    {B : Nat} {v : Value} {n : Nat} {xs : List Value} (hs : a.eval so = v) (f c : Nat) (hx : a.eval xo = .slice (some ⟨f, 0, none⟩) 1 c) (h : w.ownsRow B e 5 v n xs) (hB : B ≤ w.heap.size) (d : C) (hnews : ∀ j y, (cel d)[j]? = some y → w.cell? ((⟨f, 0, none⟩ : Addr).add j) = some y) (h63 : n + 1 ≤ maxLen) (hbytes : (n + 1) * bytes ≤ 140737488355328)
    (hk : ∀ v' w', w'.ownsRow B e 5 v' (n + 1) (xs ++ cel d) → w.grownBy w' v.ownBlock → (v'.ownBlock = v.ownBlock ∨ v'.ownBlock = some w.heap.size) → K (a.put N v') w') :
    if Region.wanted oi (yielded ops a.tmps) = true then Oper.wp P oi a w K Q else K (a.put N undef) w := by
  obtain ⟨v', w', hr, h1, h2, -, h3⟩ := run_append_own_at (P := P) w B t oi.type e i z 5 bytes ht hi hz hsz hby hzs (by decide) v n xs h ⟨f, 0, none⟩ 1 c (cel d) (by rw [cel_len]) hnews (fun u hu => by
    simp only [cel, List.mem_cons, List.not_mem_nil, or_false] at hu
    rcases hu with rfl | rfl | rfl | rfl | rfl <;> rfl) h63 hbytes hB
  refine value_ (w1 := w') (v := v') hw hN ?_ (hk v' w' h1 h2 h3)
  unfold execOp
  simp only [ho, resolve, invoke, builtin, Sem.run_bind, Sem.run_pure, Result.andThen_ok, List.map_toArray, List.map_cons, List.map_nil, hs, hx, hr]
/-- A store into the map, as an arm. -/
theorem updateS_arm {ops : Array Oper} {Q : Exit → Act → World → Prop} {oi : Oper} {a : Act} {w : World} {K : Act → World → Prop} {m x v : Operand} {mb n : Nat} {D : DataW Value} {k : ByteArray} {u : Value}
    (hw : Region.wanted oi (yielded ops a.tmps) = true) (hN : oi.dst = none) (hop : oi.op = Op.mapUpdate 42 m x v) (hm : a.eval m = .map (some mb)) (hx : a.eval x = .string k) (hv : a.eval v = u) (hks : k.size ≤ maxLen)
    (h : w.ownsMap Try.prog 9 heldR mb n D) (hn : n < maxLen)
    (hk : ∀ w', w'.ownsMap Try.prog 9 heldR mb (n + 1) (D.put (KS k) (.held u)) → w.grownBy w' (some mb) → K a w') :
    if Region.wanted oi (yielded ops a.tmps) = true then Oper.wp Try.prog oi a w K Q else K (a.put none undef) w := by
  obtain ⟨w', hr, h1, h2⟩ := h.update lawS Try.underlying42 hn (val := u) (d := .held u) (ps := []) (keyT hks) rfl
  refine skip_ (w1 := w') hw hN ?_ (hk w' h1 h2)
  unfold execOp
  simp only [hop, Sem.run_bind, Sem.run_pure, Result.andThen_ok, hm, hx, hv, hr]
theorem cel_new (w : World) (c : C) : ∀ j y, (cel c)[j]? = some y → (w.alloc (.cells #[.int .i64 c.kind, .string c.key, .bool c.ok, .int .i64 c.inv, .int .i64 c.ret] 29)).cell? ((⟨w.heap.size, 0, none⟩ : Addr).add j) = some y := by
  intro j y h
  match j, h with
  | 0, h => cases h; simp [Addr.add]
  | 1, h => cases h; simp [Addr.add]
  | 2, h => cases h; simp [Addr.add]
  | 3, h => cases h; simp [Addr.add]
  | 4, h => cases h; simp [Addr.add]
  | j + 5, h => simp [cel] at h
end
end Go.Proofs.Ytecjkpjcmgohmab.Or

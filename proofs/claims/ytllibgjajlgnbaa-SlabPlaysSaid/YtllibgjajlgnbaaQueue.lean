/- append onto a slice that may begin amid a block of the call's own. -/
import Derived.Test.YtllibgjajlgnbaaSlab
import Derived.Test.YtllibgjajlgnbaaWLast
import Derived.Maps.AppendAt
namespace Go.Proofs.Ytllibgjajlgnbaa.Queue
open Go Go.RowKit Go.Proofs.Ytllibgjajlgnbaa.Only Go.Proofs.Ytllibgjajlgnbaa.Slab Go.Proofs.YtllibgjajlgnbaaW.PrintLast
set_option linter.unusedVariables false
set_option linter.unusedSimpArgs false

section
variable {P : Program} (w : World)
theorem run_append_mid (t ty e : TypeId) (i : TypeInfo) (ht : P.underlying t = some (.slice e)) (hi : P.info? e = some i) (hz : i.size = 1)
    (g o sLen sCap : Nat) (cur : Array Value) (hg : w.heap[g]? = some (.cells cur e (0, 0)))
    (a : Addr) (c : Nat) (u : Value) (hnews : ∀ j u', [u][j]? = some u' → w.cell? (a.add j) = some u') (h1 : u.oneCell' = true)
    (hroom : sLen + 1 ≤ sCap) (hfit : o + sLen + 1 ≤ cur.size) :
    (Builtin.append_ #[t, t] ty #[.slice (some ⟨g, o, none⟩) sLen sCap, .slice (some a) 1 c]).run P w =
      .ok (.slice (some ⟨g, o, none⟩) (sLen + 1) sCap) (w.setRow g (cur.toList.take (o + sLen) ++ [u] ++ cur.toList.drop (o + sLen + 1)).toArray) := by
  have hf := run_firstCells_some (P := P) w i.size 1 a 1 c [u] (by simp [hz]) hnews
  have hst := run_storeCells_at P g (o + sLen * i.size) e [u] 0 cur w hg (by simp [hz]; omega) (by simpa using h1)
  simp only [Nat.add_zero, hz, Nat.mul_one] at hst
  simp only [hz] at hf
  simp [Builtin.append_, run_underlying ht, sizeOf, typeInfo, hi, Builtin.lenOf, hroom, hf, Addr.add_lit, hst, hz]
end

theorem getElem_mid (cur : Array Value) (k : Nat) (u : Value) (hk : k < cur.size) (j : Nat) : ((cur.toList.take k ++ [u] ++ cur.toList.drop (k + 1)).toArray)[j]? = if j = k then some u else cur[j]? := by
  simp only [List.getElem?_toArray]
  have hl : (cur.toList.take k).length = k := by simp; omega
  by_cases h : j < k
  · rw [if_neg (by omega), List.append_assoc, List.getElem?_append_left (by omega), List.getElem?_take_of_lt h]
    simp
  · by_cases h2 : j = k
    · subst h2
      rw [if_pos rfl, List.append_assoc, List.getElem?_append_right (by omega), hl]
      simp
    · rw [if_neg h2, List.getElem?_append_right (by simp; omega), List.getElem?_drop]
      simp only [List.length_append, hl, List.length_cons, List.length_nil]
      rw [show k + 1 + (j - (k + (0 + 1))) = j by omega]
      simp

/-- One number more. -/
theorem run_append_queue {P : Program} (w : World) (t ty : TypeId) (i : TypeInfo) (ht : P.underlying t = some (.slice 3)) (hi : P.info? 3 = some i) (hz : i.zero = some (.int .i64 0)) (hsz : i.size = 1) (hby : i.bytes = 8)
    {B : Nat} {v : Value} {xs : List Int} (h : Queue B v xs w) (hB : B ≤ w.heap.size) (f c : Nat) (x : Int) (hnews : ∀ j u, [Value.int .i64 x][j]? = some u → w.cell? ((⟨f, 0, none⟩ : Addr).add j) = some u) (hl : xs.length ≤ 65536) :
    ∃ v' w', (Builtin.append_ #[t, t] ty #[v, .slice (some ⟨f, 0, none⟩) 1 c]).run P w = .ok v' w' ∧ Queue B v' (xs ++ [x]) w' ∧ w.grownBy w' v.ownBlock ∧ (v'.ownBlock = v.ownBlock ∨ v'.ownBlock = some w.heap.size) := by
  rcases h with ⟨rfl, rfl⟩ | ⟨g, o, cap, cur, rfl, hb, hg, hc, hm, hfit, hx⟩
  · have hr := run_append_nil (P := P) w t ty 3 i (.int .i64 0) ht hi hz ⟨f, 0, none⟩ 1 c [.int .i64 x] (by simp [hsz]) hnews (by omega) (by omega) (by rw [hby]; omega)
    refine ⟨_, _, hr, .inr ⟨w.heap.size, 0, _, _, rfl, hB, heap_alloc_new w.drew _, grownCap_ge w 1 0 _, grownCap_le_maxLen w 1 0 _ (by simp [maxLen]), ?_, fun j hj => ?_⟩, ⟨rfl, rfl, rfl, by simp, fun k hk _ => heap_alloc_old w.drew _ hk⟩, .inr rfl⟩
    · have := grownCap_ge w 1 0 3
      simp [size_zeroCells, Value.cells]
      omega
    · have : j = 0 := by simp at hj; omega
      subst this
      simp only [Nat.zero_add]
      rw [Array.getElem?_append_left (by simp)]
      simp
  · by_cases hroom : xs.length + 1 ≤ cap
    · have hr := run_append_mid (P := P) w t ty 3 i ht hi hsz g o xs.length cap cur hg ⟨f, 0, none⟩ c (.int .i64 x) hnews rfl hroom (by omega)
      refine ⟨_, _, hr, .inr ⟨g, o, cap, _, by simp, hb, setRow_heap w g cur _ _ _ hg, by simpa using hroom, hm, ?_, fun j hj => ?_⟩, ⟨rfl, rfl, rfl, by simp, fun k _ hk => setRow_other w g k _ (fun e => hk (by simp [Value.ownBlock, e]))⟩, .inl rfl⟩
      · simp only [List.size_toArray, List.length_append, List.length_take, List.length_drop, Array.length_toList, List.length_cons, List.length_nil]
        omega
      · rw [getElem_mid cur (o + xs.length) _ (by omega)]
        by_cases e : j = xs.length
        · subst e; rw [if_pos rfl]; simp [List.getD]
        · have hj2 : j < xs.length := by simp at hj; omega
          rw [if_neg (by omega), hx j hj2]
          simp [List.getD, List.getElem?_append_left hj2]
    · have holds : ∀ j u, (xs.map (Value.int .i64))[j]? = some u → w.cell? ((⟨g, o, none⟩ : Addr).add j) = some u := by
        intro j u hu
        have hj : j < xs.length := by
          have := (List.getElem?_eq_some_iff.1 hu).1
          simpa using this
        rw [Addr.add_lit]
        have := hx j hj
        simp only [World.cell?, hg]
        rw [this]
        simp only [List.getElem?_map, List.getElem?_eq_getElem hj, Option.map_some, Option.some.injEq] at hu
        rw [← hu]
        simp [List.getD, hj]
      have hr := run_append_grow (P := P) w t ty 3 i (.int .i64 0) ht hi hz ⟨g, o, none⟩ xs.length cap (xs.map (Value.int .i64)) (by simp [hsz]) holds ⟨f, 0, none⟩ 1 c [.int .i64 x] (by simp [hsz]) hnews (by omega) (by omega) (growslice_fits (by omega) (by rw [hby]; omega))
      refine ⟨_, _, hr, .inr ⟨w.heap.size, 0, grownCap w (xs.length + 1) cap 3, _, by simp, hB, heap_alloc_new w.drew _, ?_, grownCap_le_maxLen w (xs.length + 1) cap 3 (by simp [maxLen]; omega), ?_, fun j hj => ?_⟩, ⟨rfl, rfl, rfl, by simp, fun k hk _ => heap_alloc_old w.drew _ hk⟩, .inr rfl⟩
      · simpa using grownCap_ge w (xs.length + 1) cap 3
      · have := grownCap_ge w (xs.length + 1) cap 3
        simp [size_zeroCells, Value.cells]
        omega
      · simp only [Nat.zero_add]
        have hj' : j < xs.length + 1 := by simpa using hj
        have e : ((xs.map (Value.int .i64)).toArray ++ [Value.int .i64 x].toArray ++ Builtin.zeroCells (Value.int .i64 0).cells (grownCap w (xs.length + 1) cap 3 - (xs.length + 1)))[j]? = ((xs ++ [x]).map (Value.int .i64))[j]? := by
          rw [Array.getElem?_append_left (by simp; omega)]
          simp
        rw [e, List.getElem?_map, List.getElem?_eq_getElem hj]
        simp only [Option.map_some, List.getD, List.getElem?_eq_getElem hj, Option.getD_some]

/-- The append, as an arm of a region that draws. -/
theorem append_arm {P : Program} {ops : Array Oper} {Q : Exit → Act → World → Prop} {oi : Oper} {N : Option Tmp} {a : Act} {w : World} {K : Act → World → Prop} {so xo : Operand} {t : TypeId}
    (hw : Region.wanted oi (yielded ops a.tmps) = true) (hN : oi.dst = N) (ho : oi.op = .call { callee := .builtin .append, args := #[so, xo], argTypes := #[t, t] }) (i : TypeInfo) (ht : P.underlying t = some (.slice 3)) (hi : P.info? 3 = some i) (hz : i.zero = some (.int .i64 0)) (hsz : i.size = 1) (hby : i.bytes = 8)
    {B : Nat} {v : Value} {xs : List Int} (hs : a.eval so = v) (f c : Nat) (hx : a.eval xo = .slice (some ⟨f, 0, none⟩) 1 c) (h : Queue B v xs w) (hB : B ≤ w.heap.size) (x : Int) (hnews : ∀ j u, [Value.int .i64 x][j]? = some u → w.cell? ((⟨f, 0, none⟩ : Addr).add j) = some u) (hl : xs.length ≤ 65536)
    (hk : ∀ v' w', Queue B v' (xs ++ [x]) w' → w.grownBy w' v.ownBlock → (v'.ownBlock = v.ownBlock ∨ v'.ownBlock = some w.heap.size) → K (a.put N v') w') :
    if Region.wanted oi (yielded ops a.tmps) = true then Oper.wp P oi a w K Q else K (a.put N undef) w := by
  obtain ⟨v', w', hr, h1, h2, h3⟩ := run_append_queue (P := P) w t oi.type i ht hi hz hsz hby h hB f c x hnews hl
  refine value_ (w1 := w') (v := v') hw hN ?_ (hk v' w' h1 h2 h3)
  unfold execOp
  simp only [ho, resolve, invoke, builtin, Sem.run_bind, Sem.run_pure, Result.andThen_ok, List.map_toArray, List.map_cons, List.map_nil, hs, hx, hr]
/-- The same in a plain region. -/
theorem append_plain {P : Program} {ops : Array Oper} {rest : List Oper} {o : Oper} {a : Act} {Q : Exit → Act → World → Prop} {w : World} (hgd : o.guard = none) (so xo : Operand) (t : TypeId)
    (ho : o.op = .call { callee := .builtin .append, args := #[so, xo], argTypes := #[t, t] }) (i : TypeInfo) (ht : P.underlying t = some (.slice 3)) (hi : P.info? 3 = some i) (hz : i.zero = some (.int .i64 0)) (hsz : i.size = 1) (hby : i.bytes = 8)
    {B : Nat} {v : Value} {xs : List Int} (hs : a.eval so = v) (h : Queue B v xs w) (hB : B ≤ w.heap.size) (f c : Nat) (hx : a.eval xo = .slice (some ⟨f, 0, none⟩) 1 c) (x : Int) (hnews : ∀ j u, [Value.int .i64 x][j]? = some u → w.cell? ((⟨f, 0, none⟩ : Addr).add j) = some u) (hl : xs.length ≤ 65536)
    (hk : ∀ v' w', Queue B v' (xs ++ [x]) w' → w.grownBy w' v.ownBlock → (v'.ownBlock = v.ownBlock ∨ v'.ownBlock = some w.heap.size) → wpList P ops Q rest (a.put o.dst v') w') :
    wpList P ops Q (o :: rest) a w := by
  refine wpList_plain hgd fun K hK => ?_
  obtain ⟨v', w', hr, h1, h2, h3⟩ := run_append_queue (P := P) w t o.type i ht hi hz hsz hby h hB f c x hnews hl
  unfold Oper.wp execOp
  simp only [ho, resolve, invoke, builtin, Sem.run_bind, Sem.run_pure, Result.andThen_ok, List.map_toArray, List.map_cons, List.map_nil, hs, hx, hr]
  exact hK _ _ (hk v' w' h1 h2 h3)
end Go.Proofs.Ytllibgjajlgnbaa.Queue

/- The laws' do: frames. -/
import Derived.Test.YtllibgjajlgnbaaSlabDo
import Derived.Laws.AppendOwnNone
namespace Go.Proofs.Ytllibgjajlgnbaa.SlabDo
open Go Go.RowKit Go.Proofs.Ytllibgjajlgnbaa.Only Go.Proofs.Ytllibgjajlgnbaa.Mem Go.Proofs.Ytllibgjajlgnbaa.New Go.Proofs.Ytllibgjajlgnbaa.Ref Go.Proofs.Ytllibgjajlgnbaa.Slab Go.Proofs.Ytllibgjajlgnbaa.SlabRef
set_option linter.unusedVariables false
set_option linter.unusedSimpArgs false

def D5 (q : Nat) (c : Array Value) (w : World) : Prop := w.heap[q]? = some (.cells c 75 (0, 0))
theorem cells5 {g : Nat} {c0 c1 c2 c3 c4 : Value} {w : World} (h : D5 g #[c0, c1, c2, c3, c4] w) :
    w.cell? ⟨g, 0, none⟩ = some c0 ∧ w.cell? ⟨g, 1, none⟩ = some c1 ∧ w.cell? ⟨g, 2, none⟩ = some c2 ∧ w.cell? ⟨g, 3, none⟩ = some c3 ∧ w.cell? ⟨g, 4, none⟩ = some c4 := by
  unfold D5 at h
  simp [World.cell?, h]
def dv (k i : Int) (N : Nat) (V raw : Int) : Array Value := #[.int .i64 k, .int .i64 i, .int .u8 N, .int .u64 V, .int .u64 raw]
def z10 : Array Value := #[.pointer none, .pointer none, .slice none 0 0, .int .i64 0, .int .i64 0, .int .i64 0, .slice none 0 0, .slice none 0 0, .slice none 0 0, .slice none 0 0]

/-- The blocks of a deed. -/
structure Fr (sb p : Nat) (v vg vt vr : Value) (b c z : Array Value) (w0 wk : World) : Prop where
  b : X10 w0.heap.size b wk
  c : D5 (w0.heap.size + 1) c wk
  z : X10 (w0.heap.size + 1 + 1) z wk
  on : Only (SlF sb p v vg vt vr) w0 wk
  low : ∀ k, SlF sb p v vg vt vr k → k < w0.heap.size
section
variable {sb p : Nat} {v vg vt vr : Value} {b c z : Array Value} {w0 wk : World}
theorem Fr.start (low : ∀ k, SlF sb p v vg vt vr k → k < w0.heap.size) (b c z : Array Value) : Fr sb p v vg vt vr b c z w0 (((w0.alloc (.cells b 54)).alloc (.cells c 75)).alloc (.cells z 54)) := by
  refine ⟨?_, ?_, ?_, ofBelow ((((Below.refl _ _).alloc (Nat.le_refl _) _).alloc (by simp) _).alloc (by simp <;> omega) _), low⟩
  · unfold X10
    rw [heap_alloc_old _ _ (by simp <;> omega), heap_alloc_old _ _ (by simp)]; exact heap_alloc_new _ _
  · unfold D5
    rw [heap_alloc_old _ _ (by simp)]
    have := heap_alloc_new (w0.alloc (.cells b 54)) (.cells c 75)
    simpa using this
  · have := heap_alloc_new ((w0.alloc (.cells b 54)).alloc (.cells c 75)) (.cells z 54)
    unfold X10
    simpa using this
theorem Fr.step {w2 : World} (h : Fr sb p v vg vt vr b c z w0 wk) (ho : Only (SlF sb p v vg vt vr) wk w2) : Fr sb p v vg vt vr b c z w0 w2 :=
  ⟨(ho.block _ (lt_of_heap h.b) (fun e => by have := h.low _ e; omega)).trans h.b, (ho.block _ (lt_of_heap h.c) (fun e => by have := h.low _ e; omega)).trans h.c, (ho.block _ (lt_of_heap h.z) (fun e => by have := h.low _ e; omega)).trans h.z, h.on.trans ho (fun _ _ e => e), h.low⟩
theorem Fr.below {w2 : World} (h : Fr sb p v vg vt vr b c z w0 wk) (hb : Below wk.heap.size wk w2) : Fr sb p v vg vt vr b c z w0 w2 := h.step (ofBelow hb)
theorem Fr.size (h : Fr sb p v vg vt vr b c z w0 wk) : w0.heap.size + 3 ≤ wk.heap.size := by have := lt_of_heap h.z; omega
end

theorem Fr.putB {sb p : Nat} {v vg vt vr : Value} {b b' c z : Array Value} {w0 wk w2 : World} (h : Fr sb p v vg vt vr b c z w0 wk) (hx : X10 w0.heap.size b' w2) (ho : Only (fun k => k = w0.heap.size) wk w2) : Fr sb p v vg vt vr b' c z w0 w2 :=
  ⟨hx, (ho.block _ (lt_of_heap h.c) (fun e => by have e : w0.heap.size + 1 = w0.heap.size := e; omega)).trans h.c, (ho.block _ (lt_of_heap h.z) (fun e => by have e : w0.heap.size + 1 + 1 = w0.heap.size := e; omega)).trans h.z, h.on.trans ho (fun i hi e => by have e : i = w0.heap.size := e; omega), h.low⟩
theorem putX {q : Nat} {c0 c1 c2 c3 c4 c5 c6 c7 c8 c9 : Value} {w : World} (h : X10 q #[c0, c1, c2, c3, c4, c5, c6, c7, c8, c9] w) (u2 u3 u4 u5 u6 u7 u8 : Value) (X : Obj) :
    ∃ w2, w2 = (((((((w.setCell ⟨q, 2, none⟩ u2).setCell ⟨q, 3, none⟩ u3).setCell ⟨q, 4, none⟩ u4).setCell ⟨q, 5, none⟩ u5).setCell ⟨q, 6, none⟩ u6).setCell ⟨q, 7, none⟩ u7).setCell ⟨q, 8, none⟩ u8).alloc X ∧
      X10 q #[c0, c1, u2, u3, u4, u5, u6, u7, u8, c9] w2 ∧ Only (fun k => k = q) w w2 := by
  refine ⟨_, rfl, ?_, ((((((((refl (fun k => k = q) w).setCell (p := ⟨q, 2, none⟩) (fun _ => rfl) u2).setCell (p := ⟨q, 3, none⟩) (fun _ => rfl) u3).setCell (p := ⟨q, 4, none⟩) (fun _ => rfl) u4).setCell (p := ⟨q, 5, none⟩) (fun _ => rfl) u5).setCell (p := ⟨q, 6, none⟩) (fun _ => rfl) u6).setCell (p := ⟨q, 7, none⟩) (fun _ => rfl) u7).setCell (p := ⟨q, 8, none⟩) (fun _ => rfl) u8).alloc X⟩
  have hl := lt_of_heap h
  unfold X10 at h ⊢
  rw [heap_alloc_old _ _ (by simpa [World.setCell] using hl)]
  simp [World.setCell, Array.getElem?_modify, h]
theorem putM {q : Nat} {c0 c1 c2 c3 c4 c5 c6 c7 c8 c9 : Value} {w : World} (h : X10 q #[c0, c1, c2, c3, c4, c5, c6, c7, c8, c9] w) (u2 u3 : Value) (X : Obj) :
    ∃ w2, w2 = ((w.setCell ⟨q, 2, none⟩ u2).setCell ⟨q, 3, none⟩ u3).alloc X ∧
      X10 q #[c0, c1, u2, u3, c4, c5, c6, c7, c8, c9] w2 ∧ Only (fun k => k = q) w w2 := by
  refine ⟨_, rfl, ?_, (((refl (fun k => k = q) w).setCell (p := ⟨q, 2, none⟩) (fun _ => rfl) u2).setCell (p := ⟨q, 3, none⟩) (fun _ => rfl) u3).alloc X⟩
  have hl := lt_of_heap h
  unfold X10 at h ⊢
  rw [heap_alloc_old _ _ (by simpa [World.setCell] using hl)]
  simp [World.setCell, Array.getElem?_modify, h]
theorem putL {q : Nat} {c0 c1 c2 c3 c4 c5 c6 c7 c8 c9 : Value} {w : World} (h : X10 q #[c0, c1, c2, c3, c4, c5, c6, c7, c8, c9] w) (u9 : Value) :
    X10 q #[c0, c1, c2, c3, c4, c5, c6, c7, c8, u9] (w.setCell ⟨q, 9, none⟩ u9) ∧ Only (fun k => k = q) w (w.setCell ⟨q, 9, none⟩ u9) := by
  refine ⟨?_, (refl (fun k => k = q) w).setCell (p := ⟨q, 9, none⟩) (fun _ => rfl) u9⟩
  unfold X10 at h ⊢
  simp [World.setCell, Array.getElem?_modify, h]

/-- A row of one's own laid behind a row of one's own: the source may be nil. -/
theorem append_rows {ops : Array Oper} {rest : List Oper} {o : Oper} {a : Act} {Q : Exit → Act → World → Prop} {w : World} (hgd : o.guard = none) (s x : Operand) (t : TypeId)
    (ho : o.op = .call { callee := .builtin .append, args := #[s, x], argTypes := #[t, t] })
    (base : Nat) (e : TypeId) (i : TypeInfo) (z : Value) (bytes : Nat) (ht : Try.prog.underlying t = some (.slice e)) (hi : Try.prog.info? e = some i) (hz : i.zero = some z)
    (hsize : i.size = 1) (hby : i.bytes = bytes) (hzs : z.cells.size = 1)
    (v : Value) (n : Nat) (xs : List Value) (hs : a.eval s = v) (hown : w.ownsRow base e 1 v n xs)
    (b2 : Nat) (u : Value) (m : Nat) (news : List Value) (hx : a.eval x = u) (hown2 : w.ownsRow b2 e 1 u m news) (h1 : ∀ u ∈ news, u.oneCell' = true)
    (h63 : n + m ≤ maxLen) (hbytes : (n + m) * bytes ≤ 140737488355328) (hbase : base ≤ w.heap.size)
    (h : ∀ v' w', w'.ownsRow base e 1 v' (n + m) (xs ++ news) → w.grownBy w' v.ownBlock → (v'.ownBlock = v.ownBlock ∨ v'.ownBlock = some w.heap.size) → wpList Try.prog ops Q rest (a.put o.dst v') w') :
    wpList Try.prog ops Q (o :: rest) a w := by
  have hlen := hown2.1
  rcases hown2.2 with ⟨e1, e2⟩ | ⟨g, cap, cur, hg, -, -, -⟩
  · subst e1
    subst e2
    have e3 : news = [] := by simpa using hlen
    subst e3
    refine wpList_append_own_none hgd s x t ho base e i 1 ht hi v n xs hs hown hx ?_
    refine h v w ?_ ⟨rfl, rfl, rfl, Nat.le_refl _, fun _ _ _ => rfl⟩ (.inl rfl)
    simpa using hown
  · subst hg
    refine wpList_append_own_at w hgd s x t ho base e i z 1 bytes ht hi hz hsize hby hzs (by decide) v n xs hs hown ⟨g, 0, none⟩ m cap news hx (by rw [hlen]) (hown2.cells (g := g) rfl) h1 h63 hbytes hbase ?_
    intro v' w' q1 q2 _ q3
    exact h v' w' q1 q2 q3

theorem own_ty {w : World} {B n k : Nat} {T U : TypeId} {u : Value} {xs : List Value} {c : Array Value} (h : w.ownsRow B T 1 u n xs) (hk : w.heap[k]? = some (.cells c U (0, 0))) (hT : T ≠ U) : u.ownBlock ≠ some k := fun e => by
  obtain ⟨cs, hc⟩ := (own_blk h e).2.2
  exact ty_ne hT hc hk rfl
theorem slab_ty {B sb p k : Nat} {v : Value} {C : List Int} {n : Int} {vg vt vr : Value} {s : Sl} {w : World} {c : Array Value} (h : SlabAt B sb p v C n vg vt vr s w) (hk : w.heap[k]? = some (.cells c 54 (0, 0))) : ¬ SlF sb p v vg vt vr k := by
  rintro (e | (e | e) | e | e | e)
  · subst e; exact ty_ne (by decide) h.blk hk rfl
  · subst e; have := h.mem.blk; rw [hk] at this; simp at this
  · exact own_ty h.mem.own hk (by decide) e
  · exact own_ty h.g hk (by decide) e
  · exact own_ty h.t hk (by decide) e
  · obtain ⟨-, -, cs, hc⟩ := h.r.lt e
    exact ty_ne (by decide) hc hk rfl
theorem ref_ty {B k : Nat} {vC vG vT vR : Value} {C : List Int} {s : Sl} {w : World} {c : Array Value} (h : RefSl B vC vG vT vR C s w) (hk : w.heap[k]? = some (.cells c 54 (0, 0))) : ¬ OwnX vC vG vT vR k := by
  rintro (e | e | e | e)
  · exact own_ty h.c.own hk (by decide) e
  · exact own_ty h.g hk (by decide) e
  · exact own_ty h.t hk (by decide) e
  · exact own_ty h.r hk (by decide) e

/-- What the deed leaves, of what its two calls left. -/
theorem fin {B sb p : Nat} {v : Value} {n n' : Int} {vg vt vr vr' xC xG xT xR vL yC yG yT yR vL' : Value} {C C' : List Int} {s s' : Sl} {L L' : List Int} {w0 w1 w2 wf : World} {cb cz : Array Value}
    (h : BothAt B sb p v n vg vt vr xC xG xT xR vL C s L w0)
    (sl : SlabAt B sb p v C' n' vg vt vr' s' w1) (o1 : Only (SlF sb p v vg vt vr) w0 w1) (hr : ∀ k, vr'.ownBlock = some k → vr.ownBlock = some k ∨ w0.heap.size ≤ k)
    (x : RefSl B yC yG yT yR C' s' w2) (fr : ∀ k, OwnX yC yG yT yR k → OwnX xC xG xT xR k ∨ w1.heap.size ≤ k) (b12 : Below w1.heap.size w1 w2)
    (X1 : X10 w0.heap.size cb w1) (Z1 : X10 (w0.heap.size + 1 + 1) cz w1)
    (on : Only (fun k => k = w0.heap.size ∨ k = w0.heap.size + 1 + 1) w2 wf)
    (l : wf.ownsRow B 26 1 vL' L'.length (L'.map (Value.int .u64))) (lf : ∀ k, vL'.ownBlock = some k → vL.ownBlock = some k ∨ w1.heap.size ≤ k) :
    BothAt B sb p v n' vg vt vr' yC yG yT yR vL' C' s' L' wf ∧ Only (SlF sb p v vg vt vr) w0 wf := by
  have low0 := h.sl.low
  have lowX : ∀ k, OwnX xC xG xT xR k → k < w0.heap.size := by
    rintro k (e | e | e | e)
    · exact (own_lt h.x.c.own e).2
    · exact (own_lt h.x.g e).2
    · exact (own_lt h.x.t e).2
    · exact (own_lt h.x.r e).2
  have farX : ∀ k, SlF sb p v vg vt vr k → ¬ OwnX xC xG xT xR k := fun k hk => by
    obtain ⟨f1, f2, f3, f4, -⟩ := h.far k hk
    rintro (e | e | e | e)
    · exact f1 e
    · exact f2 e
    · exact f3 e
    · exact f4 e
  have s01 := o1.size
  have new : ∀ k, SlF sb p v vg vt vr' k → SlF sb p v vg vt vr k ∨ (w0.heap.size ≤ k ∧ k < w1.heap.size) := by
    intro k hk
    have hl := (sl.low k hk).2
    rcases hk with e | e | e | e | e
    · exact .inl (.inl e)
    · exact .inl (.inr (.inl e))
    · exact .inl (.inr (.inr (.inl e)))
    · exact .inl (.inr (.inr (.inr (.inl e))))
    · rcases hr k e with q | q
      · exact .inl (.inr (.inr (.inr (.inr q))))
      · exact .inr ⟨q, hl⟩
  have X2 : X10 w0.heap.size cb w2 := (b12.block _ (lt_of_heap X1)).trans X1
  have Z2 : X10 (w0.heap.size + 1 + 1) cz w2 := (b12.block _ (lt_of_heap Z1)).trans Z1
  have sl2 := sl.below b12
  refine ⟨⟨sl2.keep on ?_, x.keep on ?_, l, fun k hk => ?_⟩, ?_⟩
  · rintro k hk (e | e)
    · subst e; exact slab_ty sl2 X2 hk
    · subst e; exact slab_ty sl2 Z2 hk
  · rintro k hk (e | e)
    · subst e; exact ref_ty x X2 hk
    · subst e; exact ref_ty x Z2 hk
  · have hl := (sl.low k hk).2
    have nx : ¬ OwnX yC yG yT yR k := fun e => by
      rcases fr k e with q | q
      · rcases new k hk with f | ⟨f, -⟩
        · exact farX k f q
        · have := lowX k q; omega
      · omega
    refine ⟨fun e => nx (.inl e), fun e => nx (.inr (.inl e)), fun e => nx (.inr (.inr (.inl e))), fun e => nx (.inr (.inr (.inr e))), fun e => ?_⟩
    rcases lf k e with q | q
    · rcases new k hk with f | ⟨f, -⟩
      · exact (h.far k f).2.2.2.2 q
      · have := (own_lt h.l q).2; omega
    · omega
  · exact (o1.trans (ofBelow (S := fun _ => False) b12) (fun _ _ e => e.elim)).trans on (fun k hk e => by rcases e with e | e <;> omega)
/-- .. where the slab's blocks are as they were. -/
theorem fin2 {B sb p : Nat} {v : Value} {n n' : Int} {vg vt vr xC xG xT xR vL yC yG yT yR vL' : Value} {C C' : List Int} {s s' : Sl} {L L' : List Int} {w0 w1 wf : World} {cb cz : Array Value}
    (h : BothAt B sb p v n vg vt vr xC xG xT xR vL C s L w0)
    (sl : SlabAt B sb p v C' n' vg vt vr s' w1) (o1 : Only (SlF sb p v vg vt vr) w0 w1)
    (x : RefSl B yC yG yT yR C' s' w1) (fr : ∀ k, OwnX yC yG yT yR k → OwnX xC xG xT xR k ∨ w0.heap.size ≤ k)
    (X1 : X10 w0.heap.size cb w1) (Z1 : X10 (w0.heap.size + 1 + 1) cz w1)
    (on : Only (fun k => k = w0.heap.size ∨ k = w0.heap.size + 1 + 1) w1 wf)
    (l : wf.ownsRow B 26 1 vL' L'.length (L'.map (Value.int .u64))) (lf : ∀ k, vL'.ownBlock = some k → vL.ownBlock = some k ∨ w0.heap.size ≤ k) :
    BothAt B sb p v n' vg vt vr yC yG yT yR vL' C' s' L' wf ∧ Only (SlF sb p v vg vt vr) w0 wf := by
  have low0 := h.sl.low
  refine ⟨⟨sl.keep on ?_, x.keep on ?_, l, fun k hk => ?_⟩, o1.trans on (fun k hk e => by rcases e with e | e <;> omega)⟩
  · rintro k hk (e | e)
    · subst e; exact slab_ty sl X1 hk
    · subst e; exact slab_ty sl Z1 hk
  · rintro k hk (e | e)
    · subst e; exact ref_ty x X1 hk
    · subst e; exact ref_ty x Z1 hk
  · have hl := (low0 k hk).2
    obtain ⟨f1, f2, f3, f4, f5⟩ := h.far k hk
    have nx : ¬ OwnX yC yG yT yR k := fun e => by
      rcases fr k e with q | q
      · rcases q with q | q | q | q
        · exact f1 q
        · exact f2 q
        · exact f3 q
        · exact f4 q
      · omega
    refine ⟨fun e => nx (.inl e), fun e => nx (.inr (.inl e)), fun e => nx (.inr (.inr (.inl e))), fun e => nx (.inr (.inr (.inr e))), fun e => ?_⟩
    rcases lf k e with q | q
    · exact f5 q
    · omega
end Go.Proofs.Ytllibgjajlgnbaa.SlabDo

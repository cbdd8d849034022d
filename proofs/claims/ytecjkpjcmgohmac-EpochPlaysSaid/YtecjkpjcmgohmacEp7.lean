/- A pool: Free's walk. -/
import Derived.Test.YtecjkpjcmgohmacEp6
namespace Go.Proofs.Ytecjkpjcmgohmac.Ep
open Go Go.RowKit Go.Maps Go.Sort Go.Shelf Go.Proofs.Ytecjkpjcmgohmac.Only
set_option linter.unusedVariables false
set_option linter.unusedSimpArgs false

/-- A row of one's own laid behind a row of one's own: either may be nil. -/
theorem append_rows {ops : Array Oper} {rest : List Oper} {o : Oper} {a : Act} {Q : Exit → Act → World → Prop} {w : World} (hgd : o.guard = none) (s x : Operand) (t : TypeId)
    (ho : o.op = .call { callee := .builtin .append, args := #[s, x], argTypes := #[t, t] })
    (base : Nat) (e : TypeId) (i : TypeInfo) (z : Value) (bytes : Nat) (ht : Try.prog.underlying t = some (.slice e)) (hi : Try.prog.info? e = some i) (hz : i.zero = some z)
    (hsize : i.size = 1) (hby : i.bytes = bytes) (hzs : z.cells.size = 1)
    (v : Value) (n : Nat) (xs : List Value) (hs : a.eval s = v) (hown : w.ownsRow base e 1 v n xs)
    (b2 : Nat) (u : Value) (m : Nat) (news : List Value) (hx : a.eval x = u) (hown2 : w.ownsRow b2 e 1 u m news) (h1 : ∀ u ∈ news, u.oneCell' = true)
    (h63 : n + m ≤ maxLen) (hbytes : (n + m) * bytes ≤ 140737488355328) (hbase : base ≤ w.heap.size)
    (h : ∀ v' w', w'.ownsRow base e 1 v' (n + m) (xs ++ news) → w.grownBy w' v.ownBlock → (v'.ownBlock = v.ownBlock ∨ v'.ownBlock = some w.heap.size) → wpList Try.prog ops Q rest (a.put o.dst v') w') :
    wpList Try.prog ops Q (o :: rest) a w := by
  have hlen := hown2.1
  rcases hown2.2 with ⟨e1, e2⟩ | ⟨g, cap, cur, hg, -, -, -⟩
  · subst e1
    subst e2
    have e3 : news = [] := by simpa using hlen
    subst e3
    refine wpList_append_own_none hgd s x t ho base e i 1 ht hi v n xs hs hown hx ?_
    refine h v w ?_ ⟨rfl, rfl, rfl, Nat.le_refl _, fun _ _ _ => rfl⟩ (.inl rfl)
    simpa using hown
  · subst hg
    refine wpList_append_own_at w hgd s x t ho base e i z 1 bytes ht hi hz hsize hby hzs (by decide) v n xs hs hown ⟨g, 0, none⟩ m cap news hx (by rw [hlen]) (hown2.cells (g := g) rfl) h1 h63 hbytes hbase ?_
    intro v' w' q1 q2 _ q3
    exact h v' w' q1 q2 q3

section
variable {B pb mb : Nat} {vin : Value} {inn : List Int} {ep : Int} {G : List Grp} {w w' : World}
/-- What holds at each round: of the first k groups those that are old are taken out. -/
structure FR (B pb mb : Nat) (vin : Value) (inn : List Int) (ep : Int) (G : List Grp) (w0 : World) (vk lv : Value) (k : Nat) (wr : World) : Prop where
  pool : PoolR B pb mb vin inn ep (doneK ep G k) wr
  keys : wr.ownsRow w0.heap.size 3 1 vk G.length ((G.map Grp.e).map encZ)
  l : wr.ownsRow w0.heap.size 29 1 lv (freedL ep (G.take k)).length ((freedL ep (G.take k)).map (Value.int .u64))
  on : Only (PoolF pb mb vin G) w0 wr
theorem done_mem {ep : Int} {G : List Grp} {k : Nat} {g : Grp} (h : g ∈ doneK ep G k) : g ∈ G := by
  unfold doneK keptG at h
  rcases List.mem_append.1 h with q | q
  · exact List.mem_of_mem_take (List.mem_filter.1 q).1
  · exact List.mem_of_mem_drop q
theorem mem_done {ep : Int} {G : List Grp} {k : Nat} (h : k < G.length) : G[k] ∈ doneK ep G k := by
  unfold doneK
  rw [drop_next h]
  exact List.mem_append.2 (.inr List.mem_cons_self)
theorem FR.lowF {w0 wr : World} {vk lv : Value} {k : Nat} (H : PoolR B pb mb vin inn ep G w0) : ∀ j, PoolF pb mb vin (doneK ep G k) j → PoolF pb mb vin G j ∧ j < w0.heap.size := by
  intro j hj
  have : PoolF pb mb vin G j := by
    rcases hj with e | e | e | ⟨g, hg, e⟩
    · exact .inl e
    · exact .inr (.inl e)
    · exact .inr (.inr (.inl e))
    · exact .inr (.inr (.inr ⟨g, done_mem hg, e⟩))
  exact ⟨this, (H.low j this).2⟩
theorem FR.next {w0 wr w5 w6 : World} {vk lv lv' : Value} {k n : Nat} (H : PoolR B pb mb vin inn ep G w0) (F : FR B pb mb vin inn ep G w0 vk lv k wr) (hk : k < G.length) (ho : old ep G[k] = true)
    (hr : w5.ownsRow w0.heap.size 29 1 lv' ((freedL ep (G.take k)).length + G[k].xs.length) ((freedL ep (G.take k)).map (Value.int .u64) ++ G[k].xs.map (Value.int .u64))) (hg : wr.grownBy w5 lv.ownBlock)
    (hm : w6.ownsMap Try.prog 3 heldR mb n (dat (cut (doneK ep G k) G[k].e))) (ht : w5.grownBy w6 (some mb)) : FR B pb mb vin inn ep G w0 vk lv' (k + 1) w6 := by
  obtain ⟨e1, e2⟩ := done_free H.asc hk ho
  have lvB : ∀ j, lv.ownBlock = some j → w0.heap.size ≤ j := fun j hj => (own_blk F.l hj).1
  have on5 : Only (fun j => lv.ownBlock = some j) wr w5 := (refl _ wr).grown hg (fun j hj _ => hj)
  have p5 : PoolR B pb mb vin inn ep (doneK ep G k) w5 := F.pool.keep on5 (fun j hj e => by have := (FR.lowF (wr := wr) (vk := vk) (lv := lv) H j hj).2; have := lvB j e; omega)
  have k5 := own_grown F.keys hg (fun j hj e => by
    obtain ⟨cs, hc⟩ := (own_blk F.keys hj).2.2
    exact own_ty F.l hc (by decide) e)
  refine ⟨by rw [e1]; exact p5.cut hm ht, own_grown k5 ht (fun j hj e => ?_), ?_, (F.on.grown hg (fun j hj hl => by have := lvB j hj; omega)).grown ht (fun j hj _ => by injection hj with e; exact .inr (.inl e.symm))⟩
  · obtain ⟨cs, hc⟩ := (own_blk k5 hj).2.2
    injection e with e
    exact p5.map_ne hc e.symm
  · rw [e2]
    have := own_grown hr ht (fun j hj e => by
      obtain ⟨cs, hc⟩ := (own_blk hr hj).2.2
      injection e with e
      exact p5.map_ne hc e.symm)
    simpa using this
theorem FR.skip {w0 wr : World} {vk lv : Value} {k : Nat} (F : FR B pb mb vin inn ep G w0 vk lv k wr) (hk : k < G.length) (ho : old ep G[k] = false) : FR B pb mb vin inn ep G w0 vk lv (k + 1) wr := by
  obtain ⟨e1, e2⟩ := done_keep hk ho
  exact ⟨by rw [e1]; exact F.pool, F.keys, by rw [e2]; exact F.l, F.on⟩
set_option maxHeartbeats 8000000 in
set_option maxRecDepth 100000 in
theorem free (h : PoolR B pb mb vin inn ep G w) (hB : B ≤ w.heap.size) (hn : G.length ≤ 1000) (hf : ∀ k, (freedL ep (G.take k)).length ≤ 100000) (he : ∀ g ∈ G, 0 ≤ g.e ∧ g.e ≤ 1000000) (hep : 0 ≤ ep ∧ ep ≤ 1000000) :
    Calls Try.prog 18 #[.pointer (some ⟨pb, 0, none⟩)] w (FreedE B pb mb vin inn ep G w) := by
  obtain ⟨i0, hi, hzz⟩ := Option.map_eq_some_iff.1 info_u64
  simp only [Prod.mk.injEq] at hzz
  obtain ⟨hz0, hz1, hz2⟩ := hzz
  obtain ⟨⟨k0, k1, k2⟩, -⟩ := cells3 h.blk
  have hsz : Maps.size (dat G) = G.length := by unfold dat; rw [Maps.size_eq]; simp
  have SC := sortedC mb _ _ w h.map (by rw [hsz]; unfold maxLen; omega) (by rw [hsz]; omega)
  have KC := keysC (some mb) w
  have H := Lib.hid h
  replace SC := Lib.hid SC
  replace KC := Lib.hid KC
  replace hf := Lib.hid hf
  replace he := Lib.hid he
  obtain ⟨Q, hQ⟩ : ∃ Q, FreedE B pb mb vin inn ep G w = Q := ⟨_, rfl⟩
  rw [hQ]
  replace hQ := Lib.hid hQ
  clear h hsz
  go_enter Try.func18, Try.ntmps18
  go_wp2_with fail
  refine KC.out.mono ?_
  rintro e w1 ⟨rfl, rfl⟩
  go_wp2_with fail
  refine SC.out.mono ?_
  rintro e w2 ⟨vk, ss, rfl, hp, hk, -, b2⟩
  rw [sorted_keys H.out.asc hp] at hk
  have hss : ss.length = G.length := by
    have := hp.length_eq
    rw [this]
    show (List.map _ (List.map entry G)).length = _
    simp
  rw [hss] at hk
  have s0 : (w.alloc (.cells #[.map (some mb)] 50)).heap.size = w.heap.size + 1 := by simp
  have bw : Below w.heap.size w w2 := ((Below.refl _ _).alloc (Nat.le_refl _) _).trans (b2.mono (by simp))
  obtain ⟨Ak, ck, ek, -⟩ := own_any hk
  subst ek
  have F : FR B pb mb vin inn ep G w (.slice Ak G.length ck) nilV 0 w2 :=
    ⟨by rw [done_0]; exact H.out.below bw, own_mono hk (by rw [s0]; omega), ⟨by simp [freedL], .inl ⟨rfl, by simp [freedL]⟩⟩, ofBelow bw⟩
  replace F := Lib.hid F
  clear KC SC hp hk b2 s0 bw hss k0 k1 k2
  unfold nilV at F
  go_wp2_with fail
  go_loopw [3, 15] (fun lv iv wr => ∃ k : Nat, k ≤ G.length ∧ iv = .int .i64 k ∧ Hid (FR B pb mb vin inn ep G w (.slice Ak G.length ck) lv k wr))
    (fun _ iv _ => G.length - (intOf iv).toNat)
  case atStart => exact ⟨0, by omega, rfl, F⟩
  case round =>
    clear F
    obtain ⟨k, hk, rfl, F⟩ := hrel
    obtain ⟨⟨k0, k1, k2⟩, -⟩ := cells3 F.out.pool.blk
    have hlp := lt_of_heap F.out.pool.blk
    by_cases hlt : k < G.length
    · have b1 : decide ((k : Int) < (G.length : Int)) = true := by simp; omega
      obtain ⟨gk, c', e1, -, -, -, hlg, hx, -⟩ := own_shape F.out.keys (by omega)
      injection e1 with e2 e3 e4
      subst e2 e4
      have xk := hx k hlt
      have ek : ((G.map Grp.e).map encZ).getD k (.bool false) = .int .i64 G[k].e := by simp [List.getD, hlt]
      rw [ek] at xk
      have heb := he.out _ (List.getElem_mem hlt)
      have ea : IntKind.i64.wrap (G[k].e + 2) = G[k].e + 2 := IntWalk.i64_in _ (by omega)
      cases ho : old ep G[k] with
      | false =>
        have b2 : decide (G[k].e + 2 ≤ ep) = false := ho
        have nx := Lib.hid (F.out.skip hlt ho)
        generalize G[k].e = ge at *
        clear hx ek ho
        go_wp2
        go_roundw
        case rel => exact ⟨k + 1, by omega, by go_num, nx⟩
        case measure => simp [intOf]; omega
      | true =>
        have b2 : decide (G[k].e + 2 ≤ ep) = true := ho
        have hmem := mem_done (ep := ep) hlt
        have LK := lookup_eq F.out.pool.map G[k].e (by omega)
        rw [(val_at F.out.pool.asc hmem).1] at LK
        have hrow := F.out.pool.rows _ hmem
        have nx := Lib.hid (fun w5 w6 lv' n hr hg hm ht => FR.next (w5 := w5) (w6 := w6) (lv' := lv') (n := n) H.out F.out hlt ho hr hg hm ht)
        have hl := F.out.l
        have hf1 := hf.out k
        have hf2 := hf.out (k + 1)
        rw [(done_free H.out.asc hlt ho).2] at hf2
        simp only [List.length_append] at hf2
        have h63 : (freedL ep (G.take k)).length + G[k].xs.length ≤ maxLen := by unfold maxLen; omega
        have h64 : ((freedL ep (G.take k)).length + G[k].xs.length) * 8 ≤ 140737488355328 := by omega
        have hB5 := F.out.on.size
        have pl := fun (w5 : World) (hg : wr.grownBy w5 u3.ownBlock) => (F.out.pool.keep (S := fun j => u3.ownBlock = some j) ((refl _ wr).grown hg (fun j hj _ => hj)) (fun j hj e => by have := (FR.lowF (wr := wr) (vk := .slice (some ⟨gk, 0, none⟩) G.length ck) (lv := u3) H.out j hj).2; have := (own_blk hl e).1; omega))
        generalize hgv : G[k].v = gv at *
        generalize hge : G[k].e = ge at *
        generalize G[k].xs = gx at *
        replace nx := nx
        replace hgv := Lib.hid hgv
        replace hge := Lib.hid hge
        replace pl := Lib.hid pl
        replace hl := Lib.hid hl
        replace hrow := Lib.hid hrow
        have hki := keyI ge (by omega)
        replace hki := Lib.hid hki
        clear hx ek ho hmem hf1 hf2
        go_wp2_with (first
          | (at_builtin; refine append_rows rfl _ _ 41 rfl w.heap.size 29 i0 (.int .u64 0) 8 Try.underlying41 hi hz0 hz1 hz2 rfl _ _ _ rfl hl.out B _ gx.length (gx.map (Value.int .u64)) rfl hrow.out (u64s_one _) h63 h64 hB5 ?_; intro v5 w5 hr5 hg5 hat5; have p5 := pl.out w5 hg5; obtain ⟨⟨j0, j1, j2⟩, -⟩ := cells3 p5.blk; have hlp5 := lt_of_heap p5.blk; have hm5 := p5.map; replace hr5 := Lib.hid hr5; replace hg5 := Lib.hid hg5; clear k0 k1 k2 LK hat5 p5)
          | (at_delete; refine wpList_delete_own _ rfl _ _ 50 3 rfl 41 law Try.underlying50 _ mb _ _ rfl hm5 _ _ rfl hki.out ?_; intro w6 hm6 ht6)
          | go_in)
        rw [dat_del] at hm6
        have F6 := Lib.hid (nx.out w5 w6 v5 _ hr5.out hg5.out hm6 ht6.grown)
        clear hm6 ht6 hm5
        go_wp2
        go_roundw
        case rel => exact ⟨k + 1, by omega, by go_num, F6⟩
        case measure => simp [intOf]; omega
    · have b1 : decide ((k : Int) < (G.length : Int)) = false := by simp; omega
      have fin : Q (.returned u3) wr := by
        rw [← hQ.out]
        refine ⟨u3, rfl, ?_, ?_, F.out.on⟩
        · have := F.out.l; rw [freed_all ep G k (by omega)] at this; exact this
        · have := F.out.pool; rw [done_all ep G k (by omega)] at this; exact this
      replace fin := Lib.hid fin
      go_wp2
      exact fin.out
end
end Go.Proofs.Ytecjkpjcmgohmac.Ep

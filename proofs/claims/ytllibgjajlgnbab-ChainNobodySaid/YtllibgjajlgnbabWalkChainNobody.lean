/- ChainNobody: a store that is nil has nothing; a version that there isn't is of the revision 0. -/
import Derived.Test.YtllibgjajlgnbabChain8
namespace Go.Proofs.Ytllibgjajlgnbab.WalkChainNobody
open Go Go.RowKit Go.Proofs.Ytllibgjajlgnbab.Only Go.Proofs.Ytllibgjajlgnbab.Mem Go.Proofs.Ytllibgjajlgnbab.New Go.Proofs.Ytllibgjajlgnbab.Chain
set_option linter.unusedVariables false
set_option linter.unusedSimpArgs false

set_option maxHeartbeats 8000000 in
set_option maxRecDepth 2000000 in
theorem walk (id rev r : Int) (key val : ByteArray) (del : Bool) (hid : 0 ≤ id ∧ id ≤ 18446744073709551615) (hrev : -9223372036854775808 ≤ rev ∧ rev ≤ 9223372036854775807) (hr : -9223372036854775808 ≤ r ∧ r ≤ 9223372036854775807) (hk : key.size ≤ 9223372036854775807) (hv : val.size ≤ 9223372036854775807) (W : World) :
    Calls Try.prog 8 #[.int .u64 id, .int .i64 rev, .agg #[.int .i64 r, .string key, .string val, .bool del]] W fun e w' => e = .returned (.bool true) ∧ Below W.heap.size W w' := by
  have hb0 := al9 W (.cells #[.int .i64 r, .string key, .string val, .bool del] 56)
  have s0 := hb0.size
  have K0 := Lib.hid (heap_alloc_new W (.cells #[.int .i64 r, .string key, .string val, .bool del] 56))
  have hb0 := Lib.hid hb0
  go_enter Try.func8, Try.ntmps8
  go_wp2_with fail
  refine (Chain.awake _).mono ?_
  rintro e w1 ⟨rfl, hb1⟩
  have K1 := Lib.hid ((hb1.block _ (lt_of_heap K0.out)).trans K0.out)
  have B1 := Lib.hid (hb0.out.trans (hb1.mono s0))
  have s1 := B1.out.size
  clear hb1 hb0 K0 s0
  go_wp2_with fail
  refine (cell_nil w1).mono ?_
  rintro e w2 ⟨rfl, hw⟩
  subst hw
  go_wp2_with fail
  refine (at_nil w1 id rev).mono ?_
  rintro e w3 ⟨rfl, hb3⟩
  have hbx := hb3.trans ((al9 w3 (.cells #[.string ⟨#[]⟩, .string ⟨#[]⟩, .int .i64 0] 63)).mono hb3.size)
  have K3 := Lib.hid ((hbx.block _ (lt_of_heap K1.out)).trans K1.out)
  have B3 := Lib.hid (B1.out.trans (hbx.mono s1))
  have s3 := B3.out.size
  clear hb3 hbx K1 B1 s1
  go_wp2_with fail
  refine (New.new 65535 (by omega) _).mono ?_
  rintro e w4 ⟨p, v, rfl, m4, hb4⟩
  have K4 := Lib.hid ((hb4.block _ (lt_of_heap K3.out)).trans K3.out)
  have B4 := Lib.hid (B3.out.trans (hb4.mono s3))
  have s4 := B4.out.size
  have s34 := hb4.size
  have k3 := lt_of_heap K3.out
  generalize (w3.alloc (.cells #[.string ⟨#[]⟩, .string ⟨#[]⟩, .int .i64 0] 63)) = w3' at *
  clear hb4 K3 B3
  go_wp2_with fail
  refine (Chain.new m4 s34).mono ?_
  rintro e w5 ⟨sb, rfl, h5, hb5⟩
  have K5 := Lib.hid ((hb5.block _ (lt_of_heap K4.out)).trans K4.out)
  have B5 := Lib.hid (B4.out.trans (hb5.mono s4))
  have s5 := B5.out.size
  have s35 := Nat.le_trans s34 hb5.size
  have k5 := lt_of_heap K4.out
  clear hb5 K4 B4 m4
  have hlen : (List.replicate 65535 (0:Int)).length = 65535 := List.length_replicate
  generalize List.replicate 65535 (0:Int) = C at *
  go_wp2_with fail
  refine (Chain.cell h5 s35 (by omega)).mono ?_
  rintro e w6 ⟨v6, rfl, h6, o6⟩
  rw [hlen]
  have B36 := footB h5.mem o6 s35
  have K6 := Lib.hid ((B36.block _ k3).trans K5.out)
  have B6 := Lib.hid (B5.out.trans (B36.mono (by omega)))
  have s6 := B6.out.size
  have hlen2 : (C ++ [0]).length = 65536 := by simp [hlen]
  clear o6 B36 K5 B5 h5
  go_wp2_with fail
  refine (cell_full h6 hlen2).mono ?_
  rintro e w7 ⟨rfl, hw⟩
  subst hw
  have hno : okV [] id = false := by simp [okV]; omega
  have hat : atR [] id rev = none := atR_none hno
  go_wp2_with fail
  refine (at_ h6 (fun id ho => by simp [okV] at ho; omega) (by simp) id rev hid hrev (by simp)).mono ?_
  rintro e w8 ⟨rfl, hb8⟩
  rw [hat]
  rw [show kvOf none = .agg #[.string ⟨#[]⟩, .string ⟨#[]⟩, .int .i64 0] from rfl, show (none : Option Ver).isSome = false from rfl]
  have hbx := hb8.trans ((al9 w8 (.cells #[.string ⟨#[]⟩, .string ⟨#[]⟩, .int .i64 0] 63)).mono hb8.size)
  have h8 := Lib.hid (h6.below hbx)
  have K8 := Lib.hid ((hbx.block _ (lt_of_heap K6.out)).trans K6.out)
  have B8 := Lib.hid (B6.out.trans (hbx.mono s6))
  have s8 := B8.out.size
  clear hb8 hbx K6 B6 h6 hat
  go_wp2_with fail
  generalize (w8.alloc (.cells #[.string ⟨#[]⟩, .string ⟨#[]⟩, .int .i64 0] 63)) = w9 at *
  refine (rev_nil w9 id).mono ?_
  rintro e w10 ⟨rfl, hb10⟩
  have h10 := Lib.hid (h8.out.below hb10)
  have K10 := (hb10.block _ (lt_of_heap K8.out)).trans K8.out
  have B10 := Lib.hid (B8.out.trans (hb10.mono s8))
  have s10 := B10.out.size
  have c0 : w10.cell? ⟨W.heap.size, 0, none⟩ = some (.int .i64 r) := by simp only [World.cell?, K10]; rfl
  have c1 : w10.cell? ⟨W.heap.size, 1, none⟩ = some (.string key) := by simp only [World.cell?, K10]; rfl
  have c2 : w10.cell? ⟨W.heap.size, 2, none⟩ = some (.string val) := by simp only [World.cell?, K10]; rfl
  have c3 : w10.cell? ⟨W.heap.size, 3, none⟩ = some (.bool del) := by simp only [World.cell?, K10]; rfl
  clear hb10 K8 B8 h8 K10
  go_wp2_with fail
  refine (put_nil w10 r key val del).mono ?_
  rintro e w11 ⟨rfl, hb11⟩
  have h11 := Lib.hid (h10.out.below hb11)
  have B11 := Lib.hid (B10.out.trans (hb11.mono s10))
  clear hb11 h10 B10 c0 c1 c2 c3
  go_wp2_with fail
  refine (step_nil w11).mono ?_
  rintro e w12 ⟨rfl, hw⟩
  subst hw
  go_wp2_with fail
  refine (new_nil w11).mono ?_
  rintro e w13 ⟨rfl, hw⟩
  subst hw
  go_wp2_with fail
  refine (Chain.rev h11.out id hid (by simp)).mono ?_
  rintro e w14 ⟨rfl, hb14⟩
  rw [show (ofV [] id).rev = 0 by unfold ofV; rw [hno]; rfl]
  have B14 := Lib.hid (B11.out.trans (hb14.mono B11.out.size))
  clear hb14
  go_wp2
  go_ret
  exact ⟨rfl, B14.out⟩
end Go.Proofs.Ytllibgjajlgnbab.WalkChainNobody

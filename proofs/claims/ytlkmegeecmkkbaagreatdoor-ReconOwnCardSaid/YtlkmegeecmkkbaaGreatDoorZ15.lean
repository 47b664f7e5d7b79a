/-
  Parts of the proof, one behind the other: Preconcome, GCome, GArch. Each is a contract of a function of the program, or a plain law; no condition of its own beyond what each theorem says.
-/
import Derived.Sort.Walk0
import Derived.Test.YtlkmegeecmkkbaaGreatDoorZ2
import Derived.Test.YtlkmegeecmkkbaaGreatDoorZ14
import Derived.Test.YtlkmegeecmkkbaaGreatDoorZ13
section
namespace Go.Proofs.YtlkmegeecmkkbaaGreatDoor.P
open Go.RowKit Go.Proofs.YtlkmegeecmkkbaaGreatDoorW.PrintWords Go.Proofs.YtlkmegeecmkkbaaGreatDoorW.PrintLast Go.Proofs.YtlkmegeecmkkbaaGreatDoorW.PrintMore
attribute [local go_sem] max2_int min2_int max_two min_two max_three min_three max_four min_four   -- for this text's walks alone
attribute [local go_sem] str_leq str_gtr str_geq
set_option linter.unusedVariables false
set_option linter.unusedSimpArgs false
def recon_come.f (a0_0 : ByteArray) (a0_1 : Bool) (a0_2 : ByteArray) (a0_3 : Int) (a0_4 : Int) (a1_0 : ByteArray) (a1_1 : Bool) (a1_2 : ByteArray) (a1_3 : Int) (a1_4 : Int) : Option (ByteArray × Bool × ByteArray × Int × Int × Bool) := (clock_Of.f a0_3 a0_4).bind fun t774 => ((clock_Of.f a1_3 a1_4).bind fun t775 => ((clock_Order.f t774 t775).bind fun t776 => (if t776 = 1 then (some (a1_0, a1_1, a1_2, a1_3, a1_4, false)) else (if t776 = 2 then (some (a0_0, a0_1, a0_2, a0_3, a0_4, false)) else ((recon_value.f a0_0 a0_1 a0_2 a0_3 a0_4 a1_0 a1_1 a1_2 a1_3 a1_4).bind fun t777 => (if t777 = true then ((recon_joined.f a0_0 a0_1 a0_2 a0_3 a0_4 a1_0 a1_1 a1_2 a1_3 a1_4).bind fun bt778 => (some (bt778.1, bt778.2.1, bt778.2.2.1, bt778.2.2.2.1, bt778.2.2.2.2, false))) else (some (a0_0, a0_1, a0_2, a0_3, a0_4, true))))))))
def recon_come.T1 : Bool × List (List Nat × List Nat) := (true, [([], []), ([0], [0]), ([1], [1]), ([], []), ([3], [3]), ([4, 2], [4]), ([2, 5, 5], [2, 5]), ([6, 6, 0, 1, 2, 3, 4, 5, 6], [6])])
def recon_come.B1 : List Nat := [0, 1, 3, 0, 8, 31, 63, 127]
theorem recon_come.tab1 : rtab .any (opsOf Tryz.f47 1) = recon_come.T1 := by kernel_rfl
theorem recon_come.bits1 : waitsOk recon_come.T1.2 recon_come.B1 = true := by kernel_rfl
set_option maxHeartbeats 8000000 in
set_option maxRecDepth 100000 in
theorem recon_come.calls (a0_0 : ByteArray) (a0_1 : Bool) (a0_2 : ByteArray) (a0_3 : Int) (a0_4 : Int) (a1_0 : ByteArray) (a1_1 : Bool) (a1_2 : ByteArray) (a1_3 : Int) (a1_4 : Int) (r1 : ByteArray) (r2 : Bool) (r3 : ByteArray) (r4 : Int) (r5 : Int) (r6 : Bool) (w : World) (h : recon_come.f a0_0 a0_1 a0_2 a0_3 a0_4 a1_0 a1_1 a1_2 a1_3 a1_4 = some (r1, r2, r3, r4, r5, r6)) :
    Calls Tryz.prog 47 #[.agg #[.string a0_0, .bool a0_1, .string a0_2, .int .i64 a0_3, .int .i64 a0_4], .agg #[.string a1_0, .bool a1_1, .string a1_2, .int .i64 a1_3, .int .i64 a1_4]] w fun e w' => e = .returned (.tuple #[.agg #[.string r1, .bool r2, .string r3, .int .i64 r4, .int .i64 r5], .bool r6]) ∧ Below w.heap.size w w' := by
  have hu34 := Tryz.underlying34
  have hu32 := Tryz.underlying32
  have HB := Aside0.mk (Below.refl w.heap.size w)
  have H : ((clock_Of.f a0_3 a0_4).bind fun t774 => ((clock_Of.f a1_3 a1_4).bind fun t775 => ((clock_Order.f t774 t775).bind fun t776 => (if t776 = 1 then (some (a1_0, a1_1, a1_2, a1_3, a1_4, false)) else (if t776 = 2 then (some (a0_0, a0_1, a0_2, a0_3, a0_4, false)) else ((recon_value.f a0_0 a0_1 a0_2 a0_3 a0_4 a1_0 a1_1 a1_2 a1_3 a1_4).bind fun t777 => (if t777 = true then ((recon_joined.f a0_0 a0_1 a0_2 a0_3 a0_4 a1_0 a1_1 a1_2 a1_3 a1_4).bind fun bt778 => (some (bt778.1, bt778.2.1, bt778.2.2.1, bt778.2.2.2.1, bt778.2.2.2.2, false))) else (some (a0_0, a0_1, a0_2, a0_3, a0_4, true))))))))) = some (r1, r2, r3, r4, r5, r6) := h
  clear h
  replace H := Option.bind_eq_some_iff.mp H
  obtain ⟨t774, A30, H⟩ := H
  replace H : ((clock_Of.f a1_3 a1_4).bind fun t775 => ((clock_Order.f t774 t775).bind fun t776 => (if t776 = 1 then (some (a1_0, a1_1, a1_2, a1_3, a1_4, false)) else (if t776 = 2 then (some (a0_0, a0_1, a0_2, a0_3, a0_4, false)) else ((recon_value.f a0_0 a0_1 a0_2 a0_3 a0_4 a1_0 a1_1 a1_2 a1_3 a1_4).bind fun t777 => (if t777 = true then ((recon_joined.f a0_0 a0_1 a0_2 a0_3 a0_4 a1_0 a1_1 a1_2 a1_3 a1_4).bind fun bt778 => (some (bt778.1, bt778.2.1, bt778.2.2.1, bt778.2.2.2.1, bt778.2.2.2.2, false))) else (some (a0_0, a0_1, a0_2, a0_3, a0_4, true)))))))) = some (r1, r2, r3, r4, r5, r6) := H
  have A3 := Aside0.mk A30
  clear A30
  replace H := Option.bind_eq_some_iff.mp H
  obtain ⟨t775, A40, H⟩ := H
  replace H : ((clock_Order.f t774 t775).bind fun t776 => (if t776 = 1 then (some (a1_0, a1_1, a1_2, a1_3, a1_4, false)) else (if t776 = 2 then (some (a0_0, a0_1, a0_2, a0_3, a0_4, false)) else ((recon_value.f a0_0 a0_1 a0_2 a0_3 a0_4 a1_0 a1_1 a1_2 a1_3 a1_4).bind fun t777 => (if t777 = true then ((recon_joined.f a0_0 a0_1 a0_2 a0_3 a0_4 a1_0 a1_1 a1_2 a1_3 a1_4).bind fun bt778 => (some (bt778.1, bt778.2.1, bt778.2.2.1, bt778.2.2.2.1, bt778.2.2.2.2, false))) else (some (a0_0, a0_1, a0_2, a0_3, a0_4, true))))))) = some (r1, r2, r3, r4, r5, r6) := H
  have A4 := Aside0.mk A40
  clear A40
  replace H := Option.bind_eq_some_iff.mp H
  obtain ⟨t776, A50, H⟩ := H
  replace H : (if t776 = 1 then (some (a1_0, a1_1, a1_2, a1_3, a1_4, false)) else (if t776 = 2 then (some (a0_0, a0_1, a0_2, a0_3, a0_4, false)) else ((recon_value.f a0_0 a0_1 a0_2 a0_3 a0_4 a1_0 a1_1 a1_2 a1_3 a1_4).bind fun t777 => (if t777 = true then ((recon_joined.f a0_0 a0_1 a0_2 a0_3 a0_4 a1_0 a1_1 a1_2 a1_3 a1_4).bind fun bt778 => (some (bt778.1, bt778.2.1, bt778.2.2.1, bt778.2.2.2.1, bt778.2.2.2.2, false))) else (some (a0_0, a0_1, a0_2, a0_3, a0_4, true)))))) = some (r1, r2, r3, r4, r5, r6) := H
  have A5 := Aside0.mk A50
  clear A50
  by_cases c6 : t776 = 1
  · rw [if_pos c6] at H
    have c6b0 : (t776 == 1) = true := beq_iff_eq.mpr c6
    have c6b1 : (t776 != 1) = false := bne_eq_false_iff_eq.mpr c6
    clear c6
    simp only [Option.some.injEq, Prod.mk.injEq] at H
    obtain ⟨rfl, rfl, rfl, rfl, rfl, rfl⟩ := H
    go_enter Tryz.func47, Tryz.ntmps47
    try go_wp2_with (first | ((with_reducible refine gate_dst (N := 2) rfl ?_); refine box_event ?hg (N := 2) ?hd (cs := #[.string a0_0, .bool a0_1, .string a0_2, .int .i64 a0_3, .int .i64 a0_4]) (t := 34) ?hr ?_; (case hd => rfl); (case hg => rfl); (case hr => first | (go_simp; done) | (go_simp; rfl)); intro gb771 hg w7 hbox hb; have n0_ := Aside0.mk (below_step (by repeat (first | (with_reducible first | exact HB.out | apply below_alloc | apply pw_below_drewN | apply below_drew1) | exact HB.out)) hb); have n1_ := Aside0.mk (hbox); have n2_ := Aside0.mk ((by rw [hg]; exact (below_size (by repeat (first | (with_reducible first | exact HB.out | apply below_alloc | apply pw_below_drewN | apply below_drew1) | exact HB.out))) : w.heap.size ≤ gb771)); have n3_ := Aside0.mk ((by rw [hg]; exact (below_size (by repeat (first | (with_reducible first | exact HB.out | apply below_alloc | apply pw_below_drewN | apply below_drew1) | exact HB.out))) : w.heap.size ≤ gb771)); clear HB; have HB := n0_; have BK771 := n1_; have GW771 := n2_; have GE771 := n3_; clear n0_ n1_ n2_ n3_; clear hb hbox hg) | ((with_reducible refine gate_dst (N := 3) rfl ?_); refine box_event ?hg (N := 3) ?hd (cs := #[.string a1_0, .bool a1_1, .string a1_2, .int .i64 a1_3, .int .i64 a1_4]) (t := 34) ?hr ?_; (case hd => rfl); (case hg => rfl); (case hr => first | (go_simp; done) | (go_simp; rfl)); intro gb772 hg w8 hbox hb; have n0_ := Aside0.mk (blk_below (g := gb771) (o := .cells #[.string a0_0, .bool a0_1, .string a0_2, .int .i64 a0_3, .int .i64 a0_4] 34 (0, 0)) (by (with_reducible repeat (first | refine blk_drewN ?_ _ | refine blk_drew ?_ | refine blk_alloc ?_ _)); exact BK771.out) hb); have n1_ := Aside0.mk (below_step (by repeat (first | (with_reducible first | exact HB.out | apply below_alloc | apply pw_below_drewN | apply below_drew1 | refine below_set ?_ GE771.out) | exact HB.out)) hb); have n2_ := Aside0.mk (hbox); have n3_ := Aside0.mk ((by rw [hg]; exact (below_size (by repeat (first | (with_reducible first | exact HB.out | apply below_alloc | apply pw_below_drewN | apply below_drew1 | refine below_set ?_ GE771.out) | exact HB.out))) : w.heap.size ≤ gb772)); have n4_ := Aside0.mk ((by rw [hg]; exact (below_size (by repeat (first | (with_reducible first | exact HB.out | apply below_alloc | apply pw_below_drewN | apply below_drew1 | refine below_set ?_ GE771.out) | exact HB.out))) : w.heap.size ≤ gb772)); have n5_ := Aside0.mk ((by rw [hg]; exact Nat.ne_of_lt (blk_lt (g := gb771) (o := .cells #[.string a0_0, .bool a0_1, .string a0_2, .int .i64 a0_3, .int .i64 a0_4] 34 (0, 0)) (by (with_reducible repeat (first | refine blk_drewN ?_ _ | refine blk_drew ?_ | refine blk_alloc ?_ _)); exact BK771.out)) : gb771 ≠ gb772)); have n6_ := Aside0.mk ((by rw [hg]; exact Nat.ne_of_gt (blk_lt (g := gb771) (o := .cells #[.string a0_0, .bool a0_1, .string a0_2, .int .i64 a0_3, .int .i64 a0_4] 34 (0, 0)) (by (with_reducible repeat (first | refine blk_drewN ?_ _ | refine blk_drew ?_ | refine blk_alloc ?_ _)); exact BK771.out)) : gb772 ≠ gb771)); clear BK771; clear HB; have BK771 := n0_; have HB := n1_; have BK772 := n2_; have GW772 := n3_; have GE772 := n4_; have NB771_772 := n5_; have NB772_771 := n6_; clear n0_ n1_ n2_ n3_ n4_ n5_ n6_; clear hb hbox hg) | ((with_reducible refine gate_dst (N := 4) rfl ?_); refine box_event ?hg (N := 4) ?hd (cs := #[.string (⟨#[]⟩ : ByteArray), .bool false, .string (⟨#[]⟩ : ByteArray), .int .i64 0, .int .i64 0]) (t := 34) ?hr ?_; (case hd => rfl); (case hg => rfl); (case hr => first | (go_simp; done) | (go_simp; rfl)); intro gb773 hg w9 hbox hb; have n0_ := Aside0.mk (blk_below (g := gb771) (o := .cells #[.string a0_0, .bool a0_1, .string a0_2, .int .i64 a0_3, .int .i64 a0_4] 34 (0, 0)) (by (with_reducible repeat (first | refine blk_drewN ?_ _ | refine blk_drew ?_ | refine blk_alloc ?_ _)); exact BK771.out) hb); have n1_ := Aside0.mk (blk_below (g := gb772) (o := .cells #[.string a1_0, .bool a1_1, .string a1_2, .int .i64 a1_3, .int .i64 a1_4] 34 (0, 0)) (by (with_reducible repeat (first | refine blk_drewN ?_ _ | refine blk_drew ?_ | refine blk_alloc ?_ _)); exact BK772.out) hb); have n2_ := Aside0.mk (below_step (by repeat (first | (with_reducible first | exact HB.out | apply below_alloc | apply pw_below_drewN | apply below_drew1 | refine below_set ?_ GE771.out | refine below_set ?_ GE772.out) | exact HB.out)) hb); have n3_ := Aside0.mk (hbox); have n4_ := Aside0.mk ((by rw [hg]; exact (below_size (by repeat (first | (with_reducible first | exact HB.out | apply below_alloc | apply pw_below_drewN | apply below_drew1 | refine below_set ?_ GE771.out | refine below_set ?_ GE772.out) | exact HB.out))) : w.heap.size ≤ gb773)); have n5_ := Aside0.mk ((by rw [hg]; exact (below_size (by repeat (first | (with_reducible first | exact HB.out | apply below_alloc | apply pw_below_drewN | apply below_drew1 | refine below_set ?_ GE771.out | refine below_set ?_ GE772.out) | exact HB.out))) : w.heap.size ≤ gb773)); have n6_ := Aside0.mk ((by rw [hg]; exact Nat.ne_of_lt (blk_lt (g := gb771) (o := .cells #[.string a0_0, .bool a0_1, .string a0_2, .int .i64 a0_3, .int .i64 a0_4] 34 (0, 0)) (by (with_reducible repeat (first | refine blk_drewN ?_ _ | refine blk_drew ?_ | refine blk_alloc ?_ _)); exact BK771.out)) : gb771 ≠ gb773)); have n7_ := Aside0.mk ((by rw [hg]; exact Nat.ne_of_gt (blk_lt (g := gb771) (o := .cells #[.string a0_0, .bool a0_1, .string a0_2, .int .i64 a0_3, .int .i64 a0_4] 34 (0, 0)) (by (with_reducible repeat (first | refine blk_drewN ?_ _ | refine blk_drew ?_ | refine blk_alloc ?_ _)); exact BK771.out)) : gb773 ≠ gb771)); have n8_ := Aside0.mk ((by rw [hg]; exact Nat.ne_of_lt (blk_lt (g := gb772) (o := .cells #[.string a1_0, .bool a1_1, .string a1_2, .int .i64 a1_3, .int .i64 a1_4] 34 (0, 0)) (by (with_reducible repeat (first | refine blk_drewN ?_ _ | refine blk_drew ?_ | refine blk_alloc ?_ _)); exact BK772.out)) : gb772 ≠ gb773)); have n9_ := Aside0.mk ((by rw [hg]; exact Nat.ne_of_gt (blk_lt (g := gb772) (o := .cells #[.string a1_0, .bool a1_1, .string a1_2, .int .i64 a1_3, .int .i64 a1_4] 34 (0, 0)) (by (with_reducible repeat (first | refine blk_drewN ?_ _ | refine blk_drew ?_ | refine blk_alloc ?_ _)); exact BK772.out)) : gb773 ≠ gb772)); clear BK771; clear BK772; clear HB; have BK771 := n0_; have BK772 := n1_; have HB := n2_; have BK773 := n3_; have GW773 := n4_; have GE773 := n5_; have NB771_773 := n6_; have NB773_771 := n7_; have NB772_773 := n8_; have NB773_772 := n9_; clear n0_ n1_ n2_ n3_ n4_ n5_ n6_ n7_ n8_ n9_; clear hb hbox hg))
    have n0_ := Aside0.mk (blk_drew BK771.out)
    have n1_ := Aside0.mk (blk_drew BK772.out)
    have n2_ := Aside0.mk (blk_drew BK773.out)
    have n3_ := Aside0.mk (below_drew1 HB.out)
    clear BK771
    clear BK772
    clear BK773
    clear HB
    have BK771 := n0_
    have BK772 := n1_
    have BK773 := n2_
    have HB := n3_
    clear n0_ n1_ n2_ n3_
    refine start_ (n := 8) (S := fun w' => w'.cell? ⟨gb771, 0, none⟩ = some (.string a0_0) ∧ w'.cell? ⟨gb771, 1, none⟩ = some (.bool a0_1) ∧ w'.cell? ⟨gb771, 2, none⟩ = some (.string a0_2) ∧ w'.cell? ⟨gb771, 3, none⟩ = some (.int .i64 a0_3) ∧ w'.cell? ⟨gb771, 4, none⟩ = some (.int .i64 a0_4) ∧ w'.cell? ⟨gb772, 0, none⟩ = some (.string a1_0) ∧ w'.cell? ⟨gb772, 1, none⟩ = some (.bool a1_1) ∧ w'.cell? ⟨gb772, 2, none⟩ = some (.string a1_2) ∧ w'.cell? ⟨gb772, 3, none⟩ = some (.int .i64 a1_3) ∧ w'.cell? ⟨gb772, 4, none⟩ = some (.int .i64 a1_4)) (ds := []) #[false, false, false, false, false, false, false, false] (by kernel_rfl) rfl rfl ⟨(blk_cell BK771.out 0).trans rfl, (blk_cell BK771.out 1).trans rfl, (blk_cell BK771.out 2).trans rfl, (blk_cell BK771.out 3).trans rfl, (blk_cell BK771.out 4).trans rfl, (blk_cell BK772.out 0).trans rfl, (blk_cell BK772.out 1).trans rfl, (blk_cell BK772.out 2).trans rfl, (blk_cell BK772.out 3).trans rfl, (blk_cell BK772.out 4).trans rfl⟩ (fun hHeld => ?_); refine with_tabW recon_come.tab1 recon_come.bits1 (fun HT_ HW_ => ?_)
    generalize w9.drew = w10 at BK771 BK772 BK773 HB hHeld ⊢
    refine pure_ (i := 0) (N := some 7) (v := ?_) (a' := ?_) #[true, false, false, false, false, false, false, false] rfl rfl (any_of HT_.out (by kernel_rfl)) (fun _ _ _ h => h) (Or.inl ⟨by rfl, ?_⟩) ?_ ?_
    rotate_left
    · intro w'
      go_simp
      with_reducible rfl
    rotate_left
    · simp only [Act.put, List.setIfInBounds_toArray, List.set_cons_zero, List.set_cons_succ, i64_w, i32_w]
      rfl
    refine pure_ (i := 3) (N := some 10) (v := ?_) (a' := ?_) #[true, false, false, true, false, false, false, false] rfl rfl (any_of HT_.out (by kernel_rfl)) (fun _ _ _ h => h) (Or.inl ⟨by rfl, ?_⟩) ?_ ?_
    rotate_left
    · intro w'
      go_simp
      with_reducible rfl
    rotate_left
    · simp only [Act.put, List.setIfInBounds_toArray, List.set_cons_zero, List.set_cons_succ, i64_w, i32_w]
      rfl
    refine take_ (i := 1) (N := some 8) (v := ?_) (a' := ?_) #[true, true, false, true, false, false, false, false] rfl rfl (take_ofW HT_.out HW_.out (by kernel_rfl)) (fun _ _ _ h => h) (Or.inl ⟨by rfl, ?_⟩) hHeld ?_ ?_
    rotate_left
    · rintro w' ⟨s0, s1, s2, s3, s4, s5, s6, s7, s8, s9⟩
      go_simp
      with_reducible rfl
    rotate_left
    · simp only [Act.put, List.setIfInBounds_toArray, List.set_cons_zero, List.set_cons_succ, i64_w, i32_w]
      rfl
    refine take_ (i := 4) (N := some 11) (v := ?_) (a' := ?_) #[true, true, false, true, true, false, false, false] rfl rfl (take_ofW HT_.out HW_.out (by kernel_rfl)) (fun _ _ _ h => h) (Or.inl ⟨by rfl, ?_⟩) hHeld ?_ ?_
    rotate_left
    · rintro w' ⟨s0, s1, s2, s3, s4, s5, s6, s7, s8, s9⟩
      go_simp
      with_reducible rfl
    rotate_left
    · simp only [Act.put, List.setIfInBounds_toArray, List.set_cons_zero, List.set_cons_succ, i64_w, i32_w]
      rfl
    refine one_ (i := 2) (N := some 9) #[true, true, true, true, true, false, false, false] rfl rfl (one_of HT_.out (by kernel_rfl)) (by decide) (fun K hK => ?_)
    refine goes_ Tryz.func67 (by kernel_rfl) rfl #[.agg #[.int .i64 a0_3, .int .i64 a0_4]] (by rfl) rfl rfl (by (try simp only [List.map_toArray, List.map_cons, List.map_nil]); first | done | rfl | (simp only [List.length_drop, List.length_take]; rfl)) ?_
    with_reducible refine (clock_Of.calls a0_3 a0_4 t774 _ A3.out).mono ?_
    rintro e w11 ⟨rfl, hb⟩
    refine ⟨_, rfl, ?_⟩
    have n0_ := Aside0.mk (blk_below (g := gb771) (o := .cells #[.string a0_0, .bool a0_1, .string a0_2, .int .i64 a0_3, .int .i64 a0_4] 34 (0, 0)) (by (with_reducible repeat (first | refine blk_drewN ?_ _ | refine blk_drew ?_ | refine blk_alloc ?_ _)); exact BK771.out) hb)
    have n1_ := Aside0.mk (blk_below (g := gb772) (o := .cells #[.string a1_0, .bool a1_1, .string a1_2, .int .i64 a1_3, .int .i64 a1_4] 34 (0, 0)) (by (with_reducible repeat (first | refine blk_drewN ?_ _ | refine blk_drew ?_ | refine blk_alloc ?_ _)); exact BK772.out) hb)
    have n2_ := Aside0.mk (blk_below (g := gb773) (o := .cells #[.string (⟨#[]⟩ : ByteArray), .bool false, .string (⟨#[]⟩ : ByteArray), .int .i64 0, .int .i64 0] 34 (0, 0)) (by (with_reducible repeat (first | refine blk_drewN ?_ _ | refine blk_drew ?_ | refine blk_alloc ?_ _)); exact BK773.out) hb)
    have n3_ := Aside0.mk (below_step (by repeat (first | (with_reducible first | exact HB.out | apply below_alloc | apply pw_below_drewN | apply below_drew1 | refine below_set ?_ GE771.out | refine below_set ?_ GE772.out | refine below_set ?_ GE773.out) | exact HB.out)) hb)
    clear BK771
    clear BK772
    clear BK773
    clear HB
    have BK771 := n0_
    have BK772 := n1_
    have BK773 := n2_
    have HB := n3_
    clear n0_ n1_ n2_ n3_
    (try clear hb)
    (try clear hb2)
    (try clear hk)
    (try clear hi)
    refine hK.out _ _ ⟨(blk_cell BK771.out 0).trans rfl, (blk_cell BK771.out 1).trans rfl, (blk_cell BK771.out 2).trans rfl, (blk_cell BK771.out 3).trans rfl, (blk_cell BK771.out 4).trans rfl, (blk_cell BK772.out 0).trans rfl, (blk_cell BK772.out 1).trans rfl, (blk_cell BK772.out 2).trans rfl, (blk_cell BK772.out 3).trans rfl, (blk_cell BK772.out 4).trans rfl⟩ (fun hHeld => ?_)
    clear hK K
    refine norm_ (a' := ?_) ?_ ?_
    rotate_left
    · show Act.put _ (some 9) _ = _
      simp only [Act.put, List.setIfInBounds_toArray, List.set_cons_zero, List.set_cons_succ, i64_w, i32_w]
      rfl
    refine one_ (i := 5) (N := some 12) #[true, true, true, true, true, true, false, false] rfl rfl (one_of HT_.out (by kernel_rfl)) (by decide) (fun K hK => ?_)
    refine goes_ Tryz.func67 (by kernel_rfl) rfl #[.agg #[.int .i64 a1_3, .int .i64 a1_4]] (by rfl) rfl rfl (by (try simp only [List.map_toArray, List.map_cons, List.map_nil]); first | done | rfl | (simp only [List.length_drop, List.length_take]; rfl)) ?_
    with_reducible refine (clock_Of.calls a1_3 a1_4 t775 _ A4.out).mono ?_
    rintro e w12 ⟨rfl, hb⟩
    refine ⟨_, rfl, ?_⟩
    have n0_ := Aside0.mk (blk_below (g := gb771) (o := .cells #[.string a0_0, .bool a0_1, .string a0_2, .int .i64 a0_3, .int .i64 a0_4] 34 (0, 0)) (by (with_reducible repeat (first | refine blk_drewN ?_ _ | refine blk_drew ?_ | refine blk_alloc ?_ _)); exact BK771.out) hb)
    have n1_ := Aside0.mk (blk_below (g := gb772) (o := .cells #[.string a1_0, .bool a1_1, .string a1_2, .int .i64 a1_3, .int .i64 a1_4] 34 (0, 0)) (by (with_reducible repeat (first | refine blk_drewN ?_ _ | refine blk_drew ?_ | refine blk_alloc ?_ _)); exact BK772.out) hb)
    have n2_ := Aside0.mk (blk_below (g := gb773) (o := .cells #[.string (⟨#[]⟩ : ByteArray), .bool false, .string (⟨#[]⟩ : ByteArray), .int .i64 0, .int .i64 0] 34 (0, 0)) (by (with_reducible repeat (first | refine blk_drewN ?_ _ | refine blk_drew ?_ | refine blk_alloc ?_ _)); exact BK773.out) hb)
    have n3_ := Aside0.mk (below_step (by repeat (first | (with_reducible first | exact HB.out | apply below_alloc | apply pw_below_drewN | apply below_drew1 | refine below_set ?_ GE771.out | refine below_set ?_ GE772.out | refine below_set ?_ GE773.out) | exact HB.out)) hb)
    clear BK771
    clear BK772
    clear BK773
    clear HB
    have BK771 := n0_
    have BK772 := n1_
    have BK773 := n2_
    have HB := n3_
    clear n0_ n1_ n2_ n3_
    (try clear hb)
    (try clear hb2)
    (try clear hk)
    (try clear hi)
    refine hK.out _ _ ⟨(blk_cell BK771.out 0).trans rfl, (blk_cell BK771.out 1).trans rfl, (blk_cell BK771.out 2).trans rfl, (blk_cell BK771.out 3).trans rfl, (blk_cell BK771.out 4).trans rfl, (blk_cell BK772.out 0).trans rfl, (blk_cell BK772.out 1).trans rfl, (blk_cell BK772.out 2).trans rfl, (blk_cell BK772.out 3).trans rfl, (blk_cell BK772.out 4).trans rfl⟩ (fun hHeld => ?_)
    clear hK K
    refine norm_ (a' := ?_) ?_ ?_
    rotate_left
    · show Act.put _ (some 12) _ = _
      simp only [Act.put, List.setIfInBounds_toArray, List.set_cons_zero, List.set_cons_succ, i64_w, i32_w]
      rfl
    refine one_ (i := 6) (N := some 13) #[true, true, true, true, true, true, true, false] rfl rfl (one_of HT_.out (by kernel_rfl)) (by decide) (fun K hK => ?_)
    refine goes_ Tryz.func86 (by kernel_rfl) rfl #[cpx t774, cpx t775] (by rfl) rfl rfl (by (try simp only [List.map_toArray, List.map_cons, List.map_nil]); first | done | rfl | (simp only [List.length_drop, List.length_take]; rfl)) ?_
    with_reducible refine (clock_Order.calls t774 t775 t776 _ A5.out).mono ?_
    rintro e w13 ⟨rfl, hb⟩
    refine ⟨_, rfl, ?_⟩
    have n0_ := Aside0.mk (blk_below (g := gb771) (o := .cells #[.string a0_0, .bool a0_1, .string a0_2, .int .i64 a0_3, .int .i64 a0_4] 34 (0, 0)) (by (with_reducible repeat (first | refine blk_drewN ?_ _ | refine blk_drew ?_ | refine blk_alloc ?_ _)); exact BK771.out) hb)
    have n1_ := Aside0.mk (blk_below (g := gb772) (o := .cells #[.string a1_0, .bool a1_1, .string a1_2, .int .i64 a1_3, .int .i64 a1_4] 34 (0, 0)) (by (with_reducible repeat (first | refine blk_drewN ?_ _ | refine blk_drew ?_ | refine blk_alloc ?_ _)); exact BK772.out) hb)
    have n2_ := Aside0.mk (blk_below (g := gb773) (o := .cells #[.string (⟨#[]⟩ : ByteArray), .bool false, .string (⟨#[]⟩ : ByteArray), .int .i64 0, .int .i64 0] 34 (0, 0)) (by (with_reducible repeat (first | refine blk_drewN ?_ _ | refine blk_drew ?_ | refine blk_alloc ?_ _)); exact BK773.out) hb)
    have n3_ := Aside0.mk (below_step (by repeat (first | (with_reducible first | exact HB.out | apply below_alloc | apply pw_below_drewN | apply below_drew1 | refine below_set ?_ GE771.out | refine below_set ?_ GE772.out | refine below_set ?_ GE773.out) | exact HB.out)) hb)
    clear BK771
    clear BK772
    clear BK773
    clear HB
    have BK771 := n0_
    have BK772 := n1_
    have BK773 := n2_
    have HB := n3_
    clear n0_ n1_ n2_ n3_
    (try clear hb)
    (try clear hb2)
    (try clear hk)
    (try clear hi)
    refine hK.out _ _ ⟨(blk_cell BK771.out 0).trans rfl, (blk_cell BK771.out 1).trans rfl, (blk_cell BK771.out 2).trans rfl, (blk_cell BK771.out 3).trans rfl, (blk_cell BK771.out 4).trans rfl, (blk_cell BK772.out 0).trans rfl, (blk_cell BK772.out 1).trans rfl, (blk_cell BK772.out 2).trans rfl, (blk_cell BK772.out 3).trans rfl, (blk_cell BK772.out 4).trans rfl⟩ (fun hHeld => ?_)
    clear hK K
    refine norm_ (a' := ?_) ?_ ?_
    rotate_left
    · show Act.put _ (some 13) _ = _
      simp only [Act.put, List.setIfInBounds_toArray, List.set_cons_zero, List.set_cons_succ, i64_w, i32_w]
      rfl
    refine pure_ (i := 7) (N := some 6) (v := ?_) (a' := ?_) #[true, true, true, true, true, true, true, true] rfl rfl (any_of HT_.out (by kernel_rfl)) (fun _ _ _ h => h) (Or.inl ⟨by rfl, ?_⟩) ?_ ?_
    rotate_left
    · intro w'
      go_simp
      with_reducible rfl
    rotate_left
    · simp only [Act.put, List.setIfInBounds_toArray, List.set_cons_zero, List.set_cons_succ, i64_w, i32_w]
      rfl
    refine done_ (done_of HT_.out (by kernel_rfl)) ?_
    have hnb14 := NB772_771.out
    have hnc14 := NB771_772.out
    have hnb15 := NB772_773.out
    have hnc15 := NB773_772.out
    have hcz16_0 : w13.cell? ⟨gb772, 0, none⟩ = some (.string a1_0) := (blk_cell BK772.out 0).trans rfl
    have hcz16_1 : w13.cell? ⟨gb772, 1, none⟩ = some (.bool a1_1) := (blk_cell BK772.out 1).trans rfl
    have hcz16_2 : w13.cell? ⟨gb772, 2, none⟩ = some (.string a1_2) := (blk_cell BK772.out 2).trans rfl
    have hcz16_3 : w13.cell? ⟨gb772, 3, none⟩ = some (.int .i64 a1_3) := (blk_cell BK772.out 3).trans rfl
    have hcz16_4 : w13.cell? ⟨gb772, 4, none⟩ = some (.int .i64 a1_4) := (blk_cell BK772.out 4).trans rfl
    have hfz16_0 := blk_frozen BK772.out 0
    have hfz16_1 := blk_frozen BK772.out 1
    have hfz16_2 := blk_frozen BK772.out 2
    have hfz16_3 := blk_frozen BK772.out 3
    have hfz16_4 := blk_frozen BK772.out 4
    have hnb17 := NB773_771.out
    have hnc17 := NB771_773.out
    have hcz18_0 : w13.cell? ⟨gb773, 0, none⟩ = some (.string (⟨#[]⟩ : ByteArray)) := (blk_cell BK773.out 0).trans rfl
    have hcz18_1 : w13.cell? ⟨gb773, 1, none⟩ = some (.bool false) := (blk_cell BK773.out 1).trans rfl
    have hcz18_2 : w13.cell? ⟨gb773, 2, none⟩ = some (.string (⟨#[]⟩ : ByteArray)) := (blk_cell BK773.out 2).trans rfl
    have hcz18_3 : w13.cell? ⟨gb773, 3, none⟩ = some (.int .i64 0) := (blk_cell BK773.out 3).trans rfl
    have hcz18_4 : w13.cell? ⟨gb773, 4, none⟩ = some (.int .i64 0) := (blk_cell BK773.out 4).trans rfl
    have hfz18_0 := blk_frozen BK773.out 0
    have hfz18_1 := blk_frozen BK773.out 1
    have hfz18_2 := blk_frozen BK773.out 2
    have hfz18_3 := blk_frozen BK773.out 3
    have hfz18_4 := blk_frozen BK773.out 4
    try go_wp2
    refine bodyPost_ret (results_ct rfl _ _ gb773 34 #[.string a1_0, .bool a1_1, .string a1_2, .int .i64 a1_3, .int .i64 a1_4] (0, 0) _ rfl (by (with_reducible repeat (first | refine blk_drewN ?_ _ | refine blk_drew ?_ | refine blk_alloc ?_ _)); refine blk_put (cs := #[.string a1_0, .bool a1_1, .string a1_2, .int .i64 a1_3, .int .i64 0]) ?_ 4 _ rfl; (with_reducible repeat (first | refine blk_drewN ?_ _ | refine blk_drew ?_ | refine blk_alloc ?_ _)); refine blk_put (cs := #[.string a1_0, .bool a1_1, .string a1_2, .int .i64 0, .int .i64 0]) ?_ 3 _ rfl; (with_reducible repeat (first | refine blk_drewN ?_ _ | refine blk_drew ?_ | refine blk_alloc ?_ _)); refine blk_put (cs := #[.string a1_0, .bool a1_1, .string (⟨#[]⟩ : ByteArray), .int .i64 0, .int .i64 0]) ?_ 2 _ rfl; (with_reducible repeat (first | refine blk_drewN ?_ _ | refine blk_drew ?_ | refine blk_alloc ?_ _)); refine blk_put (cs := #[.string a1_0, .bool false, .string (⟨#[]⟩ : ByteArray), .int .i64 0, .int .i64 0]) ?_ 1 _ rfl; (with_reducible repeat (first | refine blk_drewN ?_ _ | refine blk_drew ?_ | refine blk_alloc ?_ _)); refine blk_put (cs := #[.string (⟨#[]⟩ : ByteArray), .bool false, .string (⟨#[]⟩ : ByteArray), .int .i64 0, .int .i64 0]) ?_ 0 _ rfl; (with_reducible repeat (first | refine blk_drewN ?_ _ | refine blk_drew ?_ | refine blk_alloc ?_ _)); exact BK773.out) Tryz.underlying34 rfl (by kernel_rfl)) rfl ?_
    exact ⟨by first | rfl | (simp [errW_none, errW_some] <;> rfl) | (simp [*, errW_none, errW_some] <;> rfl), by repeat (first | (with_reducible first | exact HB.out | apply below_alloc | apply pw_below_drewN | apply below_drew1 | refine below_set ?_ GE771.out | refine below_set ?_ GE772.out | refine below_set ?_ GE773.out) | exact HB.out)⟩
  · rw [if_neg c6] at H
    have c6b0 : (t776 == 1) = false := beq_eq_false_iff_ne.mpr c6
    have c6b1 : (t776 != 1) = true := bne_iff_ne.mpr c6
    by_cases c19 : t776 = 2
    · rw [if_pos c19] at H
      have c19b0 : (t776 == 2) = true := beq_iff_eq.mpr c19
      have c19b1 : (t776 != 2) = false := bne_eq_false_iff_eq.mpr c19
      clear c19
      simp only [Option.some.injEq, Prod.mk.injEq] at H
      obtain ⟨rfl, rfl, rfl, rfl, rfl, rfl⟩ := H
      go_enter Tryz.func47, Tryz.ntmps47
      try go_wp2_with (first | ((with_reducible refine gate_dst (N := 2) rfl ?_); refine box_event ?hg (N := 2) ?hd (cs := #[.string a0_0, .bool a0_1, .string a0_2, .int .i64 a0_3, .int .i64 a0_4]) (t := 34) ?hr ?_; (case hd => rfl); (case hg => rfl); (case hr => first | (go_simp; done) | (go_simp; rfl)); intro gb771 hg w20 hbox hb; have n0_ := Aside0.mk (below_step (by repeat (first | (with_reducible first | exact HB.out | apply below_alloc | apply pw_below_drewN | apply below_drew1) | exact HB.out)) hb); have n1_ := Aside0.mk (hbox); have n2_ := Aside0.mk ((by rw [hg]; exact (below_size (by repeat (first | (with_reducible first | exact HB.out | apply below_alloc | apply pw_below_drewN | apply below_drew1) | exact HB.out))) : w.heap.size ≤ gb771)); have n3_ := Aside0.mk ((by rw [hg]; exact (below_size (by repeat (first | (with_reducible first | exact HB.out | apply below_alloc | apply pw_below_drewN | apply below_drew1) | exact HB.out))) : w.heap.size ≤ gb771)); clear HB; have HB := n0_; have BK771 := n1_; have GW771 := n2_; have GE771 := n3_; clear n0_ n1_ n2_ n3_; clear hb hbox hg) | ((with_reducible refine gate_dst (N := 3) rfl ?_); refine box_event ?hg (N := 3) ?hd (cs := #[.string a1_0, .bool a1_1, .string a1_2, .int .i64 a1_3, .int .i64 a1_4]) (t := 34) ?hr ?_; (case hd => rfl); (case hg => rfl); (case hr => first | (go_simp; done) | (go_simp; rfl)); intro gb772 hg w21 hbox hb; have n0_ := Aside0.mk (blk_below (g := gb771) (o := .cells #[.string a0_0, .bool a0_1, .string a0_2, .int .i64 a0_3, .int .i64 a0_4] 34 (0, 0)) (by (with_reducible repeat (first | refine blk_drewN ?_ _ | refine blk_drew ?_ | refine blk_alloc ?_ _)); exact BK771.out) hb); have n1_ := Aside0.mk (below_step (by repeat (first | (with_reducible first | exact HB.out | apply below_alloc | apply pw_below_drewN | apply below_drew1 | refine below_set ?_ GE771.out) | exact HB.out)) hb); have n2_ := Aside0.mk (hbox); have n3_ := Aside0.mk ((by rw [hg]; exact (below_size (by repeat (first | (with_reducible first | exact HB.out | apply below_alloc | apply pw_below_drewN | apply below_drew1 | refine below_set ?_ GE771.out) | exact HB.out))) : w.heap.size ≤ gb772)); have n4_ := Aside0.mk ((by rw [hg]; exact (below_size (by repeat (first | (with_reducible first | exact HB.out | apply below_alloc | apply pw_below_drewN | apply below_drew1 | refine below_set ?_ GE771.out) | exact HB.out))) : w.heap.size ≤ gb772)); have n5_ := Aside0.mk ((by rw [hg]; exact Nat.ne_of_lt (blk_lt (g := gb771) (o := .cells #[.string a0_0, .bool a0_1, .string a0_2, .int .i64 a0_3, .int .i64 a0_4] 34 (0, 0)) (by (with_reducible repeat (first | refine blk_drewN ?_ _ | refine blk_drew ?_ | refine blk_alloc ?_ _)); exact BK771.out)) : gb771 ≠ gb772)); have n6_ := Aside0.mk ((by rw [hg]; exact Nat.ne_of_gt (blk_lt (g := gb771) (o := .cells #[.string a0_0, .bool a0_1, .string a0_2, .int .i64 a0_3, .int .i64 a0_4] 34 (0, 0)) (by (with_reducible repeat (first | refine blk_drewN ?_ _ | refine blk_drew ?_ | refine blk_alloc ?_ _)); exact BK771.out)) : gb772 ≠ gb771)); clear BK771; clear HB; have BK771 := n0_; have HB := n1_; have BK772 := n2_; have GW772 := n3_; have GE772 := n4_; have NB771_772 := n5_; have NB772_771 := n6_; clear n0_ n1_ n2_ n3_ n4_ n5_ n6_; clear hb hbox hg) | ((with_reducible refine gate_dst (N := 4) rfl ?_); refine box_event ?hg (N := 4) ?hd (cs := #[.string (⟨#[]⟩ : ByteArray), .bool false, .string (⟨#[]⟩ : ByteArray), .int .i64 0, .int .i64 0]) (t := 34) ?hr ?_; (case hd => rfl); (case hg => rfl); (case hr => first | (go_simp; done) | (go_simp; rfl)); intro gb773 hg w22 hbox hb; have n0_ := Aside0.mk (blk_below (g := gb771) (o := .cells #[.string a0_0, .bool a0_1, .string a0_2, .int .i64 a0_3, .int .i64 a0_4] 34 (0, 0)) (by (with_reducible repeat (first | refine blk_drewN ?_ _ | refine blk_drew ?_ | refine blk_alloc ?_ _)); exact BK771.out) hb); have n1_ := Aside0.mk (blk_below (g := gb772) (o := .cells #[.string a1_0, .bool a1_1, .string a1_2, .int .i64 a1_3, .int .i64 a1_4] 34 (0, 0)) (by (with_reducible repeat (first | refine blk_drewN ?_ _ | refine blk_drew ?_ | refine blk_alloc ?_ _)); exact BK772.out) hb); have n2_ := Aside0.mk (below_step (by repeat (first | (with_reducible first | exact HB.out | apply below_alloc | apply pw_below_drewN | apply below_drew1 | refine below_set ?_ GE771.out | refine below_set ?_ GE772.out) | exact HB.out)) hb); have n3_ := Aside0.mk (hbox); have n4_ := Aside0.mk ((by rw [hg]; exact (below_size (by repeat (first | (with_reducible first | exact HB.out | apply below_alloc | apply pw_below_drewN | apply below_drew1 | refine below_set ?_ GE771.out | refine below_set ?_ GE772.out) | exact HB.out))) : w.heap.size ≤ gb773)); have n5_ := Aside0.mk ((by rw [hg]; exact (below_size (by repeat (first | (with_reducible first | exact HB.out | apply below_alloc | apply pw_below_drewN | apply below_drew1 | refine below_set ?_ GE771.out | refine below_set ?_ GE772.out) | exact HB.out))) : w.heap.size ≤ gb773)); have n6_ := Aside0.mk ((by rw [hg]; exact Nat.ne_of_lt (blk_lt (g := gb771) (o := .cells #[.string a0_0, .bool a0_1, .string a0_2, .int .i64 a0_3, .int .i64 a0_4] 34 (0, 0)) (by (with_reducible repeat (first | refine blk_drewN ?_ _ | refine blk_drew ?_ | refine blk_alloc ?_ _)); exact BK771.out)) : gb771 ≠ gb773)); have n7_ := Aside0.mk ((by rw [hg]; exact Nat.ne_of_gt (blk_lt (g := gb771) (o := .cells #[.string a0_0, .bool a0_1, .string a0_2, .int .i64 a0_3, .int .i64 a0_4] 34 (0, 0)) (by (with_reducible repeat (first | refine blk_drewN ?_ _ | refine blk_drew ?_ | refine blk_alloc ?_ _)); exact BK771.out)) : gb773 ≠ gb771)); have n8_ := Aside0.mk ((by rw [hg]; exact Nat.ne_of_lt (blk_lt (g := gb772) (o := .cells #[.string a1_0, .bool a1_1, .string a1_2, .int .i64 a1_3, .int .i64 a1_4] 34 (0, 0)) (by (with_reducible repeat (first | refine blk_drewN ?_ _ | refine blk_drew ?_ | refine blk_alloc ?_ _)); exact BK772.out)) : gb772 ≠ gb773)); have n9_ := Aside0.mk ((by rw [hg]; exact Nat.ne_of_gt (blk_lt (g := gb772) (o := .cells #[.string a1_0, .bool a1_1, .string a1_2, .int .i64 a1_3, .int .i64 a1_4] 34 (0, 0)) (by (with_reducible repeat (first | refine blk_drewN ?_ _ | refine blk_drew ?_ | refine blk_alloc ?_ _)); exact BK772.out)) : gb773 ≠ gb772)); clear BK771; clear BK772; clear HB; have BK771 := n0_; have BK772 := n1_; have HB := n2_; have BK773 := n3_; have GW773 := n4_; have GE773 := n5_; have NB771_773 := n6_; have NB773_771 := n7_; have NB772_773 := n8_; have NB773_772 := n9_; clear n0_ n1_ n2_ n3_ n4_ n5_ n6_ n7_ n8_ n9_; clear hb hbox hg))
      have n0_ := Aside0.mk (blk_drew BK771.out)
      have n1_ := Aside0.mk (blk_drew BK772.out)
      have n2_ := Aside0.mk (blk_drew BK773.out)
      have n3_ := Aside0.mk (below_drew1 HB.out)
      clear BK771
      clear BK772
      clear BK773
      clear HB
      have BK771 := n0_
      have BK772 := n1_
      have BK773 := n2_
      have HB := n3_
      clear n0_ n1_ n2_ n3_
      refine start_ (n := 8) (S := fun w' => w'.cell? ⟨gb771, 0, none⟩ = some (.string a0_0) ∧ w'.cell? ⟨gb771, 1, none⟩ = some (.bool a0_1) ∧ w'.cell? ⟨gb771, 2, none⟩ = some (.string a0_2) ∧ w'.cell? ⟨gb771, 3, none⟩ = some (.int .i64 a0_3) ∧ w'.cell? ⟨gb771, 4, none⟩ = some (.int .i64 a0_4) ∧ w'.cell? ⟨gb772, 0, none⟩ = some (.string a1_0) ∧ w'.cell? ⟨gb772, 1, none⟩ = some (.bool a1_1) ∧ w'.cell? ⟨gb772, 2, none⟩ = some (.string a1_2) ∧ w'.cell? ⟨gb772, 3, none⟩ = some (.int .i64 a1_3) ∧ w'.cell? ⟨gb772, 4, none⟩ = some (.int .i64 a1_4)) (ds := []) #[false, false, false, false, false, false, false, false] (by kernel_rfl) rfl rfl ⟨(blk_cell BK771.out 0).trans rfl, (blk_cell BK771.out 1).trans rfl, (blk_cell BK771.out 2).trans rfl, (blk_cell BK771.out 3).trans rfl, (blk_cell BK771.out 4).trans rfl, (blk_cell BK772.out 0).trans rfl, (blk_cell BK772.out 1).trans rfl, (blk_cell BK772.out 2).trans rfl, (blk_cell BK772.out 3).trans rfl, (blk_cell BK772.out 4).trans rfl⟩ (fun hHeld => ?_); refine with_tabW recon_come.tab1 recon_come.bits1 (fun HT_ HW_ => ?_)
      generalize w22.drew = w23 at BK771 BK772 BK773 HB hHeld ⊢
      refine pure_ (i := 0) (N := some 7) (v := ?_) (a' := ?_) #[true, false, false, false, false, false, false, false] rfl rfl (any_of HT_.out (by kernel_rfl)) (fun _ _ _ h => h) (Or.inl ⟨by rfl, ?_⟩) ?_ ?_
      rotate_left
      · intro w'
        go_simp
        with_reducible rfl
      rotate_left
      · simp only [Act.put, List.setIfInBounds_toArray, List.set_cons_zero, List.set_cons_succ, i64_w, i32_w]
        rfl
      refine pure_ (i := 3) (N := some 10) (v := ?_) (a' := ?_) #[true, false, false, true, false, false, false, false] rfl rfl (any_of HT_.out (by kernel_rfl)) (fun _ _ _ h => h) (Or.inl ⟨by rfl, ?_⟩) ?_ ?_
      rotate_left
      · intro w'
        go_simp
        with_reducible rfl
      rotate_left
      · simp only [Act.put, List.setIfInBounds_toArray, List.set_cons_zero, List.set_cons_succ, i64_w, i32_w]
        rfl
      refine take_ (i := 1) (N := some 8) (v := ?_) (a' := ?_) #[true, true, false, true, false, false, false, false] rfl rfl (take_ofW HT_.out HW_.out (by kernel_rfl)) (fun _ _ _ h => h) (Or.inl ⟨by rfl, ?_⟩) hHeld ?_ ?_
      rotate_left
      · rintro w' ⟨s0, s1, s2, s3, s4, s5, s6, s7, s8, s9⟩
        go_simp
        with_reducible rfl
      rotate_left
      · simp only [Act.put, List.setIfInBounds_toArray, List.set_cons_zero, List.set_cons_succ, i64_w, i32_w]
        rfl
      refine take_ (i := 4) (N := some 11) (v := ?_) (a' := ?_) #[true, true, false, true, true, false, false, false] rfl rfl (take_ofW HT_.out HW_.out (by kernel_rfl)) (fun _ _ _ h => h) (Or.inl ⟨by rfl, ?_⟩) hHeld ?_ ?_
      rotate_left
      · rintro w' ⟨s0, s1, s2, s3, s4, s5, s6, s7, s8, s9⟩
        go_simp
        with_reducible rfl
      rotate_left
      · simp only [Act.put, List.setIfInBounds_toArray, List.set_cons_zero, List.set_cons_succ, i64_w, i32_w]
        rfl
      refine one_ (i := 2) (N := some 9) #[true, true, true, true, true, false, false, false] rfl rfl (one_of HT_.out (by kernel_rfl)) (by decide) (fun K hK => ?_)
      refine goes_ Tryz.func67 (by kernel_rfl) rfl #[.agg #[.int .i64 a0_3, .int .i64 a0_4]] (by rfl) rfl rfl (by (try simp only [List.map_toArray, List.map_cons, List.map_nil]); first | done | rfl | (simp only [List.length_drop, List.length_take]; rfl)) ?_
      with_reducible refine (clock_Of.calls a0_3 a0_4 t774 _ A3.out).mono ?_
      rintro e w24 ⟨rfl, hb⟩
      refine ⟨_, rfl, ?_⟩
      have n0_ := Aside0.mk (blk_below (g := gb771) (o := .cells #[.string a0_0, .bool a0_1, .string a0_2, .int .i64 a0_3, .int .i64 a0_4] 34 (0, 0)) (by (with_reducible repeat (first | refine blk_drewN ?_ _ | refine blk_drew ?_ | refine blk_alloc ?_ _)); exact BK771.out) hb)
      have n1_ := Aside0.mk (blk_below (g := gb772) (o := .cells #[.string a1_0, .bool a1_1, .string a1_2, .int .i64 a1_3, .int .i64 a1_4] 34 (0, 0)) (by (with_reducible repeat (first | refine blk_drewN ?_ _ | refine blk_drew ?_ | refine blk_alloc ?_ _)); exact BK772.out) hb)
      have n2_ := Aside0.mk (blk_below (g := gb773) (o := .cells #[.string (⟨#[]⟩ : ByteArray), .bool false, .string (⟨#[]⟩ : ByteArray), .int .i64 0, .int .i64 0] 34 (0, 0)) (by (with_reducible repeat (first | refine blk_drewN ?_ _ | refine blk_drew ?_ | refine blk_alloc ?_ _)); exact BK773.out) hb)
      have n3_ := Aside0.mk (below_step (by repeat (first | (with_reducible first | exact HB.out | apply below_alloc | apply pw_below_drewN | apply below_drew1 | refine below_set ?_ GE771.out | refine below_set ?_ GE772.out | refine below_set ?_ GE773.out) | exact HB.out)) hb)
      clear BK771
      clear BK772
      clear BK773
      clear HB
      have BK771 := n0_
      have BK772 := n1_
      have BK773 := n2_
      have HB := n3_
      clear n0_ n1_ n2_ n3_
      (try clear hb)
      (try clear hb2)
      (try clear hk)
      (try clear hi)
      refine hK.out _ _ ⟨(blk_cell BK771.out 0).trans rfl, (blk_cell BK771.out 1).trans rfl, (blk_cell BK771.out 2).trans rfl, (blk_cell BK771.out 3).trans rfl, (blk_cell BK771.out 4).trans rfl, (blk_cell BK772.out 0).trans rfl, (blk_cell BK772.out 1).trans rfl, (blk_cell BK772.out 2).trans rfl, (blk_cell BK772.out 3).trans rfl, (blk_cell BK772.out 4).trans rfl⟩ (fun hHeld => ?_)
      clear hK K
      refine norm_ (a' := ?_) ?_ ?_
      rotate_left
      · show Act.put _ (some 9) _ = _
        simp only [Act.put, List.setIfInBounds_toArray, List.set_cons_zero, List.set_cons_succ, i64_w, i32_w]
        rfl
      refine one_ (i := 5) (N := some 12) #[true, true, true, true, true, true, false, false] rfl rfl (one_of HT_.out (by kernel_rfl)) (by decide) (fun K hK => ?_)
      refine goes_ Tryz.func67 (by kernel_rfl) rfl #[.agg #[.int .i64 a1_3, .int .i64 a1_4]] (by rfl) rfl rfl (by (try simp only [List.map_toArray, List.map_cons, List.map_nil]); first | done | rfl | (simp only [List.length_drop, List.length_take]; rfl)) ?_
      with_reducible refine (clock_Of.calls a1_3 a1_4 t775 _ A4.out).mono ?_
      rintro e w25 ⟨rfl, hb⟩
      refine ⟨_, rfl, ?_⟩
      have n0_ := Aside0.mk (blk_below (g := gb771) (o := .cells #[.string a0_0, .bool a0_1, .string a0_2, .int .i64 a0_3, .int .i64 a0_4] 34 (0, 0)) (by (with_reducible repeat (first | refine blk_drewN ?_ _ | refine blk_drew ?_ | refine blk_alloc ?_ _)); exact BK771.out) hb)
      have n1_ := Aside0.mk (blk_below (g := gb772) (o := .cells #[.string a1_0, .bool a1_1, .string a1_2, .int .i64 a1_3, .int .i64 a1_4] 34 (0, 0)) (by (with_reducible repeat (first | refine blk_drewN ?_ _ | refine blk_drew ?_ | refine blk_alloc ?_ _)); exact BK772.out) hb)
      have n2_ := Aside0.mk (blk_below (g := gb773) (o := .cells #[.string (⟨#[]⟩ : ByteArray), .bool false, .string (⟨#[]⟩ : ByteArray), .int .i64 0, .int .i64 0] 34 (0, 0)) (by (with_reducible repeat (first | refine blk_drewN ?_ _ | refine blk_drew ?_ | refine blk_alloc ?_ _)); exact BK773.out) hb)
      have n3_ := Aside0.mk (below_step (by repeat (first | (with_reducible first | exact HB.out | apply below_alloc | apply pw_below_drewN | apply below_drew1 | refine below_set ?_ GE771.out | refine below_set ?_ GE772.out | refine below_set ?_ GE773.out) | exact HB.out)) hb)
      clear BK771
      clear BK772
      clear BK773
      clear HB
      have BK771 := n0_
      have BK772 := n1_
      have BK773 := n2_
      have HB := n3_
      clear n0_ n1_ n2_ n3_
      (try clear hb)
      (try clear hb2)
      (try clear hk)
      (try clear hi)
      refine hK.out _ _ ⟨(blk_cell BK771.out 0).trans rfl, (blk_cell BK771.out 1).trans rfl, (blk_cell BK771.out 2).trans rfl, (blk_cell BK771.out 3).trans rfl, (blk_cell BK771.out 4).trans rfl, (blk_cell BK772.out 0).trans rfl, (blk_cell BK772.out 1).trans rfl, (blk_cell BK772.out 2).trans rfl, (blk_cell BK772.out 3).trans rfl, (blk_cell BK772.out 4).trans rfl⟩ (fun hHeld => ?_)
      clear hK K
      refine norm_ (a' := ?_) ?_ ?_
      rotate_left
      · show Act.put _ (some 12) _ = _
        simp only [Act.put, List.setIfInBounds_toArray, List.set_cons_zero, List.set_cons_succ, i64_w, i32_w]
        rfl
      refine one_ (i := 6) (N := some 13) #[true, true, true, true, true, true, true, false] rfl rfl (one_of HT_.out (by kernel_rfl)) (by decide) (fun K hK => ?_)
      refine goes_ Tryz.func86 (by kernel_rfl) rfl #[cpx t774, cpx t775] (by rfl) rfl rfl (by (try simp only [List.map_toArray, List.map_cons, List.map_nil]); first | done | rfl | (simp only [List.length_drop, List.length_take]; rfl)) ?_
      with_reducible refine (clock_Order.calls t774 t775 t776 _ A5.out).mono ?_
      rintro e w26 ⟨rfl, hb⟩
      refine ⟨_, rfl, ?_⟩
      have n0_ := Aside0.mk (blk_below (g := gb771) (o := .cells #[.string a0_0, .bool a0_1, .string a0_2, .int .i64 a0_3, .int .i64 a0_4] 34 (0, 0)) (by (with_reducible repeat (first | refine blk_drewN ?_ _ | refine blk_drew ?_ | refine blk_alloc ?_ _)); exact BK771.out) hb)
      have n1_ := Aside0.mk (blk_below (g := gb772) (o := .cells #[.string a1_0, .bool a1_1, .string a1_2, .int .i64 a1_3, .int .i64 a1_4] 34 (0, 0)) (by (with_reducible repeat (first | refine blk_drewN ?_ _ | refine blk_drew ?_ | refine blk_alloc ?_ _)); exact BK772.out) hb)
      have n2_ := Aside0.mk (blk_below (g := gb773) (o := .cells #[.string (⟨#[]⟩ : ByteArray), .bool false, .string (⟨#[]⟩ : ByteArray), .int .i64 0, .int .i64 0] 34 (0, 0)) (by (with_reducible repeat (first | refine blk_drewN ?_ _ | refine blk_drew ?_ | refine blk_alloc ?_ _)); exact BK773.out) hb)
      have n3_ := Aside0.mk (below_step (by repeat (first | (with_reducible first | exact HB.out | apply below_alloc | apply pw_below_drewN | apply below_drew1 | refine below_set ?_ GE771.out | refine below_set ?_ GE772.out | refine below_set ?_ GE773.out) | exact HB.out)) hb)
      clear BK771
      clear BK772
      clear BK773
      clear HB
      have BK771 := n0_
      have BK772 := n1_
      have BK773 := n2_
      have HB := n3_
      clear n0_ n1_ n2_ n3_
      (try clear hb)
      (try clear hb2)
      (try clear hk)
      (try clear hi)
      refine hK.out _ _ ⟨(blk_cell BK771.out 0).trans rfl, (blk_cell BK771.out 1).trans rfl, (blk_cell BK771.out 2).trans rfl, (blk_cell BK771.out 3).trans rfl, (blk_cell BK771.out 4).trans rfl, (blk_cell BK772.out 0).trans rfl, (blk_cell BK772.out 1).trans rfl, (blk_cell BK772.out 2).trans rfl, (blk_cell BK772.out 3).trans rfl, (blk_cell BK772.out 4).trans rfl⟩ (fun hHeld => ?_)
      clear hK K
      refine norm_ (a' := ?_) ?_ ?_
      rotate_left
      · show Act.put _ (some 13) _ = _
        simp only [Act.put, List.setIfInBounds_toArray, List.set_cons_zero, List.set_cons_succ, i64_w, i32_w]
        rfl
      refine pure_ (i := 7) (N := some 6) (v := ?_) (a' := ?_) #[true, true, true, true, true, true, true, true] rfl rfl (any_of HT_.out (by kernel_rfl)) (fun _ _ _ h => h) (Or.inl ⟨by rfl, ?_⟩) ?_ ?_
      rotate_left
      · intro w'
        go_simp
        with_reducible rfl
      rotate_left
      · simp only [Act.put, List.setIfInBounds_toArray, List.set_cons_zero, List.set_cons_succ, i64_w, i32_w]
        rfl
      refine done_ (done_of HT_.out (by kernel_rfl)) ?_
      have hnb27 := NB771_772.out
      have hnc27 := NB772_771.out
      have hnb28 := NB771_773.out
      have hnc28 := NB773_771.out
      have hcz29_0 : w26.cell? ⟨gb771, 0, none⟩ = some (.string a0_0) := (blk_cell BK771.out 0).trans rfl
      have hcz29_1 : w26.cell? ⟨gb771, 1, none⟩ = some (.bool a0_1) := (blk_cell BK771.out 1).trans rfl
      have hcz29_2 : w26.cell? ⟨gb771, 2, none⟩ = some (.string a0_2) := (blk_cell BK771.out 2).trans rfl
      have hcz29_3 : w26.cell? ⟨gb771, 3, none⟩ = some (.int .i64 a0_3) := (blk_cell BK771.out 3).trans rfl
      have hcz29_4 : w26.cell? ⟨gb771, 4, none⟩ = some (.int .i64 a0_4) := (blk_cell BK771.out 4).trans rfl
      have hfz29_0 := blk_frozen BK771.out 0
      have hfz29_1 := blk_frozen BK771.out 1
      have hfz29_2 := blk_frozen BK771.out 2
      have hfz29_3 := blk_frozen BK771.out 3
      have hfz29_4 := blk_frozen BK771.out 4
      have hnb30 := NB773_772.out
      have hnc30 := NB772_773.out
      have hcz31_0 : w26.cell? ⟨gb773, 0, none⟩ = some (.string (⟨#[]⟩ : ByteArray)) := (blk_cell BK773.out 0).trans rfl
      have hcz31_1 : w26.cell? ⟨gb773, 1, none⟩ = some (.bool false) := (blk_cell BK773.out 1).trans rfl
      have hcz31_2 : w26.cell? ⟨gb773, 2, none⟩ = some (.string (⟨#[]⟩ : ByteArray)) := (blk_cell BK773.out 2).trans rfl
      have hcz31_3 : w26.cell? ⟨gb773, 3, none⟩ = some (.int .i64 0) := (blk_cell BK773.out 3).trans rfl
      have hcz31_4 : w26.cell? ⟨gb773, 4, none⟩ = some (.int .i64 0) := (blk_cell BK773.out 4).trans rfl
      have hfz31_0 := blk_frozen BK773.out 0
      have hfz31_1 := blk_frozen BK773.out 1
      have hfz31_2 := blk_frozen BK773.out 2
      have hfz31_3 := blk_frozen BK773.out 3
      have hfz31_4 := blk_frozen BK773.out 4
      try go_wp2
      refine bodyPost_ret (results_ct rfl _ _ gb773 34 #[.string a0_0, .bool a0_1, .string a0_2, .int .i64 a0_3, .int .i64 a0_4] (0, 0) _ rfl (by (with_reducible repeat (first | refine blk_drewN ?_ _ | refine blk_drew ?_ | refine blk_alloc ?_ _)); refine blk_put (cs := #[.string a0_0, .bool a0_1, .string a0_2, .int .i64 a0_3, .int .i64 0]) ?_ 4 _ rfl; (with_reducible repeat (first | refine blk_drewN ?_ _ | refine blk_drew ?_ | refine blk_alloc ?_ _)); refine blk_put (cs := #[.string a0_0, .bool a0_1, .string a0_2, .int .i64 0, .int .i64 0]) ?_ 3 _ rfl; (with_reducible repeat (first | refine blk_drewN ?_ _ | refine blk_drew ?_ | refine blk_alloc ?_ _)); refine blk_put (cs := #[.string a0_0, .bool a0_1, .string (⟨#[]⟩ : ByteArray), .int .i64 0, .int .i64 0]) ?_ 2 _ rfl; (with_reducible repeat (first | refine blk_drewN ?_ _ | refine blk_drew ?_ | refine blk_alloc ?_ _)); refine blk_put (cs := #[.string a0_0, .bool false, .string (⟨#[]⟩ : ByteArray), .int .i64 0, .int .i64 0]) ?_ 1 _ rfl; (with_reducible repeat (first | refine blk_drewN ?_ _ | refine blk_drew ?_ | refine blk_alloc ?_ _)); refine blk_put (cs := #[.string (⟨#[]⟩ : ByteArray), .bool false, .string (⟨#[]⟩ : ByteArray), .int .i64 0, .int .i64 0]) ?_ 0 _ rfl; (with_reducible repeat (first | refine blk_drewN ?_ _ | refine blk_drew ?_ | refine blk_alloc ?_ _)); exact BK773.out) Tryz.underlying34 rfl (by kernel_rfl)) rfl ?_
      exact ⟨by first | rfl | (simp [errW_none, errW_some] <;> rfl) | (simp [*, errW_none, errW_some] <;> rfl), by repeat (first | (with_reducible first | exact HB.out | apply below_alloc | apply pw_below_drewN | apply below_drew1 | refine below_set ?_ GE771.out | refine below_set ?_ GE772.out | refine below_set ?_ GE773.out) | exact HB.out)⟩
    · rw [if_neg c19] at H
      have c19b0 : (t776 == 2) = false := beq_eq_false_iff_ne.mpr c19
      have c19b1 : (t776 != 2) = true := bne_iff_ne.mpr c19
      replace H := Option.bind_eq_some_iff.mp H
      obtain ⟨t777, A320, H⟩ := H
      replace H : (if t777 = true then ((recon_joined.f a0_0 a0_1 a0_2 a0_3 a0_4 a1_0 a1_1 a1_2 a1_3 a1_4).bind fun bt778 => (some (bt778.1, bt778.2.1, bt778.2.2.1, bt778.2.2.2.1, bt778.2.2.2.2, false))) else (some (a0_0, a0_1, a0_2, a0_3, a0_4, true))) = some (r1, r2, r3, r4, r5, r6) := H
      have A32 := Aside0.mk A320
      clear A320
      by_cases c33 : t777 = true
      · subst c33
        have H1 : ((recon_joined.f a0_0 a0_1 a0_2 a0_3 a0_4 a1_0 a1_1 a1_2 a1_3 a1_4).bind fun bt778 => (some (bt778.1, bt778.2.1, bt778.2.2.1, bt778.2.2.2.1, bt778.2.2.2.2, false))) = some (r1, r2, r3, r4, r5, r6) := by rw [if_pos rfl] at H; exact H
        clear H
        have H := H1
        clear H1
        replace H := Option.bind_eq_some_iff.mp H
        obtain ⟨⟨t778, t779, t780, t781, t782⟩, A340, H⟩ := H
        replace H : (some (t778, t779, t780, t781, t782, false)) = some (r1, r2, r3, r4, r5, r6) := H
        have A34 := Aside0.mk A340
        clear A340
        simp only [Option.some.injEq, Prod.mk.injEq] at H
        obtain ⟨rfl, rfl, rfl, rfl, rfl, rfl⟩ := H
        go_enter Tryz.func47, Tryz.ntmps47
        try go_wp2_with (first | ((with_reducible refine gate_dst (N := 2) rfl ?_); refine box_event ?hg (N := 2) ?hd (cs := #[.string a0_0, .bool a0_1, .string a0_2, .int .i64 a0_3, .int .i64 a0_4]) (t := 34) ?hr ?_; (case hd => rfl); (case hg => rfl); (case hr => first | (go_simp; done) | (go_simp; rfl)); intro gb771 hg w35 hbox hb; have n0_ := Aside0.mk (below_step (by repeat (first | (with_reducible first | exact HB.out | apply below_alloc | apply pw_below_drewN | apply below_drew1) | exact HB.out)) hb); have n1_ := Aside0.mk (hbox); have n2_ := Aside0.mk ((by rw [hg]; exact (below_size (by repeat (first | (with_reducible first | exact HB.out | apply below_alloc | apply pw_below_drewN | apply below_drew1) | exact HB.out))) : w.heap.size ≤ gb771)); have n3_ := Aside0.mk ((by rw [hg]; exact (below_size (by repeat (first | (with_reducible first | exact HB.out | apply below_alloc | apply pw_below_drewN | apply below_drew1) | exact HB.out))) : w.heap.size ≤ gb771)); clear HB; have HB := n0_; have BK771 := n1_; have GW771 := n2_; have GE771 := n3_; clear n0_ n1_ n2_ n3_; clear hb hbox hg) | ((with_reducible refine gate_dst (N := 3) rfl ?_); refine box_event ?hg (N := 3) ?hd (cs := #[.string a1_0, .bool a1_1, .string a1_2, .int .i64 a1_3, .int .i64 a1_4]) (t := 34) ?hr ?_; (case hd => rfl); (case hg => rfl); (case hr => first | (go_simp; done) | (go_simp; rfl)); intro gb772 hg w36 hbox hb; have n0_ := Aside0.mk (blk_below (g := gb771) (o := .cells #[.string a0_0, .bool a0_1, .string a0_2, .int .i64 a0_3, .int .i64 a0_4] 34 (0, 0)) (by (with_reducible repeat (first | refine blk_drewN ?_ _ | refine blk_drew ?_ | refine blk_alloc ?_ _)); exact BK771.out) hb); have n1_ := Aside0.mk (below_step (by repeat (first | (with_reducible first | exact HB.out | apply below_alloc | apply pw_below_drewN | apply below_drew1 | refine below_set ?_ GE771.out) | exact HB.out)) hb); have n2_ := Aside0.mk (hbox); have n3_ := Aside0.mk ((by rw [hg]; exact (below_size (by repeat (first | (with_reducible first | exact HB.out | apply below_alloc | apply pw_below_drewN | apply below_drew1 | refine below_set ?_ GE771.out) | exact HB.out))) : w.heap.size ≤ gb772)); have n4_ := Aside0.mk ((by rw [hg]; exact (below_size (by repeat (first | (with_reducible first | exact HB.out | apply below_alloc | apply pw_below_drewN | apply below_drew1 | refine below_set ?_ GE771.out) | exact HB.out))) : w.heap.size ≤ gb772)); have n5_ := Aside0.mk ((by rw [hg]; exact Nat.ne_of_lt (blk_lt (g := gb771) (o := .cells #[.string a0_0, .bool a0_1, .string a0_2, .int .i64 a0_3, .int .i64 a0_4] 34 (0, 0)) (by (with_reducible repeat (first | refine blk_drewN ?_ _ | refine blk_drew ?_ | refine blk_alloc ?_ _)); exact BK771.out)) : gb771 ≠ gb772)); have n6_ := Aside0.mk ((by rw [hg]; exact Nat.ne_of_gt (blk_lt (g := gb771) (o := .cells #[.string a0_0, .bool a0_1, .string a0_2, .int .i64 a0_3, .int .i64 a0_4] 34 (0, 0)) (by (with_reducible repeat (first | refine blk_drewN ?_ _ | refine blk_drew ?_ | refine blk_alloc ?_ _)); exact BK771.out)) : gb772 ≠ gb771)); clear BK771; clear HB; have BK771 := n0_; have HB := n1_; have BK772 := n2_; have GW772 := n3_; have GE772 := n4_; have NB771_772 := n5_; have NB772_771 := n6_; clear n0_ n1_ n2_ n3_ n4_ n5_ n6_; clear hb hbox hg) | ((with_reducible refine gate_dst (N := 4) rfl ?_); refine box_event ?hg (N := 4) ?hd (cs := #[.string (⟨#[]⟩ : ByteArray), .bool false, .string (⟨#[]⟩ : ByteArray), .int .i64 0, .int .i64 0]) (t := 34) ?hr ?_; (case hd => rfl); (case hg => rfl); (case hr => first | (go_simp; done) | (go_simp; rfl)); intro gb773 hg w37 hbox hb; have n0_ := Aside0.mk (blk_below (g := gb771) (o := .cells #[.string a0_0, .bool a0_1, .string a0_2, .int .i64 a0_3, .int .i64 a0_4] 34 (0, 0)) (by (with_reducible repeat (first | refine blk_drewN ?_ _ | refine blk_drew ?_ | refine blk_alloc ?_ _)); exact BK771.out) hb); have n1_ := Aside0.mk (blk_below (g := gb772) (o := .cells #[.string a1_0, .bool a1_1, .string a1_2, .int .i64 a1_3, .int .i64 a1_4] 34 (0, 0)) (by (with_reducible repeat (first | refine blk_drewN ?_ _ | refine blk_drew ?_ | refine blk_alloc ?_ _)); exact BK772.out) hb); have n2_ := Aside0.mk (below_step (by repeat (first | (with_reducible first | exact HB.out | apply below_alloc | apply pw_below_drewN | apply below_drew1 | refine below_set ?_ GE771.out | refine below_set ?_ GE772.out) | exact HB.out)) hb); have n3_ := Aside0.mk (hbox); have n4_ := Aside0.mk ((by rw [hg]; exact (below_size (by repeat (first | (with_reducible first | exact HB.out | apply below_alloc | apply pw_below_drewN | apply below_drew1 | refine below_set ?_ GE771.out | refine below_set ?_ GE772.out) | exact HB.out))) : w.heap.size ≤ gb773)); have n5_ := Aside0.mk ((by rw [hg]; exact (below_size (by repeat (first | (with_reducible first | exact HB.out | apply below_alloc | apply pw_below_drewN | apply below_drew1 | refine below_set ?_ GE771.out | refine below_set ?_ GE772.out) | exact HB.out))) : w.heap.size ≤ gb773)); have n6_ := Aside0.mk ((by rw [hg]; exact Nat.ne_of_lt (blk_lt (g := gb771) (o := .cells #[.string a0_0, .bool a0_1, .string a0_2, .int .i64 a0_3, .int .i64 a0_4] 34 (0, 0)) (by (with_reducible repeat (first | refine blk_drewN ?_ _ | refine blk_drew ?_ | refine blk_alloc ?_ _)); exact BK771.out)) : gb771 ≠ gb773)); have n7_ := Aside0.mk ((by rw [hg]; exact Nat.ne_of_gt (blk_lt (g := gb771) (o := .cells #[.string a0_0, .bool a0_1, .string a0_2, .int .i64 a0_3, .int .i64 a0_4] 34 (0, 0)) (by (with_reducible repeat (first | refine blk_drewN ?_ _ | refine blk_drew ?_ | refine blk_alloc ?_ _)); exact BK771.out)) : gb773 ≠ gb771)); have n8_ := Aside0.mk ((by rw [hg]; exact Nat.ne_of_lt (blk_lt (g := gb772) (o := .cells #[.string a1_0, .bool a1_1, .string a1_2, .int .i64 a1_3, .int .i64 a1_4] 34 (0, 0)) (by (with_reducible repeat (first | refine blk_drewN ?_ _ | refine blk_drew ?_ | refine blk_alloc ?_ _)); exact BK772.out)) : gb772 ≠ gb773)); have n9_ := Aside0.mk ((by rw [hg]; exact Nat.ne_of_gt (blk_lt (g := gb772) (o := .cells #[.string a1_0, .bool a1_1, .string a1_2, .int .i64 a1_3, .int .i64 a1_4] 34 (0, 0)) (by (with_reducible repeat (first | refine blk_drewN ?_ _ | refine blk_drew ?_ | refine blk_alloc ?_ _)); exact BK772.out)) : gb773 ≠ gb772)); clear BK771; clear BK772; clear HB; have BK771 := n0_; have BK772 := n1_; have HB := n2_; have BK773 := n3_; have GW773 := n4_; have GE773 := n5_; have NB771_773 := n6_; have NB773_771 := n7_; have NB772_773 := n8_; have NB773_772 := n9_; clear n0_ n1_ n2_ n3_ n4_ n5_ n6_ n7_ n8_ n9_; clear hb hbox hg))
        have n0_ := Aside0.mk (blk_drew BK771.out)
        have n1_ := Aside0.mk (blk_drew BK772.out)
        have n2_ := Aside0.mk (blk_drew BK773.out)
        have n3_ := Aside0.mk (below_drew1 HB.out)
        clear BK771
        clear BK772
        clear BK773
        clear HB
        have BK771 := n0_
        have BK772 := n1_
        have BK773 := n2_
        have HB := n3_
        clear n0_ n1_ n2_ n3_
        refine start_ (n := 8) (S := fun w' => w'.cell? ⟨gb771, 0, none⟩ = some (.string a0_0) ∧ w'.cell? ⟨gb771, 1, none⟩ = some (.bool a0_1) ∧ w'.cell? ⟨gb771, 2, none⟩ = some (.string a0_2) ∧ w'.cell? ⟨gb771, 3, none⟩ = some (.int .i64 a0_3) ∧ w'.cell? ⟨gb771, 4, none⟩ = some (.int .i64 a0_4) ∧ w'.cell? ⟨gb772, 0, none⟩ = some (.string a1_0) ∧ w'.cell? ⟨gb772, 1, none⟩ = some (.bool a1_1) ∧ w'.cell? ⟨gb772, 2, none⟩ = some (.string a1_2) ∧ w'.cell? ⟨gb772, 3, none⟩ = some (.int .i64 a1_3) ∧ w'.cell? ⟨gb772, 4, none⟩ = some (.int .i64 a1_4)) (ds := []) #[false, false, false, false, false, false, false, false] (by kernel_rfl) rfl rfl ⟨(blk_cell BK771.out 0).trans rfl, (blk_cell BK771.out 1).trans rfl, (blk_cell BK771.out 2).trans rfl, (blk_cell BK771.out 3).trans rfl, (blk_cell BK771.out 4).trans rfl, (blk_cell BK772.out 0).trans rfl, (blk_cell BK772.out 1).trans rfl, (blk_cell BK772.out 2).trans rfl, (blk_cell BK772.out 3).trans rfl, (blk_cell BK772.out 4).trans rfl⟩ (fun hHeld => ?_); refine with_tabW recon_come.tab1 recon_come.bits1 (fun HT_ HW_ => ?_)
        generalize w37.drew = w38 at BK771 BK772 BK773 HB hHeld ⊢
        refine pure_ (i := 0) (N := some 7) (v := ?_) (a' := ?_) #[true, false, false, false, false, false, false, false] rfl rfl (any_of HT_.out (by kernel_rfl)) (fun _ _ _ h => h) (Or.inl ⟨by rfl, ?_⟩) ?_ ?_
        rotate_left
        · intro w'
          go_simp
          with_reducible rfl
        rotate_left
        · simp only [Act.put, List.setIfInBounds_toArray, List.set_cons_zero, List.set_cons_succ, i64_w, i32_w]
          rfl
        refine pure_ (i := 3) (N := some 10) (v := ?_) (a' := ?_) #[true, false, false, true, false, false, false, false] rfl rfl (any_of HT_.out (by kernel_rfl)) (fun _ _ _ h => h) (Or.inl ⟨by rfl, ?_⟩) ?_ ?_
        rotate_left
        · intro w'
          go_simp
          with_reducible rfl
        rotate_left
        · simp only [Act.put, List.setIfInBounds_toArray, List.set_cons_zero, List.set_cons_succ, i64_w, i32_w]
          rfl
        refine take_ (i := 1) (N := some 8) (v := ?_) (a' := ?_) #[true, true, false, true, false, false, false, false] rfl rfl (take_ofW HT_.out HW_.out (by kernel_rfl)) (fun _ _ _ h => h) (Or.inl ⟨by rfl, ?_⟩) hHeld ?_ ?_
        rotate_left
        · rintro w' ⟨s0, s1, s2, s3, s4, s5, s6, s7, s8, s9⟩
          go_simp
          with_reducible rfl
        rotate_left
        · simp only [Act.put, List.setIfInBounds_toArray, List.set_cons_zero, List.set_cons_succ, i64_w, i32_w]
          rfl
        refine take_ (i := 4) (N := some 11) (v := ?_) (a' := ?_) #[true, true, false, true, true, false, false, false] rfl rfl (take_ofW HT_.out HW_.out (by kernel_rfl)) (fun _ _ _ h => h) (Or.inl ⟨by rfl, ?_⟩) hHeld ?_ ?_
        rotate_left
        · rintro w' ⟨s0, s1, s2, s3, s4, s5, s6, s7, s8, s9⟩
          go_simp
          with_reducible rfl
        rotate_left
        · simp only [Act.put, List.setIfInBounds_toArray, List.set_cons_zero, List.set_cons_succ, i64_w, i32_w]
          rfl
        refine one_ (i := 2) (N := some 9) #[true, true, true, true, true, false, false, false] rfl rfl (one_of HT_.out (by kernel_rfl)) (by decide) (fun K hK => ?_)
        refine goes_ Tryz.func67 (by kernel_rfl) rfl #[.agg #[.int .i64 a0_3, .int .i64 a0_4]] (by rfl) rfl rfl (by (try simp only [List.map_toArray, List.map_cons, List.map_nil]); first | done | rfl | (simp only [List.length_drop, List.length_take]; rfl)) ?_
        with_reducible refine (clock_Of.calls a0_3 a0_4 t774 _ A3.out).mono ?_
        rintro e w39 ⟨rfl, hb⟩
        refine ⟨_, rfl, ?_⟩
        have n0_ := Aside0.mk (blk_below (g := gb771) (o := .cells #[.string a0_0, .bool a0_1, .string a0_2, .int .i64 a0_3, .int .i64 a0_4] 34 (0, 0)) (by (with_reducible repeat (first | refine blk_drewN ?_ _ | refine blk_drew ?_ | refine blk_alloc ?_ _)); exact BK771.out) hb)
        have n1_ := Aside0.mk (blk_below (g := gb772) (o := .cells #[.string a1_0, .bool a1_1, .string a1_2, .int .i64 a1_3, .int .i64 a1_4] 34 (0, 0)) (by (with_reducible repeat (first | refine blk_drewN ?_ _ | refine blk_drew ?_ | refine blk_alloc ?_ _)); exact BK772.out) hb)
        have n2_ := Aside0.mk (blk_below (g := gb773) (o := .cells #[.string (⟨#[]⟩ : ByteArray), .bool false, .string (⟨#[]⟩ : ByteArray), .int .i64 0, .int .i64 0] 34 (0, 0)) (by (with_reducible repeat (first | refine blk_drewN ?_ _ | refine blk_drew ?_ | refine blk_alloc ?_ _)); exact BK773.out) hb)
        have n3_ := Aside0.mk (below_step (by repeat (first | (with_reducible first | exact HB.out | apply below_alloc | apply pw_below_drewN | apply below_drew1 | refine below_set ?_ GE771.out | refine below_set ?_ GE772.out | refine below_set ?_ GE773.out) | exact HB.out)) hb)
        clear BK771
        clear BK772
        clear BK773
        clear HB
        have BK771 := n0_
        have BK772 := n1_
        have BK773 := n2_
        have HB := n3_
        clear n0_ n1_ n2_ n3_
        (try clear hb)
        (try clear hb2)
        (try clear hk)
        (try clear hi)
        refine hK.out _ _ ⟨(blk_cell BK771.out 0).trans rfl, (blk_cell BK771.out 1).trans rfl, (blk_cell BK771.out 2).trans rfl, (blk_cell BK771.out 3).trans rfl, (blk_cell BK771.out 4).trans rfl, (blk_cell BK772.out 0).trans rfl, (blk_cell BK772.out 1).trans rfl, (blk_cell BK772.out 2).trans rfl, (blk_cell BK772.out 3).trans rfl, (blk_cell BK772.out 4).trans rfl⟩ (fun hHeld => ?_)
        clear hK K
        refine norm_ (a' := ?_) ?_ ?_
        rotate_left
        · show Act.put _ (some 9) _ = _
          simp only [Act.put, List.setIfInBounds_toArray, List.set_cons_zero, List.set_cons_succ, i64_w, i32_w]
          rfl
        refine one_ (i := 5) (N := some 12) #[true, true, true, true, true, true, false, false] rfl rfl (one_of HT_.out (by kernel_rfl)) (by decide) (fun K hK => ?_)
        refine goes_ Tryz.func67 (by kernel_rfl) rfl #[.agg #[.int .i64 a1_3, .int .i64 a1_4]] (by rfl) rfl rfl (by (try simp only [List.map_toArray, List.map_cons, List.map_nil]); first | done | rfl | (simp only [List.length_drop, List.length_take]; rfl)) ?_
        with_reducible refine (clock_Of.calls a1_3 a1_4 t775 _ A4.out).mono ?_
        rintro e w40 ⟨rfl, hb⟩
        refine ⟨_, rfl, ?_⟩
        have n0_ := Aside0.mk (blk_below (g := gb771) (o := .cells #[.string a0_0, .bool a0_1, .string a0_2, .int .i64 a0_3, .int .i64 a0_4] 34 (0, 0)) (by (with_reducible repeat (first | refine blk_drewN ?_ _ | refine blk_drew ?_ | refine blk_alloc ?_ _)); exact BK771.out) hb)
        have n1_ := Aside0.mk (blk_below (g := gb772) (o := .cells #[.string a1_0, .bool a1_1, .string a1_2, .int .i64 a1_3, .int .i64 a1_4] 34 (0, 0)) (by (with_reducible repeat (first | refine blk_drewN ?_ _ | refine blk_drew ?_ | refine blk_alloc ?_ _)); exact BK772.out) hb)
        have n2_ := Aside0.mk (blk_below (g := gb773) (o := .cells #[.string (⟨#[]⟩ : ByteArray), .bool false, .string (⟨#[]⟩ : ByteArray), .int .i64 0, .int .i64 0] 34 (0, 0)) (by (with_reducible repeat (first | refine blk_drewN ?_ _ | refine blk_drew ?_ | refine blk_alloc ?_ _)); exact BK773.out) hb)
        have n3_ := Aside0.mk (below_step (by repeat (first | (with_reducible first | exact HB.out | apply below_alloc | apply pw_below_drewN | apply below_drew1 | refine below_set ?_ GE771.out | refine below_set ?_ GE772.out | refine below_set ?_ GE773.out) | exact HB.out)) hb)
        clear BK771
        clear BK772
        clear BK773
        clear HB
        have BK771 := n0_
        have BK772 := n1_
        have BK773 := n2_
        have HB := n3_
        clear n0_ n1_ n2_ n3_
        (try clear hb)
        (try clear hb2)
        (try clear hk)
        (try clear hi)
        refine hK.out _ _ ⟨(blk_cell BK771.out 0).trans rfl, (blk_cell BK771.out 1).trans rfl, (blk_cell BK771.out 2).trans rfl, (blk_cell BK771.out 3).trans rfl, (blk_cell BK771.out 4).trans rfl, (blk_cell BK772.out 0).trans rfl, (blk_cell BK772.out 1).trans rfl, (blk_cell BK772.out 2).trans rfl, (blk_cell BK772.out 3).trans rfl, (blk_cell BK772.out 4).trans rfl⟩ (fun hHeld => ?_)
        clear hK K
        refine norm_ (a' := ?_) ?_ ?_
        rotate_left
        · show Act.put _ (some 12) _ = _
          simp only [Act.put, List.setIfInBounds_toArray, List.set_cons_zero, List.set_cons_succ, i64_w, i32_w]
          rfl
        refine one_ (i := 6) (N := some 13) #[true, true, true, true, true, true, true, false] rfl rfl (one_of HT_.out (by kernel_rfl)) (by decide) (fun K hK => ?_)
        refine goes_ Tryz.func86 (by kernel_rfl) rfl #[cpx t774, cpx t775] (by rfl) rfl rfl (by (try simp only [List.map_toArray, List.map_cons, List.map_nil]); first | done | rfl | (simp only [List.length_drop, List.length_take]; rfl)) ?_
        with_reducible refine (clock_Order.calls t774 t775 t776 _ A5.out).mono ?_
        rintro e w41 ⟨rfl, hb⟩
        refine ⟨_, rfl, ?_⟩
        have n0_ := Aside0.mk (blk_below (g := gb771) (o := .cells #[.string a0_0, .bool a0_1, .string a0_2, .int .i64 a0_3, .int .i64 a0_4] 34 (0, 0)) (by (with_reducible repeat (first | refine blk_drewN ?_ _ | refine blk_drew ?_ | refine blk_alloc ?_ _)); exact BK771.out) hb)
        have n1_ := Aside0.mk (blk_below (g := gb772) (o := .cells #[.string a1_0, .bool a1_1, .string a1_2, .int .i64 a1_3, .int .i64 a1_4] 34 (0, 0)) (by (with_reducible repeat (first | refine blk_drewN ?_ _ | refine blk_drew ?_ | refine blk_alloc ?_ _)); exact BK772.out) hb)
        have n2_ := Aside0.mk (blk_below (g := gb773) (o := .cells #[.string (⟨#[]⟩ : ByteArray), .bool false, .string (⟨#[]⟩ : ByteArray), .int .i64 0, .int .i64 0] 34 (0, 0)) (by (with_reducible repeat (first | refine blk_drewN ?_ _ | refine blk_drew ?_ | refine blk_alloc ?_ _)); exact BK773.out) hb)
        have n3_ := Aside0.mk (below_step (by repeat (first | (with_reducible first | exact HB.out | apply below_alloc | apply pw_below_drewN | apply below_drew1 | refine below_set ?_ GE771.out | refine below_set ?_ GE772.out | refine below_set ?_ GE773.out) | exact HB.out)) hb)
        clear BK771
        clear BK772
        clear BK773
        clear HB
        have BK771 := n0_
        have BK772 := n1_
        have BK773 := n2_
        have HB := n3_
        clear n0_ n1_ n2_ n3_
        (try clear hb)
        (try clear hb2)
        (try clear hk)
        (try clear hi)
        refine hK.out _ _ ⟨(blk_cell BK771.out 0).trans rfl, (blk_cell BK771.out 1).trans rfl, (blk_cell BK771.out 2).trans rfl, (blk_cell BK771.out 3).trans rfl, (blk_cell BK771.out 4).trans rfl, (blk_cell BK772.out 0).trans rfl, (blk_cell BK772.out 1).trans rfl, (blk_cell BK772.out 2).trans rfl, (blk_cell BK772.out 3).trans rfl, (blk_cell BK772.out 4).trans rfl⟩ (fun hHeld => ?_)
        clear hK K
        refine norm_ (a' := ?_) ?_ ?_
        rotate_left
        · show Act.put _ (some 13) _ = _
          simp only [Act.put, List.setIfInBounds_toArray, List.set_cons_zero, List.set_cons_succ, i64_w, i32_w]
          rfl
        refine pure_ (i := 7) (N := some 6) (v := ?_) (a' := ?_) #[true, true, true, true, true, true, true, true] rfl rfl (any_of HT_.out (by kernel_rfl)) (fun _ _ _ h => h) (Or.inl ⟨by rfl, ?_⟩) ?_ ?_
        rotate_left
        · intro w'
          go_simp
          with_reducible rfl
        rotate_left
        · simp only [Act.put, List.setIfInBounds_toArray, List.set_cons_zero, List.set_cons_succ, i64_w, i32_w]
          rfl
        refine done_ (done_of HT_.out (by kernel_rfl)) ?_
        have hnb42 := NB771_772.out
        have hnc42 := NB772_771.out
        have hnb43 := NB771_773.out
        have hnc43 := NB773_771.out
        have hcz44_0 : w41.cell? ⟨gb771, 0, none⟩ = some (.string a0_0) := (blk_cell BK771.out 0).trans rfl
        have hcz44_1 : w41.cell? ⟨gb771, 1, none⟩ = some (.bool a0_1) := (blk_cell BK771.out 1).trans rfl
        have hcz44_2 : w41.cell? ⟨gb771, 2, none⟩ = some (.string a0_2) := (blk_cell BK771.out 2).trans rfl
        have hcz44_3 : w41.cell? ⟨gb771, 3, none⟩ = some (.int .i64 a0_3) := (blk_cell BK771.out 3).trans rfl
        have hcz44_4 : w41.cell? ⟨gb771, 4, none⟩ = some (.int .i64 a0_4) := (blk_cell BK771.out 4).trans rfl
        have hfz44_0 := blk_frozen BK771.out 0
        have hfz44_1 := blk_frozen BK771.out 1
        have hfz44_2 := blk_frozen BK771.out 2
        have hfz44_3 := blk_frozen BK771.out 3
        have hfz44_4 := blk_frozen BK771.out 4
        have hnb45 := NB772_773.out
        have hnc45 := NB773_772.out
        have hcz46_0 : w41.cell? ⟨gb772, 0, none⟩ = some (.string a1_0) := (blk_cell BK772.out 0).trans rfl
        have hcz46_1 : w41.cell? ⟨gb772, 1, none⟩ = some (.bool a1_1) := (blk_cell BK772.out 1).trans rfl
        have hcz46_2 : w41.cell? ⟨gb772, 2, none⟩ = some (.string a1_2) := (blk_cell BK772.out 2).trans rfl
        have hcz46_3 : w41.cell? ⟨gb772, 3, none⟩ = some (.int .i64 a1_3) := (blk_cell BK772.out 3).trans rfl
        have hcz46_4 : w41.cell? ⟨gb772, 4, none⟩ = some (.int .i64 a1_4) := (blk_cell BK772.out 4).trans rfl
        have hfz46_0 := blk_frozen BK772.out 0
        have hfz46_1 := blk_frozen BK772.out 1
        have hfz46_2 := blk_frozen BK772.out 2
        have hfz46_3 := blk_frozen BK772.out 3
        have hfz46_4 := blk_frozen BK772.out 4
        try go_wp2_with (first | ((with_reducible refine gate_callee (f := 87) rfl ?_); refine goesL_ (some 25) rfl rfl Tryz.func87 (by kernel_rfl) rfl #[.agg #[.string a0_0, .bool a0_1, .string a0_2, .int .i64 a0_3, .int .i64 a0_4], .agg #[.string a1_0, .bool a1_1, .string a1_2, .int .i64 a1_3, .int .i64 a1_4]] rfl (by (try simp only [List.map_toArray, List.map_cons, List.map_nil]); first | done | rfl | (simp only [List.length_drop, List.length_take]; rfl)) ?_; (with_reducible refine (recon_value.calls a0_0 a0_1 a0_2 a0_3 a0_4 a1_0 a1_1 a1_2 a1_3 a1_4 true _ A32.out).mono ?_); rintro e w47 ⟨rfl, hb⟩; refine ⟨_, rfl, ?_⟩; have n0_ := Aside0.mk (blk_below (g := gb771) (o := .cells #[.string a0_0, .bool a0_1, .string a0_2, .int .i64 a0_3, .int .i64 a0_4] 34 (0, 0)) (by (with_reducible repeat (first | refine blk_drewN ?_ _ | refine blk_drew ?_ | refine blk_alloc ?_ _)); exact BK771.out) hb); have n1_ := Aside0.mk (blk_below (g := gb772) (o := .cells #[.string a1_0, .bool a1_1, .string a1_2, .int .i64 a1_3, .int .i64 a1_4] 34 (0, 0)) (by (with_reducible repeat (first | refine blk_drewN ?_ _ | refine blk_drew ?_ | refine blk_alloc ?_ _)); exact BK772.out) hb); have n2_ := Aside0.mk (blk_below (g := gb773) (o := .cells #[.string (⟨#[]⟩ : ByteArray), .bool false, .string (⟨#[]⟩ : ByteArray), .int .i64 0, .int .i64 0] 34 (0, 0)) (by (with_reducible repeat (first | refine blk_drewN ?_ _ | refine blk_drew ?_ | refine blk_alloc ?_ _)); exact BK773.out) hb); have n3_ := Aside0.mk (below_step (by repeat (first | (with_reducible first | exact HB.out | apply below_alloc | apply pw_below_drewN | apply below_drew1 | refine below_set ?_ GE771.out | refine below_set ?_ GE772.out | refine below_set ?_ GE773.out) | exact HB.out)) hb); clear BK771; clear BK772; clear BK773; clear HB; have BK771 := n0_; have BK772 := n1_; have BK773 := n2_; have HB := n3_; clear n0_ n1_ n2_ n3_; (try clear hb); (try clear hb2); (try clear hk); (try clear hi); have hcz48_0 : w47.cell? ⟨gb771, 0, none⟩ = some (.string a0_0) := (blk_cell BK771.out 0).trans rfl; have hcz48_1 : w47.cell? ⟨gb771, 1, none⟩ = some (.bool a0_1) := (blk_cell BK771.out 1).trans rfl; have hcz48_2 : w47.cell? ⟨gb771, 2, none⟩ = some (.string a0_2) := (blk_cell BK771.out 2).trans rfl; have hcz48_3 : w47.cell? ⟨gb771, 3, none⟩ = some (.int .i64 a0_3) := (blk_cell BK771.out 3).trans rfl; have hcz48_4 : w47.cell? ⟨gb771, 4, none⟩ = some (.int .i64 a0_4) := (blk_cell BK771.out 4).trans rfl; have hfz48_0 := blk_frozen BK771.out 0; have hfz48_1 := blk_frozen BK771.out 1; have hfz48_2 := blk_frozen BK771.out 2; have hfz48_3 := blk_frozen BK771.out 3; have hfz48_4 := blk_frozen BK771.out 4; have hcz49_0 : w47.cell? ⟨gb772, 0, none⟩ = some (.string a1_0) := (blk_cell BK772.out 0).trans rfl; have hcz49_1 : w47.cell? ⟨gb772, 1, none⟩ = some (.bool a1_1) := (blk_cell BK772.out 1).trans rfl; have hcz49_2 : w47.cell? ⟨gb772, 2, none⟩ = some (.string a1_2) := (blk_cell BK772.out 2).trans rfl; have hcz49_3 : w47.cell? ⟨gb772, 3, none⟩ = some (.int .i64 a1_3) := (blk_cell BK772.out 3).trans rfl; have hcz49_4 : w47.cell? ⟨gb772, 4, none⟩ = some (.int .i64 a1_4) := (blk_cell BK772.out 4).trans rfl; have hfz49_0 := blk_frozen BK772.out 0; have hfz49_1 := blk_frozen BK772.out 1; have hfz49_2 := blk_frozen BK772.out 2; have hfz49_3 := blk_frozen BK772.out 3; have hfz49_4 := blk_frozen BK772.out 4) | ((with_reducible refine gate_callee (f := 64) rfl ?_); refine goesL_ (some 30) rfl rfl Tryz.func64 (by kernel_rfl) rfl #[.agg #[.string a0_0, .bool a0_1, .string a0_2, .int .i64 a0_3, .int .i64 a0_4], .agg #[.string a1_0, .bool a1_1, .string a1_2, .int .i64 a1_3, .int .i64 a1_4]] rfl (by (try simp only [List.map_toArray, List.map_cons, List.map_nil]); first | done | rfl | (simp only [List.length_drop, List.length_take]; rfl)) ?_; (with_reducible refine (recon_joined.calls a0_0 a0_1 a0_2 a0_3 a0_4 a1_0 a1_1 a1_2 a1_3 a1_4 t778 t779 t780 t781 t782 _ A34.out).mono ?_); rintro e w50 ⟨rfl, hb⟩; refine ⟨_, rfl, ?_⟩; have n0_ := Aside0.mk (blk_below (g := gb771) (o := .cells #[.string a0_0, .bool a0_1, .string a0_2, .int .i64 a0_3, .int .i64 a0_4] 34 (0, 0)) (by (with_reducible repeat (first | refine blk_drewN ?_ _ | refine blk_drew ?_ | refine blk_alloc ?_ _)); exact BK771.out) hb); have n1_ := Aside0.mk (blk_below (g := gb772) (o := .cells #[.string a1_0, .bool a1_1, .string a1_2, .int .i64 a1_3, .int .i64 a1_4] 34 (0, 0)) (by (with_reducible repeat (first | refine blk_drewN ?_ _ | refine blk_drew ?_ | refine blk_alloc ?_ _)); exact BK772.out) hb); have n2_ := Aside0.mk (blk_below (g := gb773) (o := .cells #[.string (⟨#[]⟩ : ByteArray), .bool false, .string (⟨#[]⟩ : ByteArray), .int .i64 0, .int .i64 0] 34 (0, 0)) (by (with_reducible repeat (first | refine blk_drewN ?_ _ | refine blk_drew ?_ | refine blk_alloc ?_ _)); exact BK773.out) hb); have n3_ := Aside0.mk (below_step (by repeat (first | (with_reducible first | exact HB.out | apply below_alloc | apply pw_below_drewN | apply below_drew1 | refine below_set ?_ GE771.out | refine below_set ?_ GE772.out | refine below_set ?_ GE773.out) | exact HB.out)) hb); clear BK771; clear BK772; clear BK773; clear HB; have BK771 := n0_; have BK772 := n1_; have BK773 := n2_; have HB := n3_; clear n0_ n1_ n2_ n3_; (try clear hb); (try clear hb2); (try clear hk); (try clear hi); have hcz51_0 : w50.cell? ⟨gb773, 0, none⟩ = some (.string (⟨#[]⟩ : ByteArray)) := (blk_cell BK773.out 0).trans rfl; have hcz51_1 : w50.cell? ⟨gb773, 1, none⟩ = some (.bool false) := (blk_cell BK773.out 1).trans rfl; have hcz51_2 : w50.cell? ⟨gb773, 2, none⟩ = some (.string (⟨#[]⟩ : ByteArray)) := (blk_cell BK773.out 2).trans rfl; have hcz51_3 : w50.cell? ⟨gb773, 3, none⟩ = some (.int .i64 0) := (blk_cell BK773.out 3).trans rfl; have hcz51_4 : w50.cell? ⟨gb773, 4, none⟩ = some (.int .i64 0) := (blk_cell BK773.out 4).trans rfl; have hfz51_0 := blk_frozen BK773.out 0; have hfz51_1 := blk_frozen BK773.out 1; have hfz51_2 := blk_frozen BK773.out 2; have hfz51_3 := blk_frozen BK773.out 3; have hfz51_4 := blk_frozen BK773.out 4))
        refine bodyPost_ret (results_ct rfl _ _ gb773 34 #[.string t778, .bool t779, .string t780, .int .i64 t781, .int .i64 t782] (0, 0) _ rfl (by (with_reducible repeat (first | refine blk_drewN ?_ _ | refine blk_drew ?_ | refine blk_alloc ?_ _)); refine blk_put (cs := #[.string t778, .bool t779, .string t780, .int .i64 t781, .int .i64 0]) ?_ 4 _ rfl; (with_reducible repeat (first | refine blk_drewN ?_ _ | refine blk_drew ?_ | refine blk_alloc ?_ _)); refine blk_put (cs := #[.string t778, .bool t779, .string t780, .int .i64 0, .int .i64 0]) ?_ 3 _ rfl; (with_reducible repeat (first | refine blk_drewN ?_ _ | refine blk_drew ?_ | refine blk_alloc ?_ _)); refine blk_put (cs := #[.string t778, .bool t779, .string (⟨#[]⟩ : ByteArray), .int .i64 0, .int .i64 0]) ?_ 2 _ rfl; (with_reducible repeat (first | refine blk_drewN ?_ _ | refine blk_drew ?_ | refine blk_alloc ?_ _)); refine blk_put (cs := #[.string t778, .bool false, .string (⟨#[]⟩ : ByteArray), .int .i64 0, .int .i64 0]) ?_ 1 _ rfl; (with_reducible repeat (first | refine blk_drewN ?_ _ | refine blk_drew ?_ | refine blk_alloc ?_ _)); refine blk_put (cs := #[.string (⟨#[]⟩ : ByteArray), .bool false, .string (⟨#[]⟩ : ByteArray), .int .i64 0, .int .i64 0]) ?_ 0 _ rfl; (with_reducible repeat (first | refine blk_drewN ?_ _ | refine blk_drew ?_ | refine blk_alloc ?_ _)); exact BK773.out) Tryz.underlying34 rfl (by kernel_rfl)) rfl ?_
        exact ⟨by first | rfl | (simp [errW_none, errW_some] <;> rfl) | (simp [*, errW_none, errW_some] <;> rfl), by repeat (first | (with_reducible first | exact HB.out | apply below_alloc | apply pw_below_drewN | apply below_drew1 | refine below_set ?_ GE771.out | refine below_set ?_ GE772.out | refine below_set ?_ GE773.out) | exact HB.out)⟩
      · replace c33 := Bool.eq_false_iff.mpr c33
        subst c33
        have H1 : (some (a0_0, a0_1, a0_2, a0_3, a0_4, true)) = some (r1, r2, r3, r4, r5, r6) := by rw [if_neg (show ¬ (false = true) by decide)] at H; exact H
        clear H
        have H := H1
        clear H1
        simp only [Option.some.injEq, Prod.mk.injEq] at H
        obtain ⟨rfl, rfl, rfl, rfl, rfl, rfl⟩ := H
        go_enter Tryz.func47, Tryz.ntmps47
        try go_wp2_with (first | ((with_reducible refine gate_dst (N := 2) rfl ?_); refine box_event ?hg (N := 2) ?hd (cs := #[.string a0_0, .bool a0_1, .string a0_2, .int .i64 a0_3, .int .i64 a0_4]) (t := 34) ?hr ?_; (case hd => rfl); (case hg => rfl); (case hr => first | (go_simp; done) | (go_simp; rfl)); intro gb771 hg w52 hbox hb; have n0_ := Aside0.mk (below_step (by repeat (first | (with_reducible first | exact HB.out | apply below_alloc | apply pw_below_drewN | apply below_drew1) | exact HB.out)) hb); have n1_ := Aside0.mk (hbox); have n2_ := Aside0.mk ((by rw [hg]; exact (below_size (by repeat (first | (with_reducible first | exact HB.out | apply below_alloc | apply pw_below_drewN | apply below_drew1) | exact HB.out))) : w.heap.size ≤ gb771)); have n3_ := Aside0.mk ((by rw [hg]; exact (below_size (by repeat (first | (with_reducible first | exact HB.out | apply below_alloc | apply pw_below_drewN | apply below_drew1) | exact HB.out))) : w.heap.size ≤ gb771)); clear HB; have HB := n0_; have BK771 := n1_; have GW771 := n2_; have GE771 := n3_; clear n0_ n1_ n2_ n3_; clear hb hbox hg) | ((with_reducible refine gate_dst (N := 3) rfl ?_); refine box_event ?hg (N := 3) ?hd (cs := #[.string a1_0, .bool a1_1, .string a1_2, .int .i64 a1_3, .int .i64 a1_4]) (t := 34) ?hr ?_; (case hd => rfl); (case hg => rfl); (case hr => first | (go_simp; done) | (go_simp; rfl)); intro gb772 hg w53 hbox hb; have n0_ := Aside0.mk (blk_below (g := gb771) (o := .cells #[.string a0_0, .bool a0_1, .string a0_2, .int .i64 a0_3, .int .i64 a0_4] 34 (0, 0)) (by (with_reducible repeat (first | refine blk_drewN ?_ _ | refine blk_drew ?_ | refine blk_alloc ?_ _)); exact BK771.out) hb); have n1_ := Aside0.mk (below_step (by repeat (first | (with_reducible first | exact HB.out | apply below_alloc | apply pw_below_drewN | apply below_drew1 | refine below_set ?_ GE771.out) | exact HB.out)) hb); have n2_ := Aside0.mk (hbox); have n3_ := Aside0.mk ((by rw [hg]; exact (below_size (by repeat (first | (with_reducible first | exact HB.out | apply below_alloc | apply pw_below_drewN | apply below_drew1 | refine below_set ?_ GE771.out) | exact HB.out))) : w.heap.size ≤ gb772)); have n4_ := Aside0.mk ((by rw [hg]; exact (below_size (by repeat (first | (with_reducible first | exact HB.out | apply below_alloc | apply pw_below_drewN | apply below_drew1 | refine below_set ?_ GE771.out) | exact HB.out))) : w.heap.size ≤ gb772)); have n5_ := Aside0.mk ((by rw [hg]; exact Nat.ne_of_lt (blk_lt (g := gb771) (o := .cells #[.string a0_0, .bool a0_1, .string a0_2, .int .i64 a0_3, .int .i64 a0_4] 34 (0, 0)) (by (with_reducible repeat (first | refine blk_drewN ?_ _ | refine blk_drew ?_ | refine blk_alloc ?_ _)); exact BK771.out)) : gb771 ≠ gb772)); have n6_ := Aside0.mk ((by rw [hg]; exact Nat.ne_of_gt (blk_lt (g := gb771) (o := .cells #[.string a0_0, .bool a0_1, .string a0_2, .int .i64 a0_3, .int .i64 a0_4] 34 (0, 0)) (by (with_reducible repeat (first | refine blk_drewN ?_ _ | refine blk_drew ?_ | refine blk_alloc ?_ _)); exact BK771.out)) : gb772 ≠ gb771)); clear BK771; clear HB; have BK771 := n0_; have HB := n1_; have BK772 := n2_; have GW772 := n3_; have GE772 := n4_; have NB771_772 := n5_; have NB772_771 := n6_; clear n0_ n1_ n2_ n3_ n4_ n5_ n6_; clear hb hbox hg) | ((with_reducible refine gate_dst (N := 4) rfl ?_); refine box_event ?hg (N := 4) ?hd (cs := #[.string (⟨#[]⟩ : ByteArray), .bool false, .string (⟨#[]⟩ : ByteArray), .int .i64 0, .int .i64 0]) (t := 34) ?hr ?_; (case hd => rfl); (case hg => rfl); (case hr => first | (go_simp; done) | (go_simp; rfl)); intro gb773 hg w54 hbox hb; have n0_ := Aside0.mk (blk_below (g := gb771) (o := .cells #[.string a0_0, .bool a0_1, .string a0_2, .int .i64 a0_3, .int .i64 a0_4] 34 (0, 0)) (by (with_reducible repeat (first | refine blk_drewN ?_ _ | refine blk_drew ?_ | refine blk_alloc ?_ _)); exact BK771.out) hb); have n1_ := Aside0.mk (blk_below (g := gb772) (o := .cells #[.string a1_0, .bool a1_1, .string a1_2, .int .i64 a1_3, .int .i64 a1_4] 34 (0, 0)) (by (with_reducible repeat (first | refine blk_drewN ?_ _ | refine blk_drew ?_ | refine blk_alloc ?_ _)); exact BK772.out) hb); have n2_ := Aside0.mk (below_step (by repeat (first | (with_reducible first | exact HB.out | apply below_alloc | apply pw_below_drewN | apply below_drew1 | refine below_set ?_ GE771.out | refine below_set ?_ GE772.out) | exact HB.out)) hb); have n3_ := Aside0.mk (hbox); have n4_ := Aside0.mk ((by rw [hg]; exact (below_size (by repeat (first | (with_reducible first | exact HB.out | apply below_alloc | apply pw_below_drewN | apply below_drew1 | refine below_set ?_ GE771.out | refine below_set ?_ GE772.out) | exact HB.out))) : w.heap.size ≤ gb773)); have n5_ := Aside0.mk ((by rw [hg]; exact (below_size (by repeat (first | (with_reducible first | exact HB.out | apply below_alloc | apply pw_below_drewN | apply below_drew1 | refine below_set ?_ GE771.out | refine below_set ?_ GE772.out) | exact HB.out))) : w.heap.size ≤ gb773)); have n6_ := Aside0.mk ((by rw [hg]; exact Nat.ne_of_lt (blk_lt (g := gb771) (o := .cells #[.string a0_0, .bool a0_1, .string a0_2, .int .i64 a0_3, .int .i64 a0_4] 34 (0, 0)) (by (with_reducible repeat (first | refine blk_drewN ?_ _ | refine blk_drew ?_ | refine blk_alloc ?_ _)); exact BK771.out)) : gb771 ≠ gb773)); have n7_ := Aside0.mk ((by rw [hg]; exact Nat.ne_of_gt (blk_lt (g := gb771) (o := .cells #[.string a0_0, .bool a0_1, .string a0_2, .int .i64 a0_3, .int .i64 a0_4] 34 (0, 0)) (by (with_reducible repeat (first | refine blk_drewN ?_ _ | refine blk_drew ?_ | refine blk_alloc ?_ _)); exact BK771.out)) : gb773 ≠ gb771)); have n8_ := Aside0.mk ((by rw [hg]; exact Nat.ne_of_lt (blk_lt (g := gb772) (o := .cells #[.string a1_0, .bool a1_1, .string a1_2, .int .i64 a1_3, .int .i64 a1_4] 34 (0, 0)) (by (with_reducible repeat (first | refine blk_drewN ?_ _ | refine blk_drew ?_ | refine blk_alloc ?_ _)); exact BK772.out)) : gb772 ≠ gb773)); have n9_ := Aside0.mk ((by rw [hg]; exact Nat.ne_of_gt (blk_lt (g := gb772) (o := .cells #[.string a1_0, .bool a1_1, .string a1_2, .int .i64 a1_3, .int .i64 a1_4] 34 (0, 0)) (by (with_reducible repeat (first | refine blk_drewN ?_ _ | refine blk_drew ?_ | refine blk_alloc ?_ _)); exact BK772.out)) : gb773 ≠ gb772)); clear BK771; clear BK772; clear HB; have BK771 := n0_; have BK772 := n1_; have HB := n2_; have BK773 := n3_; have GW773 := n4_; have GE773 := n5_; have NB771_773 := n6_; have NB773_771 := n7_; have NB772_773 := n8_; have NB773_772 := n9_; clear n0_ n1_ n2_ n3_ n4_ n5_ n6_ n7_ n8_ n9_; clear hb hbox hg))
        have n0_ := Aside0.mk (blk_drew BK771.out)
        have n1_ := Aside0.mk (blk_drew BK772.out)
        have n2_ := Aside0.mk (blk_drew BK773.out)
        have n3_ := Aside0.mk (below_drew1 HB.out)
        clear BK771
        clear BK772
        clear BK773
        clear HB
        have BK771 := n0_
        have BK772 := n1_
        have BK773 := n2_
        have HB := n3_
        clear n0_ n1_ n2_ n3_
        refine start_ (n := 8) (S := fun w' => w'.cell? ⟨gb771, 0, none⟩ = some (.string a0_0) ∧ w'.cell? ⟨gb771, 1, none⟩ = some (.bool a0_1) ∧ w'.cell? ⟨gb771, 2, none⟩ = some (.string a0_2) ∧ w'.cell? ⟨gb771, 3, none⟩ = some (.int .i64 a0_3) ∧ w'.cell? ⟨gb771, 4, none⟩ = some (.int .i64 a0_4) ∧ w'.cell? ⟨gb772, 0, none⟩ = some (.string a1_0) ∧ w'.cell? ⟨gb772, 1, none⟩ = some (.bool a1_1) ∧ w'.cell? ⟨gb772, 2, none⟩ = some (.string a1_2) ∧ w'.cell? ⟨gb772, 3, none⟩ = some (.int .i64 a1_3) ∧ w'.cell? ⟨gb772, 4, none⟩ = some (.int .i64 a1_4)) (ds := []) #[false, false, false, false, false, false, false, false] (by kernel_rfl) rfl rfl ⟨(blk_cell BK771.out 0).trans rfl, (blk_cell BK771.out 1).trans rfl, (blk_cell BK771.out 2).trans rfl, (blk_cell BK771.out 3).trans rfl, (blk_cell BK771.out 4).trans rfl, (blk_cell BK772.out 0).trans rfl, (blk_cell BK772.out 1).trans rfl, (blk_cell BK772.out 2).trans rfl, (blk_cell BK772.out 3).trans rfl, (blk_cell BK772.out 4).trans rfl⟩ (fun hHeld => ?_); refine with_tabW recon_come.tab1 recon_come.bits1 (fun HT_ HW_ => ?_)
        generalize w54.drew = w55 at BK771 BK772 BK773 HB hHeld ⊢
        refine pure_ (i := 0) (N := some 7) (v := ?_) (a' := ?_) #[true, false, false, false, false, false, false, false] rfl rfl (any_of HT_.out (by kernel_rfl)) (fun _ _ _ h => h) (Or.inl ⟨by rfl, ?_⟩) ?_ ?_
        rotate_left
        · intro w'
          go_simp
          with_reducible rfl
        rotate_left
        · simp only [Act.put, List.setIfInBounds_toArray, List.set_cons_zero, List.set_cons_succ, i64_w, i32_w]
          rfl
        refine pure_ (i := 3) (N := some 10) (v := ?_) (a' := ?_) #[true, false, false, true, false, false, false, false] rfl rfl (any_of HT_.out (by kernel_rfl)) (fun _ _ _ h => h) (Or.inl ⟨by rfl, ?_⟩) ?_ ?_
        rotate_left
        · intro w'
          go_simp
          with_reducible rfl
        rotate_left
        · simp only [Act.put, List.setIfInBounds_toArray, List.set_cons_zero, List.set_cons_succ, i64_w, i32_w]
          rfl
        refine take_ (i := 1) (N := some 8) (v := ?_) (a' := ?_) #[true, true, false, true, false, false, false, false] rfl rfl (take_ofW HT_.out HW_.out (by kernel_rfl)) (fun _ _ _ h => h) (Or.inl ⟨by rfl, ?_⟩) hHeld ?_ ?_
        rotate_left
        · rintro w' ⟨s0, s1, s2, s3, s4, s5, s6, s7, s8, s9⟩
          go_simp
          with_reducible rfl
        rotate_left
        · simp only [Act.put, List.setIfInBounds_toArray, List.set_cons_zero, List.set_cons_succ, i64_w, i32_w]
          rfl
        refine take_ (i := 4) (N := some 11) (v := ?_) (a' := ?_) #[true, true, false, true, true, false, false, false] rfl rfl (take_ofW HT_.out HW_.out (by kernel_rfl)) (fun _ _ _ h => h) (Or.inl ⟨by rfl, ?_⟩) hHeld ?_ ?_
        rotate_left
        · rintro w' ⟨s0, s1, s2, s3, s4, s5, s6, s7, s8, s9⟩
          go_simp
          with_reducible rfl
        rotate_left
        · simp only [Act.put, List.setIfInBounds_toArray, List.set_cons_zero, List.set_cons_succ, i64_w, i32_w]
          rfl
        refine one_ (i := 2) (N := some 9) #[true, true, true, true, true, false, false, false] rfl rfl (one_of HT_.out (by kernel_rfl)) (by decide) (fun K hK => ?_)
        refine goes_ Tryz.func67 (by kernel_rfl) rfl #[.agg #[.int .i64 a0_3, .int .i64 a0_4]] (by rfl) rfl rfl (by (try simp only [List.map_toArray, List.map_cons, List.map_nil]); first | done | rfl | (simp only [List.length_drop, List.length_take]; rfl)) ?_
        with_reducible refine (clock_Of.calls a0_3 a0_4 t774 _ A3.out).mono ?_
        rintro e w56 ⟨rfl, hb⟩
        refine ⟨_, rfl, ?_⟩
        have n0_ := Aside0.mk (blk_below (g := gb771) (o := .cells #[.string a0_0, .bool a0_1, .string a0_2, .int .i64 a0_3, .int .i64 a0_4] 34 (0, 0)) (by (with_reducible repeat (first | refine blk_drewN ?_ _ | refine blk_drew ?_ | refine blk_alloc ?_ _)); exact BK771.out) hb)
        have n1_ := Aside0.mk (blk_below (g := gb772) (o := .cells #[.string a1_0, .bool a1_1, .string a1_2, .int .i64 a1_3, .int .i64 a1_4] 34 (0, 0)) (by (with_reducible repeat (first | refine blk_drewN ?_ _ | refine blk_drew ?_ | refine blk_alloc ?_ _)); exact BK772.out) hb)
        have n2_ := Aside0.mk (blk_below (g := gb773) (o := .cells #[.string (⟨#[]⟩ : ByteArray), .bool false, .string (⟨#[]⟩ : ByteArray), .int .i64 0, .int .i64 0] 34 (0, 0)) (by (with_reducible repeat (first | refine blk_drewN ?_ _ | refine blk_drew ?_ | refine blk_alloc ?_ _)); exact BK773.out) hb)
        have n3_ := Aside0.mk (below_step (by repeat (first | (with_reducible first | exact HB.out | apply below_alloc | apply pw_below_drewN | apply below_drew1 | refine below_set ?_ GE771.out | refine below_set ?_ GE772.out | refine below_set ?_ GE773.out) | exact HB.out)) hb)
        clear BK771
        clear BK772
        clear BK773
        clear HB
        have BK771 := n0_
        have BK772 := n1_
        have BK773 := n2_
        have HB := n3_
        clear n0_ n1_ n2_ n3_
        (try clear hb)
        (try clear hb2)
        (try clear hk)
        (try clear hi)
        refine hK.out _ _ ⟨(blk_cell BK771.out 0).trans rfl, (blk_cell BK771.out 1).trans rfl, (blk_cell BK771.out 2).trans rfl, (blk_cell BK771.out 3).trans rfl, (blk_cell BK771.out 4).trans rfl, (blk_cell BK772.out 0).trans rfl, (blk_cell BK772.out 1).trans rfl, (blk_cell BK772.out 2).trans rfl, (blk_cell BK772.out 3).trans rfl, (blk_cell BK772.out 4).trans rfl⟩ (fun hHeld => ?_)
        clear hK K
        refine norm_ (a' := ?_) ?_ ?_
        rotate_left
        · show Act.put _ (some 9) _ = _
          simp only [Act.put, List.setIfInBounds_toArray, List.set_cons_zero, List.set_cons_succ, i64_w, i32_w]
          rfl
        refine one_ (i := 5) (N := some 12) #[true, true, true, true, true, true, false, false] rfl rfl (one_of HT_.out (by kernel_rfl)) (by decide) (fun K hK => ?_)
        refine goes_ Tryz.func67 (by kernel_rfl) rfl #[.agg #[.int .i64 a1_3, .int .i64 a1_4]] (by rfl) rfl rfl (by (try simp only [List.map_toArray, List.map_cons, List.map_nil]); first | done | rfl | (simp only [List.length_drop, List.length_take]; rfl)) ?_
        with_reducible refine (clock_Of.calls a1_3 a1_4 t775 _ A4.out).mono ?_
        rintro e w57 ⟨rfl, hb⟩
        refine ⟨_, rfl, ?_⟩
        have n0_ := Aside0.mk (blk_below (g := gb771) (o := .cells #[.string a0_0, .bool a0_1, .string a0_2, .int .i64 a0_3, .int .i64 a0_4] 34 (0, 0)) (by (with_reducible repeat (first | refine blk_drewN ?_ _ | refine blk_drew ?_ | refine blk_alloc ?_ _)); exact BK771.out) hb)
        have n1_ := Aside0.mk (blk_below (g := gb772) (o := .cells #[.string a1_0, .bool a1_1, .string a1_2, .int .i64 a1_3, .int .i64 a1_4] 34 (0, 0)) (by (with_reducible repeat (first | refine blk_drewN ?_ _ | refine blk_drew ?_ | refine blk_alloc ?_ _)); exact BK772.out) hb)
        have n2_ := Aside0.mk (blk_below (g := gb773) (o := .cells #[.string (⟨#[]⟩ : ByteArray), .bool false, .string (⟨#[]⟩ : ByteArray), .int .i64 0, .int .i64 0] 34 (0, 0)) (by (with_reducible repeat (first | refine blk_drewN ?_ _ | refine blk_drew ?_ | refine blk_alloc ?_ _)); exact BK773.out) hb)
        have n3_ := Aside0.mk (below_step (by repeat (first | (with_reducible first | exact HB.out | apply below_alloc | apply pw_below_drewN | apply below_drew1 | refine below_set ?_ GE771.out | refine below_set ?_ GE772.out | refine below_set ?_ GE773.out) | exact HB.out)) hb)
        clear BK771
        clear BK772
        clear BK773
        clear HB
        have BK771 := n0_
        have BK772 := n1_
        have BK773 := n2_
        have HB := n3_
        clear n0_ n1_ n2_ n3_
        (try clear hb)
        (try clear hb2)
        (try clear hk)
        (try clear hi)
        refine hK.out _ _ ⟨(blk_cell BK771.out 0).trans rfl, (blk_cell BK771.out 1).trans rfl, (blk_cell BK771.out 2).trans rfl, (blk_cell BK771.out 3).trans rfl, (blk_cell BK771.out 4).trans rfl, (blk_cell BK772.out 0).trans rfl, (blk_cell BK772.out 1).trans rfl, (blk_cell BK772.out 2).trans rfl, (blk_cell BK772.out 3).trans rfl, (blk_cell BK772.out 4).trans rfl⟩ (fun hHeld => ?_)
        clear hK K
        refine norm_ (a' := ?_) ?_ ?_
        rotate_left
        · show Act.put _ (some 12) _ = _
          simp only [Act.put, List.setIfInBounds_toArray, List.set_cons_zero, List.set_cons_succ, i64_w, i32_w]
          rfl
        refine one_ (i := 6) (N := some 13) #[true, true, true, true, true, true, true, false] rfl rfl (one_of HT_.out (by kernel_rfl)) (by decide) (fun K hK => ?_)
        refine goes_ Tryz.func86 (by kernel_rfl) rfl #[cpx t774, cpx t775] (by rfl) rfl rfl (by (try simp only [List.map_toArray, List.map_cons, List.map_nil]); first | done | rfl | (simp only [List.length_drop, List.length_take]; rfl)) ?_
        with_reducible refine (clock_Order.calls t774 t775 t776 _ A5.out).mono ?_
        rintro e w58 ⟨rfl, hb⟩
        refine ⟨_, rfl, ?_⟩
        have n0_ := Aside0.mk (blk_below (g := gb771) (o := .cells #[.string a0_0, .bool a0_1, .string a0_2, .int .i64 a0_3, .int .i64 a0_4] 34 (0, 0)) (by (with_reducible repeat (first | refine blk_drewN ?_ _ | refine blk_drew ?_ | refine blk_alloc ?_ _)); exact BK771.out) hb)
        have n1_ := Aside0.mk (blk_below (g := gb772) (o := .cells #[.string a1_0, .bool a1_1, .string a1_2, .int .i64 a1_3, .int .i64 a1_4] 34 (0, 0)) (by (with_reducible repeat (first | refine blk_drewN ?_ _ | refine blk_drew ?_ | refine blk_alloc ?_ _)); exact BK772.out) hb)
        have n2_ := Aside0.mk (blk_below (g := gb773) (o := .cells #[.string (⟨#[]⟩ : ByteArray), .bool false, .string (⟨#[]⟩ : ByteArray), .int .i64 0, .int .i64 0] 34 (0, 0)) (by (with_reducible repeat (first | refine blk_drewN ?_ _ | refine blk_drew ?_ | refine blk_alloc ?_ _)); exact BK773.out) hb)
        have n3_ := Aside0.mk (below_step (by repeat (first | (with_reducible first | exact HB.out | apply below_alloc | apply pw_below_drewN | apply below_drew1 | refine below_set ?_ GE771.out | refine below_set ?_ GE772.out | refine below_set ?_ GE773.out) | exact HB.out)) hb)
        clear BK771
        clear BK772
        clear BK773
        clear HB
        have BK771 := n0_
        have BK772 := n1_
        have BK773 := n2_
        have HB := n3_
        clear n0_ n1_ n2_ n3_
        (try clear hb)
        (try clear hb2)
        (try clear hk)
        (try clear hi)
        refine hK.out _ _ ⟨(blk_cell BK771.out 0).trans rfl, (blk_cell BK771.out 1).trans rfl, (blk_cell BK771.out 2).trans rfl, (blk_cell BK771.out 3).trans rfl, (blk_cell BK771.out 4).trans rfl, (blk_cell BK772.out 0).trans rfl, (blk_cell BK772.out 1).trans rfl, (blk_cell BK772.out 2).trans rfl, (blk_cell BK772.out 3).trans rfl, (blk_cell BK772.out 4).trans rfl⟩ (fun hHeld => ?_)
        clear hK K
        refine norm_ (a' := ?_) ?_ ?_
        rotate_left
        · show Act.put _ (some 13) _ = _
          simp only [Act.put, List.setIfInBounds_toArray, List.set_cons_zero, List.set_cons_succ, i64_w, i32_w]
          rfl
        refine pure_ (i := 7) (N := some 6) (v := ?_) (a' := ?_) #[true, true, true, true, true, true, true, true] rfl rfl (any_of HT_.out (by kernel_rfl)) (fun _ _ _ h => h) (Or.inl ⟨by rfl, ?_⟩) ?_ ?_
        rotate_left
        · intro w'
          go_simp
          with_reducible rfl
        rotate_left
        · simp only [Act.put, List.setIfInBounds_toArray, List.set_cons_zero, List.set_cons_succ, i64_w, i32_w]
          rfl
        refine done_ (done_of HT_.out (by kernel_rfl)) ?_
        have hnb59 := NB771_772.out
        have hnc59 := NB772_771.out
        have hnb60 := NB771_773.out
        have hnc60 := NB773_771.out
        have hcz61_0 : w58.cell? ⟨gb771, 0, none⟩ = some (.string a0_0) := (blk_cell BK771.out 0).trans rfl
        have hcz61_1 : w58.cell? ⟨gb771, 1, none⟩ = some (.bool a0_1) := (blk_cell BK771.out 1).trans rfl
        have hcz61_2 : w58.cell? ⟨gb771, 2, none⟩ = some (.string a0_2) := (blk_cell BK771.out 2).trans rfl
        have hcz61_3 : w58.cell? ⟨gb771, 3, none⟩ = some (.int .i64 a0_3) := (blk_cell BK771.out 3).trans rfl
        have hcz61_4 : w58.cell? ⟨gb771, 4, none⟩ = some (.int .i64 a0_4) := (blk_cell BK771.out 4).trans rfl
        have hfz61_0 := blk_frozen BK771.out 0
        have hfz61_1 := blk_frozen BK771.out 1
        have hfz61_2 := blk_frozen BK771.out 2
        have hfz61_3 := blk_frozen BK771.out 3
        have hfz61_4 := blk_frozen BK771.out 4
        have hnb62 := NB772_773.out
        have hnc62 := NB773_772.out
        have hcz63_0 : w58.cell? ⟨gb772, 0, none⟩ = some (.string a1_0) := (blk_cell BK772.out 0).trans rfl
        have hcz63_1 : w58.cell? ⟨gb772, 1, none⟩ = some (.bool a1_1) := (blk_cell BK772.out 1).trans rfl
        have hcz63_2 : w58.cell? ⟨gb772, 2, none⟩ = some (.string a1_2) := (blk_cell BK772.out 2).trans rfl
        have hcz63_3 : w58.cell? ⟨gb772, 3, none⟩ = some (.int .i64 a1_3) := (blk_cell BK772.out 3).trans rfl
        have hcz63_4 : w58.cell? ⟨gb772, 4, none⟩ = some (.int .i64 a1_4) := (blk_cell BK772.out 4).trans rfl
        have hfz63_0 := blk_frozen BK772.out 0
        have hfz63_1 := blk_frozen BK772.out 1
        have hfz63_2 := blk_frozen BK772.out 2
        have hfz63_3 := blk_frozen BK772.out 3
        have hfz63_4 := blk_frozen BK772.out 4
        try go_wp2_with (first | ((with_reducible refine gate_callee (f := 87) rfl ?_); refine goesL_ (some 25) rfl rfl Tryz.func87 (by kernel_rfl) rfl #[.agg #[.string a0_0, .bool a0_1, .string a0_2, .int .i64 a0_3, .int .i64 a0_4], .agg #[.string a1_0, .bool a1_1, .string a1_2, .int .i64 a1_3, .int .i64 a1_4]] rfl (by (try simp only [List.map_toArray, List.map_cons, List.map_nil]); first | done | rfl | (simp only [List.length_drop, List.length_take]; rfl)) ?_; (with_reducible refine (recon_value.calls a0_0 a0_1 a0_2 a0_3 a0_4 a1_0 a1_1 a1_2 a1_3 a1_4 false _ A32.out).mono ?_); rintro e w64 ⟨rfl, hb⟩; refine ⟨_, rfl, ?_⟩; have n0_ := Aside0.mk (blk_below (g := gb771) (o := .cells #[.string a0_0, .bool a0_1, .string a0_2, .int .i64 a0_3, .int .i64 a0_4] 34 (0, 0)) (by (with_reducible repeat (first | refine blk_drewN ?_ _ | refine blk_drew ?_ | refine blk_alloc ?_ _)); exact BK771.out) hb); have n1_ := Aside0.mk (blk_below (g := gb772) (o := .cells #[.string a1_0, .bool a1_1, .string a1_2, .int .i64 a1_3, .int .i64 a1_4] 34 (0, 0)) (by (with_reducible repeat (first | refine blk_drewN ?_ _ | refine blk_drew ?_ | refine blk_alloc ?_ _)); exact BK772.out) hb); have n2_ := Aside0.mk (blk_below (g := gb773) (o := .cells #[.string (⟨#[]⟩ : ByteArray), .bool false, .string (⟨#[]⟩ : ByteArray), .int .i64 0, .int .i64 0] 34 (0, 0)) (by (with_reducible repeat (first | refine blk_drewN ?_ _ | refine blk_drew ?_ | refine blk_alloc ?_ _)); exact BK773.out) hb); have n3_ := Aside0.mk (below_step (by repeat (first | (with_reducible first | exact HB.out | apply below_alloc | apply pw_below_drewN | apply below_drew1 | refine below_set ?_ GE771.out | refine below_set ?_ GE772.out | refine below_set ?_ GE773.out) | exact HB.out)) hb); clear BK771; clear BK772; clear BK773; clear HB; have BK771 := n0_; have BK772 := n1_; have BK773 := n2_; have HB := n3_; clear n0_ n1_ n2_ n3_; (try clear hb); (try clear hb2); (try clear hk); (try clear hi); have hcz65_0 : w64.cell? ⟨gb771, 0, none⟩ = some (.string a0_0) := (blk_cell BK771.out 0).trans rfl; have hcz65_1 : w64.cell? ⟨gb771, 1, none⟩ = some (.bool a0_1) := (blk_cell BK771.out 1).trans rfl; have hcz65_2 : w64.cell? ⟨gb771, 2, none⟩ = some (.string a0_2) := (blk_cell BK771.out 2).trans rfl; have hcz65_3 : w64.cell? ⟨gb771, 3, none⟩ = some (.int .i64 a0_3) := (blk_cell BK771.out 3).trans rfl; have hcz65_4 : w64.cell? ⟨gb771, 4, none⟩ = some (.int .i64 a0_4) := (blk_cell BK771.out 4).trans rfl; have hfz65_0 := blk_frozen BK771.out 0; have hfz65_1 := blk_frozen BK771.out 1; have hfz65_2 := blk_frozen BK771.out 2; have hfz65_3 := blk_frozen BK771.out 3; have hfz65_4 := blk_frozen BK771.out 4; have hcz66_0 : w64.cell? ⟨gb773, 0, none⟩ = some (.string (⟨#[]⟩ : ByteArray)) := (blk_cell BK773.out 0).trans rfl; have hcz66_1 : w64.cell? ⟨gb773, 1, none⟩ = some (.bool false) := (blk_cell BK773.out 1).trans rfl; have hcz66_2 : w64.cell? ⟨gb773, 2, none⟩ = some (.string (⟨#[]⟩ : ByteArray)) := (blk_cell BK773.out 2).trans rfl; have hcz66_3 : w64.cell? ⟨gb773, 3, none⟩ = some (.int .i64 0) := (blk_cell BK773.out 3).trans rfl; have hcz66_4 : w64.cell? ⟨gb773, 4, none⟩ = some (.int .i64 0) := (blk_cell BK773.out 4).trans rfl; have hfz66_0 := blk_frozen BK773.out 0; have hfz66_1 := blk_frozen BK773.out 1; have hfz66_2 := blk_frozen BK773.out 2; have hfz66_3 := blk_frozen BK773.out 3; have hfz66_4 := blk_frozen BK773.out 4))
        refine bodyPost_ret (results_ct rfl _ _ gb773 34 #[.string a0_0, .bool a0_1, .string a0_2, .int .i64 a0_3, .int .i64 a0_4] (0, 0) _ rfl (by (with_reducible repeat (first | refine blk_drewN ?_ _ | refine blk_drew ?_ | refine blk_alloc ?_ _)); refine blk_put (cs := #[.string a0_0, .bool a0_1, .string a0_2, .int .i64 a0_3, .int .i64 0]) ?_ 4 _ rfl; (with_reducible repeat (first | refine blk_drewN ?_ _ | refine blk_drew ?_ | refine blk_alloc ?_ _)); refine blk_put (cs := #[.string a0_0, .bool a0_1, .string a0_2, .int .i64 0, .int .i64 0]) ?_ 3 _ rfl; (with_reducible repeat (first | refine blk_drewN ?_ _ | refine blk_drew ?_ | refine blk_alloc ?_ _)); refine blk_put (cs := #[.string a0_0, .bool a0_1, .string (⟨#[]⟩ : ByteArray), .int .i64 0, .int .i64 0]) ?_ 2 _ rfl; (with_reducible repeat (first | refine blk_drewN ?_ _ | refine blk_drew ?_ | refine blk_alloc ?_ _)); refine blk_put (cs := #[.string a0_0, .bool false, .string (⟨#[]⟩ : ByteArray), .int .i64 0, .int .i64 0]) ?_ 1 _ rfl; (with_reducible repeat (first | refine blk_drewN ?_ _ | refine blk_drew ?_ | refine blk_alloc ?_ _)); refine blk_put (cs := #[.string (⟨#[]⟩ : ByteArray), .bool false, .string (⟨#[]⟩ : ByteArray), .int .i64 0, .int .i64 0]) ?_ 0 _ rfl; (with_reducible repeat (first | refine blk_drewN ?_ _ | refine blk_drew ?_ | refine blk_alloc ?_ _)); exact BK773.out) Tryz.underlying34 rfl (by kernel_rfl)) rfl ?_
        exact ⟨by first | rfl | (simp [errW_none, errW_some] <;> rfl) | (simp [*, errW_none, errW_some] <;> rfl), by repeat (first | (with_reducible first | exact HB.out | apply below_alloc | apply pw_below_drewN | apply below_drew1 | refine below_set ?_ GE771.out | refine below_set ?_ GE772.out | refine below_set ?_ GE773.out) | exact HB.out)⟩
end Go.Proofs.YtlkmegeecmkkbaaGreatDoor.P
end
section
namespace Go.Proofs.YtlkmegeecmkkbaaGreatDoor.P
open Go.RowKit Go.Maps
set_option linter.unusedVariables false
set_option linter.unusedSimpArgs false
def okC (e : S34) : Bool := clockB e.f3.f0 e.f3.f1
theorem okC_iff {e : S34} : okC e = true ↔ 0 ≤ e.f3.f0 ∧ e.f3.f0 ≤ 1073741824 ∧ 0 ≤ e.f3.f1 ∧ e.f3.f1 ≤ 1073741824 := by
  unfold okC clockB; simp; omega
theorem clock_Of_eq {x y : Int} (h : 0 ≤ x ∧ x ≤ 1073741824 ∧ 0 ≤ y ∧ y ≤ 1073741824) : clock_Of.f x y = some (x, y) := by
  unfold clock_Of.f clampI
  congr 2 <;> omega
theorem inR_ok {x y : Int} (h : 0 ≤ x ∧ x ≤ 1073741824 ∧ 0 ≤ y ∧ y ≤ 1073741824) : inR (x, y) = true := by rw [inR_iff]; simp only; omega
theorem capI_ok {x y : Int} (h : 0 ≤ x ∧ x ≤ 1073741824 ∧ 0 ≤ y ∧ y ≤ 1073741824) : capI (x, y) = (x, y) := by unfold capI; simp only; congr 1 <;> omega
theorem clock_Order_eq {x y u v : Int} (h : 0 ≤ x ∧ x ≤ 1073741824 ∧ 0 ≤ y ∧ y ≤ 1073741824) (h' : 0 ≤ u ∧ u ≤ 1073741824 ∧ 0 ≤ v ∧ v ≤ 1073741824) : clock_Order.f (x, y) (u, v) = some (orderI (x, y) (u, v)) := by
  unfold clock_Order.f
  rw [if_pos ⟨inR_ok h, inR_ok h'⟩, capI_ok h, capI_ok h']
theorem clock_Join_eq {x y u v : Int} (h : 0 ≤ x ∧ x ≤ 1073741824 ∧ 0 ≤ y ∧ y ≤ 1073741824) (h' : 0 ≤ u ∧ u ≤ 1073741824 ∧ 0 ≤ v ∧ v ≤ 1073741824) : clock_Join.f (x, y) (u, v) = some (max x u, max y v) := by
  unfold clock_Join.f
  rw [if_pos ⟨inR_ok h, inR_ok h'⟩, capI_ok h, capI_ok h']
theorem clock_Pair_eq {x y : Int} (h : 0 ≤ x ∧ x ≤ 1073741824 ∧ 0 ≤ y ∧ y ≤ 1073741824) : clock_Pair.f (x, y) = some (x, y) := by
  unfold clock_Pair.f
  rw [if_pos (inR_ok h)]
  congr 2 <;> simp only <;> omega
theorem joined_eq {a b : S34} (ha : okC a = true) (hb : okC b = true) : recon_joined.f a.f0 a.f1 a.f2 a.f3.f0 a.f3.f1 b.f0 b.f1 b.f2 b.f3.f0 b.f3.f1 = some ((joinE a b).f0, (joinE a b).f1, (joinE a b).f2, (joinE a b).f3.f0, (joinE a b).f3.f1) := by
  have ha := okC_iff.1 ha
  have hb := okC_iff.1 hb
  unfold recon_joined.f
  rw [clock_Of_eq ha, Option.bind_some, clock_Of_eq hb, Option.bind_some, clock_Join_eq ha hb, Option.bind_some, clock_Pair_eq (by omega)]
  rfl
theorem come_eq {a b : S34} (ha : okC a = true) (hb : okC b = true) : recon_come.f a.f0 a.f1 a.f2 a.f3.f0 a.f3.f1 b.f0 b.f1 b.f2 b.f3.f0 b.f3.f1 = some ((comeE a b).1.f0, (comeE a b).1.f1, (comeE a b).1.f2, (comeE a b).1.f3.f0, (comeE a b).1.f3.f1, (comeE a b).2) := by
  have ha' := okC_iff.1 ha
  have hb' := okC_iff.1 hb
  unfold recon_come.f
  rw [clock_Of_eq ha', Option.bind_some, clock_Of_eq hb', Option.bind_some, clock_Order_eq ha' hb', Option.bind_some]
  unfold comeE ordE
  generalize orderI (a.f3.f0, a.f3.f1) (b.f3.f0, b.f3.f1) = o
  by_cases h1 : o = 1
  · rw [if_pos h1, if_pos h1]
  · rw [if_neg h1, if_neg h1]
    by_cases h2 : o = 2
    · rw [if_pos h2, if_pos h2]
    · rw [if_neg h2, if_neg h2]
      have hv : recon_value.f a.f0 a.f1 a.f2 a.f3.f0 a.f3.f1 b.f0 b.f1 b.f2 b.f3.f0 b.f3.f1 = some (valE a b) := by
        unfold recon_value.f valE
        cases (a.f1 == b.f1) <;> rfl
      rw [hv, Option.bind_some]
      cases valE a b with
      | true => rw [if_pos rfl, joined_eq ha hb]; rfl
      | false => rfl
theorem come_calls (a b : S34) (ha : okC a = true) (hb : okC b = true) (w : World) :
    Calls Tryz.prog 47 #[entV a, entV b] w fun e w' => e = .returned (.tuple #[entV (comeE a b).1, .bool (comeE a b).2]) ∧ Below w.heap.size w w' :=
  recon_come.calls a.f0 a.f1 a.f2 a.f3.f0 a.f3.f1 b.f0 b.f1 b.f2 b.f3.f0 b.f3.f1 _ _ _ _ _ _ w (come_eq ha hb)
end Go.Proofs.YtlkmegeecmkkbaaGreatDoor.P
end
section
namespace Go.Proofs.YtlkmegeecmkkbaaGreatDoor.P
open Go.RowKit Go.Maps
set_option linter.unusedVariables false
set_option linter.unusedSimpArgs false
theorem ltB_eq (a b : ByteArray) : ltB a b = decide (a.data.toList < b.data.toList) := by
  unfold ltB
  rw [ByteArray.toList_eq, ByteArray.toList_eq]
  exact Go.Proofs.bytesLess_eq _ _
theorem archFrom_all {l : List S34} : ∀ (d i : Nat), i + d = l.length → archFrom l i = true → ∀ j, (h : j < l.length) → i ≤ j → entOk l j h = true := by
  intro d
  induction d with
  | zero => intro i hi _ j hj hij; omega
  | succ d ih =>
    intro i hi h j hj hij
    have hlt : i < l.length := by omega
    unfold archFrom at h
    rw [dif_pos hlt, Bool.and_eq_true] at h
    by_cases e : j = i
    · subst e; exact h.1
    · exact ih (i + 1) (by omega) h.2 j hj (by omega)
theorem arch_ok {l : List S34} (h : archB l = true) (i : Nat) (hi : i < l.length) : entOk l i hi = true := by
  unfold archB at h
  rw [Bool.and_eq_true] at h
  exact archFrom_all l.length 0 (by omega) h.1 i hi (Nat.zero_le _)
theorem arch_len {l : List S34} (h : archB l = true) : l.length ≤ 32 := by
  unfold archB at h
  simp at h
  exact h.2.1
theorem arch_tree {l : List S34} (h : archB l = true) : treeB (filesL l) = true := by
  unfold archB at h
  simp at h
  exact h.2.2
theorem arch_clock {l : List S34} (h : archB l = true) : ∀ e ∈ l, okC e = true := by
  intro e he
  obtain ⟨i, hi, rfl⟩ := List.getElem_of_mem he
  have := arch_ok h i hi
  unfold entOk at this
  simp only [Bool.and_eq_true] at this
  exact this.2.2.1
theorem arch_step {l : List S34} (h : archB l = true) (i : Nat) (hi : i + 1 < l.length) : pathL l[i] < pathL l[i + 1] := by
  have := arch_ok h (i + 1) hi
  unfold entOk at this
  simp only [Bool.and_eq_true] at this
  have := this.2.1
  rw [dif_pos (by omega), ltB_eq] at this
  simpa [pathL] using this
theorem rising_of_steps {l : List S34} (h : ∀ i, (hi : i + 1 < l.length) → pathL l[i] < pathL l[i + 1]) : l.Pairwise (fun a b => pathL a < pathL b) := by
  rw [List.pairwise_iff_getElem]
  intro i j hi hj hij
  obtain ⟨d, rfl⟩ : ∃ d, j = i + 1 + d := ⟨j - (i + 1), by omega⟩
  clear hij
  induction d with
  | zero => exact h i hj
  | succ d ih => exact List.lt_trans (ih (by omega)) (h (i + 1 + d) hj)
theorem arch_rising {l : List S34} (h : archB l = true) : l.Pairwise (fun a b => pathL a < pathL b) := rising_of_steps (arch_step h)
theorem nodup_of_rising {l : List S34} (h : l.Pairwise (fun a b => pathL a < pathL b)) : nodupE l := by
  unfold nodupE List.Nodup
  rw [List.pairwise_map]
  refine h.imp ?_
  intro a b hab e
  rw [e] at hab
  exact List.lt_irrefl _ hab
theorem arch_nodup {l : List S34} (h : archB l = true) : nodupE l := nodup_of_rising (arch_rising h)
theorem shortE_of_mem {l : List S34} (h : shortE l = true) {e : S34} (he : e ∈ l) : e.f0.size < 4294967281 := by simpa using List.all_eq_true.1 h e he
theorem look_of_at {l : List S34} (hn : nodupE l) {x : List UInt8} {c : S34} (h : ∀ z, (mapOf l).atKey (.string x) z = .held c) : lookE l x = some c := by
  have := h .nil
  rw [at_mapOf x _ l hn] at this
  unfold heldOr at this
  cases hl : lookE l x with
  | none => rw [hl] at this; cases this
  | some e => rw [hl] at this; injection this with this; rw [this]
theorem BAof_path {p : ByteArray} : BAof p.data.toList = p := by cases p; simp [BAof]
theorem coll_b {b : List S34} {left : Lit → Bool} {ss : List (List UInt8)} (hc : Collected (mapOf b) left ss) : ∀ y ∈ ss, (lookE b y).isSome = true := fun y hy => by
  have := ((hc.2 y).1 hy).1
  rwa [has_mapOf] at this
theorem coll_not {b : List S34} {left : Lit → Bool} {ss : List (List UInt8)} (hc : Collected (mapOf b) left ss) {x : List UInt8} (hl : left (.string x) = true) : x ∉ ss := fun hx => by
  have := ((hc.2 x).1 hx).2
  rw [hl] at this; cases this
theorem coll_all {b : List S34} {left : Lit → Bool} {ss : List (List UInt8)} (hc : Collected (mapOf b) left ss) (hl : ∀ kl, left kl = false) : ∀ y, y ∈ ss ↔ (lookE b y).isSome = true := fun y => by
  rw [hc.2 y, has_mapOf, hl]; simp
theorem conf_snoc (a b : List S34) (ss : List (List UInt8)) (x : List UInt8) : (ss ++ [x]).filter (isConf a b) = if isConf a b x = true then ss.filter (isConf a b) ++ [x] else ss.filter (isConf a b) := by
  rw [List.filter_append]
  cases h : isConf a b x <;> simp [h]
theorem conf_none {a b : List S34} {x : List UInt8} (ha : lookE a x = none) : isConf a b x = false := by unfold isConf; rw [ha]
theorem conf_some {a b : List S34} {x : List UInt8} {y c : S34} (ha : lookE a x = some y) (hb : lookE b x = some c) : isConf a b x = (comeE y c).2 := by unfold isConf; rw [ha, hb]
theorem step_none {a b : List S34} (ss : List (List UInt8)) {x : List UInt8} {c : S34} (ha : lookE a x = none) (hb : lookE b x = some c) : mapM a b (ss ++ [x]) = (mapM a b ss).put (.string x) (.held c) := by
  rw [mapM_snoc]; unfold stepD mergedE; rw [ha, hb]
theorem step_some {a b : List S34} (ss : List (List UInt8)) {x : List UInt8} {y c : S34} (ha : lookE a x = some y) (hb : lookE b x = some c) : mapM a b (ss ++ [x]) = (mapM a b ss).put (.string x) (.held (comeE y c).1) := by
  rw [mapM_snoc]; unfold stepD mergedE; rw [ha, hb]
theorem mergeSort_sorted {l : List (List UInt8)} (h : l.Pairwise (fun x y => leB x y = true)) : l.mergeSort leB = l := List.mergeSort_of_pairwise h
theorem leB_trans (a b c : List UInt8) (h1 : leB a b = true) (h2 : leB b c = true) : leB a c = true := by simp only [leB, decide_eq_true_eq] at *; exact List.le_trans h1 h2
theorem leB_total (a b : List UInt8) : (leB a b || leB b a) = true := by simp only [leB, Bool.or_eq_true, decide_eq_true_eq]; exact List.le_total a b
theorem keysM_sorted (a b : List S34) : (keysM a b).Pairwise (fun x y => leB x y = true) := List.pairwise_mergeSort leB_trans leB_total _
theorem conf_sorted {a b : List S34} (ha : nodupE a) (hb : nodupE b) {ss : List (List UInt8)} (hn : ss.Nodup) (hm : ∀ x, x ∈ ss ↔ (lookE b x).isSome = true) : (ss.filter (isConf a b)).mergeSort leB = confM a b := by
  have hp : (ss.filter (isConf a b)).Perm (confM a b) := by
    refine (List.perm_ext_iff_of_nodup (hn.filter _) ((keysM_nodup ha hb).filter _)).2 (fun x => ?_)
    rw [List.mem_filter, List.mem_filter, hm, mem_keysM]
    constructor
    · rintro ⟨h1, h2⟩; exact ⟨merged_some_of_b h1, h2⟩
    · rintro ⟨h1, h2⟩
      refine ⟨?_, h2⟩
      unfold isConf at h2
      cases hla : lookE a x <;> cases hlb : lookE b x <;> simp_all
  rw [mergeSort_of_perm hp]
  exact mergeSort_sorted ((keysM_sorted a b).filter _)
end Go.Proofs.YtlkmegeecmkkbaaGreatDoor.P
end

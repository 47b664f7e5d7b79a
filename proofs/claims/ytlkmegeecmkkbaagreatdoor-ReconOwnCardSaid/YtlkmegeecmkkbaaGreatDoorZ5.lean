/-
  Parts of the proof, one behind the other: PpathNames, PpathRight, PstringsliteHasPrefix, PstringsHasPrefix, PpathUnder, PpathClash, GPath, GFun. Each is a contract of a function of the program, or a plain law; no condition of its own beyond what each theorem says.
-/
import Derived.Shelf.Abstract
import Derived.Test.YtlkmegeecmkkbaaGreatDoorZ2
import Derived.Test.YtlkmegeecmkkbaaGreatDoorZ4
section
namespace Go.Proofs.YtlkmegeecmkkbaaGreatDoor.P
open Go.RowKit Go.Proofs.YtlkmegeecmkkbaaGreatDoorW.PrintWords Go.Proofs.YtlkmegeecmkkbaaGreatDoorW.PrintLast Go.Proofs.YtlkmegeecmkkbaaGreatDoorW.PrintMore
attribute [local go_sem] max2_int min2_int max_two min_two max_three min_three max_four min_four   -- for this text's walks alone
attribute [local go_sem] str_leq str_gtr str_geq
set_option linter.unusedVariables false
set_option linter.unusedSimpArgs false
def path_Names.l0 : Nat → List ByteArray → List ByteArray → Int → Int → Option (List ByteArray)
  | 0, _, _, _, _ => none
  | k + 1, x3, x11, x12, x13 => if x13 < x12 then (if 0 ≤ x13 then (if x13 < (x11.length : Int) then ((path_Name.f (rdOf ByteArray.empty x11 x13)).bind fun t480 => (if t480 = true then (path_Names.l0 k x3 x11 x12 (wrap64 (x13 + 1))) else (some ([] : List ByteArray)))) else (none)) else (none)) else (some x3)
def path_Names.f (k : Nat) (a0 : ByteArray) : Option (List ByteArray) := (strings_Split.f a0 (⟨#[47]⟩ : ByteArray)).bind fun t476 => (if (t476.length : Int) > 4 then (some ([] : List ByteArray)) else (path_Names.l0 k t476 t476 (t476.length : Int) 0))
set_option maxHeartbeats 8000000 in
set_option maxRecDepth 100000 in
theorem path_Names.calls (k : Nat) (a0 : ByteArray) (r : List ByteArray) (w : World) (h : path_Names.f k a0 = some r) :
    Calls Tryz.prog 114 #[.string a0] w fun e w' => ∃ v0_ : Value, e = .returned (v0_) ∧ Kd.R Kd.string 9 w' w.heap.size (fun _ => True) v0_ r ∧ Below w.heap.size w w' := by
  have HB := Aside0.mk (Below.refl w.heap.size w)
  have H : ((strings_Split.f a0 (⟨#[47]⟩ : ByteArray)).bind fun t476 => (if (t476.length : Int) > 4 then (some ([] : List ByteArray)) else (path_Names.l0 k t476 t476 (t476.length : Int) 0))) = some r := h
  clear h
  replace H := Option.bind_eq_some_iff.mp H
  obtain ⟨t476, A20, H⟩ := H
  replace H : (if (t476.length : Int) > 4 then (some ([] : List ByteArray)) else (path_Names.l0 k t476 t476 (t476.length : Int) 0)) = some r := H
  have A2 := Aside0.mk A20
  clear A20
  by_cases c3 : (t476.length : Int) > 4
  · rw [if_pos c3] at H
    have c3b0 : decide (4 < (t476.length : Int)) = true := decide_eq_true c3
    have c3b1 : decide (4 < t476.length) = true := decide_eq_true (by omega)
    clear c3
    obtain rfl := Option.some.inj H
    go_enter Tryz.func114, Tryz.ntmps114
    go_wp2_with (first | ((with_reducible refine gate_callee (f := 142) rfl ?_); refine goesL_ (some 7) rfl rfl Tryz.func142 (by kernel_rfl) rfl #[.string a0, .string (⟨#[47]⟩ : ByteArray)] rfl (by (try simp only [List.map_toArray, List.map_cons, List.map_nil]); first | done | rfl | (simp only [List.length_drop, List.length_take]; rfl)) ?_; (with_reducible refine (strings_Split.calls a0 (⟨#[47]⟩ : ByteArray) t476 _ A2.out).mono ?_); rintro e w4 ⟨v477, rfl, ho0, hb⟩; refine ⟨_, rfl, ?_⟩; have n0_ := Aside0.mk (Kd.R_lower ho0 (below_size (by repeat (first | (with_reducible first | exact HB.out | apply below_alloc | apply pw_below_drewN | apply below_drew1) | exact HB.out)))); have n1_ := Aside0.mk (below_step (by repeat (first | (with_reducible first | exact HB.out | apply below_alloc | apply pw_below_drewN | apply below_drew1) | exact HB.out)) hb); clear HB; have HO478 := n0_; have HB := n1_; clear n0_ n1_; (try clear hb); (try clear hb2); (try clear hk); (try clear hi); (try clear ho0); obtain ⟨Ao5, co5, eo5⟩ := Kd.R_slice HO478.out; subst eo5))
    go_ret
    exact ⟨_, by first | rfl | (simp [errW_none, errW_some] <;> rfl) | (simp [*, errW_none, errW_some] <;> rfl), by first | exact Kd.R_nil _ _ _ _ _ | exact Kd.N_nil _ _ _ _ _ | exact Kd.V_nil _ _ _ _ _ | exact Kd.Q_nil _ _ _ _ _ | exact Kd.S_nil _ _ _ _ _, by repeat (first | (with_reducible first | exact HB.out | apply below_alloc | apply pw_below_drewN | apply below_drew1) | exact HB.out)⟩
  · rw [if_neg c3] at H
    have c3b0 : decide (4 < (t476.length : Int)) = false := decide_eq_false c3
    have c3b1 : decide (4 < t476.length) = false := decide_eq_false (by omega)
    clear c3
    have H' := Aside0.mk H
    clear H
    go_enter Tryz.func114, Tryz.ntmps114
    go_wp2_with (first | ((with_reducible refine gate_callee (f := 142) rfl ?_); refine goesL_ (some 7) rfl rfl Tryz.func142 (by kernel_rfl) rfl #[.string a0, .string (⟨#[47]⟩ : ByteArray)] rfl (by (try simp only [List.map_toArray, List.map_cons, List.map_nil]); first | done | rfl | (simp only [List.length_drop, List.length_take]; rfl)) ?_; (with_reducible refine (strings_Split.calls a0 (⟨#[47]⟩ : ByteArray) t476 _ A2.out).mono ?_); rintro e w6 ⟨v477, rfl, ho0, hb⟩; refine ⟨_, rfl, ?_⟩; have n0_ := Aside0.mk (Kd.R_lower ho0 (below_size (by repeat (first | (with_reducible first | exact HB.out | apply below_alloc | apply pw_below_drewN | apply below_drew1) | exact HB.out)))); have n1_ := Aside0.mk (below_step (by repeat (first | (with_reducible first | exact HB.out | apply below_alloc | apply pw_below_drewN | apply below_drew1) | exact HB.out)) hb); clear HB; have HO478 := n0_; have HB := n1_; clear n0_ n1_; (try clear hb); (try clear hb2); (try clear hk); (try clear hi); (try clear ho0); obtain ⟨Ao7, co7, eo7⟩ := Kd.R_slice HO478.out; subst eo7))
    go_loopg [13] k (fun kq v13 w' => ∃ (x13_1 : Int), v13 = .int .i64 x13_1 ∧ Aside0 (path_Names.l0 kq t476 t476 (t476.length : Int) x13_1 = some r) ∧ Aside0 (kq ≤ k) ∧ Aside0 (Kd.R Kd.string 9 w' w.heap.size (fun _ => True) (.slice Ao7 t476.length co7) t476) ∧ Aside0 (Kd.R Kd.string 9 w' w.heap.size (fun _ => True) (.slice Ao7 t476.length co7) t476) ∧ Aside0 (Below w.heap.size w w'))
    case atStart => exact ⟨(0), (by first | rfl | (simp; done) | (simp [*]; done)), H', ⟨Nat.le_refl _⟩, ⟨by (with_reducible repeat (first | apply Kd.R_alloc | apply Kd.R_drewN | apply Kd.R_drew)); exact HO478.out⟩, ⟨by (with_reducible repeat (first | apply Kd.R_alloc | apply Kd.R_drewN | apply Kd.R_drew)); exact HO478.out⟩, ⟨by repeat (first | (with_reducible first | exact HB.out | apply below_alloc | apply pw_below_drewN | apply below_drew1) | exact HB.out)⟩⟩
    case round =>
      clear H'
      try clear c1
      try clear p2
      try clear c3
      try clear c3b0
      try clear c3b1
      obtain ⟨x13_1, rfl, HA, HK1, HO_3, HO_11, HB⟩ := hrel
      cases gk with
      | zero => exact absurd HA.out (by simp [path_Names.l0])
      | succ k1 =>
        have H := HA.out
        clear HA
        simp only [path_Names.l0] at H
        by_cases c8 : x13_1 < (t476.length : Int)
        · rw [if_pos c8] at H
          have c8b0 : decide (x13_1 < (t476.length : Int)) = true := decide_eq_true c8
          clear c8
          by_cases c9 : 0 ≤ x13_1
          · rw [if_pos c9] at H
            have c9b0 : decide (0 ≤ x13_1) = true := decide_eq_true c9
            clear c9
            by_cases c10 : x13_1 < (t476.length : Int)
            · rw [if_pos c10] at H
              have c10b0 : decide (x13_1 < (t476.length : Int)) = true := decide_eq_true c10
              clear c10
              replace H := Option.bind_eq_some_iff.mp H
              obtain ⟨t480, A110, H⟩ := H
              replace H : (if t480 = true then (path_Names.l0 k1 t476 t476 (t476.length : Int) (wrap64 (x13_1 + 1))) else (some ([] : List ByteArray))) = some r := H
              have A11 := Aside0.mk A110
              clear A110
              by_cases c12 : t480 = true
              · subst c12
                have H1 : (path_Names.l0 k1 t476 t476 (t476.length : Int) (wrap64 (x13_1 + 1))) = some r := by rw [if_pos rfl] at H; exact H
                clear H
                have H := H1
                clear H1
                have H' := Aside0.mk H
                clear H
                have p479 : 0 ≤ (x13_1 : Int) := of_decide_eq_true (by first | (with_reducible assumption) | assumption)
                have q479 : x13_1 < (t476.length : Int) := of_decide_eq_true (by first | (with_reducible assumption) | assumption)
                obtain ⟨ad479, e479, hx479_0⟩ := Kd.at_string (Kd.R_reads' HO_11.out).2.2 x13_1 p479 q479
                cases e479
                replace p479 := eq_true p479
                replace q479 := eq_true q479
                go_wp2_with (first | ((with_reducible refine gate_callee (f := 143) rfl ?_); refine goesL_ (some 18) rfl rfl Tryz.func143 (by kernel_rfl) rfl #[.string (rdOf ByteArray.empty t476 x13_1)] rfl (by (try simp only [List.map_toArray, List.map_cons, List.map_nil]); first | done | rfl | (simp only [List.length_drop, List.length_take]; rfl)) ?_; (with_reducible refine (path_Name.calls (rdOf ByteArray.empty t476 x13_1) true _ A11.out).mono ?_); rintro e w13 ⟨rfl, hb⟩; refine ⟨_, rfl, ?_⟩; have n0_ := Aside0.mk (Kd.R_below (by (with_reducible repeat (first | apply Kd.R_alloc | apply Kd.R_drewN | apply Kd.R_drew)); exact HO_3.out) hb); have n1_ := Aside0.mk (Kd.R_below (by (with_reducible repeat (first | apply Kd.R_alloc | apply Kd.R_drewN | apply Kd.R_drew)); exact HO_11.out) hb); have n2_ := Aside0.mk (below_step (by repeat (first | (with_reducible first | exact HB.out | apply below_alloc | apply pw_below_drewN | apply below_drew1) | exact HB.out)) hb); clear HO_3; clear HO_11; clear HB; have HO_3 := n0_; have HO_11 := n1_; have HB := n2_; clear n0_ n1_ n2_; (try clear hb); (try clear hb2); (try clear hk); (try clear hi)))
                go_roundg k1
                case measure => have := HK1.out; omega
                case rel => exact ⟨(wrap64 (x13_1 + 1)), (by first | rfl | (simp; done) | (simp [*]; done)), H', ⟨by have := HK1.out; omega⟩, ⟨by (with_reducible repeat (first | apply Kd.R_alloc | apply Kd.R_drewN | apply Kd.R_drew)); exact HO_3.out⟩, ⟨by (with_reducible repeat (first | apply Kd.R_alloc | apply Kd.R_drewN | apply Kd.R_drew)); exact HO_11.out⟩, ⟨by repeat (first | (with_reducible first | exact HB.out | apply below_alloc | apply pw_below_drewN | apply below_drew1) | exact HB.out)⟩⟩
              · replace c12 := Bool.eq_false_iff.mpr c12
                subst c12
                have H1 : (some ([] : List ByteArray)) = some r := by rw [if_neg (show ¬ (false = true) by decide)] at H; exact H
                clear H
                have H := H1
                clear H1
                obtain rfl := Option.some.inj H
                have p479 : 0 ≤ (x13_1 : Int) := of_decide_eq_true (by first | (with_reducible assumption) | assumption)
                have q479 : x13_1 < (t476.length : Int) := of_decide_eq_true (by first | (with_reducible assumption) | assumption)
                obtain ⟨ad479, e479, hx479_0⟩ := Kd.at_string (Kd.R_reads' HO_11.out).2.2 x13_1 p479 q479
                cases e479
                replace p479 := eq_true p479
                replace q479 := eq_true q479
                go_wp2_with (first | ((with_reducible refine gate_callee (f := 143) rfl ?_); refine goesL_ (some 18) rfl rfl Tryz.func143 (by kernel_rfl) rfl #[.string (rdOf ByteArray.empty t476 x13_1)] rfl (by (try simp only [List.map_toArray, List.map_cons, List.map_nil]); first | done | rfl | (simp only [List.length_drop, List.length_take]; rfl)) ?_; (with_reducible refine (path_Name.calls (rdOf ByteArray.empty t476 x13_1) false _ A11.out).mono ?_); rintro e w14 ⟨rfl, hb⟩; refine ⟨_, rfl, ?_⟩; have n0_ := Aside0.mk (Kd.R_below (by (with_reducible repeat (first | apply Kd.R_alloc | apply Kd.R_drewN | apply Kd.R_drew)); exact HO_3.out) hb); have n1_ := Aside0.mk (Kd.R_below (by (with_reducible repeat (first | apply Kd.R_alloc | apply Kd.R_drewN | apply Kd.R_drew)); exact HO_11.out) hb); have n2_ := Aside0.mk (below_step (by repeat (first | (with_reducible first | exact HB.out | apply below_alloc | apply pw_below_drewN | apply below_drew1) | exact HB.out)) hb); clear HO_3; clear HO_11; clear HB; have HO_3 := n0_; have HO_11 := n1_; have HB := n2_; clear n0_ n1_ n2_; (try clear hb); (try clear hb2); (try clear hk); (try clear hi)))
                go_ret
                exact ⟨_, by first | rfl | (simp [errW_none, errW_some] <;> rfl) | (simp [*, errW_none, errW_some] <;> rfl), by first | exact Kd.R_nil _ _ _ _ _ | exact Kd.N_nil _ _ _ _ _ | exact Kd.V_nil _ _ _ _ _ | exact Kd.Q_nil _ _ _ _ _ | exact Kd.S_nil _ _ _ _ _, by repeat (first | (with_reducible first | exact HB.out | apply below_alloc | apply pw_below_drewN | apply below_drew1) | exact HB.out)⟩
            · rw [if_neg c10] at H
              exact absurd H (by simp)
          · rw [if_neg c9] at H
            exact absurd H (by simp)
        · rw [if_neg c8] at H
          have c8b0 : decide (x13_1 < (t476.length : Int)) = false := decide_eq_false c8
          clear c8
          obtain rfl := Option.some.inj H
          go_wp2
          go_ret
          exact ⟨_, by first | rfl | (simp [errW_none, errW_some] <;> rfl) | (simp [*, errW_none, errW_some] <;> rfl), by (with_reducible repeat (first | apply Kd.R_alloc | apply Kd.R_drewN | apply Kd.R_drew)); exact HO_3.out, by repeat (first | (with_reducible first | exact HB.out | apply below_alloc | apply pw_below_drewN | apply below_drew1) | exact HB.out)⟩
end Go.Proofs.YtlkmegeecmkkbaaGreatDoor.P
end
section
namespace Go.Proofs.YtlkmegeecmkkbaaGreatDoor.P
open Go.RowKit Go.Proofs.YtlkmegeecmkkbaaGreatDoorW.PrintWords Go.Proofs.YtlkmegeecmkkbaaGreatDoorW.PrintLast Go.Proofs.YtlkmegeecmkkbaaGreatDoorW.PrintMore
attribute [local go_sem] max2_int min2_int max_two min_two max_three min_three max_four min_four   -- for this text's walks alone
attribute [local go_sem] str_leq str_gtr str_geq
set_option linter.unusedVariables false
set_option linter.unusedSimpArgs false
def path_Right.f (k : Nat) (a0 : ByteArray) : Option (Bool) := (path_Names.f k a0).bind fun t481 => (some (decide ((t481.length : Int) > 0)))
set_option maxHeartbeats 8000000 in
set_option maxRecDepth 100000 in
theorem path_Right.calls (k : Nat) (a0 : ByteArray) (r : Bool) (w : World) (h : path_Right.f k a0 = some r) :
    Calls Tryz.prog 70 #[.string a0] w fun e w' => e = .returned (.bool r) ∧ Below w.heap.size w w' := by
  have HB := Aside0.mk (Below.refl w.heap.size w)
  have H : ((path_Names.f k a0).bind fun t481 => (some (decide ((t481.length : Int) > 0)))) = some r := h
  clear h
  replace H := Option.bind_eq_some_iff.mp H
  obtain ⟨t481, A20, H⟩ := H
  replace H : (some (decide ((t481.length : Int) > 0))) = some r := H
  have A2 := Aside0.mk A20
  clear A20
  obtain rfl := Option.some.inj H
  go_enter Tryz.func70, Tryz.ntmps70
  go_wp2_with (first | ((with_reducible refine gate_callee (f := 114) rfl ?_); refine goesL_ (some 4) rfl rfl Tryz.func114 (by kernel_rfl) rfl #[.string a0] rfl (by (try simp only [List.map_toArray, List.map_cons, List.map_nil]); first | done | rfl | (simp only [List.length_drop, List.length_take]; rfl)) ?_; (with_reducible refine (path_Names.calls k a0 t481 _ A2.out).mono ?_); rintro e w3 ⟨v482, rfl, ho0, hb⟩; refine ⟨_, rfl, ?_⟩; have n0_ := Aside0.mk (Kd.R_lower ho0 (below_size (by repeat (first | (with_reducible first | exact HB.out | apply below_alloc | apply pw_below_drewN | apply below_drew1) | exact HB.out)))); have n1_ := Aside0.mk (below_step (by repeat (first | (with_reducible first | exact HB.out | apply below_alloc | apply pw_below_drewN | apply below_drew1) | exact HB.out)) hb); clear HB; have HO483 := n0_; have HB := n1_; clear n0_ n1_; (try clear hb); (try clear hb2); (try clear hk); (try clear hi); (try clear ho0); obtain ⟨Ao4, co4, eo4⟩ := Kd.R_slice HO483.out; subst eo4))
  go_ret
  exact ⟨by first | rfl | (simp [errW_none, errW_some] <;> rfl) | (simp [*, errW_none, errW_some] <;> rfl), by repeat (first | (with_reducible first | exact HB.out | apply below_alloc | apply pw_below_drewN | apply below_drew1) | exact HB.out)⟩
end Go.Proofs.YtlkmegeecmkkbaaGreatDoor.P
end
section
namespace Go.Proofs.YtlkmegeecmkkbaaGreatDoor.P
open Go.RowKit Go.Proofs.YtlkmegeecmkkbaaGreatDoorW.PrintWords Go.Proofs.YtlkmegeecmkkbaaGreatDoorW.PrintLast Go.Proofs.YtlkmegeecmkkbaaGreatDoorW.PrintMore
attribute [local go_sem] max2_int min2_int max_two min_two max_three min_three max_four min_four   -- for this text's walks alone
attribute [local go_sem] str_leq str_gtr str_geq
set_option linter.unusedVariables false
set_option linter.unusedSimpArgs false
def stringslite_HasPrefix.f (a0 : ByteArray) (a1 : ByteArray) : Option (Bool) := if (a0.size : Int) ≥ (a1.size : Int) then (if 0 ≤ (a1.size : Int) then (if (a1.size : Int) ≤ (a0.size : Int) then (some ((a0.extract 0 ((a1.size : Int) : Int).toNat).toList == a1.toList)) else (none)) else (none)) else (some false)
set_option maxHeartbeats 8000000 in
set_option maxRecDepth 100000 in
theorem stringslite_HasPrefix.calls (a0 : ByteArray) (a1 : ByteArray) (r : Bool) (w : World) (h : stringslite_HasPrefix.f a0 a1 = some r) :
    Calls Tryz.prog 154 #[.string a0, .string a1] w fun e w' => e = .returned (.bool r) ∧ Drawn0 w w' := by
  have H : (if (a0.size : Int) ≥ (a1.size : Int) then (if 0 ≤ (a1.size : Int) then (if (a1.size : Int) ≤ (a0.size : Int) then (some ((a0.extract 0 ((a1.size : Int) : Int).toNat).toList == a1.toList)) else (none)) else (none)) else (some false)) = some r := h
  clear h
  by_cases c3 : (a0.size : Int) ≥ (a1.size : Int)
  · rw [if_pos c3] at H
    have c3b0 : decide ((a1.size : Int) ≤ (a0.size : Int)) = true := decide_eq_true c3
    have c3b1 : decide (a1.size ≤ a0.size) = true := decide_eq_true (Int.ofNat_le.mp c3)
    clear c3
    by_cases c4 : 0 ≤ (a1.size : Int)
    · rw [if_pos c4] at H
      have c4b0 := eq_true c4
      have c4b1 : decide (0 ≤ (a1.size : Int)) = true := decide_eq_true c4
      clear c4
      by_cases c5 : (a1.size : Int) ≤ (a0.size : Int)
      · rw [if_pos c5] at H
        have c5b0 := eq_true c5
        have c5b1 : decide ((a1.size : Int) ≤ (a0.size : Int)) = true := decide_eq_true c5
        clear c5
        obtain rfl := Option.some.inj H
        go_enter Tryz.func154, Tryz.ntmps154
        go_wp2
        go_ret
        exact ⟨by first | rfl | (simp; done) | (simp [*]; done), by repeat (first | exact Drawn0.refl _ | apply Drawn0.step)⟩
      · rw [if_neg c5] at H
        exact absurd H (by simp)
    · rw [if_neg c4] at H
      exact absurd H (by simp)
  · rw [if_neg c3] at H
    have c3b0 : decide ((a1.size : Int) ≤ (a0.size : Int)) = false := decide_eq_false c3
    have c3b1 : decide (a1.size ≤ a0.size) = false := decide_eq_false (fun h => c3 (Int.ofNat_le.mpr h))
    clear c3
    obtain rfl := Option.some.inj H
    go_enter Tryz.func154, Tryz.ntmps154
    go_wp2
    go_ret
    exact ⟨by first | rfl | (simp; done) | (simp [*]; done), by repeat (first | exact Drawn0.refl _ | apply Drawn0.step)⟩
end Go.Proofs.YtlkmegeecmkkbaaGreatDoor.P
end
section
namespace Go.Proofs.YtlkmegeecmkkbaaGreatDoor.P
open Go.RowKit Go.Proofs.YtlkmegeecmkkbaaGreatDoorW.PrintWords Go.Proofs.YtlkmegeecmkkbaaGreatDoorW.PrintLast Go.Proofs.YtlkmegeecmkkbaaGreatDoorW.PrintMore
attribute [local go_sem] max2_int min2_int max_two min_two max_three min_three max_four min_four   -- for this text's walks alone
attribute [local go_sem] str_leq str_gtr str_geq
set_option linter.unusedVariables false
set_option linter.unusedSimpArgs false
def strings_HasPrefix.f (a0 : ByteArray) (a1 : ByteArray) : Option (Bool) := (stringslite_HasPrefix.f a0 a1).bind fun t754 => (some t754)
set_option maxHeartbeats 8000000 in
set_option maxRecDepth 100000 in
theorem strings_HasPrefix.calls (a0 : ByteArray) (a1 : ByteArray) (r : Bool) (w : World) (h : strings_HasPrefix.f a0 a1 = some r) :
    Calls Tryz.prog 140 #[.string a0, .string a1] w fun e w' => e = .returned (.bool r) ∧ Drawn0 w w' := by
  have H : ((stringslite_HasPrefix.f a0 a1).bind fun t754 => (some t754)) = some r := h
  clear h
  replace H := Option.bind_eq_some_iff.mp H
  obtain ⟨t754, A30, H⟩ := H
  replace H : (some t754) = some r := H
  have A3 := Aside0.mk A30
  clear A30
  obtain rfl := Option.some.inj H
  go_enter Tryz.func140, Tryz.ntmps140
  go_wp2_with (first | ((with_reducible refine gate_callee (f := 154) rfl ?_); refine goesL_ (some 7) rfl rfl Tryz.func154 (by kernel_rfl) rfl #[.string a0, .string a1] rfl (by (try simp only [List.map_toArray, List.map_cons, List.map_nil]); first | done | rfl | (simp only [List.length_drop, List.length_take]; rfl)) ?_; (with_reducible refine (stringslite_HasPrefix.calls a0 a1 t754 _ A3.out).mono ?_); rintro e w' ⟨rfl, ⟨nd, rfl⟩⟩; refine ⟨_, rfl, ?_⟩))
  go_ret
  exact ⟨by first | rfl | (simp; done) | (simp [*]; done), by repeat (first | exact Drawn0.refl _ | apply Drawn0.step)⟩
end Go.Proofs.YtlkmegeecmkkbaaGreatDoor.P
end
section
namespace Go.Proofs.YtlkmegeecmkkbaaGreatDoor.P
open Go.RowKit Go.Proofs.YtlkmegeecmkkbaaGreatDoorW.PrintWords Go.Proofs.YtlkmegeecmkkbaaGreatDoorW.PrintLast Go.Proofs.YtlkmegeecmkkbaaGreatDoorW.PrintMore
attribute [local go_sem] max2_int min2_int max_two min_two max_three min_three max_four min_four   -- for this text's walks alone
attribute [local go_sem] str_leq str_gtr str_geq
set_option linter.unusedVariables false
set_option linter.unusedSimpArgs false
def path_Under.f (k : Nat) (a0 : ByteArray) (a1 : ByteArray) : Option (Bool) := (path_Right.f k a0).bind fun t755 => (if t755 = true then ((path_Right.f k a1).bind fun t756 => (if t756 = true then (if a1.size + 1 ≤ 9223372036854775807 then ((strings_HasPrefix.f a0 (a1 ++ (⟨#[47]⟩ : ByteArray))).bind fun t757 => (some t757)) else (none)) else (some false))) else (some false))
set_option maxHeartbeats 8000000 in
set_option maxRecDepth 100000 in
theorem path_Under.calls (k : Nat) (a0 : ByteArray) (a1 : ByteArray) (r : Bool) (w : World) (h : path_Under.f k a0 a1 = some r) :
    Calls Tryz.prog 101 #[.string a0, .string a1] w fun e w' => e = .returned (.bool r) ∧ Below w.heap.size w w' := by
  have HB := Aside0.mk (Below.refl w.heap.size w)
  have H : ((path_Right.f k a0).bind fun t755 => (if t755 = true then ((path_Right.f k a1).bind fun t756 => (if t756 = true then (if a1.size + 1 ≤ 9223372036854775807 then ((strings_HasPrefix.f a0 (a1 ++ (⟨#[47]⟩ : ByteArray))).bind fun t757 => (some t757)) else (none)) else (some false))) else (some false))) = some r := h
  clear h
  replace H := Option.bind_eq_some_iff.mp H
  obtain ⟨t755, A30, H⟩ := H
  replace H : (if t755 = true then ((path_Right.f k a1).bind fun t756 => (if t756 = true then (if a1.size + 1 ≤ 9223372036854775807 then ((strings_HasPrefix.f a0 (a1 ++ (⟨#[47]⟩ : ByteArray))).bind fun t757 => (some t757)) else (none)) else (some false))) else (some false)) = some r := H
  have A3 := Aside0.mk A30
  clear A30
  by_cases c4 : t755 = true
  · subst c4
    have H1 : ((path_Right.f k a1).bind fun t756 => (if t756 = true then (if a1.size + 1 ≤ 9223372036854775807 then ((strings_HasPrefix.f a0 (a1 ++ (⟨#[47]⟩ : ByteArray))).bind fun t757 => (some t757)) else (none)) else (some false))) = some r := by rw [if_pos rfl] at H; exact H
    clear H
    have H := H1
    clear H1
    replace H := Option.bind_eq_some_iff.mp H
    obtain ⟨t756, A50, H⟩ := H
    replace H : (if t756 = true then (if a1.size + 1 ≤ 9223372036854775807 then ((strings_HasPrefix.f a0 (a1 ++ (⟨#[47]⟩ : ByteArray))).bind fun t757 => (some t757)) else (none)) else (some false)) = some r := H
    have A5 := Aside0.mk A50
    clear A50
    by_cases c6 : t756 = true
    · subst c6
      have H1 : (if a1.size + 1 ≤ 9223372036854775807 then ((strings_HasPrefix.f a0 (a1 ++ (⟨#[47]⟩ : ByteArray))).bind fun t757 => (some t757)) else (none)) = some r := by rw [if_pos rfl] at H; exact H
      clear H
      have H := H1
      clear H1
      by_cases c7 : a1.size + 1 ≤ 9223372036854775807
      · rw [if_pos c7] at H
        have c7b0 := eq_true c7
        have c7b1 : decide (a1.size + 1 ≤ 9223372036854775807) = true := decide_eq_true c7
        try have c7b2 : (9223372036854775807 < a1.size + 1) = False := eq_false (Nat.not_lt.2 c7)
        replace H := Option.bind_eq_some_iff.mp H
        obtain ⟨t757, A80, H⟩ := H
        replace H : (some t757) = some r := H
        have A8 := Aside0.mk A80
        clear A80
        obtain rfl := Option.some.inj H
        go_enter Tryz.func101, Tryz.ntmps101
        go_wp2_with (first | ((with_reducible refine gate_callee (f := 70) rfl ?_); refine goesL_ (some 6) rfl rfl Tryz.func70 (by kernel_rfl) rfl #[.string a0] rfl (by (try simp only [List.map_toArray, List.map_cons, List.map_nil]); first | done | rfl | (simp only [List.length_drop, List.length_take]; rfl)) ?_; (with_reducible refine (path_Right.calls k a0 true _ A3.out).mono ?_); rintro e w9 ⟨rfl, hb⟩; refine ⟨_, rfl, ?_⟩; have n0_ := Aside0.mk (below_step (by repeat (first | (with_reducible first | exact HB.out | apply below_alloc | apply pw_below_drewN | apply below_drew1) | exact HB.out)) hb); clear HB; have HB := n0_; clear n0_; (try clear hb); (try clear hb2); (try clear hk); (try clear hi)) | (go_at_call 70; (with_reducible refine (path_Right.calls k a1 true _ A5.out).mono ?_); rintro e w10 ⟨rfl, hb⟩; have n0_ := Aside0.mk (below_step (by repeat (first | (with_reducible first | exact HB.out | apply below_alloc | apply pw_below_drewN | apply below_drew1) | exact HB.out)) hb); clear HB; have HB := n0_; clear n0_; (try clear hb); (try clear hb2); (try clear hk); (try clear hi)) | (go_at_call 140; (with_reducible refine (strings_HasPrefix.calls a0 (a1 ++ (⟨#[47]⟩ : ByteArray)) t757 _ A8.out).mono ?_); rintro e w' ⟨rfl, ⟨nd, rfl⟩⟩))
        go_ret
        exact ⟨by first | rfl | (simp [errW_none, errW_some] <;> rfl) | (simp [*, errW_none, errW_some] <;> rfl), by repeat (first | (with_reducible first | exact HB.out | apply below_alloc | apply pw_below_drewN | apply below_drew1) | exact HB.out)⟩
      · rw [if_neg c7] at H
        exact absurd H (by simp)
    · replace c6 := Bool.eq_false_iff.mpr c6
      subst c6
      have H1 : (some false) = some r := by rw [if_neg (show ¬ (false = true) by decide)] at H; exact H
      clear H
      have H := H1
      clear H1
      obtain rfl := Option.some.inj H
      go_enter Tryz.func101, Tryz.ntmps101
      go_wp2_with (first | ((with_reducible refine gate_callee (f := 70) rfl ?_); refine goesL_ (some 6) rfl rfl Tryz.func70 (by kernel_rfl) rfl #[.string a0] rfl (by (try simp only [List.map_toArray, List.map_cons, List.map_nil]); first | done | rfl | (simp only [List.length_drop, List.length_take]; rfl)) ?_; (with_reducible refine (path_Right.calls k a0 true _ A3.out).mono ?_); rintro e w11 ⟨rfl, hb⟩; refine ⟨_, rfl, ?_⟩; have n0_ := Aside0.mk (below_step (by repeat (first | (with_reducible first | exact HB.out | apply below_alloc | apply pw_below_drewN | apply below_drew1) | exact HB.out)) hb); clear HB; have HB := n0_; clear n0_; (try clear hb); (try clear hb2); (try clear hk); (try clear hi)) | (go_at_call 70; (with_reducible refine (path_Right.calls k a1 false _ A5.out).mono ?_); rintro e w12 ⟨rfl, hb⟩; have n0_ := Aside0.mk (below_step (by repeat (first | (with_reducible first | exact HB.out | apply below_alloc | apply pw_below_drewN | apply below_drew1) | exact HB.out)) hb); clear HB; have HB := n0_; clear n0_; (try clear hb); (try clear hb2); (try clear hk); (try clear hi)))
      go_ret
      exact ⟨by first | rfl | (simp [errW_none, errW_some] <;> rfl) | (simp [*, errW_none, errW_some] <;> rfl), by repeat (first | (with_reducible first | exact HB.out | apply below_alloc | apply pw_below_drewN | apply below_drew1) | exact HB.out)⟩
  · replace c4 := Bool.eq_false_iff.mpr c4
    subst c4
    have H1 : (some false) = some r := by rw [if_neg (show ¬ (false = true) by decide)] at H; exact H
    clear H
    have H := H1
    clear H1
    obtain rfl := Option.some.inj H
    go_enter Tryz.func101, Tryz.ntmps101
    go_wp2_with (first | ((with_reducible refine gate_callee (f := 70) rfl ?_); refine goesL_ (some 6) rfl rfl Tryz.func70 (by kernel_rfl) rfl #[.string a0] rfl (by (try simp only [List.map_toArray, List.map_cons, List.map_nil]); first | done | rfl | (simp only [List.length_drop, List.length_take]; rfl)) ?_; (with_reducible refine (path_Right.calls k a0 false _ A3.out).mono ?_); rintro e w13 ⟨rfl, hb⟩; refine ⟨_, rfl, ?_⟩; have n0_ := Aside0.mk (below_step (by repeat (first | (with_reducible first | exact HB.out | apply below_alloc | apply pw_below_drewN | apply below_drew1) | exact HB.out)) hb); clear HB; have HB := n0_; clear n0_; (try clear hb); (try clear hb2); (try clear hk); (try clear hi)))
    go_ret
    exact ⟨by first | rfl | (simp [errW_none, errW_some] <;> rfl) | (simp [*, errW_none, errW_some] <;> rfl), by repeat (first | (with_reducible first | exact HB.out | apply below_alloc | apply pw_below_drewN | apply below_drew1) | exact HB.out)⟩
end Go.Proofs.YtlkmegeecmkkbaaGreatDoor.P
end
section
namespace Go.Proofs.YtlkmegeecmkkbaaGreatDoor.P
open Go.RowKit Go.Proofs.YtlkmegeecmkkbaaGreatDoorW.PrintWords Go.Proofs.YtlkmegeecmkkbaaGreatDoorW.PrintLast Go.Proofs.YtlkmegeecmkkbaaGreatDoorW.PrintMore
attribute [local go_sem] max2_int min2_int max_two min_two max_three min_three max_four min_four   -- for this text's walks alone
attribute [local go_sem] str_leq str_gtr str_geq
set_option linter.unusedVariables false
set_option linter.unusedSimpArgs false
def path_Clash.f (k : Nat) (a0 : ByteArray) (a1 : ByteArray) : Option (Bool) := (path_Under.f k a0 a1).bind fun t758 => (if t758 = true then (some true) else ((path_Under.f k a1 a0).bind fun t759 => (some t759)))
set_option maxHeartbeats 8000000 in
set_option maxRecDepth 100000 in
theorem path_Clash.calls (k : Nat) (a0 : ByteArray) (a1 : ByteArray) (r : Bool) (w : World) (h : path_Clash.f k a0 a1 = some r) :
    Calls Tryz.prog 92 #[.string a0, .string a1] w fun e w' => e = .returned (.bool r) ∧ Below w.heap.size w w' := by
  have HB := Aside0.mk (Below.refl w.heap.size w)
  have H : ((path_Under.f k a0 a1).bind fun t758 => (if t758 = true then (some true) else ((path_Under.f k a1 a0).bind fun t759 => (some t759)))) = some r := h
  clear h
  replace H := Option.bind_eq_some_iff.mp H
  obtain ⟨t758, A30, H⟩ := H
  replace H : (if t758 = true then (some true) else ((path_Under.f k a1 a0).bind fun t759 => (some t759))) = some r := H
  have A3 := Aside0.mk A30
  clear A30
  by_cases c4 : t758 = true
  · subst c4
    have H1 : (some true) = some r := by rw [if_pos rfl] at H; exact H
    clear H
    have H := H1
    clear H1
    obtain rfl := Option.some.inj H
    go_enter Tryz.func92, Tryz.ntmps92
    go_wp2_with (first | ((with_reducible refine gate_callee (f := 101) rfl ?_); refine goesL_ (some 7) rfl rfl Tryz.func101 (by kernel_rfl) rfl #[.string a0, .string a1] rfl (by (try simp only [List.map_toArray, List.map_cons, List.map_nil]); first | done | rfl | (simp only [List.length_drop, List.length_take]; rfl)) ?_; (with_reducible refine (path_Under.calls k a0 a1 true _ A3.out).mono ?_); rintro e w5 ⟨rfl, hb⟩; refine ⟨_, rfl, ?_⟩; have n0_ := Aside0.mk (below_step (by repeat (first | (with_reducible first | exact HB.out | apply below_alloc | apply pw_below_drewN | apply below_drew1) | exact HB.out)) hb); clear HB; have HB := n0_; clear n0_; (try clear hb); (try clear hb2); (try clear hk); (try clear hi)))
    go_ret
    exact ⟨by first | rfl | (simp [errW_none, errW_some] <;> rfl) | (simp [*, errW_none, errW_some] <;> rfl), by repeat (first | (with_reducible first | exact HB.out | apply below_alloc | apply pw_below_drewN | apply below_drew1) | exact HB.out)⟩
  · replace c4 := Bool.eq_false_iff.mpr c4
    subst c4
    have H1 : ((path_Under.f k a1 a0).bind fun t759 => (some t759)) = some r := by rw [if_neg (show ¬ (false = true) by decide)] at H; exact H
    clear H
    have H := H1
    clear H1
    replace H := Option.bind_eq_some_iff.mp H
    obtain ⟨t759, A60, H⟩ := H
    replace H : (some t759) = some r := H
    have A6 := Aside0.mk A60
    clear A60
    obtain rfl := Option.some.inj H
    go_enter Tryz.func92, Tryz.ntmps92
    go_wp2_with (first | ((with_reducible refine gate_callee (f := 101) rfl ?_); refine goesL_ (some 7) rfl rfl Tryz.func101 (by kernel_rfl) rfl #[.string a0, .string a1] rfl (by (try simp only [List.map_toArray, List.map_cons, List.map_nil]); first | done | rfl | (simp only [List.length_drop, List.length_take]; rfl)) ?_; (with_reducible refine (path_Under.calls k a0 a1 false _ A3.out).mono ?_); rintro e w7 ⟨rfl, hb⟩; refine ⟨_, rfl, ?_⟩; have n0_ := Aside0.mk (below_step (by repeat (first | (with_reducible first | exact HB.out | apply below_alloc | apply pw_below_drewN | apply below_drew1) | exact HB.out)) hb); clear HB; have HB := n0_; clear n0_; (try clear hb); (try clear hb2); (try clear hk); (try clear hi)) | (go_at_call 101; (with_reducible refine (path_Under.calls k a1 a0 t759 _ A6.out).mono ?_); rintro e w8 ⟨rfl, hb⟩; have n0_ := Aside0.mk (below_step (by repeat (first | (with_reducible first | exact HB.out | apply below_alloc | apply pw_below_drewN | apply below_drew1) | exact HB.out)) hb); clear HB; have HB := n0_; clear n0_; (try clear hb); (try clear hb2); (try clear hk); (try clear hi)))
    go_ret
    exact ⟨by first | rfl | (simp [errW_none, errW_some] <;> rfl) | (simp [*, errW_none, errW_some] <;> rfl), by repeat (first | (with_reducible first | exact HB.out | apply below_alloc | apply pw_below_drewN | apply below_drew1) | exact HB.out)⟩
end Go.Proofs.YtlkmegeecmkkbaaGreatDoor.P
end
section
namespace Go.Proofs.YtlkmegeecmkkbaaGreatDoor.P
open Go.RowKit Go.Proofs.YtlkmegeecmkkbaaGreatDoorW.PrintWords Go.Proofs.YtlkmegeecmkkbaaGreatDoorW.PrintLast Go.Proofs.YtlkmegeecmkkbaaGreatDoorW.PrintMore
set_option linter.unusedVariables false
set_option linter.unusedSimpArgs false
def pieces (s : ByteArray) : List ByteArray := Lib.splitB ⟨#[47]⟩ 0 (Lib.countB s ⟨#[47]⟩) s
def pathB (s : ByteArray) : Bool := decide ((pieces s).length ≤ 4) && (pieces s).all nameB
def prefB (s d : ByteArray) : Bool := decide (d.size ≤ s.size) && (s.extract 0 d.size).toList == d.toList
def underB (s d : ByteArray) : Bool := pathB s && (pathB d && prefB s (d ++ ⟨#[47]⟩))
def clashB (a b : ByteArray) : Bool := underB a b || underB b a
theorem splitB_sizes (sep : ByteArray) (sv : Nat) : ∀ (k : Nat) (s x : ByteArray), x ∈ Lib.splitB sep sv k s → x.size ≤ s.size
  | 0, s, x, h => by simp [Lib.splitB] at h; subst h; exact Nat.le_refl _
  | k + 1, s, x, h => by
    unfold Lib.splitB at h
    split at h
    · simp at h; subst h; exact Nat.le_refl _
    · rcases List.mem_cons.1 h with rfl | h
      · rw [ByteArray.size_extract]; omega
      · have := splitB_sizes sep sv k _ x h
        rw [ByteArray.size_extract] at this; omega
theorem pieces_sizes {s x : ByteArray} (h : x ∈ pieces s) : x.size ≤ s.size := splitB_sizes _ _ _ _ _ h
theorem pieces_length (s : ByteArray) : 1 ≤ (pieces s).length := by
  unfold pieces; rw [Lib.splitB_all (⟨#[47]⟩ : ByteArray) (Nat.le_refl 1) 0 _ s rfl]; omega
theorem rdOf_nat (l : List ByteArray) (i : Nat) (h : i < l.length) : rdOf ByteArray.empty l (i : Int) = l[i] := by
  simp [rdOf, List.getD_eq_getElem?_getD, List.getElem?_eq_getElem h]
theorem wrap_succ {i n : Nat} (h : i ≤ n) (hn : n ≤ 140737488355328) : wrap64 ((i : Int) + 1) = ((i + 1 : Nat) : Int) := by
  unfold wrap64; omega
theorem names_loop (l : List ByteArray) (hl : ∀ x ∈ l, x.size ≤ 140737488351232) (hn : l.length ≤ 140737488355328) (x3 : List ByteArray) : ∀ (d k i : Nat), i + d = l.length → d < k →
    path_Names.l0 k x3 l (l.length : Int) (i : Int) = some (if (l.drop i).all nameB then x3 else []) := by
  intro d
  induction d with
  | zero =>
    intro k i hi hk
    obtain ⟨k, rfl⟩ : ∃ m, k = m + 1 := ⟨k - 1, by omega⟩
    simp only [path_Names.l0]
    rw [if_neg (by omega), List.drop_eq_nil_of_le (by omega)]
    rfl
  | succ d ih =>
    intro k i hi hk
    obtain ⟨k, rfl⟩ : ∃ m, k = m + 1 := ⟨k - 1, by omega⟩
    have hlt : i < l.length := by omega
    simp only [path_Names.l0]
    rw [if_pos (by omega), if_pos (by omega), if_pos (by omega), rdOf_nat l i hlt]
    rw [show path_Name.f l[i] = some (nameB l[i]) from by unfold path_Name.f; rw [if_pos (hl _ (List.getElem_mem hlt))]]
    simp only [Option.bind_some]
    rw [List.drop_eq_getElem_cons hlt, List.all_cons]
    cases hb : nameB l[i] with
    | true =>
      rw [if_pos rfl, wrap_succ (Nat.le_of_lt hlt) hn, ih k (i + 1) (by omega) (by omega)]
      simp
    | false => simp
theorem path_Names_eq (s : ByteArray) (hs : s.size < 4294967281) : path_Names.f 6 s = some (if pathB s then pieces s else []) := by
  unfold path_Names.f
  rw [show strings_Split.f s ⟨#[47]⟩ = some (pieces s) from by unfold strings_Split.f; rw [if_pos ⟨rfl, hs⟩]; rfl]
  simp only [Option.bind_some]
  by_cases h4 : (pieces s).length ≤ 4
  · have hl := names_loop (pieces s) (fun x hx => by have := pieces_sizes hx; omega) (by omega) (pieces s) (pieces s).length 6 0 (by omega) (by omega)
    rw [if_neg (by omega)]
    refine Eq.trans hl ?_
    simp [pathB, h4]
  · rw [if_pos (by omega)]
    simp [pathB, h4]
theorem path_Right_eq (s : ByteArray) (hs : s.size < 4294967281) : path_Right.f 6 s = some (pathB s) := by
  unfold path_Right.f
  rw [path_Names_eq s hs]
  simp only [Option.bind_some]
  have h1 := pieces_length s
  cases h : pathB s with
  | true => rw [if_pos rfl]; simp; omega
  | false => simp
theorem prefB_eq (s d : ByteArray) : strings_HasPrefix.f s d = some (prefB s d) := by
  unfold strings_HasPrefix.f stringslite_HasPrefix.f prefB
  by_cases h : d.size ≤ s.size
  · rw [if_pos (by omega), if_pos (by omega), if_pos (by omega)]; simp [h]
  · rw [if_neg (by omega)]; simp [h]
theorem path_Under_eq (s d : ByteArray) (hs : s.size < 4294967281) (hd : d.size < 4294967281) : path_Under.f 6 s d = some (underB s d) := by
  unfold path_Under.f
  rw [path_Right_eq s hs, path_Right_eq d hd, if_pos (by omega), prefB_eq]
  simp only [Option.bind_some, underB]
  cases pathB s <;> cases pathB d <;> simp
theorem path_Clash_eq (a b : ByteArray) (ha : a.size < 4294967281) (hb : b.size < 4294967281) : path_Clash.f 6 a b = some (clashB a b) := by
  unfold path_Clash.f
  rw [path_Under_eq a b ha hb, path_Under_eq b a hb ha]
  simp only [Option.bind_some, clashB]
  cases underB a b <;> simp
theorem right_calls (s : ByteArray) (w : World) (hs : s.size < 4294967281) : Calls Tryz.prog 70 #[.string s] w fun e w' => e = .returned (.bool (pathB s)) ∧ Below w.heap.size w w' :=
  path_Right.calls 6 s _ w (path_Right_eq s hs)
theorem under_calls (s d : ByteArray) (w : World) (hs : s.size < 4294967281) (hd : d.size < 4294967281) : Calls Tryz.prog 101 #[.string s, .string d] w fun e w' => e = .returned (.bool (underB s d)) ∧ Below w.heap.size w w' :=
  path_Under.calls 6 s d _ w (path_Under_eq s d hs hd)
theorem clash_calls (s d : ByteArray) (w : World) (hs : s.size < 4294967281) (hd : d.size < 4294967281) : Calls Tryz.prog 92 #[.string s, .string d] w fun e w' => e = .returned (.bool (clashB s d)) ∧ Below w.heap.size w w' :=
  path_Clash.calls 6 s d _ w (path_Clash_eq s d hs hd)
end Go.Proofs.YtlkmegeecmkkbaaGreatDoor.P
end
section
namespace Go.Proofs.YtlkmegeecmkkbaaGreatDoor.P
open Go.RowKit Go.Proofs.YtlkmegeecmkkbaaGreatDoorW.PrintWords Go.Proofs.YtlkmegeecmkkbaaGreatDoorW.PrintLast Go.Proofs.YtlkmegeecmkkbaaGreatDoorW.PrintMore
set_option linter.unusedVariables false
set_option linter.unusedSimpArgs false
def idxP {α : Type} (p : α → Bool) : List α → Int
  | [] => -1
  | x :: l => if p x then 0 else if idxP p l < 0 then -1 else idxP p l + 1
theorem idxP_ge {α : Type} (p : α → Bool) : ∀ l, -1 ≤ idxP p l
  | [] => by simp [idxP]
  | x :: l => by have := idxP_ge p l; unfold idxP; split <;> (try split) <;> omega
theorem idxP_miss {α : Type} (p : α → Bool) : ∀ l : List α, (∀ j (h : j < l.length), p l[j] = false) → idxP p l = -1
  | [], _ => rfl
  | x :: l, h => by
    have h0 := h 0 (by simp); have := idxP_miss p l (fun j hj => h (j + 1) (by simpa using hj))
    unfold idxP; simp at h0; rw [if_neg (by simp [h0]), if_pos (by omega)]
theorem idxP_hit {α : Type} (p : α → Bool) : ∀ (l : List α) (k : Nat) (hk : k < l.length), (∀ j (h : j < l.length), j < k → p l[j] = false) → p l[k] = true → idxP p l = k
  | x :: l, 0, hk, h, hp => by unfold idxP; simp at hp; rw [if_pos hp]; rfl
  | x :: l, k + 1, hk, h, hp => by
    have h0 := h 0 (by simp) (by omega); simp at h0
    have := idxP_hit p l k (by simpa using hk) (fun j hj hjk => h (j + 1) (by simpa using hj) (by omega)) (by simpa using hp)
    unfold idxP; rw [if_neg (by simp [h0]), if_neg (by omega), this]; omega
theorem idxP_any {α : Type} (p : α → Bool) : ∀ l : List α, decide (0 ≤ idxP p l) = l.any p
  | [] => by simp [idxP]
  | x :: l => by
    have := idxP_any p l; have := idxP_ge p l
    unfold idxP; rw [List.any_cons]
    cases hx : p x with
    | true => simp
    | false =>
      by_cases hl : idxP p l < 0
      · rw [if_neg (by simp), if_pos hl]
        have : l.any p = false := by rw [← idxP_any p l]; simp; omega
        simp [this]
      · rw [if_neg (by simp), if_neg hl]
        have : l.any p = true := by rw [← idxP_any p l]; simp; omega
        simp [this]; omega
theorem rd_T54_nat (l : List S54) (i : Nat) (h : i < l.length) : rd_T54 l (i : Int) = l[i] := by
  simp [rd_T54, List.getD_eq_getElem?_getD, List.getElem?_eq_getElem h]
set_option maxHeartbeats 2000000 in
set_option maxRecDepth 100000 in
theorem indexFunc_File (g : Nat) (lb : Array Value) (p : S54 → Bool) (eg : ∀ args w, (callFunc g args).run Tryz.prog w = .ok (.enter g args) w) (A0 : Option Addr) (c0 : Nat) (l0 : List S54) (w : World) (hr0 : Kd.C k54 w A0 l0.length l0) (hm : l0.length ≤ 140737488355328)
    (hp : ∀ i, (h : i < l0.length) → ∀ W, Below w.heap.size w W → Calls Tryz.prog g (#[.agg #[.string l0[i].f0, .string l0[i].f1]] ++ lb) W fun e w' => e = .returned (.bool (p l0[i])) ∧ Below W.heap.size W w') :
    Calls Tryz.prog 141 #[.slice A0 l0.length c0, .func (.func g) #[] lb] w fun e w' => e = .returned (.int .i64 (idxP p l0)) ∧ Below w.heap.size w w' := by
  have HP := Aside0.mk hp
  have HR0 := Aside0.mk hr0
  clear hp hr0
  have hu := Tryz.underlying54
  go_enter Tryz.func141, Tryz.ntmps141
  go_wp2
  go_loopg [5, 8] l0.length (fun gg _ s8 wr => ∃ kk : Nat, kk ≤ l0.length ∧ l0.length - kk ≤ gg ∧ s8 = .int .i64 kk ∧ Aside0 (Below w.heap.size w wr) ∧ Aside0 (∀ j (h : j < l0.length), j < kk → p l0[j] = false))
  case atStart => exact ⟨0, Nat.zero_le _, by omega, rfl, ⟨Below.refl _ w⟩, ⟨fun j _ hj => absurd hj (Nat.not_lt_zero _)⟩⟩
  case round =>
    obtain ⟨kk, hkk, hg, rfl, HB, HA⟩ := hrel
    by_cases hlt : kk < l0.length
    · have hltz : (kk : Int) < (l0.length : Int) := by omega
      obtain ⟨ad, e, hx0, hx1⟩ := at_T54 HR0.out (kk : Int) (by omega) hltz
      cases e
      rw [rd_T54_nat l0 kk hlt, Int.toNat_natCast] at hx0 hx1
      replace hx0 := (HB.out.cell (World.block_lt_of_cell? w _ hx0)).trans hx0
      replace hx1 := (HB.out.cell (World.block_lt_of_cell? w _ hx1)).trans hx1
      have hcall := HP.out kk hlt wr HB.out
      have hit := idxP_hit p l0 kk hlt HA.out
      have HS : p l0[kk] = false → Aside0 (∀ j (h : j < l0.length), j < kk + 1 → p l0[j] = false) := fun h => ⟨fun j hj hjk => by
        by_cases e : j = kk
        · subst e; exact h
        · exact HA.out j hj (by omega)⟩
      generalize l0[kk] = y at hx0 hx1 hcall hit HS
      cases hq : p y with
      | true =>
        rw [hq] at hcall
        have hit := Aside0.mk (hit hq)
        clear HS hq
        have HC := Aside0.mk hcall
        clear hcall
        go_wp2_with (go_at_fn g; refine HC.out.mono ?_; rintro e w' ⟨rfl, hb'⟩)
        go_ret
        exact ⟨by rw [hit.out]; rfl, below_then HB.out HB.out.size hb'⟩
      | false =>
        rw [hq] at hcall
        have HS := HS hq
        clear hit hq
        have HC := Aside0.mk hcall
        clear hcall
        go_wp2_with (go_at_fn g; refine HC.out.mono ?_; rintro e w' ⟨rfl, hb'⟩)
        go_roundg (l0.length - (kk + 1))
        case measure => omega
        case rel => exact ⟨kk + 1, by omega, by omega, by go_num, ⟨below_then HB.out HB.out.size hb'⟩, HS⟩
    · have hltz : ¬ (kk : Int) < (l0.length : Int) := by omega
      have hmiss := Aside0.mk (idxP_miss p l0 (fun j hj => HA.out j hj (by omega)))
      clear HA HP
      go_wp2
      go_ret
      exact ⟨by rw [hmiss.out]; rfl, HB.out⟩
set_option maxHeartbeats 2000000 in
theorem containsFunc_File (g : Nat) (lb : Array Value) (p : S54 → Bool) (eg : ∀ args w, (callFunc g args).run Tryz.prog w = .ok (.enter g args) w) (A0 : Option Addr) (c0 : Nat) (l0 : List S54) (w : World) (hr0 : Kd.C k54 w A0 l0.length l0) (hm : l0.length ≤ 140737488355328)
    (hp : ∀ i, (h : i < l0.length) → ∀ W, Below w.heap.size w W → Calls Tryz.prog g (#[.agg #[.string l0[i].f0, .string l0[i].f1]] ++ lb) W fun e w' => e = .returned (.bool (p l0[i])) ∧ Below W.heap.size W w') :
    Calls Tryz.prog 102 #[.slice A0 l0.length c0, .func (.func g) #[] lb] w fun e w' => e = .returned (.bool (l0.any p)) ∧ Below w.heap.size w w' := by
  have HC := Aside0.mk (indexFunc_File g lb p eg A0 c0 l0 w hr0 hm hp)
  have ha := Aside0.mk (idxP_any p l0)
  clear hp hr0
  generalize idxP p l0 = r at HC ha
  go_enter Tryz.func102, Tryz.ntmps102
  go_wp2_with (go_at_call 141; refine HC.out.mono ?_; rintro e w' ⟨rfl, hb'⟩)
  go_ret
  exact ⟨by rw [← ha.out]; rfl, hb'⟩
end Go.Proofs.YtlkmegeecmkkbaaGreatDoor.P
end

/-
  Package clock: contracts proved by hand: a clock is told by its two counts. (Texts of this session.)
-/
import Derived.Shelf.Abstract
import Derived.Test.YtlkmegeecmkkbaaGreatDoorZ2
import Derived.Test.YtlkmegeecmkkbaaGreatDoorZ12
namespace Go.Proofs.YtlkmegeecmkkbaaGreatDoor.P
open Go.RowKit Go.Proofs.YtlkmegeecmkkbaaGreatDoorW.PrintWords Go.Proofs.YtlkmegeecmkkbaaGreatDoorW.PrintLast Go.Proofs.YtlkmegeecmkkbaaGreatDoorW.PrintMore
set_option linter.unusedVariables false
set_option linter.unusedSimpArgs false
set_option maxRecDepth 100000
attribute [local go_sem] max2_int min2_int max_two min_two
def cpx (c : Int × Int) : Value := .complex .f64 (fl c.1.toNat) (fl c.2.toNat)
def flv (n : Int) : Value := .float .f64 (fl n.toNat)
def clampI (n : Int) : Int := max 0 (min n 1073741824)
def inR (c : Int × Int) : Bool := decide (0 ≤ c.1) && decide (c.1 < 4294967296) && decide (0 ≤ c.2) && decide (c.2 < 4294967296)
theorem inR_iff {c : Int × Int} : inR c = true ↔ 0 ≤ c.1 ∧ c.1 < 4294967296 ∧ 0 ≤ c.2 ∧ c.2 < 4294967296 := by simp [inR, and_assoc]
theorem clampI_range (n : Int) : 0 ≤ clampI n ∧ clampI n ≤ 1073741824 := by unfold clampI; omega
theorem nearest_int {n : Int} (h0 : 0 ≤ n) (h1 : n < 4294967296) : FloatKind.f64.nearest n = fl n.toNat := by
  obtain ⟨m, rfl⟩ := Int.eq_ofNat_of_zero_le h0
  unfold FloatKind.nearest FloatKind.encode
  have : decide ((m : Int) < 0) = false := by simp
  rw [this, Int.natAbs_natCast, Int.toNat_natCast]
  exact nearest_nat (by omega)
theorem conv_if (n : Int) (W : World) : (convert 3 124 (.int .i64 n)).run Tryz.prog W = .ok (.float .f64 (FloatKind.f64.nearest n)) W := by
  simp [convert, run_underlying Tryz.underlying3, run_underlying Tryz.underlying124, Conv.intToFloat]
theorem conv_fi (n : Nat) (hn : n < 4294967296) (W : World) : (convert 124 3 (.float .f64 (fl n))).run Tryz.prog W = .ok (.int .i64 (n : Int)) W := by
  have h := toInt_fl (n := n) (by omega)
  have hd : FloatKind.f64.decode (fl n) = Ieee.double.read (fl n) := rfl
  have hb : IntKind.i64.min ≤ (n : Int) ∧ (n : Int) ≤ IntKind.i64.max := by
    have h1 : IntKind.i64.min = -9223372036854775808 := by rfl
    have h2 : IntKind.i64.max = 9223372036854775807 := by rfl
    rw [h1, h2]; omega
  simp [convert, run_underlying Tryz.underlying3, run_underlying Tryz.underlying124, Conv.floatToInt, hd, h, hb]
  intro hx; omega
set_option maxHeartbeats 1000000 in
theorem clamp_calls (n : Int) (w : World) : Calls Tryz.prog 111 #[.int .i64 n] w fun e w' => e = .returned (flv (clampI n)) ∧ w' = w := by
  have hr := clampI_range n
  have hn : Aside0 (FloatKind.f64.nearest (clampI n) = fl (clampI n).toNat) := ⟨nearest_int hr.1 (by omega)⟩
  have hcv := fun k W => conv_if k W
  rcases (by omega : n ≤ 0 ∨ (0 < n ∧ n ≤ 1073741824) ∨ 1073741824 < n) with h | ⟨h, h'⟩ | h
  all_goals
    have hc : Aside0 (clampI n = _) := ⟨by unfold clampI; first | (rw [Int.min_eq_left (by omega), Int.max_eq_left (by omega)]) | (rw [Int.min_eq_left (by omega), Int.max_eq_right (by omega)]) | (rw [Int.min_eq_right (by omega), Int.max_eq_right (by omega)])⟩
    have hf : Aside0 (flv (clampI n) = .float .f64 (FloatKind.f64.nearest _)) := ⟨by unfold flv; rw [← hn.out, hc.out]⟩
    clear hn hr
    go_enter Tryz.func111, Tryz.ntmps111
    go_wp2
    go_ret
    exact ⟨by rw [hf.out]; rfl, rfl⟩
theorem cmp_geq (m n : Nat) (hm : m < 2 ^ 40) (hn : n < 2 ^ 40) (W : World) : (binOp .geq 124 (.float .f64 (fl m)) (.float .f64 (fl n))).run Tryz.prog W = .ok (.bool (decide (n ≤ m))) W := by
  have h := order_fl hm hn
  have hb : (some (compare m n) == some Ordering.gt || some (compare m n) == some Ordering.eq) = decide (n ≤ m) := by
    rcases Nat.lt_trichotomy m n with h | h | h
    · rw [Nat.compare_eq_lt.2 h]; simp; exact h
    · subst h; rw [Nat.compare_eq_eq.2 rfl]; simp
    · rw [Nat.compare_eq_gt.2 h]; simp; omega
  have hb2 := hb
  simp only [Option.some_beq_some] at hb2
  simp [binOp, Op.floatCmp, FloatKind.format, h, hb2]
theorem cmp_gtr (m n : Nat) (hm : m < 2 ^ 40) (hn : n < 2 ^ 40) (W : World) : (binOp .gtr 124 (.float .f64 (fl m)) (.float .f64 (fl n))).run Tryz.prog W = .ok (.bool (decide (n < m))) W := by
  have h := order_fl hm hn
  have hb : (some (compare m n) == some Ordering.gt) = decide (n < m) := by
    rcases Nat.lt_trichotomy m n with h | h | h
    · rw [Nat.compare_eq_lt.2 h]; simp; omega
    · subst h; rw [Nat.compare_eq_eq.2 rfl]; simp
    · rw [Nat.compare_eq_gt.2 h]; simp; omega
  have hb2 := hb
  simp only [Option.some_beq_some] at hb2
  simp [binOp, Op.floatCmp, FloatKind.format, h, hb2]
theorem fl_max : fl 1073741824 = 4742290407621132288 := by decide +kernel
theorem fl_zero : fl 0 = 0 := by decide
theorem fl_one : fl 1 = 4607182418800017408 := by decide +kernel
set_option maxHeartbeats 1000000 in
theorem count_calls (n : Int) (h0 : 0 ≤ n) (h1 : n < 4294967296) (w : World) : Calls Tryz.prog 109 #[flv n] w fun e w' => e = .returned (.int .i64 (min n 1073741824)) ∧ w' = w := by
  obtain ⟨m, rfl⟩ := Int.eq_ofNat_of_zero_le h0
  have hm : m < 4294967296 := by omega
  unfold flv
  rw [Int.toNat_natCast]
  have h1 := fun W => cmp_geq m 1073741824 (by omega) (by decide) W
  have h2 := fun W => cmp_gtr m 0 (by omega) (by decide) W
  have h3 := fun W => conv_fi m hm W
  rw [fl_max] at h1
  rw [fl_zero] at h2
  generalize fl m = x at *
  rcases (by omega : m = 0 ∨ (0 < m ∧ m < 1073741824) ∨ 1073741824 ≤ m) with h | ⟨h, h'⟩ | h
  · rw [decide_eq_false (by omega)] at h1
    rw [decide_eq_false (by omega)] at h2
    have hf : Aside0 (min (m : Int) 1073741824 = 0) := ⟨by omega⟩
    clear h h0
    go_enter Tryz.func109, Tryz.ntmps109
    go_wp2
    go_ret
    exact ⟨by rw [hf.out]; rfl, rfl⟩
  · rw [decide_eq_false (by omega)] at h1
    rw [decide_eq_true (by omega)] at h2
    have hf : Aside0 (min (m : Int) 1073741824 = (m : Int)) := ⟨by omega⟩
    go_enter Tryz.func109, Tryz.ntmps109
    go_wp2
    go_ret
    exact ⟨by rw [hf.out]; rfl, rfl⟩
  · rw [decide_eq_true (by omega)] at h1
    have hf : Aside0 (min (m : Int) 1073741824 = 1073741824) := ⟨by omega⟩
    go_enter Tryz.func109, Tryz.ntmps109
    go_wp2
    go_ret
    exact ⟨by rw [hf.out]; rfl, rfl⟩
theorem run_cx (ats : Array TypeId) (ty : TypeId) (x y : Nat) (W : World) : (Builtin.complex_ ats ty #[.float .f64 x, .float .f64 y]).run Tryz.prog W = .ok (.complex .f64 x y) W := by rfl
theorem run_re (ats : Array TypeId) (ty : TypeId) (x y : Nat) (W : World) : (Builtin.real_ ats ty #[.complex .f64 x y]).run Tryz.prog W = .ok (.float .f64 x) W := by rfl
theorem run_im (ats : Array TypeId) (ty : TypeId) (x y : Nat) (W : World) : (Builtin.imag_ ats ty #[.complex .f64 x y]).run Tryz.prog W = .ok (.float .f64 y) W := by rfl
theorem neg_fl {n : Nat} (h : n < 2 ^ 40) : (FloatKind.f64.decode (fl n)).neg = false := by
  obtain ⟨p, e⟩ := read_any h
  show (Ieee.double.read (fl n)).neg = false
  rw [e]; rfl
theorem run_max2f (m n : Nat) (hm : m < 2 ^ 40) (hn : n < 2 ^ 40) (W : World) : (Builtin.max2 (.float .f64 (fl m)) (.float .f64 (fl n))).run Tryz.prog W = .ok (.float .f64 (fl (max m n))) W := by
  have h := order_fl hm hn
  have hn := neg_fl hm
  rcases Nat.lt_trichotomy m n with hl | hl | hl
  · rw [Nat.compare_eq_lt.2 hl] at h
    simp [Builtin.max2, FloatKind.format, h, Nat.max_eq_right (Nat.le_of_lt hl)]
  · subst hl
    rw [Nat.compare_eq_eq.2 rfl] at h
    simp [Builtin.max2, FloatKind.format, h, hn]
  · rw [Nat.compare_eq_gt.2 hl] at h
    simp [Builtin.max2, FloatKind.format, h, Nat.max_eq_left (Nat.le_of_lt hl)]
theorem run_cadd (ty : TypeId) (a b c d : Nat) (ha : a < 2 ^ 39) (hb : b < 2 ^ 39) (hc : c < 2 ^ 39) (hd : d < 2 ^ 39) (W : World) : (binOp .add ty (.complex .f64 (fl a) (fl b)) (.complex .f64 (fl c) (fl d))).run Tryz.prog W = .ok (.complex .f64 (fl (a + c)) (fl (b + d))) W := by
  simp [binOp, Op.complexOp, Op.Complex.arith, Op.floatArith, FloatKind.format, add_fl ha hc, add_fl hb hd]
theorem beq_cmp (m n : Nat) : (some (compare m n) == some Ordering.eq) = decide (m = n) := by
  rcases Nat.lt_trichotomy m n with h | h | h
  · rw [Nat.compare_eq_lt.2 h]; simp; omega
  · subst h; rw [Nat.compare_eq_eq.2 rfl]; simp
  · rw [Nat.compare_eq_gt.2 h]; simp; omega
theorem run_ceq (ty : TypeId) (a b c d : Nat) (ha : a < 2 ^ 40) (hb : b < 2 ^ 40) (hc : c < 2 ^ 40) (hd : d < 2 ^ 40) (W : World) : (binOp .eql ty (.complex .f64 (fl a) (fl b)) (.complex .f64 (fl c) (fl d))).run Tryz.prog W = .ok (.bool (decide (a = c) && decide (b = d))) W := by
  have h1 := beq_cmp a c
  have h2 := beq_cmp b d
  simp only [Option.some_beq_some] at h1 h2
  simp [binOp, Op.complexOp, Op.Complex.cmp, Op.floatCmp, FloatKind.format, order_fl ha hc, order_fl hb hd, asBool, h1, h2]
def clock_Of.f (a0_0 a0_1 : Int) : Option (Int × Int) := some (clampI a0_0, clampI a0_1)
set_option maxHeartbeats 2000000 in
theorem clock_Of.calls (a0_0 a0_1 : Int) (r : Int × Int) (w : World) (h : clock_Of.f a0_0 a0_1 = some r) :
    Calls Tryz.prog 67 #[.agg #[.int .i64 a0_0, .int .i64 a0_1]] w fun e w' => e = .returned (cpx r) ∧ Below w.heap.size w w' := by
  obtain rfl := Option.some.inj h
  clear h
  have c0 := Aside0.mk (fun W => clamp_calls a0_0 W)
  have c1 := Aside0.mk (fun W => clamp_calls a0_1 W)
  have hcp : Aside0 (cpx (clampI a0_0, clampI a0_1) = .complex .f64 (fl (clampI a0_0).toNat) (fl (clampI a0_1).toNat)) := ⟨rfl⟩
  unfold flv at c0 c1
  generalize fl (clampI a0_0).toNat = x at *
  generalize fl (clampI a0_1).toNat = y at *
  have hcx := fun ats ty W => run_cx ats ty x y W
  go_enter Tryz.func67, Tryz.ntmps67
  go_wp2_with fail
  refine start_ (n := 8) (S := fun w' => w'.cell? ⟨w.heap.size, 0, none⟩ = some (.int .i64 a0_0) ∧ w'.cell? ⟨w.heap.size, 1, none⟩ = some (.int .i64 a0_1)) (ds := []) #[false, false, false, false, false, false, false, false] (by kernel_rfl) rfl rfl (by simp) (fun hHeld => ?_)
  refine pure_ (i := 0) (N := some 3) (v := ?_) (a' := ?_) #[true, false, false, false, false, false, false, false] rfl rfl (by kernel_rfl) (fun _ _ _ h => h) (Or.inl ⟨by rfl, ?_⟩) ?_ ?_
  rotate_left
  · intro w'
    go_simp
    with_reducible rfl
  rotate_left
  · simp only [Act.put, List.setIfInBounds_toArray, List.set_cons_zero, List.set_cons_succ, i64_w, i32_w]
    rfl
  refine pure_ (i := 3) (N := some 6) (v := ?_) (a' := ?_) #[true, false, false, true, false, false, false, false] rfl rfl (by kernel_rfl) (fun _ _ _ h => h) (Or.inl ⟨by rfl, ?_⟩) ?_ ?_
  rotate_left
  · intro w'
    go_simp
    with_reducible rfl
  rotate_left
  · simp only [Act.put, List.setIfInBounds_toArray, List.set_cons_zero, List.set_cons_succ, i64_w, i32_w]
    rfl
  refine take_ (i := 1) (N := some 4) (v := ?_) (a' := ?_) #[true, true, false, true, false, false, false, false] rfl rfl (by kernel_rfl) (fun _ _ _ h => h) (Or.inl ⟨by rfl, ?_⟩) hHeld ?_ ?_
  rotate_left
  · rintro w' ⟨s0, s1⟩
    go_simp
    with_reducible rfl
  rotate_left
  · simp only [Act.put, List.setIfInBounds_toArray, List.set_cons_zero, List.set_cons_succ, i64_w, i32_w]
    rfl
  refine take_ (i := 4) (N := some 7) (v := ?_) (a' := ?_) #[true, true, false, true, true, false, false, false] rfl rfl (by kernel_rfl) (fun _ _ _ h => h) (Or.inl ⟨by rfl, ?_⟩) hHeld ?_ ?_
  rotate_left
  · rintro w' ⟨s0, s1⟩
    go_simp
    with_reducible rfl
  rotate_left
  · simp only [Act.put, List.setIfInBounds_toArray, List.set_cons_zero, List.set_cons_succ, i64_w, i32_w]
    rfl
  refine one_ (i := 2) (N := some 5) #[true, true, true, true, true, false, false, false] rfl rfl (by kernel_rfl) (by decide) (fun K hK => ?_)
  refine goes_ Tryz.func111 (by kernel_rfl) rfl #[.int .i64 a0_0] (by rfl) rfl rfl (by (try simp only [List.map_toArray, List.map_cons, List.map_nil]); first | done | rfl) ?_
  with_reducible refine (c0.out _).mono ?_
  rintro e w1 ⟨rfl, rfl⟩
  refine ⟨_, rfl, ?_⟩
  refine hK.out _ _ hHeld (fun hHeld => ?_)
  clear hK K
  refine norm_ (a' := ?_) ?_ ?_
  rotate_left
  · show Act.put _ (some 5) _ = _
    simp only [Act.put, List.setIfInBounds_toArray, List.set_cons_zero, List.set_cons_succ, i64_w, i32_w]
    rfl
  refine one_ (i := 5) (N := some 8) #[true, true, true, true, true, true, false, false] rfl rfl (by kernel_rfl) (by decide) (fun K hK => ?_)
  refine goes_ Tryz.func111 (by kernel_rfl) rfl #[.int .i64 a0_1] (by rfl) rfl rfl (by (try simp only [List.map_toArray, List.map_cons, List.map_nil]); first | done | rfl) ?_
  with_reducible refine (c1.out _).mono ?_
  rintro e w2 ⟨rfl, rfl⟩
  refine ⟨_, rfl, ?_⟩
  refine hK.out _ _ hHeld (fun hHeld => ?_)
  clear hK K
  refine norm_ (a' := ?_) ?_ ?_
  rotate_left
  · show Act.put _ (some 8) _ = _
    simp only [Act.put, List.setIfInBounds_toArray, List.set_cons_zero, List.set_cons_succ, i64_w, i32_w]
    rfl
  refine pure_ (i := 6) (N := some 9) (v := ?_) (a' := ?_) #[true, true, true, true, true, true, true, false] rfl rfl (by kernel_rfl) (fun _ _ _ h => h) (Or.inl ⟨by rfl, ?_⟩) ?_ ?_
  rotate_left
  · intro w'
    go_simp
    with_reducible rfl
  rotate_left
  · simp only [Act.put, List.setIfInBounds_toArray, List.set_cons_zero, List.set_cons_succ, i64_w, i32_w]
    rfl
  refine pure_ (i := 7) (N := some 2) (v := ?_) (a' := ?_) #[true, true, true, true, true, true, true, true] rfl rfl (by kernel_rfl) (fun _ _ _ h => h) (Or.inl ⟨by rfl, ?_⟩) ?_ ?_
  rotate_left
  · intro w'
    go_simp
    with_reducible rfl
  rotate_left
  · simp only [Act.put, List.setIfInBounds_toArray, List.set_cons_zero, List.set_cons_succ, i64_w, i32_w]
    rfl
  refine done_ (by kernel_rfl) ?_
  go_wp2
  go_ret
  exact ⟨by rw [hcp.out]; rfl, below_drew ((Below.refl _ _).alloc (Nat.le_refl _) _)⟩
def clock_Pair.f (a0 : Int × Int) : Option (Int × Int) := if inR a0 then some (min a0.1 1073741824, min a0.2 1073741824) else none
set_option maxHeartbeats 2000000 in
theorem clock_Pair.calls (a0 : Int × Int) (r1 r2 : Int) (w : World) (h : clock_Pair.f a0 = some (r1, r2)) :
    Calls Tryz.prog 65 #[cpx a0] w fun e w' => e = .returned (.agg #[.int .i64 r1, .int .i64 r2]) ∧ Below w.heap.size w w' := by
  unfold clock_Pair.f at h
  split at h
  case isFalse => cases h
  rename_i hr
  obtain ⟨h0, h1, h2, h3⟩ := inR_iff.1 hr
  simp only [Option.some.injEq, Prod.mk.injEq] at h
  obtain ⟨rfl, rfl⟩ := h
  have c0 := Aside0.mk (fun W => count_calls a0.1 h0 h1 W)
  have c1 := Aside0.mk (fun W => count_calls a0.2 h2 h3 W)
  unfold cpx
  unfold flv at c0 c1
  clear h0 h1 h2 h3 hr
  generalize fl a0.1.toNat = x at *
  generalize fl a0.2.toNat = y at *
  have hre := fun ats ty W => run_re ats ty x y W
  have him := fun ats ty W => run_im ats ty x y W
  generalize min a0.1 1073741824 = u at *
  generalize min a0.2 1073741824 = v at *
  go_enter Tryz.func65, Tryz.ntmps65
  go_wp2_with (first | (go_at_call 109; with_reducible refine (c0.out _).mono ?_; rintro e w1 ⟨rfl, rfl⟩) | (go_at_call 109; with_reducible refine (c1.out _).mono ?_; rintro e w2 ⟨rfl, rfl⟩))
  refine bodyPost_ret (v := .agg #[.int .i64 u, .int .i64 v]) (by simp [results, Tryz.results65, go_sem]) rfl ⟨rfl, ?_⟩
  exact (Below.refl _ _).alloc (Nat.le_refl _) _
set_option maxHeartbeats 2000000 in
theorem whole_calls (a0 : Int × Int) (hr : inR a0 = true) (w : World) :
    Calls Tryz.prog 110 #[cpx a0] w fun e w' => e = .returned (cpx (min a0.1 1073741824, min a0.2 1073741824)) ∧ Below w.heap.size w w' := by
  have h4 := inR_iff.1 hr
  have c0 := Aside0.mk (fun W => clock_Pair.calls a0 (min a0.1 1073741824) (min a0.2 1073741824) W (by unfold clock_Pair.f; rw [if_pos hr]))
  have c1 := Aside0.mk (fun W => clock_Of.calls (min a0.1 1073741824) (min a0.2 1073741824) (min a0.1 1073741824, min a0.2 1073741824) W (by unfold clock_Of.f clampI; congr 2 <;> omega))
  clear h4 hr
  have hc : Aside0 (cpx a0 = .complex .f64 (fl a0.1.toNat) (fl a0.2.toNat)) := ⟨rfl⟩
  have hc2 : Aside0 (cpx (min a0.1 1073741824, min a0.2 1073741824) = .complex .f64 (fl (min a0.1 1073741824).toNat) (fl (min a0.2 1073741824).toNat)) := ⟨rfl⟩
  rw [hc.out] at c0 ⊢
  rw [hc2.out] at c1 ⊢
  generalize fl a0.1.toNat = x at *
  generalize fl a0.2.toNat = y at *
  generalize fl (min a0.1 1073741824).toNat = x' at *
  generalize fl (min a0.2 1073741824).toNat = y' at *
  generalize min a0.1 1073741824 = u at *
  generalize min a0.2 1073741824 = v at *
  go_enter Tryz.func110, Tryz.ntmps110
  go_wp2_with (first | (go_at_call 65; with_reducible refine (c0.out _).mono ?_; rintro e w1 ⟨rfl, hb1⟩) | (go_at_call 67; with_reducible refine (c1.out _).mono ?_; rintro e w2 ⟨rfl, hb2⟩))
  go_ret
  exact ⟨rfl, below_then hb1 hb1.size hb2⟩
def capI (c : Int × Int) : Int × Int := (min c.1 1073741824, min c.2 1073741824)
theorem capI_range {c : Int × Int} (h : inR c = true) : 0 ≤ (capI c).1 ∧ (capI c).1 ≤ 1073741824 ∧ 0 ≤ (capI c).2 ∧ (capI c).2 ≤ 1073741824 := by
  have := inR_iff.1 h; unfold capI; simp only; omega
def tickI (c : Int × Int) (a : Int) : Int × Int := if Go.bits .and .i64 a 1 = 1 then capI ((capI c).1, (capI c).2 + 1) else capI ((capI c).1 + 1, (capI c).2)
def clock_Tick.f (a0 : Int × Int) (a1 : Int) : Option (Int × Int) := if inR a0 then some (tickI a0 a1) else none
theorem cadd_cpx (a c : Int × Int) (ha : 0 ≤ a.1 ∧ a.1 < 4294967296 ∧ 0 ≤ a.2 ∧ a.2 < 4294967296) (hc : 0 ≤ c.1 ∧ c.1 < 4294967296 ∧ 0 ≤ c.2 ∧ c.2 < 4294967296) (ty : TypeId) (W : World) :
    (binOp .add ty (cpx a) (cpx c)).run Tryz.prog W = .ok (cpx (a.1 + c.1, a.2 + c.2)) W := by
  unfold cpx
  rw [run_cadd ty _ _ _ _ (by omega) (by omega) (by omega) (by omega)]
  simp only
  rw [Int.toNat_add (by omega) (by omega), Int.toNat_add (by omega) (by omega)]
set_option maxHeartbeats 4000000 in
theorem clock_Tick.calls (a0 : Int × Int) (a1 : Int) (r : Int × Int) (w : World) (h : clock_Tick.f a0 a1 = some r) :
    Calls Tryz.prog 66 #[cpx a0, .int .i64 a1] w fun e w' => e = .returned (cpx r) ∧ Below w.heap.size w w' := by
  unfold clock_Tick.f at h
  split at h
  case isFalse => cases h
  rename_i hr
  obtain rfl := Option.some.inj h
  clear h
  have hca := capI_range hr
  have hw0 := Aside0.mk (fun W => whole_calls a0 hr W)
  by_cases hb : Go.bits .and .i64 a1 1 = 1
  · have e1 : Aside0 (tickI a0 a1 = capI ((capI a0).1, (capI a0).2 + 1)) := ⟨by unfold tickI; rw [if_pos hb]⟩
    have hw1 := Aside0.mk (fun W => whole_calls ((capI a0).1, (capI a0).2 + 1) (inR_iff.2 (by simp only; omega)) W)
    have hadd := fun ty W => cadd_cpx (capI a0) (0, 1) (by omega) (by decide) ty W
    have hk : cpx (0, 1) = .complex .f64 0 4607182418800017408 := by unfold cpx; rw [← fl_one]; rfl
    rw [hk] at hadd
    simp only [Int.add_zero] at hadd
    have hcap : (min a0.1 1073741824, min a0.2 1073741824) = capI a0 := rfl
    rw [hcap] at hw0
    have hcap2 : ∀ x y : Int, (min (x, y).1 1073741824, min (x, y).2 1073741824) = capI (x, y) := fun _ _ => rfl
    rw [hcap2] at hw1
    rw [e1.out]
    clear hk hcap hcap2 hca hr
    generalize capI ((capI a0).1, (capI a0).2 + 1) = r2 at *
    generalize ((capI a0).1, (capI a0).2 + 1) = c2 at *
    generalize capI a0 = c1 at *
    obtain ⟨x0, hx0⟩ : ∃ x, cpx a0 = x := ⟨_, rfl⟩
    obtain ⟨x1, hx1⟩ : ∃ x, cpx c1 = x := ⟨_, rfl⟩
    obtain ⟨x2, hx2⟩ : ∃ x, cpx c2 = x := ⟨_, rfl⟩
    obtain ⟨x3, hx3⟩ : ∃ x, cpx r2 = x := ⟨_, rfl⟩
    rw [hx0] at hw0 ⊢
    rw [hx1] at hw0 hadd
    rw [hx2] at hw1 hadd
    rw [hx3] at hw1 ⊢
    clear hx0 hx1 hx2 hx3 e1
    have hb1 : (Go.bits .and .i64 a1 1 == 1) = true := beq_iff_eq.2 hb
    clear hb
    go_enter Tryz.func66, Tryz.ntmps66
    go_wp2_with (first | (go_at_call 110; with_reducible refine (hw0.out _).mono ?_; rintro e w1 ⟨rfl, hb1⟩) | (go_at_call 110; with_reducible refine (hw1.out _).mono ?_; rintro e w2 ⟨rfl, hb2⟩))
    go_ret
    exact ⟨rfl, below_then hb1 hb1.size hb2⟩
  · have e1 : Aside0 (tickI a0 a1 = capI ((capI a0).1 + 1, (capI a0).2)) := ⟨by unfold tickI; rw [if_neg hb]⟩
    have hw1 := Aside0.mk (fun W => whole_calls ((capI a0).1 + 1, (capI a0).2) (inR_iff.2 (by simp only; omega)) W)
    have hadd := fun ty W => cadd_cpx (capI a0) (1, 0) (by omega) (by decide) ty W
    have hk : cpx (1, 0) = .complex .f64 4607182418800017408 0 := by unfold cpx; rw [← fl_one]; rfl
    rw [hk] at hadd
    simp only [Int.add_zero] at hadd
    have hcap : (min a0.1 1073741824, min a0.2 1073741824) = capI a0 := rfl
    rw [hcap] at hw0
    have hcap2 : ∀ x y : Int, (min (x, y).1 1073741824, min (x, y).2 1073741824) = capI (x, y) := fun _ _ => rfl
    rw [hcap2] at hw1
    rw [e1.out]
    clear hk hcap hcap2 hca hr
    generalize capI ((capI a0).1 + 1, (capI a0).2) = r2 at *
    generalize ((capI a0).1 + 1, (capI a0).2) = c2 at *
    generalize capI a0 = c1 at *
    obtain ⟨x0, hx0⟩ : ∃ x, cpx a0 = x := ⟨_, rfl⟩
    obtain ⟨x1, hx1⟩ : ∃ x, cpx c1 = x := ⟨_, rfl⟩
    obtain ⟨x2, hx2⟩ : ∃ x, cpx c2 = x := ⟨_, rfl⟩
    obtain ⟨x3, hx3⟩ : ∃ x, cpx r2 = x := ⟨_, rfl⟩
    rw [hx0] at hw0 ⊢
    rw [hx1] at hw0 hadd
    rw [hx2] at hw1 hadd
    rw [hx3] at hw1 ⊢
    clear hx0 hx1 hx2 hx3 e1
    have hb1 : (Go.bits .and .i64 a1 1 == 1) = false := beq_eq_false_iff_ne.2 hb
    clear hb
    go_enter Tryz.func66, Tryz.ntmps66
    go_wp2_with (first | (go_at_call 110; with_reducible refine (hw0.out _).mono ?_; rintro e w1 ⟨rfl, hb1⟩) | (go_at_call 110; with_reducible refine (hw1.out _).mono ?_; rintro e w2 ⟨rfl, hb2⟩))
    go_ret
    exact ⟨rfl, below_then hb1 hb1.size hb2⟩
def clock_Join.f (a0 a1 : Int × Int) : Option (Int × Int) := if inR a0 = true ∧ inR a1 = true then some (max (capI a0).1 (capI a1).1, max (capI a0).2 (capI a1).2) else none
set_option maxHeartbeats 4000000 in
theorem clock_Join.calls (a0 a1 : Int × Int) (r : Int × Int) (w : World) (h : clock_Join.f a0 a1 = some r) :
    Calls Tryz.prog 108 #[cpx a0, cpx a1] w fun e w' => e = .returned (cpx r) ∧ Below w.heap.size w w' := by
  unfold clock_Join.f at h
  split at h
  case isFalse => cases h
  rename_i hr
  obtain rfl := Option.some.inj h
  clear h
  have hca := capI_range hr.1
  have hcb := capI_range hr.2
  have hw0 := Aside0.mk (fun W => whole_calls a0 hr.1 W)
  have hw1 := Aside0.mk (fun W => whole_calls a1 hr.2 W)
  have h0 : (min a0.1 1073741824, min a0.2 1073741824) = capI a0 := rfl
  have h1 : (min a1.1 1073741824, min a1.2 1073741824) = capI a1 := rfl
  rw [h0] at hw0
  rw [h1] at hw1
  clear h0 h1 hr
  have hc : cpx (max (capI a0).1 (capI a1).1, max (capI a0).2 (capI a1).2) = .complex .f64 (fl (max (capI a0).1.toNat (capI a1).1.toNat)) (fl (max (capI a0).2.toNat (capI a1).2.toNat)) := by
    unfold cpx; simp only; congr 2 <;> omega
  rw [hc]
  have m1 := fun W => run_max2f (capI a0).1.toNat (capI a1).1.toNat (by omega) (by omega) W
  have m2 := fun W => run_max2f (capI a0).2.toNat (capI a1).2.toNat (by omega) (by omega) W
  have ha : cpx (capI a0) = .complex .f64 (fl (capI a0).1.toNat) (fl (capI a0).2.toNat) := rfl
  have hb : cpx (capI a1) = .complex .f64 (fl (capI a1).1.toNat) (fl (capI a1).2.toNat) := rfl
  rw [ha] at hw0
  rw [hb] at hw1
  obtain ⟨z0, hz0⟩ : ∃ x, cpx a0 = x := ⟨_, rfl⟩
  obtain ⟨z1, hz1⟩ : ∃ x, cpx a1 = x := ⟨_, rfl⟩
  rw [hz0] at hw0 ⊢
  rw [hz1] at hw1 ⊢
  clear hz0 hz1 ha hb hc hca hcb
  generalize fl (max (capI a0).1.toNat (capI a1).1.toNat) = r1 at *
  generalize fl (max (capI a0).2.toNat (capI a1).2.toNat) = r2 at *
  generalize fl (capI a0).1.toNat = p1 at *
  generalize fl (capI a0).2.toNat = p2 at *
  generalize fl (capI a1).1.toNat = q1 at *
  generalize fl (capI a1).2.toNat = q2 at *
  have hcx := fun ats ty W => run_cx ats ty r1 r2 W
  have e1 := fun ats ty W => run_re ats ty p1 p2 W
  have e2 := fun ats ty W => run_im ats ty p1 p2 W
  have e3 := fun ats ty W => run_re ats ty q1 q2 W
  have e4 := fun ats ty W => run_im ats ty q1 q2 W
  go_enter Tryz.func108, Tryz.ntmps108
  go_wp2_with fail
  with_reducible refine (hw0.out _).mono ?_
  rintro e w1 ⟨rfl, hb1⟩
  go_wp2_with fail
  with_reducible refine (hw1.out _).mono ?_
  rintro e w2 ⟨rfl, hb2⟩
  go_wp2_with fail
  go_ret
  exact ⟨rfl, below_then hb1 hb1.size hb2⟩
def orderI (a b : Int × Int) : Int := if a = b then 0 else if b.1 ≤ a.1 ∧ b.2 ≤ a.2 then 2 else if a.1 ≤ b.1 ∧ a.2 ≤ b.2 then 1 else 3
def clock_Order.f (a0 a1 : Int × Int) : Option Int := if inR a0 = true ∧ inR a1 = true then some (orderI (capI a0) (capI a1)) else none
theorem ceq_cpx (a c : Int × Int) (ha : 0 ≤ a.1 ∧ a.1 ≤ 1073741824 ∧ 0 ≤ a.2 ∧ a.2 ≤ 1073741824) (hc : 0 ≤ c.1 ∧ c.1 ≤ 1073741824 ∧ 0 ≤ c.2 ∧ c.2 ≤ 1073741824) (ty : TypeId) (W : World) :
    (binOp .eql ty (cpx a) (cpx c)).run Tryz.prog W = .ok (.bool (decide (a = c))) W := by
  unfold cpx
  rw [run_ceq ty _ _ _ _ (by omega) (by omega) (by omega) (by omega)]
  congr 2
  rw [Bool.eq_iff_iff]
  simp only [Bool.and_eq_true, decide_eq_true_eq, Prod.ext_iff]
  omega
set_option maxHeartbeats 4000000 in
theorem clock_Order.calls (a0 a1 : Int × Int) (r : Int) (w : World) (h : clock_Order.f a0 a1 = some r) :
    Calls Tryz.prog 86 #[cpx a0, cpx a1] w fun e w' => e = .returned (.int .i64 r) ∧ Below w.heap.size w w' := by
  unfold clock_Order.f at h
  split at h
  case isFalse => cases h
  rename_i hr
  obtain rfl := Option.some.inj h
  clear h
  have hca := capI_range hr.1
  have hcb := capI_range hr.2
  have hw0 := Aside0.mk (fun W => whole_calls a0 hr.1 W)
  have hw1 := Aside0.mk (fun W => whole_calls a1 hr.2 W)
  have h0 : (min a0.1 1073741824, min a0.2 1073741824) = capI a0 := rfl
  have h1 : (min a1.1 1073741824, min a1.2 1073741824) = capI a1 := rfl
  rw [h0] at hw0
  rw [h1] at hw1
  clear h0 h1 hr
  obtain ⟨z0, hz0⟩ : ∃ x, cpx a0 = x := ⟨_, rfl⟩
  obtain ⟨z1, hz1⟩ : ∃ x, cpx a1 = x := ⟨_, rfl⟩
  rw [hz0] at hw0 ⊢
  rw [hz1] at hw1 ⊢
  clear hz0 hz1
  generalize capI a0 = c at *
  generalize capI a1 = d at *
  have hj := Aside0.mk (fun W => clock_Join.calls c d (max c.1 d.1, max c.2 d.2) W (by
    unfold clock_Join.f; rw [if_pos ⟨inR_iff.2 (by omega), inR_iff.2 (by omega)⟩]; unfold capI; simp only; congr 2 <;> omega))
  have hjr : 0 ≤ max c.1 d.1 ∧ max c.1 d.1 ≤ 1073741824 ∧ 0 ≤ max c.2 d.2 ∧ max c.2 d.2 ≤ 1073741824 := by omega
  have q1 := fun ty W => ceq_cpx (max c.1 d.1, max c.2 d.2) c hjr hca ty W
  have q2 := fun ty W => ceq_cpx (max c.1 d.1, max c.2 d.2) d hjr hcb ty W
  have q3 := fun ty W => ceq_cpx c d hca hcb ty W
  have g0 : ∀ op t x y v, eqGuard op t x y (cpx c) v = pure () := fun _ _ _ _ _ => eqGuard_at_complex _ _ _ _ _ _ _ _
  have g2 : ∀ op t x y v, eqGuard op t x y (cpx (max c.1 d.1, max c.2 d.2)) v = pure () := fun _ _ _ _ _ => eqGuard_at_complex _ _ _ _ _ _ _ _
  have hO : Aside0 (orderI c d = if decide ((max c.1 d.1, max c.2 d.2) = c) = true then (if decide (c = d) = true then 0 else 2) else if decide ((max c.1 d.1, max c.2 d.2) = d) = true then 1 else 3) := ⟨by
    unfold orderI
    simp only [decide_eq_true_eq, Prod.ext_iff]
    repeat' split
    all_goals omega⟩
  generalize decide ((max c.1 d.1, max c.2 d.2) = c) = b1 at *
  generalize decide ((max c.1 d.1, max c.2 d.2) = d) = b2 at *
  generalize decide (c = d) = b3 at *
  obtain ⟨v0, hv0⟩ : ∃ x, cpx c = x := ⟨_, rfl⟩
  obtain ⟨v1, hv1⟩ : ∃ x, cpx d = x := ⟨_, rfl⟩
  obtain ⟨v2, hv2⟩ : ∃ x, cpx (max c.1 d.1, max c.2 d.2) = x := ⟨_, rfl⟩
  rw [hv0] at hw0 hj q1 q3 g0
  rw [hv1] at hw1 hj q2 q3
  rw [hv2] at hj q1 q2 g2
  clear hv0 hv1 hv2 hca hcb hjr
  generalize orderI c d = od at *
  cases b1 <;> cases b2 <;> cases b3
  all_goals
    simp only [if_true, if_false, Bool.false_eq_true] at hO
    go_enter Tryz.func86, Tryz.ntmps86
    go_wp2_with fail
    with_reducible refine (hw0.out _).mono ?_
    rintro e w1 ⟨rfl, hb1⟩
    go_wp2_with fail
    with_reducible refine (hw1.out _).mono ?_
    rintro e w2 ⟨rfl, hb2⟩
    go_wp2_with fail
    with_reducible refine (hj.out _).mono ?_
    rintro e w3 ⟨rfl, hb3⟩
    go_wp2_with fail
    go_ret
    exact ⟨by rw [hO.out]; rfl, below_then (below_then hb1 hb1.size hb2) (Nat.le_trans hb1.size hb2.size) hb3⟩
end Go.Proofs.YtlkmegeecmkkbaaGreatDoor.P

/-
  Parts of the proof, one behind the other: GSettleP, PEqA34, PapiEntry, PscanSame, Pcarpetbaglaw09Few, Pcarpetbaglaw04Few, Pcarpetbaglaw10has, Pcarpetbagref01Rows, PscanTree, GPlace, PtreeFind, PEqA54, PapiFile103, PapiFile57, GConcat. Each is a contract of a function of the program, or a plain law; no condition of its own beyond what each theorem says.
-/
import Derived.Test.YtlkmegeecmkkbaaGreatDoorZ16
import Derived.Test.YtlkmegeecmkkbaaGreatDoorZ10
import Derived.Test.YtlkmegeecmkkbaaGreatDoorZ17
import Derived.Test.YtlkmegeecmkkbaaGreatDoorZ15
import Derived.Test.YtlkmegeecmkkbaaGreatDoorZ2
import Derived.Test.YtlkmegeecmkkbaaGreatDoorZ7
import Derived.Test.YtlkmegeecmkkbaaGreatDoorZ8
import Derived.Test.YtlkmegeecmkkbaaGreatDoorZ6
import Derived.Test.YtlkmegeecmkkbaaGreatDoorZ3
section
namespace Go.Proofs.YtlkmegeecmkkbaaGreatDoor.P
open Go Go.RowKit Go.Maps
set_option linter.unusedVariables false
set_option linter.unusedSimpArgs false
theorem index_loop (l : List ByteArray) (a : ByteArray) (hn : l.length ≤ 140737488355328) : ∀ (d k i : Nat), i + d = l.length → d < k →
    ∃ r : Int, slices_Index_string_string.l0 k l a (l.length : Int) (i : Int) = some r ∧ decide (r ≥ 0) = (l.drop i).any (fun x => x.toList == a.toList) := by
  intro d
  induction d with
  | zero =>
    intro k i hi hk
    obtain ⟨k, rfl⟩ : ∃ m, k = m + 1 := ⟨k - 1, by omega⟩
    refine ⟨-1, ?_, ?_⟩
    · simp only [slices_Index_string_string.l0]; rw [if_neg (by omega)]
    · rw [List.drop_eq_nil_of_le (by omega)]; rfl
  | succ d ih =>
    intro k i hi hk
    obtain ⟨k, rfl⟩ : ∃ m, k = m + 1 := ⟨k - 1, by omega⟩
    have hlt : i < l.length := by omega
    simp only [slices_Index_string_string.l0]
    rw [if_pos (by omega), if_pos (by omega), if_pos (by omega), rdOf_nat' l i hlt, List.drop_eq_getElem_cons hlt, List.any_cons]
    by_cases h : a.toList = l[i].toList
    · rw [if_pos h]
      exact ⟨_, rfl, by simp [h]⟩
    · rw [if_neg h, show wrap64 ((i : Int) + 1) = ((i + 1 : Nat) : Int) from by unfold wrap64; omega]
      obtain ⟨r, h1, h2⟩ := ih k (i + 1) (by omega) (by omega)
      refine ⟨r, h1, ?_⟩
      rw [h2]
      have : (l[i].toList == a.toList) = false := by rw [beq_eq_false_iff_ne]; exact fun e => h e.symm
      rw [this, Bool.false_or]
theorem contains_eq (l : List ByteArray) (a : ByteArray) (hn : l.length ≤ 140737488355328) : slices_Contains_string_string.f (l.length + 1) l a = some (l.any (fun x => x.toList == a.toList)) := by
  unfold slices_Contains_string_string.f slices_Index_string_string.f
  obtain ⟨r, h1, h2⟩ := index_loop l a hn l.length (l.length + 1) 0 (by omega) (by omega)
  rw [show (0 : Int) = ((0 : Nat) : Int) from rfl, h1, Option.bind_some, List.drop_zero] at *
  rw [h2]
theorem toList_inj {a b : ByteArray} (h : a.toList = b.toList) : a = b := by
  rw [ByteArray.toList_eq, ByteArray.toList_eq] at h
  cases a; cases b
  congr 1
  exact Array.toList_inj.1 h
theorem idx_of_look {l : List S34} {p : ByteArray} {a : S34} (h : lookE l p.data.toList = some a) :
    ∃ i, ∃ h : i < l.length, idxP (fun e : S34 => e.f0.toList == p.toList) l = (i : Int) ∧ l[i] = a := by
  induction l with
  | nil => cases h
  | cons e l ih =>
    unfold lookE at h
    by_cases he : pathL e = p.data.toList
    · rw [List.find?_cons_of_pos (by simpa using he)] at h
      refine ⟨0, by simp, ?_, by simpa using h⟩
      unfold idxP
      rw [if_pos (by rw [ByteArray.toList_eq, ByteArray.toList_eq]; exact beq_iff_eq.2 he)]
      rfl
    · rw [List.find?_cons_of_neg (by simpa using he)] at h
      obtain ⟨i, hi, h1, h2⟩ := ih h
      refine ⟨i + 1, by simpa using hi, ?_, by simpa using h2⟩
      unfold idxP
      rw [if_neg (by rw [ByteArray.toList_eq, ByteArray.toList_eq]; exact fun h => he (beq_iff_eq.1 h)), if_neg (by omega), h1]
      omega
theorem scan_Find_eq {l : List S34} (hA : archB l = true) (hS : shortE l = true) (p : ByteArray) : scan_Find.f l p = some (idxP (fun e : S34 => e.f0.toList == p.toList) l) := by
  have := arch_len hA
  unfold scan_Find.f scan_Right.f scan_find.f
  rw [if_pos ⟨hS, by omega⟩, hA]
  simp only [Option.bind_some, if_true]
  rw [if_pos (by omega)]
  rfl
def wasE (a b : S34) : Int × Int := (max a.f3.f0 b.f3.f0, max a.f3.f1 b.f3.f1)
def settledE (a b : S34) (p : ByteArray) (take : Bool) (au : Int) : S34 := ⟨p, if take then b.f1 else a.f1, if take then b.f2 else a.f2, ⟨(tickI (wasE a b) au).1, (tickI (wasE a b) au).2⟩⟩
theorem settled_f0 (a b : S34) (p : ByteArray) (take : Bool) (au : Int) : (settledE a b p take au).f0 = p := rfl
def placeE (l : List S34) (p : ByteArray) : Nat := (idxP (fun e : S34 => e.f0.toList == p.toList) l).toNat
def settleR (l0 l1 : List S34) (p : ByteArray) (take : Bool) (au : Int) : List S34 × Int :=
  match lookE l0 p.data.toList, lookE l1 p.data.toList with
  | some a, some b => if tickI (wasE a b) au = wasE a b then ([], 2) else if mayI (l0.set (placeE l0 p) (settledE a b p take au)) = 0 then (l0.set (placeE l0 p) (settledE a b p take au), 0) else ([], mayI (l0.set (placeE l0 p) (settledE a b p take au)))
  | _, _ => ([], 3)
def settleI (l0 l1 : List S34) (p : ByteArray) (take : Bool) (au : Int) : List S34 × Int :=
  if archB l0 = true ∧ archB l1 = true then
    if mayI (outM l0 l1) = 0 then (if isConf l0 l1 p.data.toList = true then settleR l0 l1 p take au else ([], 3)) else ([], mayI (outM l0 l1))
  else ([], 1)
def recon_Settle.f (l0 l1 : List S34) (p : ByteArray) (take : Bool) (au : Int) : Option (List S34 × Int) :=
  if shortE l0 = true ∧ shortE l1 = true ∧ l0.length ≤ 140737488351232 / 56 ∧ l1.length ≤ 140737488351232 / 56 then some (settleI l0 l1 p take au) else none
theorem isConf_look {a b : List S34} {x : List UInt8} (h : isConf a b x = true) : ∃ y z, lookE a x = some y ∧ lookE b x = some z ∧ (comeE y z).2 = true := by
  unfold isConf at h
  cases ha : lookE a x with
  | none => rw [ha] at h; cases h
  | some y =>
    cases hb : lookE b x with
    | none => rw [ha, hb] at h; cases h
    | some z => rw [ha, hb] at h; exact ⟨y, z, rfl, rfl, h⟩
theorem conf_mem {a b : List S34} {x : List UInt8} : x ∈ confM a b ↔ isConf a b x = true := by
  unfold confM
  rw [List.mem_filter]
  constructor
  · exact fun h => h.2
  · intro h
    obtain ⟨y, z, ha, hb, _⟩ := isConf_look h
    refine ⟨mem_keysM.2 ?_, h⟩
    unfold mergedE
    rw [ha, hb]; rfl
theorem conf_any (a b : List S34) (p : ByteArray) : ((confM a b).map BAof).any (fun x => x.toList == p.toList) = isConf a b p.data.toList := by
  rw [Bool.eq_iff_iff, List.any_eq_true, ← conf_mem]
  constructor
  · rintro ⟨x, hx, h⟩
    obtain ⟨y, hy, rfl⟩ := List.mem_map.1 hx
    have h := toList_inj (beq_iff_eq.1 h)
    rw [← h]
    simpa [BAof] using hy
  · intro h
    refine ⟨BAof p.data.toList, List.mem_map.2 ⟨_, h, rfl⟩, ?_⟩
    rw [show BAof p.data.toList = p from by cases p; simp [BAof]]
    simp
theorem confM_length (a b : List S34) : (confM a b).length ≤ a.length + b.length := Nat.le_trans (List.length_filter_le _ _) (keysM_length a b)
theorem wasE_ok {a b : S34} (ha : okC a = true) (hb : okC b = true) : 0 ≤ (wasE a b).1 ∧ (wasE a b).1 ≤ 1073741824 ∧ 0 ≤ (wasE a b).2 ∧ (wasE a b).2 ≤ 1073741824 := by
  rw [okC_iff] at ha hb
  unfold wasE
  simp only
  omega
theorem tickI_ok (c : Int × Int) (h : 0 ≤ c.1 ∧ 0 ≤ c.2) (au : Int) : 0 ≤ (tickI c au).1 ∧ (tickI c au).1 ≤ 1073741824 ∧ 0 ≤ (tickI c au).2 ∧ (tickI c au).2 ≤ 1073741824 := by
  unfold tickI capI
  split <;> simp only <;> omega
theorem clock_Tick_eq {c : Int × Int} (h : 0 ≤ c.1 ∧ c.1 ≤ 1073741824 ∧ 0 ≤ c.2 ∧ c.2 ≤ 1073741824) (au : Int) : clock_Tick.f c au = some (tickI c au) := by
  unfold clock_Tick.f
  rw [if_pos (by rw [inR_iff]; omega)]
end Go.Proofs.YtlkmegeecmkkbaaGreatDoor.P
end
section
namespace Go.Proofs.YtlkmegeecmkkbaaGreatDoor.P
open Go.RowKit Go.Proofs.YtlkmegeecmkkbaaGreatDoorW.PrintWords Go.Proofs.YtlkmegeecmkkbaaGreatDoorW.PrintLast Go.Proofs.YtlkmegeecmkkbaaGreatDoorW.PrintMore
attribute [local go_sem] max2_int min2_int max_two min_two max_three min_three max_four min_four   -- for this text's walks alone
attribute [local go_sem] str_leq str_gtr str_geq
set_option linter.unusedVariables false
set_option linter.unusedSimpArgs false
theorem eqA34 (d : Nat) (w : World) (x0 y0 : ByteArray) (x1 y1 : Bool) (x2 y2 : ByteArray) (x3 y3 : Int) (x4 y4 : Int) :
    (Op.equalIn (d + 3) 34 (.agg #[.string x0, .bool x1, .string x2, .int .i64 x3, .int .i64 x4]) (.agg #[.string y0, .bool y1, .string y2, .int .i64 y3, .int .i64 y4])).run Tryz.prog w = .ok (x0.toList == y0.toList && (x1 == y1 && (x2.toList == y2.toList && ((x3 == y3 && (x4 == y4)))))) w := by
  refine eqA_of Tryz.underlying34 (by kernel_rfl) ?_
  refine eqf_cons (by rfl) (by go_simp; rfl) (by go_simp; rfl) (by go_simp) ?_
  refine eqf_cons (by rfl) (by go_simp; rfl) (by go_simp; rfl) (by go_simp) ?_
  refine eqf_cons (by rfl) (by go_simp; rfl) (by go_simp; rfl) (by go_simp) ?_
  exact eqf_last (by rfl) (by go_simp) (by go_simp) (eqA32 (d + 0) w _ _ _ _)
end Go.Proofs.YtlkmegeecmkkbaaGreatDoor.P
end
section
namespace Go.Proofs.YtlkmegeecmkkbaaGreatDoor.P
open Go.RowKit Go.Proofs.YtlkmegeecmkkbaaGreatDoorW.PrintWords Go.Proofs.YtlkmegeecmkkbaaGreatDoorW.PrintLast Go.Proofs.YtlkmegeecmkkbaaGreatDoorW.PrintMore
attribute [local go_sem] max2_int min2_int max_two min_two max_three min_three max_four min_four   -- for this text's walks alone
attribute [local go_sem] str_leq str_gtr str_geq
set_option linter.unusedVariables false
set_option linter.unusedSimpArgs false
attribute [local go_sem high] eqA34
def api_Entry.l0 : Nat → List (S34) → List (S34) → Int → Int → Option (Bool)
  | 0, _, _, _, _ => none
  | k + 1, x0, x1, x12, x13 => if x13 < x12 then (if 0 ≤ x13 then (if x13 < (x0.length : Int) then (if x13 < (x1.length : Int) then (if (!((((rd_T34 x0 x13).f0).toList) == (((rd_T34 x1 x13).f0).toList)) || (!(((rd_T34 x0 x13).f1) == ((rd_T34 x1 x13).f1)) || (!((((rd_T34 x0 x13).f2).toList) == (((rd_T34 x1 x13).f2).toList)) || ((!(((rd_T34 x0 x13).f3.f0) == ((rd_T34 x1 x13).f3.f0)) || (!(((rd_T34 x0 x13).f3.f1) == ((rd_T34 x1 x13).f3.f1)))))))) = true then (some false) else (api_Entry.l0 k x0 x1 x12 (wrap64 (x13 + 1)))) else (none)) else (none)) else (none)) else (some true)
def api_Entry.f (k : Nat) (l0 : List (S34)) (l1 : List (S34)) : Option (Bool) := if (l0.length : Int) = (l1.length : Int) then (api_Entry.l0 k l0 l1 (l0.length : Int) 0) else (some false)
set_option maxHeartbeats 8000000 in
set_option maxRecDepth 100000 in
theorem api_Entry.calls (k : Nat) (A0 : Option Addr) (c0 : Nat) (l0 : List (S34)) (A1 : Option Addr) (c1 : Nat) (l1 : List (S34)) (r : Bool) (w : World) (hr0 : Kd.C k34 w A0 l0.length l0) (hc0 : l0.length ≤ c0) (hr1 : Kd.C k34 w A1 l1.length l1) (hc1 : l1.length ≤ c1) (h : api_Entry.f k l0 l1 = some r) :
    Calls Tryz.prog 75 #[.slice A0 l0.length c0, .slice A1 l1.length c1] w fun e w' => e = .returned (.bool r) ∧ Drawn0 w w' := by
  have hu34 := Tryz.underlying34
  have HR0 := Aside0.mk hr0
  have HC0 := Aside0.mk hc0
  clear hr0 hc0
  have HR1 := Aside0.mk hr1
  have HC1 := Aside0.mk hc1
  clear hr1 hc1
  have H : (if (l0.length : Int) = (l1.length : Int) then (api_Entry.l0 k l0 l1 (l0.length : Int) 0) else (some false)) = some r := h
  clear h
  by_cases c3 : (l0.length : Int) = (l1.length : Int)
  · rw [if_pos c3] at H
    have c3b0 : ((l0.length : Int) == (l1.length : Int)) = true := beq_iff_eq.mpr c3
    have c3b1 : ((l0.length : Int) != (l1.length : Int)) = false := bne_eq_false_iff_eq.mpr c3
    have c3b2 : (l0.length == l1.length) = true := by first | simpa using c3 | (simp at c3 ⊢; omega)
    clear c3
    have H' := Aside0.mk H
    clear H
    go_enter Tryz.func75, Tryz.ntmps75
    go_wp2
    repeat (go_quiet (fail); try go_wp2)
    go_loopg [13] k (fun kq v13 w' => ∃ (x13_1 : Int), v13 = .int .i64 x13_1 ∧ Aside0 (api_Entry.l0 kq l0 l1 (l0.length : Int) x13_1 = some r) ∧ Aside0 (kq ≤ k) ∧ Drawn0 w w')
    case atStart => exact ⟨(0), (by first | rfl | (simp; done) | (simp [*]; done)), H', ⟨Nat.le_refl _⟩, by repeat (first | exact Drawn0.refl _ | apply Drawn0.step)⟩
    case round =>
      clear H'
      try clear c1
      try clear p2
      try clear c3
      try clear c3b0
      try clear c3b1
      try clear c3b2
      obtain ⟨x13_1, rfl, HA, HK1, ⟨m1, rfl⟩⟩ := hrel
      cases gk with
      | zero => exact absurd HA.out (by simp [api_Entry.l0])
      | succ k1 =>
        have H := HA.out
        clear HA
        simp only [api_Entry.l0] at H
        by_cases c4 : x13_1 < (l0.length : Int)
        · rw [if_pos c4] at H
          have c4b0 : decide (x13_1 < (l0.length : Int)) = true := decide_eq_true c4
          clear c4
          by_cases c5 : 0 ≤ x13_1
          · rw [if_pos c5] at H
            have c5b0 : decide (0 ≤ x13_1) = true := decide_eq_true c5
            clear c5
            by_cases c6 : x13_1 < (l0.length : Int)
            · rw [if_pos c6] at H
              have c6b0 : decide (x13_1 < (l0.length : Int)) = true := decide_eq_true c6
              clear c6
              by_cases c7 : x13_1 < (l1.length : Int)
              · rw [if_pos c7] at H
                have c7b0 : decide (x13_1 < (l1.length : Int)) = true := decide_eq_true c7
                clear c7
                by_cases c8 : (!((((rd_T34 l0 x13_1).f0).toList) == (((rd_T34 l1 x13_1).f0).toList)) || (!(((rd_T34 l0 x13_1).f1) == ((rd_T34 l1 x13_1).f1)) || (!((((rd_T34 l0 x13_1).f2).toList) == (((rd_T34 l1 x13_1).f2).toList)) || ((!(((rd_T34 l0 x13_1).f3.f0) == ((rd_T34 l1 x13_1).f3.f0)) || (!(((rd_T34 l0 x13_1).f3.f1) == ((rd_T34 l1 x13_1).f3.f1)))))))) = true
                · rw [if_pos c8] at H
                  have c8b0 : (!((((rd_T34 l0 x13_1).f0).toList) == (((rd_T34 l1 x13_1).f0).toList)) || (!(((rd_T34 l0 x13_1).f1) == ((rd_T34 l1 x13_1).f1)) || (!((((rd_T34 l0 x13_1).f2).toList) == (((rd_T34 l1 x13_1).f2).toList)) || ((!(((rd_T34 l0 x13_1).f3.f0) == ((rd_T34 l1 x13_1).f3.f0)) || (!(((rd_T34 l0 x13_1).f3.f1) == ((rd_T34 l1 x13_1).f3.f1)))))))) = true := c8
                  clear c8
                  obtain rfl := Option.some.inj H
                  have p364 : 0 ≤ (x13_1 : Int) := of_decide_eq_true (by first | (with_reducible assumption) | assumption)
                  have q364 : x13_1 < (l0.length : Int) := of_decide_eq_true (by first | (with_reducible assumption) | assumption)
                  obtain ⟨ad364, e364, hx364_0, hx364_1, hx364_2, hx364_3, hx364_4⟩ := at_T34 HR0.out x13_1 p364 q364
                  cases e364
                  replace p364 := eq_true p364
                  replace q364 := eq_true q364
                  have p365 : 0 ≤ (x13_1 : Int) := of_decide_eq_true (by first | (with_reducible assumption) | assumption)
                  have q365 : x13_1 < (l1.length : Int) := of_decide_eq_true (by first | (with_reducible assumption) | assumption)
                  obtain ⟨ad365, e365, hx365_0, hx365_1, hx365_2, hx365_3, hx365_4⟩ := at_T34 HR1.out x13_1 p365 q365
                  cases e365
                  replace p365 := eq_true p365
                  replace q365 := eq_true q365
                  go_wp2
                  repeat (go_quiet (fail); try go_wp2)
                  go_ret
                  exact ⟨by first | rfl | (simp; done) | (simp [*]; done), by repeat (first | exact Drawn0.refl _ | apply Drawn0.step)⟩
                · rw [if_neg c8] at H
                  have c8b0 : (!((((rd_T34 l0 x13_1).f0).toList) == (((rd_T34 l1 x13_1).f0).toList)) || (!(((rd_T34 l0 x13_1).f1) == ((rd_T34 l1 x13_1).f1)) || (!((((rd_T34 l0 x13_1).f2).toList) == (((rd_T34 l1 x13_1).f2).toList)) || ((!(((rd_T34 l0 x13_1).f3.f0) == ((rd_T34 l1 x13_1).f3.f0)) || (!(((rd_T34 l0 x13_1).f3.f1) == ((rd_T34 l1 x13_1).f3.f1)))))))) = false := by simpa using c8
                  clear c8
                  have H' := Aside0.mk H
                  clear H
                  have p364 : 0 ≤ (x13_1 : Int) := of_decide_eq_true (by first | (with_reducible assumption) | assumption)
                  have q364 : x13_1 < (l0.length : Int) := of_decide_eq_true (by first | (with_reducible assumption) | assumption)
                  obtain ⟨ad364, e364, hx364_0, hx364_1, hx364_2, hx364_3, hx364_4⟩ := at_T34 HR0.out x13_1 p364 q364
                  cases e364
                  replace p364 := eq_true p364
                  replace q364 := eq_true q364
                  have p365 : 0 ≤ (x13_1 : Int) := of_decide_eq_true (by first | (with_reducible assumption) | assumption)
                  have q365 : x13_1 < (l1.length : Int) := of_decide_eq_true (by first | (with_reducible assumption) | assumption)
                  obtain ⟨ad365, e365, hx365_0, hx365_1, hx365_2, hx365_3, hx365_4⟩ := at_T34 HR1.out x13_1 p365 q365
                  cases e365
                  replace p365 := eq_true p365
                  replace q365 := eq_true q365
                  go_wp2
                  repeat (go_quiet (fail); try go_wp2)
                  go_roundg k1
                  case measure => have := HK1.out; omega
                  case rel => exact ⟨(wrap64 (x13_1 + 1)), (by first | rfl | (simp; done) | (simp [*]; done)), H', ⟨by have := HK1.out; omega⟩, by repeat (first | exact Drawn0.refl _ | apply Drawn0.step)⟩
              · rw [if_neg c7] at H
                exact absurd H (by simp)
            · rw [if_neg c6] at H
              exact absurd H (by simp)
          · rw [if_neg c5] at H
            exact absurd H (by simp)
        · rw [if_neg c4] at H
          have c4b0 : decide (x13_1 < (l0.length : Int)) = false := decide_eq_false c4
          clear c4
          obtain rfl := Option.some.inj H
          go_wp2
          repeat (go_quiet (fail); try go_wp2)
          go_ret
          exact ⟨by first | rfl | (simp; done) | (simp [*]; done), by repeat (first | exact Drawn0.refl _ | apply Drawn0.step)⟩
  · rw [if_neg c3] at H
    have c3b0 : ((l0.length : Int) == (l1.length : Int)) = false := beq_eq_false_iff_ne.mpr c3
    have c3b1 : ((l0.length : Int) != (l1.length : Int)) = true := bne_iff_ne.mpr c3
    have c3b2 : (l0.length == l1.length) = false := by first | simpa using c3 | (simp at c3 ⊢; omega)
    obtain rfl := Option.some.inj H
    go_enter Tryz.func75, Tryz.ntmps75
    go_wp2
    repeat (go_quiet (fail); try go_wp2)
    go_ret
    exact ⟨by first | rfl | (simp; done) | (simp [*]; done), by repeat (first | exact Drawn0.refl _ | apply Drawn0.step)⟩
end Go.Proofs.YtlkmegeecmkkbaaGreatDoor.P
end
section
namespace Go.Proofs.YtlkmegeecmkkbaaGreatDoor.P
open Go.RowKit Go.Proofs.YtlkmegeecmkkbaaGreatDoorW.PrintWords Go.Proofs.YtlkmegeecmkkbaaGreatDoorW.PrintLast Go.Proofs.YtlkmegeecmkkbaaGreatDoorW.PrintMore
attribute [local go_sem] max2_int min2_int max_two min_two max_three min_three max_four min_four   -- for this text's walks alone
attribute [local go_sem] str_leq str_gtr str_geq
set_option linter.unusedVariables false
set_option linter.unusedSimpArgs false
def scan_Same.f (k : Nat) (l0 : List (S34)) (l1 : List (S34)) : Option (Bool) := (api_Entry.f k l0 l1).bind fun t366 => (some t366)
set_option maxHeartbeats 8000000 in
set_option maxRecDepth 100000 in
theorem scan_Same.calls (k : Nat) (A0 : Option Addr) (c0 : Nat) (l0 : List (S34)) (A1 : Option Addr) (c1 : Nat) (l1 : List (S34)) (r : Bool) (w : World) (hr0 : Kd.C k34 w A0 l0.length l0) (hc0 : l0.length ≤ c0) (hr1 : Kd.C k34 w A1 l1.length l1) (hc1 : l1.length ≤ c1) (h : scan_Same.f k l0 l1 = some r) :
    Calls Tryz.prog 32 #[.slice A0 l0.length c0, .slice A1 l1.length c1] w fun e w' => e = .returned (.bool r) ∧ Drawn0 w w' := by
  have HR0 := Aside0.mk hr0
  have HC0 := Aside0.mk hc0
  clear hr0 hc0
  have HR1 := Aside0.mk hr1
  have HC1 := Aside0.mk hc1
  clear hr1 hc1
  have H : ((api_Entry.f k l0 l1).bind fun t366 => (some t366)) = some r := h
  clear h
  replace H := Option.bind_eq_some_iff.mp H
  obtain ⟨t366, A30, H⟩ := H
  replace H : (some t366) = some r := H
  have A3 := Aside0.mk A30
  clear A30
  obtain rfl := Option.some.inj H
  go_enter Tryz.func32, Tryz.ntmps32
  go_wp2_with (first | ((with_reducible refine gate_callee (f := 75) rfl ?_); refine goesL_ (some 7) rfl rfl Tryz.func75 (by kernel_rfl) rfl #[.slice A0 l0.length c0, .slice A1 l1.length c1] rfl (by (try simp only [List.map_toArray, List.map_cons, List.map_nil]); first | done | rfl | (simp only [List.length_drop, List.length_take]; rfl)) ?_; (with_reducible refine (api_Entry.calls k _ _ l0 _ _ l1 t366 _ ?side1 ?side2 ?side3 ?side4 A3.out).mono ?_); (case side1 => repeat (first | exact HR0.out | (with_reducible refine Kd.C_alloc ?_ _) | (with_reducible refine Kd.C_drewN ?_ _) | (with_reducible refine Kd.C_drew ?_))); (case side2 => exact HC0.out); (case side3 => repeat (first | exact HR1.out | (with_reducible refine Kd.C_alloc ?_ _) | (with_reducible refine Kd.C_drewN ?_ _) | (with_reducible refine Kd.C_drew ?_))); (case side4 => exact HC1.out); rintro e w' ⟨rfl, ⟨nd, rfl⟩⟩; refine ⟨_, rfl, ?_⟩))
  go_ret
  exact ⟨by first | rfl | (simp; done) | (simp [*]; done), by repeat (first | exact Drawn0.refl _ | apply Drawn0.step)⟩
end Go.Proofs.YtlkmegeecmkkbaaGreatDoor.P
end
section
namespace Go.Proofs.YtlkmegeecmkkbaaGreatDoor.P
open Go.RowKit Go.Proofs.YtlkmegeecmkkbaaGreatDoorW.PrintWords Go.Proofs.YtlkmegeecmkkbaaGreatDoorW.PrintLast Go.Proofs.YtlkmegeecmkkbaaGreatDoorW.PrintMore
attribute [local go_sem] max2_int min2_int max_two min_two max_three min_three max_four min_four   -- for this text's walks alone
attribute [local go_sem] str_leq str_gtr str_geq
set_option linter.unusedVariables false
set_option linter.unusedSimpArgs false
def carpetbaglaw09_Few.l0 : Nat → List (S34) → Int → Option (Bool)
  | 0, _, _ => none
  | k + 1, x0, x3 => if x3 < (x0.length : Int) then (if 0 ≤ x3 then (if (((rd_T34 x0 x3).f0).size : Int) > 100 then (some false) else (if (((rd_T34 x0 x3).f2).size : Int) > 1000 then (some false) else (carpetbaglaw09_Few.l0 k x0 (wrap64 (x3 + 1))))) else (none)) else (some true)
def carpetbaglaw09_Few.f (k : Nat) (l0 : List (S34)) : Option (Bool) := if (l0.length : Int) > 60 then (some false) else (carpetbaglaw09_Few.l0 k l0 0)
set_option maxHeartbeats 8000000 in
set_option maxRecDepth 100000 in
theorem carpetbaglaw09_Few.calls (k : Nat) (A0 : Option Addr) (c0 : Nat) (l0 : List (S34)) (r : Bool) (w : World) (hr0 : Kd.C k34 w A0 l0.length l0) (hc0 : l0.length ≤ c0) (h : carpetbaglaw09_Few.f k l0 = some r) :
    Calls Tryz.prog 13 #[.slice A0 l0.length c0] w fun e w' => e = .returned (.bool r) ∧ Drawn0 w w' := by
  have HR0 := Aside0.mk hr0
  have HC0 := Aside0.mk hc0
  clear hr0 hc0
  have H : (if (l0.length : Int) > 60 then (some false) else (carpetbaglaw09_Few.l0 k l0 0)) = some r := h
  clear h
  by_cases c2 : (l0.length : Int) > 60
  · rw [if_pos c2] at H
    have c2b0 : decide (60 < (l0.length : Int)) = true := decide_eq_true c2
    have c2b1 : decide (60 < l0.length) = true := decide_eq_true (by omega)
    clear c2
    obtain rfl := Option.some.inj H
    go_enter Tryz.func13, Tryz.ntmps13
    go_wp2
    go_ret
    exact ⟨by first | rfl | (simp; done) | (simp [*]; done), by repeat (first | exact Drawn0.refl _ | apply Drawn0.step)⟩
  · rw [if_neg c2] at H
    have c2b0 : decide (60 < (l0.length : Int)) = false := decide_eq_false c2
    have c2b1 : decide (60 < l0.length) = false := decide_eq_false (by omega)
    clear c2
    have H' := Aside0.mk H
    clear H
    go_enter Tryz.func13, Tryz.ntmps13
    go_wp2
    go_loopg [3] k (fun kq v3 w' => ∃ (x3_1 : Int), v3 = .int .i64 x3_1 ∧ Aside0 (carpetbaglaw09_Few.l0 kq l0 x3_1 = some r) ∧ Aside0 (kq ≤ k) ∧ Drawn0 w w')
    case atStart => exact ⟨(0), (by first | rfl | (simp; done) | (simp [*]; done)), H', ⟨Nat.le_refl _⟩, by repeat (first | exact Drawn0.refl _ | apply Drawn0.step)⟩
    case round =>
      clear H'
      try clear c1
      try clear c2
      try clear c2b0
      try clear c2b1
      try clear p2
      obtain ⟨x3_1, rfl, HA, HK1, ⟨m1, rfl⟩⟩ := hrel
      cases gk with
      | zero => exact absurd HA.out (by simp [carpetbaglaw09_Few.l0])
      | succ k1 =>
        have H := HA.out
        clear HA
        simp only [carpetbaglaw09_Few.l0] at H
        by_cases c3 : x3_1 < (l0.length : Int)
        · rw [if_pos c3] at H
          have c3b0 : decide (x3_1 < (l0.length : Int)) = true := decide_eq_true c3
          clear c3
          by_cases c4 : 0 ≤ x3_1
          · rw [if_pos c4] at H
            have c4b0 : decide (0 ≤ x3_1) = true := decide_eq_true c4
            clear c4
            by_cases c5 : (((rd_T34 l0 x3_1).f0).size : Int) > 100
            · rw [if_pos c5] at H
              have c5b0 : decide (100 < (((rd_T34 l0 x3_1).f0).size : Int)) = true := decide_eq_true c5
              have c5b1 : decide (100 < ((rd_T34 l0 x3_1).f0).size) = true := decide_eq_true (by omega)
              clear c5
              obtain rfl := Option.some.inj H
              have p101 : 0 ≤ (x3_1 : Int) := of_decide_eq_true (by first | (with_reducible assumption) | assumption)
              have q101 : x3_1 < (l0.length : Int) := of_decide_eq_true (by first | (with_reducible assumption) | assumption)
              obtain ⟨ad101, e101, hx101_0, hx101_1, hx101_2, hx101_3, hx101_4⟩ := at_T34 HR0.out x3_1 p101 q101
              cases e101
              replace p101 := eq_true p101
              replace q101 := eq_true q101
              go_wp2
              go_ret
              exact ⟨by first | rfl | (simp; done) | (simp [*]; done), by repeat (first | exact Drawn0.refl _ | apply Drawn0.step)⟩
            · rw [if_neg c5] at H
              have c5b0 : decide (100 < (((rd_T34 l0 x3_1).f0).size : Int)) = false := decide_eq_false c5
              have c5b1 : decide (100 < ((rd_T34 l0 x3_1).f0).size) = false := decide_eq_false (by omega)
              clear c5
              by_cases c6 : (((rd_T34 l0 x3_1).f2).size : Int) > 1000
              · rw [if_pos c6] at H
                have c6b0 : decide (1000 < (((rd_T34 l0 x3_1).f2).size : Int)) = true := decide_eq_true c6
                have c6b1 : decide (1000 < ((rd_T34 l0 x3_1).f2).size) = true := decide_eq_true (by omega)
                clear c6
                obtain rfl := Option.some.inj H
                have p101 : 0 ≤ (x3_1 : Int) := of_decide_eq_true (by first | (with_reducible assumption) | assumption)
                have q101 : x3_1 < (l0.length : Int) := of_decide_eq_true (by first | (with_reducible assumption) | assumption)
                obtain ⟨ad101, e101, hx101_0, hx101_1, hx101_2, hx101_3, hx101_4⟩ := at_T34 HR0.out x3_1 p101 q101
                cases e101
                replace p101 := eq_true p101
                replace q101 := eq_true q101
                have p102 : 0 ≤ (x3_1 : Int) := of_decide_eq_true (by first | (with_reducible assumption) | assumption)
                have q102 : x3_1 < (l0.length : Int) := of_decide_eq_true (by first | (with_reducible assumption) | assumption)
                obtain ⟨ad102, e102, hx102_0, hx102_1, hx102_2, hx102_3, hx102_4⟩ := at_T34 HR0.out x3_1 p102 q102
                obtain rfl : ad101 = ad102 := (by injection e102)
                replace p102 := eq_true p102
                replace q102 := eq_true q102
                go_wp2
                go_ret
                exact ⟨by first | rfl | (simp; done) | (simp [*]; done), by repeat (first | exact Drawn0.refl _ | apply Drawn0.step)⟩
              · rw [if_neg c6] at H
                have c6b0 : decide (1000 < (((rd_T34 l0 x3_1).f2).size : Int)) = false := decide_eq_false c6
                have c6b1 : decide (1000 < ((rd_T34 l0 x3_1).f2).size) = false := decide_eq_false (by omega)
                clear c6
                have H' := Aside0.mk H
                clear H
                have p101 : 0 ≤ (x3_1 : Int) := of_decide_eq_true (by first | (with_reducible assumption) | assumption)
                have q101 : x3_1 < (l0.length : Int) := of_decide_eq_true (by first | (with_reducible assumption) | assumption)
                obtain ⟨ad101, e101, hx101_0, hx101_1, hx101_2, hx101_3, hx101_4⟩ := at_T34 HR0.out x3_1 p101 q101
                cases e101
                replace p101 := eq_true p101
                replace q101 := eq_true q101
                have p102 : 0 ≤ (x3_1 : Int) := of_decide_eq_true (by first | (with_reducible assumption) | assumption)
                have q102 : x3_1 < (l0.length : Int) := of_decide_eq_true (by first | (with_reducible assumption) | assumption)
                obtain ⟨ad102, e102, hx102_0, hx102_1, hx102_2, hx102_3, hx102_4⟩ := at_T34 HR0.out x3_1 p102 q102
                obtain rfl : ad101 = ad102 := (by injection e102)
                replace p102 := eq_true p102
                replace q102 := eq_true q102
                go_wp2
                go_roundg k1
                case measure => have := HK1.out; omega
                case rel => exact ⟨(wrap64 (x3_1 + 1)), (by first | rfl | (simp; done) | (simp [*]; done)), H', ⟨by have := HK1.out; omega⟩, by repeat (first | exact Drawn0.refl _ | apply Drawn0.step)⟩
          · rw [if_neg c4] at H
            exact absurd H (by simp)
        · rw [if_neg c3] at H
          have c3b0 : decide (x3_1 < (l0.length : Int)) = false := decide_eq_false c3
          clear c3
          obtain rfl := Option.some.inj H
          go_wp2
          go_ret
          exact ⟨by first | rfl | (simp; done) | (simp [*]; done), by repeat (first | exact Drawn0.refl _ | apply Drawn0.step)⟩
end Go.Proofs.YtlkmegeecmkkbaaGreatDoor.P
end
section
namespace Go.Proofs.YtlkmegeecmkkbaaGreatDoor.P
open Go.RowKit Go.Proofs.YtlkmegeecmkkbaaGreatDoorW.PrintWords Go.Proofs.YtlkmegeecmkkbaaGreatDoorW.PrintLast Go.Proofs.YtlkmegeecmkkbaaGreatDoorW.PrintMore
attribute [local go_sem] max2_int min2_int max_two min_two max_three min_three max_four min_four   -- for this text's walks alone
attribute [local go_sem] str_leq str_gtr str_geq
set_option linter.unusedVariables false
set_option linter.unusedSimpArgs false
end Go.Proofs.YtlkmegeecmkkbaaGreatDoor.P
end
section
namespace Go.Proofs.YtlkmegeecmkkbaaGreatDoor.P
open Go.RowKit Go.Proofs.YtlkmegeecmkkbaaGreatDoorW.PrintWords Go.Proofs.YtlkmegeecmkkbaaGreatDoorW.PrintLast Go.Proofs.YtlkmegeecmkkbaaGreatDoorW.PrintMore
attribute [local go_sem] max2_int min2_int max_two min_two max_three min_three max_four min_four   -- for this text's walks alone
attribute [local go_sem] str_leq str_gtr str_geq
set_option linter.unusedVariables false
set_option linter.unusedSimpArgs false
end Go.Proofs.YtlkmegeecmkkbaaGreatDoor.P
end
section
namespace Go.Proofs.YtlkmegeecmkkbaaGreatDoor.P
open Go.RowKit Go.Proofs.YtlkmegeecmkkbaaGreatDoorW.PrintWords Go.Proofs.YtlkmegeecmkkbaaGreatDoorW.PrintLast Go.Proofs.YtlkmegeecmkkbaaGreatDoorW.PrintMore
attribute [local go_sem] max2_int min2_int max_two min_two max_three min_three max_four min_four   -- for this text's walks alone
attribute [local go_sem] str_leq str_gtr str_geq
set_option linter.unusedVariables false
set_option linter.unusedSimpArgs false
end Go.Proofs.YtlkmegeecmkkbaaGreatDoor.P
end
section
namespace Go.Proofs.YtlkmegeecmkkbaaGreatDoor.P
open Go.RowKit Go.Proofs.YtlkmegeecmkkbaaGreatDoorW.PrintWords Go.Proofs.YtlkmegeecmkkbaaGreatDoorW.PrintLast Go.Proofs.YtlkmegeecmkkbaaGreatDoorW.PrintMore
attribute [local go_sem] max2_int min2_int max_two min_two max_three min_three max_four min_four   -- for this text's walks alone
attribute [local go_sem] str_leq str_gtr str_geq
set_option linter.unusedVariables false
set_option linter.unusedSimpArgs false
def scan_Tree.f (k : Nat) (l0 : List (S34)) : Option ((List (S54))) := (scan_Right.f l0).bind fun t198 => (if t198 = true then ((scan_files.f k l0).bind fun t199 => (some t199)) else (some ([] : List (S54))))
set_option maxHeartbeats 8000000 in
set_option maxRecDepth 100000 in
theorem scan_Tree.calls (k : Nat) (A0 : Option Addr) (c0 : Nat) (l0 : List (S34)) (r : List (S54)) (w : World) (hr0 : Kd.C k34 w A0 l0.length l0) (hc0 : l0.length ≤ c0) (h : scan_Tree.f k l0 = some r) :
    Calls Tryz.prog 29 #[.slice A0 l0.length c0] w fun e w' => ∃ v0_ : Value, e = .returned (v0_) ∧ Kd.R k54 54 w' w.heap.size (fun _ => True) v0_ r ∧ Below w.heap.size w w' := by
  have HR0 := Aside0.mk hr0
  have HC0 := Aside0.mk hc0
  clear hr0 hc0
  have HB := Aside0.mk (Below.refl w.heap.size w)
  have H : ((scan_Right.f l0).bind fun t198 => (if t198 = true then ((scan_files.f k l0).bind fun t199 => (some t199)) else (some ([] : List (S54))))) = some r := h
  clear h
  replace H := Option.bind_eq_some_iff.mp H
  obtain ⟨t198, A20, H⟩ := H
  replace H : (if t198 = true then ((scan_files.f k l0).bind fun t199 => (some t199)) else (some ([] : List (S54)))) = some r := H
  have A2 := Aside0.mk A20
  clear A20
  by_cases c3 : t198 = true
  · subst c3
    have H1 : ((scan_files.f k l0).bind fun t199 => (some t199)) = some r := by rw [if_pos rfl] at H; exact H
    clear H
    have H := H1
    clear H1
    replace H := Option.bind_eq_some_iff.mp H
    obtain ⟨t199, A40, H⟩ := H
    replace H : (some t199) = some r := H
    have A4 := Aside0.mk A40
    clear A40
    obtain rfl := Option.some.inj H
    go_enter Tryz.func29, Tryz.ntmps29
    go_wp2_with (first | ((with_reducible refine gate_callee (f := 26) rfl ?_); refine goesL_ (some 4) rfl rfl Tryz.func26 (by kernel_rfl) rfl #[.slice A0 l0.length c0] rfl (by (try simp only [List.map_toArray, List.map_cons, List.map_nil]); first | done | rfl | (simp only [List.length_drop, List.length_take]; rfl)) ?_; (with_reducible refine (scan_Right.calls _ _ l0 true _ ?side1 ?side2 A2.out).mono ?_); (case side1 => repeat (first | exact HR0.out | (with_reducible refine Kd.C_alloc ?_ _) | (with_reducible refine Kd.C_drewN ?_ _) | (with_reducible refine Kd.C_drew ?_))); (case side2 => exact HC0.out); rintro e w5 ⟨rfl, hb⟩; refine ⟨_, rfl, ?_⟩; have n0_ := Aside0.mk (below_step (by repeat (first | (with_reducible first | exact HB.out | apply below_alloc | apply pw_below_drewN | apply below_drew1) | exact HB.out)) hb); clear HB; have HB := n0_; clear n0_; (try clear hb); (try clear hb2); (try clear hk); (try clear hi)) | ((with_reducible refine gate_callee (f := 72) rfl ?_); refine goesL_ (some 7) rfl rfl Tryz.func72 (by kernel_rfl) rfl #[.slice A0 l0.length c0] rfl (by (try simp only [List.map_toArray, List.map_cons, List.map_nil]); first | done | rfl | (simp only [List.length_drop, List.length_take]; rfl)) ?_; (with_reducible refine (scan_files.calls k _ _ l0 t199 _ ?side1 ?side2 A4.out).mono ?_); (case side1 => repeat (first | exact (Kd.C_below HR0.out HB.out) | (with_reducible refine Kd.C_alloc ?_ _) | (with_reducible refine Kd.C_drewN ?_ _) | (with_reducible refine Kd.C_drew ?_))); (case side2 => exact HC0.out); rintro e w6 ⟨v200, rfl, ho0, hb⟩; refine ⟨_, rfl, ?_⟩; have n0_ := Aside0.mk (Kd.R_lower ho0 (below_size (by repeat (first | (with_reducible first | exact HB.out | apply below_alloc | apply pw_below_drewN | apply below_drew1) | exact HB.out)))); have n1_ := Aside0.mk (below_step (by repeat (first | (with_reducible first | exact HB.out | apply below_alloc | apply pw_below_drewN | apply below_drew1) | exact HB.out)) hb); clear HB; have HO201 := n0_; have HB := n1_; clear n0_ n1_; (try clear hb); (try clear hb2); (try clear hk); (try clear hi); (try clear ho0)))
    go_ret
    exact ⟨_, by first | rfl | (simp [errW_none, errW_some] <;> rfl) | (simp [*, errW_none, errW_some] <;> rfl), by (with_reducible repeat (first | apply Kd.R_alloc | apply Kd.R_drewN | apply Kd.R_drew)); exact HO201.out, by repeat (first | (with_reducible first | exact HB.out | apply below_alloc | apply pw_below_drewN | apply below_drew1) | exact HB.out)⟩
  · replace c3 := Bool.eq_false_iff.mpr c3
    subst c3
    have H1 : (some ([] : List (S54))) = some r := by rw [if_neg (show ¬ (false = true) by decide)] at H; exact H
    clear H
    have H := H1
    clear H1
    obtain rfl := Option.some.inj H
    go_enter Tryz.func29, Tryz.ntmps29
    go_wp2_with (first | ((with_reducible refine gate_callee (f := 26) rfl ?_); refine goesL_ (some 4) rfl rfl Tryz.func26 (by kernel_rfl) rfl #[.slice A0 l0.length c0] rfl (by (try simp only [List.map_toArray, List.map_cons, List.map_nil]); first | done | rfl | (simp only [List.length_drop, List.length_take]; rfl)) ?_; (with_reducible refine (scan_Right.calls _ _ l0 false _ ?side1 ?side2 A2.out).mono ?_); (case side1 => repeat (first | exact HR0.out | (with_reducible refine Kd.C_alloc ?_ _) | (with_reducible refine Kd.C_drewN ?_ _) | (with_reducible refine Kd.C_drew ?_))); (case side2 => exact HC0.out); rintro e w7 ⟨rfl, hb⟩; refine ⟨_, rfl, ?_⟩; have n0_ := Aside0.mk (below_step (by repeat (first | (with_reducible first | exact HB.out | apply below_alloc | apply pw_below_drewN | apply below_drew1) | exact HB.out)) hb); clear HB; have HB := n0_; clear n0_; (try clear hb); (try clear hb2); (try clear hk); (try clear hi)))
    go_ret
    exact ⟨_, by first | rfl | (simp [errW_none, errW_some] <;> rfl) | (simp [*, errW_none, errW_some] <;> rfl), by first | exact Kd.R_nil _ _ _ _ _ | exact Kd.N_nil _ _ _ _ _ | exact Kd.V_nil _ _ _ _ _ | exact Kd.Q_nil _ _ _ _ _ | exact Kd.S_nil _ _ _ _ _, by repeat (first | (with_reducible first | exact HB.out | apply below_alloc | apply pw_below_drewN | apply below_drew1) | exact HB.out)⟩
end Go.Proofs.YtlkmegeecmkkbaaGreatDoor.P
end
section
namespace Go.Proofs.YtlkmegeecmkkbaaGreatDoor.P
open Go.RowKit Go.Proofs.YtlkmegeecmkkbaaGreatDoorW.PrintWords Go.Proofs.YtlkmegeecmkkbaaGreatDoorW.PrintLast Go.Proofs.YtlkmegeecmkkbaaGreatDoorW.PrintMore
set_option linter.unusedVariables false
set_option linter.unusedSimpArgs false
def cmpB (a b : ByteArray) : Int := Lib.compareBytes a.data.toList b.data.toList
def bsearch (l : List S54) (p : ByteArray) (lo hi : Nat) : Nat :=
  if lo < hi then (if cmpB (rd_T54 l (((lo + hi) / 2 : Nat) : Int)).f0 p < 0 then bsearch l p ((lo + hi) / 2 + 1) hi else bsearch l p lo ((lo + hi) / 2)) else lo
termination_by hi - lo
def placeI (l : List S54) (p : ByteArray) : Int × Bool :=
  ((bsearch l p 0 l.length : Nat), decide (bsearch l p 0 l.length < l.length) && decide (cmpB (rd_T54 l (bsearch l p 0 l.length : Nat)).f0 p = 0))
def tree_place.f (l : List S54) (p : ByteArray) : Option (Int × Bool) := if l.length ≤ 140737488351232 then some (placeI l p) else none
theorem place_cmp (f d p : ByteArray) (w : World) :
    Calls Tryz.prog 118 #[.agg #[.string f, .string d], .string p] w fun e w' => e = .returned (.int .i64 (cmpB f p)) ∧ Below w.heap.size w w' := by
  have HC := Aside0.mk (fun W => Tryz.strings_Compare f p W)
  have hb : Aside0 (Below w.heap.size w (w.alloc (.cells #[.string f, .string d] 54))) := ⟨(Below.refl _ _).alloc (Nat.le_refl _) _⟩
  go_enter Tryz.func118, Tryz.ntmps118
  go_wp2_with fail
  refine (HC.out _).mono ?_
  rintro e w' ⟨rfl, rfl⟩
  go_wp2
  go_ret
  exact ⟨rfl, hb.out⟩
set_option maxHeartbeats 2000000 in
set_option maxRecDepth 100000 in
theorem bsearch_calls (A0 : Option Addr) (c0 : Nat) (l0 : List S54) (p : ByteArray) (w : World) (hr0 : Kd.C k54 w A0 l0.length l0) (hm : l0.length ≤ 140737488351232) :
    Calls Tryz.prog 117 #[.slice A0 l0.length c0, .string p, .func (.func 118) #[] #[]] w fun e w' => e = .returned (.tuple #[.int .i64 (placeI l0 p).1, .bool (placeI l0 p).2]) ∧ Below w.heap.size w w' := by
  have HR0 := Aside0.mk hr0
  clear hr0
  have hu := Tryz.underlying54
  go_enter Tryz.func117, Tryz.ntmps117
  go_wp2
  go_loopg [9, 10] l0.length (fun gg s9 s10 wr => ∃ lo hi : Nat, lo ≤ hi ∧ hi ≤ l0.length ∧ hi - lo ≤ gg ∧ s9 = .int .i64 lo ∧ s10 = .int .i64 hi ∧ Aside0 (Below w.heap.size w wr) ∧ Aside0 (bsearch l0 p 0 l0.length = bsearch l0 p lo hi))
  case atStart => exact ⟨0, l0.length, Nat.zero_le _, Nat.le_refl _, by omega, rfl, rfl, ⟨Below.refl _ w⟩, ⟨rfl⟩⟩
  case round =>
    obtain ⟨lo, hi, hlh, hhl, hg, rfl, rfl, HB, HA⟩ := hrel
    by_cases hlt : lo < hi
    · have hltz : (lo : Int) < (hi : Int) := by omega
      have hcast : (((lo + hi) / 2 : Nat) : Int) = ((lo : Int) + (hi : Int)) / 2 := by omega
      have p0 : 0 ≤ ((lo : Int) + (hi : Int)) / 2 := by omega
      have q0 : ((lo : Int) + (hi : Int)) / 2 < (l0.length : Int) := by omega
      obtain ⟨ad, e, hx0, hx1⟩ := at_T54 HR0.out (((lo + hi) / 2 : Nat) : Int) (by omega) (by omega)
      cases e
      rw [Int.toNat_natCast] at hx0 hx1
      replace hx0 := pw_cell_below HB.out hx0
      replace hx1 := pw_cell_below HB.out hx1
      have hbs : Aside0 (bsearch l0 p lo hi = if cmpB (rd_T54 l0 (((lo + hi) / 2 : Nat) : Int)).f0 p < 0 then bsearch l0 p ((lo + hi) / 2 + 1) hi else bsearch l0 p lo ((lo + hi) / 2)) := ⟨by conv => lhs; unfold bsearch; rw [if_pos hlt]⟩
      have HC := Aside0.mk (fun W => place_cmp (rd_T54 l0 (((lo + hi) / 2 : Nat) : Int)).f0 (rd_T54 l0 (((lo + hi) / 2 : Nat) : Int)).f1 p W)
      generalize (rd_T54 l0 (((lo + hi) / 2 : Nat) : Int)).f0 = f at *
      generalize (rd_T54 l0 (((lo + hi) / 2 : Nat) : Int)).f1 = d at *
      generalize cmpB f p = cm at *
      have eg := enters_of Tryz.func118 (by kernel_rfl) rfl
      replace p0 := eq_true p0
      replace q0 := eq_true q0
      by_cases hc : cm < 0
      · rw [if_pos hc] at hbs
        go_wp2_with fail
        refine (HC.out _).mono ?_
        rintro e w' ⟨rfl, hb'⟩
        go_wp2
        go_roundg (hi - ((lo + hi) / 2 + 1))
        case measure => omega
        case rel => exact ⟨(lo + hi) / 2 + 1, hi, by omega, by omega, by omega, by simp [hcast], rfl, ⟨below_then HB.out HB.out.size hb'⟩, ⟨by rw [HA.out, hbs.out]⟩⟩
      · rw [if_neg hc] at hbs
        go_wp2_with fail
        refine (HC.out _).mono ?_
        rintro e w' ⟨rfl, hb'⟩
        go_wp2
        go_roundg ((lo + hi) / 2 - lo)
        case measure => omega
        case rel => exact ⟨lo, (lo + hi) / 2, by omega, by omega, by omega, rfl, by simp [hcast], ⟨below_then HB.out HB.out.size hb'⟩, ⟨by rw [HA.out, hbs.out]⟩⟩
    · have hltz : ¬ (lo : Int) < (hi : Int) := by omega
      have hend : Aside0 (bsearch l0 p 0 l0.length = lo) := ⟨by rw [HA.out]; unfold bsearch; rw [if_neg hlt]⟩
      have hpl : placeI l0 p = ((lo : Int), decide (lo < l0.length) && decide (cmpB (rd_T54 l0 (lo : Int)).f0 p = 0)) := by unfold placeI; rw [hend.out]
      by_cases hl : lo < l0.length
      · have hlz : (lo : Int) < (l0.length : Int) := by omega
        obtain ⟨ad, e, hx0, hx1⟩ := at_T54 HR0.out (lo : Int) (by omega) hlz
        cases e
        rw [Int.toNat_natCast] at hx0 hx1
        replace hx0 := pw_cell_below HB.out hx0
        replace hx1 := pw_cell_below HB.out hx1
        have HC := Aside0.mk (fun W => place_cmp (rd_T54 l0 (lo : Int)).f0 (rd_T54 l0 (lo : Int)).f1 p W)
        rw [decide_eq_true hl, Bool.true_and] at hpl
        generalize (rd_T54 l0 (lo : Int)).f0 = f at *
        generalize (rd_T54 l0 (lo : Int)).f1 = d at *
        generalize cmpB f p = cm at *
        have hpl := Aside0.mk hpl
        go_wp2_with fail
        refine (HC.out _).mono ?_
        rintro e w' ⟨rfl, hb'⟩
        go_wp2
        go_ret2
        exact ⟨by first | rfl | (show _ = Ending.returned (.tuple #[.int .i64 (placeI l0 p).1, .bool (placeI l0 p).2]); rw [hpl.out]; rfl), below_then HB.out HB.out.size hb'⟩
      · have hlz : ¬ (lo : Int) < (l0.length : Int) := by omega
        rw [decide_eq_false hl, Bool.false_and] at hpl
        have hpl := Aside0.mk hpl
        go_wp2
        go_ret2
        exact ⟨by first | rfl | (show _ = Ending.returned (.tuple #[.int .i64 (placeI l0 p).1, .bool (placeI l0 p).2]); rw [hpl.out]; rfl), HB.out⟩
theorem tree_place.calls (A0 : Option Addr) (c0 : Nat) (l0 : List S54) (a1 : ByteArray) (r1 : Int) (r2 : Bool) (w : World) (hr0 : Kd.C k54 w A0 l0.length l0) (hc0 : l0.length ≤ c0) (h : tree_place.f l0 a1 = some (r1, r2)) :
    Calls Tryz.prog 74 #[.slice A0 l0.length c0, .string a1] w fun e w' => e = .returned (.tuple #[.int .i64 r1, .bool r2]) ∧ Below w.heap.size w w' := by
  unfold tree_place.f at h
  split at h
  case isFalse => cases h
  rename_i hm
  have h := Option.some.inj h
  have HC := Aside0.mk (bsearch_calls A0 c0 l0 a1 w hr0 hm)
  rw [h] at HC
  clear hr0 h
  go_enter Tryz.func74, Tryz.ntmps74
  go_wp2_with fail
  refine HC.out.mono ?_
  rintro e w' ⟨rfl, hb'⟩
  go_wp2
  go_ret2
  exact ⟨rfl, hb'⟩
end Go.Proofs.YtlkmegeecmkkbaaGreatDoor.P
end
section
namespace Go.Proofs.YtlkmegeecmkkbaaGreatDoor.P
open Go.RowKit Go.Proofs.YtlkmegeecmkkbaaGreatDoorW.PrintWords Go.Proofs.YtlkmegeecmkkbaaGreatDoorW.PrintLast Go.Proofs.YtlkmegeecmkkbaaGreatDoorW.PrintMore
attribute [local go_sem] max2_int min2_int max_two min_two max_three min_three max_four min_four   -- for this text's walks alone
attribute [local go_sem] str_leq str_gtr str_geq
set_option linter.unusedVariables false
set_option linter.unusedSimpArgs false
def tree_Find.f (l0 : List (S54)) (a1 : ByteArray) : Option (Int) := (tree_place.f l0 a1).bind fun bt202 => (if bt202.2 = true then ((tree_Right.f l0).bind fun t204 => (if t204 = true then (some bt202.1) else (some (-1)))) else (some (-1)))
set_option maxHeartbeats 8000000 in
set_option maxRecDepth 100000 in
theorem tree_Find.calls (A0 : Option Addr) (c0 : Nat) (l0 : List (S54)) (a1 : ByteArray) (r : Int) (w : World) (hr0 : Kd.C k54 w A0 l0.length l0) (hc0 : l0.length ≤ c0) (h : tree_Find.f l0 a1 = some r) :
    Calls Tryz.prog 31 #[.slice A0 l0.length c0, .string a1] w fun e w' => e = .returned (.int .i64 r) ∧ Below w.heap.size w w' := by
  have HR0 := Aside0.mk hr0
  have HC0 := Aside0.mk hc0
  clear hr0 hc0
  have HB := Aside0.mk (Below.refl w.heap.size w)
  have H : ((tree_place.f l0 a1).bind fun bt202 => (if bt202.2 = true then ((tree_Right.f l0).bind fun t204 => (if t204 = true then (some bt202.1) else (some (-1)))) else (some (-1)))) = some r := h
  clear h
  replace H := Option.bind_eq_some_iff.mp H
  obtain ⟨⟨t202, t203⟩, A30, H⟩ := H
  replace H : (if t203 = true then ((tree_Right.f l0).bind fun t204 => (if t204 = true then (some t202) else (some (-1)))) else (some (-1))) = some r := H
  have A3 := Aside0.mk A30
  clear A30
  by_cases c4 : t203 = true
  · subst c4
    have H1 : ((tree_Right.f l0).bind fun t204 => (if t204 = true then (some t202) else (some (-1)))) = some r := by rw [if_pos rfl] at H; exact H
    clear H
    have H := H1
    clear H1
    replace H := Option.bind_eq_some_iff.mp H
    obtain ⟨t204, A50, H⟩ := H
    replace H : (if t204 = true then (some t202) else (some (-1))) = some r := H
    have A5 := Aside0.mk A50
    clear A50
    by_cases c6 : t204 = true
    · subst c6
      have H1 : (some t202) = some r := by rw [if_pos rfl] at H; exact H
      clear H
      have H := H1
      clear H1
      obtain rfl := Option.some.inj H
      go_enter Tryz.func31, Tryz.ntmps31
      go_wp2_with (first | ((with_reducible refine gate_callee (f := 74) rfl ?_); refine goesL_ (some 10) rfl rfl Tryz.func74 (by kernel_rfl) rfl #[.slice A0 l0.length c0, .string a1] rfl (by (try simp only [List.map_toArray, List.map_cons, List.map_nil]); first | done | rfl | (simp only [List.length_drop, List.length_take]; rfl)) ?_; (with_reducible refine (tree_place.calls _ _ l0 a1 t202 true _ ?side1 ?side2 A3.out).mono ?_); (case side1 => repeat (first | exact HR0.out | (with_reducible refine Kd.C_alloc ?_ _) | (with_reducible refine Kd.C_drewN ?_ _) | (with_reducible refine Kd.C_drew ?_))); (case side2 => exact HC0.out); rintro e w7 ⟨rfl, hb⟩; refine ⟨_, rfl, ?_⟩; have n0_ := Aside0.mk (below_step (by repeat (first | (with_reducible first | exact HB.out | apply below_alloc | apply pw_below_drewN | apply below_drew1) | exact HB.out)) hb); clear HB; have HB := n0_; clear n0_; (try clear hb); (try clear hb2); (try clear hk); (try clear hi)) | (go_at_call 56; (with_reducible refine (tree_Right.calls _ _ l0 true _ ?side1 ?side2 A5.out).mono ?_); (case side1 => repeat (first | exact (Kd.C_below HR0.out HB.out) | (with_reducible refine Kd.C_alloc ?_ _) | (with_reducible refine Kd.C_drewN ?_ _) | (with_reducible refine Kd.C_drew ?_))); (case side2 => exact HC0.out); rintro e w8 ⟨rfl, hb⟩; have n0_ := Aside0.mk (below_step (by repeat (first | (with_reducible first | exact HB.out | apply below_alloc | apply pw_below_drewN | apply below_drew1) | exact HB.out)) hb); clear HB; have HB := n0_; clear n0_; (try clear hb); (try clear hb2); (try clear hk); (try clear hi)))
      go_ret
      exact ⟨by first | rfl | (simp [errW_none, errW_some] <;> rfl) | (simp [*, errW_none, errW_some] <;> rfl), by repeat (first | (with_reducible first | exact HB.out | apply below_alloc | apply pw_below_drewN | apply below_drew1) | exact HB.out)⟩
    · replace c6 := Bool.eq_false_iff.mpr c6
      subst c6
      have H1 : (some (-1)) = some r := by rw [if_neg (show ¬ (false = true) by decide)] at H; exact H
      clear H
      have H := H1
      clear H1
      obtain rfl := Option.some.inj H
      go_enter Tryz.func31, Tryz.ntmps31
      go_wp2_with (first | ((with_reducible refine gate_callee (f := 74) rfl ?_); refine goesL_ (some 10) rfl rfl Tryz.func74 (by kernel_rfl) rfl #[.slice A0 l0.length c0, .string a1] rfl (by (try simp only [List.map_toArray, List.map_cons, List.map_nil]); first | done | rfl | (simp only [List.length_drop, List.length_take]; rfl)) ?_; (with_reducible refine (tree_place.calls _ _ l0 a1 t202 true _ ?side1 ?side2 A3.out).mono ?_); (case side1 => repeat (first | exact HR0.out | (with_reducible refine Kd.C_alloc ?_ _) | (with_reducible refine Kd.C_drewN ?_ _) | (with_reducible refine Kd.C_drew ?_))); (case side2 => exact HC0.out); rintro e w9 ⟨rfl, hb⟩; refine ⟨_, rfl, ?_⟩; have n0_ := Aside0.mk (below_step (by repeat (first | (with_reducible first | exact HB.out | apply below_alloc | apply pw_below_drewN | apply below_drew1) | exact HB.out)) hb); clear HB; have HB := n0_; clear n0_; (try clear hb); (try clear hb2); (try clear hk); (try clear hi)) | (go_at_call 56; (with_reducible refine (tree_Right.calls _ _ l0 false _ ?side1 ?side2 A5.out).mono ?_); (case side1 => repeat (first | exact (Kd.C_below HR0.out HB.out) | (with_reducible refine Kd.C_alloc ?_ _) | (with_reducible refine Kd.C_drewN ?_ _) | (with_reducible refine Kd.C_drew ?_))); (case side2 => exact HC0.out); rintro e w10 ⟨rfl, hb⟩; have n0_ := Aside0.mk (below_step (by repeat (first | (with_reducible first | exact HB.out | apply below_alloc | apply pw_below_drewN | apply below_drew1) | exact HB.out)) hb); clear HB; have HB := n0_; clear n0_; (try clear hb); (try clear hb2); (try clear hk); (try clear hi)))
      go_ret
      exact ⟨by first | rfl | (simp [errW_none, errW_some] <;> rfl) | (simp [*, errW_none, errW_some] <;> rfl), by repeat (first | (with_reducible first | exact HB.out | apply below_alloc | apply pw_below_drewN | apply below_drew1) | exact HB.out)⟩
  · replace c4 := Bool.eq_false_iff.mpr c4
    subst c4
    have H1 : (some (-1)) = some r := by rw [if_neg (show ¬ (false = true) by decide)] at H; exact H
    clear H
    have H := H1
    clear H1
    obtain rfl := Option.some.inj H
    go_enter Tryz.func31, Tryz.ntmps31
    go_wp2_with (first | ((with_reducible refine gate_callee (f := 74) rfl ?_); refine goesL_ (some 10) rfl rfl Tryz.func74 (by kernel_rfl) rfl #[.slice A0 l0.length c0, .string a1] rfl (by (try simp only [List.map_toArray, List.map_cons, List.map_nil]); first | done | rfl | (simp only [List.length_drop, List.length_take]; rfl)) ?_; (with_reducible refine (tree_place.calls _ _ l0 a1 t202 false _ ?side1 ?side2 A3.out).mono ?_); (case side1 => repeat (first | exact HR0.out | (with_reducible refine Kd.C_alloc ?_ _) | (with_reducible refine Kd.C_drewN ?_ _) | (with_reducible refine Kd.C_drew ?_))); (case side2 => exact HC0.out); rintro e w11 ⟨rfl, hb⟩; refine ⟨_, rfl, ?_⟩; have n0_ := Aside0.mk (below_step (by repeat (first | (with_reducible first | exact HB.out | apply below_alloc | apply pw_below_drewN | apply below_drew1) | exact HB.out)) hb); clear HB; have HB := n0_; clear n0_; (try clear hb); (try clear hb2); (try clear hk); (try clear hi)))
    go_ret
    exact ⟨by first | rfl | (simp [errW_none, errW_some] <;> rfl) | (simp [*, errW_none, errW_some] <;> rfl), by repeat (first | (with_reducible first | exact HB.out | apply below_alloc | apply pw_below_drewN | apply below_drew1) | exact HB.out)⟩
end Go.Proofs.YtlkmegeecmkkbaaGreatDoor.P
end
section
namespace Go.Proofs.YtlkmegeecmkkbaaGreatDoor.P
open Go.RowKit Go.Proofs.YtlkmegeecmkkbaaGreatDoorW.PrintWords Go.Proofs.YtlkmegeecmkkbaaGreatDoorW.PrintLast Go.Proofs.YtlkmegeecmkkbaaGreatDoorW.PrintMore
attribute [local go_sem] max2_int min2_int max_two min_two max_three min_three max_four min_four   -- for this text's walks alone
attribute [local go_sem] str_leq str_gtr str_geq
set_option linter.unusedVariables false
set_option linter.unusedSimpArgs false
theorem eqA54 (d : Nat) (w : World) (x0 y0 : ByteArray) (x1 y1 : ByteArray) :
    (Op.equalIn (d + 2) 54 (.agg #[.string x0, .string x1]) (.agg #[.string y0, .string y1])).run Tryz.prog w = .ok (x0.toList == y0.toList && (x1.toList == y1.toList)) w := by
  refine eqA_of Tryz.underlying54 (by kernel_rfl) ?_
  refine eqf_cons (by rfl) (by go_simp; rfl) (by go_simp; rfl) (by go_simp) ?_
  exact eqf_last (by rfl) (by go_simp; rfl) (by go_simp; rfl) (by go_simp)
end Go.Proofs.YtlkmegeecmkkbaaGreatDoor.P
end
section
namespace Go.Proofs.YtlkmegeecmkkbaaGreatDoor.P
open Go.RowKit Go.Proofs.YtlkmegeecmkkbaaGreatDoorW.PrintWords Go.Proofs.YtlkmegeecmkkbaaGreatDoorW.PrintLast Go.Proofs.YtlkmegeecmkkbaaGreatDoorW.PrintMore
attribute [local go_sem] max2_int min2_int max_two min_two max_three min_three max_four min_four   -- for this text's walks alone
attribute [local go_sem] str_leq str_gtr str_geq
set_option linter.unusedVariables false
set_option linter.unusedSimpArgs false
attribute [local go_sem high] eqA54
def api_File_103.l0 : Nat → List (S54) → Int → Int → ByteArray → ByteArray → Option (Int)
  | 0, _, _, _, _, _ => none
  | k + 1, x0, x7, x8, x206000, x206001 => if x8 < x7 then (if 0 ≤ x8 then (if x8 < (x0.length : Int) then (if (x206000.toList == (((rd_T54 x0 x8).f0).toList) && (x206001.toList == (((rd_T54 x0 x8).f1).toList))) = true then (some x8) else (api_File_103.l0 k x0 x7 (wrap64 (x8 + 1)) x206000 x206001)) else (none)) else (none)) else (some (-1))
def api_File_103.f (k : Nat) (l0 : List (S54)) (a1_0 : ByteArray) (a1_1 : ByteArray) : Option (Int) := api_File_103.l0 k l0 (l0.length : Int) 0 a1_0 a1_1
set_option maxHeartbeats 8000000 in
set_option maxRecDepth 100000 in
theorem api_File_103.calls (k : Nat) (A0 : Option Addr) (c0 : Nat) (l0 : List (S54)) (a1_0 : ByteArray) (a1_1 : ByteArray) (r : Int) (w : World) (hr0 : Kd.C k54 w A0 l0.length l0) (hc0 : l0.length ≤ c0) (h : api_File_103.f k l0 a1_0 a1_1 = some r) :
    Calls Tryz.prog 103 #[.slice A0 l0.length c0, .agg #[.string a1_0, .string a1_1]] w fun e w' => e = .returned (.int .i64 r) ∧ Below w.heap.size w w' := by
  have hu54 := Tryz.underlying54
  have HR0 := Aside0.mk hr0
  have HC0 := Aside0.mk hc0
  clear hr0 hc0
  have HB := Aside0.mk (Below.refl w.heap.size w)
  have H : (api_File_103.l0 k l0 (l0.length : Int) 0 a1_0 a1_1) = some r := h
  clear h
  have H' := Aside0.mk H
  clear H
  go_enter Tryz.func103, Tryz.ntmps103
  go_wp2_with (first | ((with_reducible refine gate_dst (N := 3) rfl ?_); refine box_event ?hg (N := 3) ?hd (cs := #[.string a1_0, .string a1_1]) (t := 54) ?hr ?_; (case hd => rfl); (case hg => rfl); (case hr => first | (go_simp; done) | (go_simp; rfl)); intro gb205 hg w3 hbox hb; have n0_ := Aside0.mk (below_step (by repeat (first | (with_reducible first | exact HB.out | apply below_alloc | apply pw_below_drewN | apply below_drew1) | exact HB.out)) hb); have n1_ := Aside0.mk (hbox); have n2_ := Aside0.mk ((by rw [hg]; exact (below_size (by repeat (first | (with_reducible first | exact HB.out | apply below_alloc | apply pw_below_drewN | apply below_drew1) | exact HB.out))) : w.heap.size ≤ gb205)); have n3_ := Aside0.mk ((by rw [hg]; exact (below_size (by repeat (first | (with_reducible first | exact HB.out | apply below_alloc | apply pw_below_drewN | apply below_drew1) | exact HB.out))) : w.heap.size ≤ gb205)); clear HB; have HB := n0_; have BK205 := n1_; have GW205 := n2_; have GE205 := n3_; clear n0_ n1_ n2_ n3_; clear hb hbox hg))
  repeat (go_quiet (first | ((with_reducible refine gate_dst (N := 3) rfl ?_); refine box_event ?hg (N := 3) ?hd (cs := #[.string a1_0, .string a1_1]) (t := 54) ?hr ?_; (case hd => rfl); (case hg => rfl); (case hr => first | (go_simp; done) | (go_simp; rfl)); intro gb205 hg w3 hbox hb; have n0_ := Aside0.mk (below_step (by repeat (first | (with_reducible first | exact HB.out | apply below_alloc | apply pw_below_drewN | apply below_drew1) | exact HB.out)) hb); have n1_ := Aside0.mk (hbox); have n2_ := Aside0.mk ((by rw [hg]; exact (below_size (by repeat (first | (with_reducible first | exact HB.out | apply below_alloc | apply pw_below_drewN | apply below_drew1) | exact HB.out))) : w.heap.size ≤ gb205)); have n3_ := Aside0.mk ((by rw [hg]; exact (below_size (by repeat (first | (with_reducible first | exact HB.out | apply below_alloc | apply pw_below_drewN | apply below_drew1) | exact HB.out))) : w.heap.size ≤ gb205)); clear HB; have HB := n0_; have BK205 := n1_; have GW205 := n2_; have GE205 := n3_; clear n0_ n1_ n2_ n3_; clear hb hbox hg)); try go_wp2_with (first | ((with_reducible refine gate_dst (N := 3) rfl ?_); refine box_event ?hg (N := 3) ?hd (cs := #[.string a1_0, .string a1_1]) (t := 54) ?hr ?_; (case hd => rfl); (case hg => rfl); (case hr => first | (go_simp; done) | (go_simp; rfl)); intro gb205 hg w3 hbox hb; have n0_ := Aside0.mk (below_step (by repeat (first | (with_reducible first | exact HB.out | apply below_alloc | apply pw_below_drewN | apply below_drew1) | exact HB.out)) hb); have n1_ := Aside0.mk (hbox); have n2_ := Aside0.mk ((by rw [hg]; exact (below_size (by repeat (first | (with_reducible first | exact HB.out | apply below_alloc | apply pw_below_drewN | apply below_drew1) | exact HB.out))) : w.heap.size ≤ gb205)); have n3_ := Aside0.mk ((by rw [hg]; exact (below_size (by repeat (first | (with_reducible first | exact HB.out | apply below_alloc | apply pw_below_drewN | apply below_drew1) | exact HB.out))) : w.heap.size ≤ gb205)); clear HB; have HB := n0_; have BK205 := n1_; have GW205 := n2_; have GE205 := n3_; clear n0_ n1_ n2_ n3_; clear hb hbox hg)))
  go_loopg [8] k (fun kq v8 w' => ∃ (x8_1 : Int), v8 = .int .i64 x8_1 ∧ Aside0 (api_File_103.l0 kq l0 (l0.length : Int) x8_1 a1_0 a1_1 = some r) ∧ Aside0 (kq ≤ k) ∧ Aside0 (w'.heap[gb205]? = some (.cells #[.string a1_0, .string a1_1] 54 (0, 0))) ∧ Aside0 (Below w.heap.size w w'))
  case atStart => exact ⟨(0), (by first | rfl | (simp; done) | (simp [*]; done)), H', ⟨Nat.le_refl _⟩, ⟨by (with_reducible repeat (first | refine blk_drewN ?_ _ | refine blk_drew ?_ | refine blk_alloc ?_ _)); exact BK205.out⟩, ⟨by repeat (first | (with_reducible first | exact HB.out | apply below_alloc | apply pw_below_drewN | apply below_drew1 | refine below_set ?_ GE205.out) | exact HB.out)⟩⟩
  case round =>
    clear H'
    try clear c1
    try clear p2
    obtain ⟨x8_1, rfl, HA, HK1, BK205, HB⟩ := hrel
    cases gk with
    | zero => exact absurd HA.out (by simp [api_File_103.l0])
    | succ k1 =>
      have H := HA.out
      clear HA
      simp only [api_File_103.l0] at H
      by_cases c4 : x8_1 < (l0.length : Int)
      · rw [if_pos c4] at H
        have c4b0 : decide (x8_1 < (l0.length : Int)) = true := decide_eq_true c4
        clear c4
        by_cases c5 : 0 ≤ x8_1
        · rw [if_pos c5] at H
          have c5b0 : decide (0 ≤ x8_1) = true := decide_eq_true c5
          clear c5
          by_cases c6 : x8_1 < (l0.length : Int)
          · rw [if_pos c6] at H
            have c6b0 : decide (x8_1 < (l0.length : Int)) = true := decide_eq_true c6
            clear c6
            by_cases c7 : (a1_0.toList == (((rd_T54 l0 x8_1).f0).toList) && (a1_1.toList == (((rd_T54 l0 x8_1).f1).toList))) = true
            · rw [if_pos c7] at H
              have c7b0 : (a1_0.toList == (((rd_T54 l0 x8_1).f0).toList) && (a1_1.toList == (((rd_T54 l0 x8_1).f1).toList))) = true := c7
              (try (have c7b1 : decide (a1_0.toList = (((rd_T54 l0 x8_1).f0).toList) && (a1_1.toList == (((rd_T54 l0 x8_1).f1).toList))) = true := by simpa using c7))
              (try (have c7b2 : (a1_0.toList == (((rd_T54 l0 x8_1).f0).toList) && (a1_1.toList == (((rd_T54 l0 x8_1).f1).toList))) = true := by simpa using c7))
              clear c7
              obtain rfl := Option.some.inj H
              have hcz8_0 : wr.cell? ⟨gb205, 0, none⟩ = some (.string a1_0) := (blk_cell BK205.out 0).trans rfl
              have hcz8_1 : wr.cell? ⟨gb205, 1, none⟩ = some (.string a1_1) := (blk_cell BK205.out 1).trans rfl
              have hfz8_0 := blk_frozen BK205.out 0
              have hfz8_1 := blk_frozen BK205.out 1
              have p206 : 0 ≤ (x8_1 : Int) := of_decide_eq_true (by first | (with_reducible assumption) | assumption)
              have q206 : x8_1 < (l0.length : Int) := of_decide_eq_true (by first | (with_reducible assumption) | assumption)
              obtain ⟨ad206, e206, hx206_0, hx206_1⟩ := at_T54 HR0.out x8_1 p206 q206
              cases e206
              replace hx206_0 := (HB.out.cell (World.block_lt_of_cell? w _ hx206_0)).trans hx206_0
              replace hx206_1 := (HB.out.cell (World.block_lt_of_cell? w _ hx206_1)).trans hx206_1
              replace p206 := eq_true p206
              replace q206 := eq_true q206
              go_wp2
              repeat (go_quiet (fail); try go_wp2)
              go_ret
              exact ⟨by first | rfl | (simp [errW_none, errW_some] <;> rfl) | (simp [*, errW_none, errW_some] <;> rfl), by repeat (first | (with_reducible first | exact HB.out | apply below_alloc | apply pw_below_drewN | apply below_drew1 | refine below_set ?_ GE205.out) | exact HB.out)⟩
            · rw [if_neg c7] at H
              have c7b0 : (a1_0.toList == (((rd_T54 l0 x8_1).f0).toList) && (a1_1.toList == (((rd_T54 l0 x8_1).f1).toList))) = false := by simpa using c7
              (try (have c7b1 : decide (a1_0.toList = (((rd_T54 l0 x8_1).f0).toList) && (a1_1.toList == (((rd_T54 l0 x8_1).f1).toList))) = false := by simpa using c7))
              (try (have c7b2 : (a1_0.toList == (((rd_T54 l0 x8_1).f0).toList) && (a1_1.toList == (((rd_T54 l0 x8_1).f1).toList))) = false := by simpa using c7))
              (try (have c7b3 : ¬ (a1_0.toList = (((rd_T54 l0 x8_1).f0).toList) && (a1_1.toList == (((rd_T54 l0 x8_1).f1).toList))) := by simpa using c7))
              clear c7
              have H' := Aside0.mk H
              clear H
              have hcz9_0 : wr.cell? ⟨gb205, 0, none⟩ = some (.string a1_0) := (blk_cell BK205.out 0).trans rfl
              have hcz9_1 : wr.cell? ⟨gb205, 1, none⟩ = some (.string a1_1) := (blk_cell BK205.out 1).trans rfl
              have hfz9_0 := blk_frozen BK205.out 0
              have hfz9_1 := blk_frozen BK205.out 1
              have p206 : 0 ≤ (x8_1 : Int) := of_decide_eq_true (by first | (with_reducible assumption) | assumption)
              have q206 : x8_1 < (l0.length : Int) := of_decide_eq_true (by first | (with_reducible assumption) | assumption)
              obtain ⟨ad206, e206, hx206_0, hx206_1⟩ := at_T54 HR0.out x8_1 p206 q206
              cases e206
              replace hx206_0 := (HB.out.cell (World.block_lt_of_cell? w _ hx206_0)).trans hx206_0
              replace hx206_1 := (HB.out.cell (World.block_lt_of_cell? w _ hx206_1)).trans hx206_1
              replace p206 := eq_true p206
              replace q206 := eq_true q206
              go_wp2
              repeat (go_quiet (fail); try go_wp2)
              go_roundg k1
              case measure => have := HK1.out; omega
              case rel => exact ⟨(wrap64 (x8_1 + 1)), (by first | rfl | (simp; done) | (simp [*]; done)), H', ⟨by have := HK1.out; omega⟩, ⟨by (with_reducible repeat (first | refine blk_drewN ?_ _ | refine blk_drew ?_ | refine blk_alloc ?_ _)); exact BK205.out⟩, ⟨by repeat (first | (with_reducible first | exact HB.out | apply below_alloc | apply pw_below_drewN | apply below_drew1 | refine below_set ?_ GE205.out) | exact HB.out)⟩⟩
          · rw [if_neg c6] at H
            exact absurd H (by simp)
        · rw [if_neg c5] at H
          exact absurd H (by simp)
      · rw [if_neg c4] at H
        have c4b0 : decide (x8_1 < (l0.length : Int)) = false := decide_eq_false c4
        clear c4
        obtain rfl := Option.some.inj H
        go_wp2
        repeat (go_quiet (fail); try go_wp2)
        go_ret
        exact ⟨by first | rfl | (simp [errW_none, errW_some] <;> rfl) | (simp [*, errW_none, errW_some] <;> rfl), by repeat (first | (with_reducible first | exact HB.out | apply below_alloc | apply pw_below_drewN | apply below_drew1 | refine below_set ?_ GE205.out) | exact HB.out)⟩
end Go.Proofs.YtlkmegeecmkkbaaGreatDoor.P
end
section
namespace Go.Proofs.YtlkmegeecmkkbaaGreatDoor.P
open Go.RowKit Go.Proofs.YtlkmegeecmkkbaaGreatDoorW.PrintWords Go.Proofs.YtlkmegeecmkkbaaGreatDoorW.PrintLast Go.Proofs.YtlkmegeecmkkbaaGreatDoorW.PrintMore
attribute [local go_sem] max2_int min2_int max_two min_two max_three min_three max_four min_four   -- for this text's walks alone
attribute [local go_sem] str_leq str_gtr str_geq
set_option linter.unusedVariables false
set_option linter.unusedSimpArgs false
def api_File_57.f (k : Nat) (l0 : List (S54)) (a1_0 : ByteArray) (a1_1 : ByteArray) : Option (Bool) := (api_File_103.f k l0 a1_0 a1_1).bind fun t208 => (some (decide (t208 ≥ 0)))
set_option maxHeartbeats 8000000 in
set_option maxRecDepth 100000 in
theorem api_File_57.calls (k : Nat) (A0 : Option Addr) (c0 : Nat) (l0 : List (S54)) (a1_0 : ByteArray) (a1_1 : ByteArray) (r : Bool) (w : World) (hr0 : Kd.C k54 w A0 l0.length l0) (hc0 : l0.length ≤ c0) (h : api_File_57.f k l0 a1_0 a1_1 = some r) :
    Calls Tryz.prog 57 #[.slice A0 l0.length c0, .agg #[.string a1_0, .string a1_1]] w fun e w' => e = .returned (.bool r) ∧ Below w.heap.size w w' := by
  have hu54 := Tryz.underlying54
  have HR0 := Aside0.mk hr0
  have HC0 := Aside0.mk hc0
  clear hr0 hc0
  have HB := Aside0.mk (Below.refl w.heap.size w)
  have H : ((api_File_103.f k l0 a1_0 a1_1).bind fun t208 => (some (decide (t208 ≥ 0)))) = some r := h
  clear h
  replace H := Option.bind_eq_some_iff.mp H
  obtain ⟨t208, A30, H⟩ := H
  replace H : (some (decide (t208 ≥ 0))) = some r := H
  have A3 := Aside0.mk A30
  clear A30
  obtain rfl := Option.some.inj H
  go_enter Tryz.func57, Tryz.ntmps57
  go_wp2_with (first | ((with_reducible refine gate_dst (N := 3) rfl ?_); refine box_event ?hg (N := 3) ?hd (cs := #[.string a1_0, .string a1_1]) (t := 54) ?hr ?_; (case hd => rfl); (case hg => rfl); (case hr => first | (go_simp; done) | (go_simp; rfl)); intro gb207 hg w4 hbox hb; have n0_ := Aside0.mk (below_step (by repeat (first | (with_reducible first | exact HB.out | apply below_alloc | apply pw_below_drewN | apply below_drew1) | exact HB.out)) hb); have n1_ := Aside0.mk (hbox); have n2_ := Aside0.mk ((by rw [hg]; exact (below_size (by repeat (first | (with_reducible first | exact HB.out | apply below_alloc | apply pw_below_drewN | apply below_drew1) | exact HB.out))) : w.heap.size ≤ gb207)); have n3_ := Aside0.mk ((by rw [hg]; exact (below_size (by repeat (first | (with_reducible first | exact HB.out | apply below_alloc | apply pw_below_drewN | apply below_drew1) | exact HB.out))) : w.heap.size ≤ gb207)); clear HB; have HB := n0_; have BK207 := n1_; have GW207 := n2_; have GE207 := n3_; clear n0_ n1_ n2_ n3_; clear hb hbox hg; have hcz5_0 : w4.cell? ⟨gb207, 0, none⟩ = some (.string a1_0) := (blk_cell BK207.out 0).trans rfl; have hcz5_1 : w4.cell? ⟨gb207, 1, none⟩ = some (.string a1_1) := (blk_cell BK207.out 1).trans rfl; have hfz5_0 := blk_frozen BK207.out 0; have hfz5_1 := blk_frozen BK207.out 1) | ((with_reducible refine gate_callee (f := 103) rfl ?_); refine goesL_ (some 7) rfl rfl Tryz.func103 (by kernel_rfl) rfl #[.slice A0 l0.length c0, .agg #[.string a1_0, .string a1_1]] rfl (by (try simp only [List.map_toArray, List.map_cons, List.map_nil]); first | done | rfl | (simp only [List.length_drop, List.length_take]; rfl)) ?_; (with_reducible refine (api_File_103.calls k _ _ l0 a1_0 a1_1 t208 _ ?side1 ?side2 A3.out).mono ?_); (case side1 => repeat (first | exact (Kd.C_below HR0.out HB.out) | (with_reducible refine Kd.C_alloc ?_ _) | (with_reducible refine Kd.C_drewN ?_ _) | (with_reducible refine Kd.C_drew ?_))); (case side2 => exact HC0.out); rintro e w6 ⟨rfl, hb⟩; refine ⟨_, rfl, ?_⟩; have n0_ := Aside0.mk (blk_below (g := gb207) (o := .cells #[.string a1_0, .string a1_1] 54 (0, 0)) (by (with_reducible repeat (first | refine blk_drewN ?_ _ | refine blk_drew ?_ | refine blk_alloc ?_ _)); exact BK207.out) hb); have n1_ := Aside0.mk (below_step (by repeat (first | (with_reducible first | exact HB.out | apply below_alloc | apply pw_below_drewN | apply below_drew1 | refine below_set ?_ GE207.out) | exact HB.out)) hb); clear BK207; clear HB; have BK207 := n0_; have HB := n1_; clear n0_ n1_; (try clear hb); (try clear hb2); (try clear hk); (try clear hi)))
  go_ret
  exact ⟨by first | rfl | (simp [errW_none, errW_some] <;> rfl) | (simp [*, errW_none, errW_some] <;> rfl), by repeat (first | (with_reducible first | exact HB.out | apply below_alloc | apply pw_below_drewN | apply below_drew1 | refine below_set ?_ GE207.out) | exact HB.out)⟩
end Go.Proofs.YtlkmegeecmkkbaaGreatDoor.P
end
section
namespace Go.Proofs.YtlkmegeecmkkbaaGreatDoor.P
open Go.RowKit Go.Proofs.YtlkmegeecmkkbaaGreatDoorW.PrintWords Go.Proofs.YtlkmegeecmkkbaaGreatDoorW.PrintLast Go.Proofs.YtlkmegeecmkkbaaGreatDoorW.PrintMore
set_option linter.unusedVariables false
set_option linter.unusedSimpArgs false
set_option maxHeartbeats 2000000 in
set_option maxRecDepth 100000 in
theorem grow_Action (n : Nat) (hn : n * 40 ≤ 140737488355328) (w : World) :
    Calls Tryz.prog 104 #[.slice none 0 0, .int .i64 n] w fun e w' => ∃ v, e = .returned v ∧ Kd.R k52 52 w' w.heap.size (fun _ => True) v [] ∧ Below w.heap.size w w' := by
  have HB := Aside0.mk (Below.refl w.heap.size w)
  by_cases h0 : 0 < n
  · have h0z : (0 : Int) < (n : Int) := by omega
    go_enter Tryz.func104, Tryz.ntmps104
    have hn0 : 0 ≤ (n : Int) := by omega
    go_wp2_with (first | ((with_reducible refine gate_builtin (b := .append) (xs := #[.tmp 20, .tmp 21]) rfl ?_); at_builtin; refine Kd.R_append_zeros k52 (w0 := w) w.heap.size rfl (.tmp 20) (.tmp 21) 38 3 52 (.agg #[(.string ⟨#[]⟩), (.bool false), (.string ⟨#[]⟩)]) 40 rfl Tryz.underlying38 Tryz.underlying3 info52 rfl (by decide) (by omega) (.slice none 0 0) [] ⟨⟨#[]⟩, false, ⟨#[]⟩⟩ n (fun _ => True) rfl rfl (by exact k52_mkM _ _ _ _) (fun _ _ => trivial) (Kd.R_nil _ _ _ _ _) hn0 HB.out (Nat.le_refl _) (by simpa using hn) ?_; intro v1 w1 ho hb hg hat; have hlz : (([] : List S52) ++ List.replicate (n : Int).toNat (⟨⟨#[]⟩, false, ⟨#[]⟩⟩ : S52)).length = n := (by simp); have hlp : 0 < (([] : List S52) ++ List.replicate (n : Int).toNat (⟨⟨#[]⟩, false, ⟨#[]⟩⟩ : S52)).length := hlz.symm ▸ h0; have hq := Kd.R_form ho hlp; obtain ⟨gq, cap, hq1, hgq1, hgq2, hgq3⟩ := hq; subst hq1; rw [hlz] at ho ⊢; have HO := Aside0.mk ho; have HB1 := Aside0.mk hb; clear ho hb hg hat; clear hlz))
    go_ret
    exact ⟨_, rfl, by simpa using Kd.R_take HO.out (m := 0) (Nat.zero_le _), HB1.out⟩
  · obtain rfl : n = 0 := by omega
    go_enter Tryz.func104, Tryz.ntmps104
    go_wp2
    go_ret
    exact ⟨_, rfl, Kd.R_nil _ _ _ _ _, HB.out⟩
theorem at_row {α : Type} {d : Kd α} {e : Nat} {w : World} {A : Option Addr} {xs : List (List α)} (h : Kd.C (Kd.slice e d) w A xs.length xs) (i : Nat) (hi : i < xs.length) :
    ∃ ad A0 c0, A = some ad ∧ w.cell? (ad.add i) = some (.slice A0 xs[i].length c0) ∧ xs[i].length ≤ c0 ∧ d.C w A0 xs[i].length xs[i] := by
  obtain ⟨ad, c, e, _, hK, hc⟩ := Kd.C_get h ([] : List α) (i : Int) (by omega) (by omega)
  rw [Int.toNat_natCast, List.getD_eq_getElem?_getD, List.getElem?_eq_getElem hi, Option.getD_some] at hK
  obtain ⟨A0, c0, rfl, l0, g0⟩ := hK
  have hq := hc 0 _ rfl
  rw [Int.toNat_natCast, Nat.add_zero] at hq
  exact ⟨ad, A0, c0, e, by simpa [Kd.slice] using hq, l0, g0⟩
def sumLen {α : Type} (l : List (List α)) : Nat := (l.map List.length).sum
theorem sumLen_take {α : Type} (l : List (List α)) (i : Nat) (h : i < l.length) : sumLen (l.take (i + 1)) = sumLen (l.take i) + l[i].length := by
  unfold sumLen; rw [List.take_succ_eq_append_getElem h, List.map_append, List.sum_append]; simp
theorem sumLen_le {α : Type} (l : List (List α)) (i : Nat) : sumLen (l.take i) ≤ sumLen l := by
  unfold sumLen
  conv => rhs; rw [← List.take_append_drop i l, List.map_append, List.sum_append]
  omega
theorem flat_len {α : Type} (l : List (List α)) : l.flatten.length = sumLen l := List.length_flatten
def concat_Action.f (l : List (List S52)) : Option (List S52) := if sumLen l * 40 ≤ 140737488355328 ∧ l.length ≤ 140737488351232 then some l.flatten else none
set_option maxHeartbeats 4000000 in
set_option maxRecDepth 100000 in
theorem concat_Action.calls (A0 : Option Addr) (c0 : Nat) (l0 : List (List S52)) (r : List S52) (w : World) (hr0 : Kd.C (Kd.slice 52 k52) w A0 l0.length l0) (hc0 : l0.length ≤ c0) (h : concat_Action.f l0 = some r) :
    Calls Tryz.prog 58 #[.slice A0 l0.length c0] w fun e w' => ∃ v0_, e = .returned v0_ ∧ Kd.R k52 52 w' w.heap.size (fun _ => True) v0_ r ∧ Below w.heap.size w w' := by
  unfold concat_Action.f at h
  split at h
  case isFalse => cases h
  rename_i hm
  obtain ⟨hm, hm2⟩ := hm
  obtain rfl := Option.some.inj h
  clear h
  have HR0 := Aside0.mk hr0
  have HG := Aside0.mk (fun W => grow_Action (sumLen l0) hm W)
  clear hr0
  go_enter Tryz.func58, Tryz.ntmps58
  go_wp2
  go_loop [3, 11] (fun s3 s11 => ∃ kk : Nat, kk ≤ l0.length ∧ s11 = .int .i64 kk ∧ s3 = .int .i64 (sumLen (l0.take kk) : Nat)) (fun _ s11 => l0.length - (intOf s11).toNat)
  case atStart => exact ⟨0, Nat.zero_le _, rfl, by simp [sumLen]⟩
  case round =>
    obtain ⟨kk, hkk, rfl, rfl⟩ := hrel
    by_cases hlt : kk < l0.length
    · have hltz : (kk : Int) < (l0.length : Int) := by omega
      obtain ⟨ad, A1, c1, e, hx, hl1, hC1⟩ := at_row HR0.out kk hlt
      cases e
      have HST := Aside0.mk (sumLen_take l0 kk hlt)
      have hs2 : sumLen (l0.take kk) + l0[kk].length ≤ 3518437208883 := by have := HST.out; have := sumLen_le l0 (kk + 1); omega
      clear hC1 hl1
      generalize sumLen (l0.take kk) = s at *
      generalize l0[kk].length = n1 at *
      have hs0 : (0 : Int) ≤ (s : Int) + (n1 : Int) := by omega
      go_wp2
      go_round
      case rel => exact ⟨kk + 1, by omega, by go_num, by rw [HST.out]; go_num⟩
      case measure => simp [intOf]; omega
    · have hk : kk = l0.length := by omega
      subst hk
      rw [List.take_length]
      go_wp2_with fail
      refine (HG.out _).mono ?_
      rintro e w1 ⟨v1, rfl, ho1, hb1⟩
      have HO := Aside0.mk ho1
      have HB := Aside0.mk hb1
      clear ho1 hb1 HG
      go_wp2
      go_loopg [6, 27] l0.length (fun gg s6 s27 wr => ∃ kk : Nat, kk ≤ l0.length ∧ l0.length - kk ≤ gg ∧ s27 = .int .i64 kk ∧ Aside0 (Kd.R k52 52 wr w.heap.size (fun _ => True) s6 (l0.take kk).flatten) ∧ Aside0 (Below w.heap.size w wr))
      case atStart => exact ⟨0, Nat.zero_le _, by omega, rfl, ⟨by simpa using HO.out⟩, HB⟩
      case round =>
        clear HO HB
        obtain ⟨kk, hkk, hg, rfl, HO, HB⟩ := hrel
        by_cases hlt : kk < l0.length
        · have hltz : (kk : Int) < (l0.length : Int) := by omega
          obtain ⟨ad, A1, c1, e, hx, hl1, hC1⟩ := at_row HR0.out kk hlt
          cases e
          replace hx := pw_cell_below HB.out hx
          have HC1 := Aside0.mk (Kd.C_below hC1 HB.out)
          have hfl : Aside0 ((l0.take (kk + 1)).flatten = (l0.take kk).flatten ++ l0[kk]) := ⟨by rw [List.take_succ_eq_append_getElem hlt, List.flatten_append]; simp⟩
          have hln : Aside0 (((l0.take kk).flatten.length + l0[kk].length) * 40 ≤ 140737488355328) := ⟨by
            have h1 := sumLen_take l0 kk hlt
            have h2 := sumLen_le l0 (kk + 1)
            rw [flat_len]; omega⟩
          clear hC1
          generalize (l0.take kk).flatten = acc at *
          generalize l0[kk] = row at *
          go_wp2_with (first | ((with_reducible refine gate_builtin (b := .append) (xs := #[.tmp 31, .tmp 32]) rfl ?_); at_builtin; refine Kd.R_append_rows k52 (w0 := w) w.heap.size rfl (.tmp 31) (.tmp 32) 38 52 (.agg #[(.string ⟨#[]⟩), (.bool false), (.string ⟨#[]⟩)]) 40 rfl Tryz.underlying38 info52 rfl (by decide) (by omega) u6 acc row _ _ _ (fun _ => True) (fun _ => False) rfl rfl (by exact HO.out) HC1.out (fun x cs h => by obtain rfl := k52_open h; exact k52_mkM _ _ _ _) (fun _ h => h.elim) (fun _ _ => trivial) HB.out HB.out.size hln.out ?_; intro v2 w2 ho2 hb2 hg_ hat_; clear hg_ hat_; rw [← hfl.out] at ho2; have HO2 := Aside0.mk ho2; have HB2 := Aside0.mk hb2; clear ho2 hb2))
          go_roundg (l0.length - (kk + 1))
          case measure => omega
          case rel => exact ⟨kk + 1, by omega, by omega, by go_num, HO2, HB2⟩
        · have hk : kk = l0.length := by omega
          subst hk
          rw [List.take_length] at HO
          go_wp2
          go_ret
          exact ⟨_, rfl, HO.out, HB.out⟩
end Go.Proofs.YtlkmegeecmkkbaaGreatDoor.P
end

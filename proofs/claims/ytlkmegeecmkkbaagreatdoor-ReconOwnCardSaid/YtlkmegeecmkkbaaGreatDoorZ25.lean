/-
  Plain laws that the statements of carpetbaglaw10 share: what the printed helpers come to; an archive has nothing that keeps it from being one; merging with itself, with none. No walk. (Texts of this session.)
-/
import Derived.Test.YtlkmegeecmkkbaaGreatDoorZ16
import Derived.Test.YtlkmegeecmkkbaaGreatDoorZ18
import Derived.Test.YtlkmegeecmkkbaaGreatDoorZ24
namespace Go.Proofs.YtlkmegeecmkkbaaGreatDoor.P
open Go Go.RowKit Go.Maps
set_option linter.unusedVariables false
set_option linter.unusedSimpArgs false
def Told {α : Type} (g : Nat → Option α) (r : α) : Prop := ∃ n, ∀ k, n ≤ k → g k = some r
theorem Told.pure {α : Type} (r : α) : Told (fun _ => some r) r := ⟨0, fun _ _ => rfl⟩
theorem Told.of {α : Type} {o : Option α} {r : α} (h : o = some r) : Told (fun _ => o) r := ⟨0, fun _ _ => h⟩
theorem Told.bind {α β : Type} {g : Nat → Option α} {r : α} {f : Nat → α → Option β} {s : β} (h : Told g r) (hf : Told (fun k => f k r) s) : Told (fun k => (g k).bind (f k)) s := by
  obtain ⟨n, hn⟩ := h
  obtain ⟨m, hm⟩ := hf
  refine ⟨max n m, fun k hk => ?_⟩
  show (g k).bind (f k) = some s
  rw [hn k (by omega), Option.bind_some]
  exact hm k (by omega)
theorem Told.succ {α : Type} {g : Nat → Option α} {r : α} (h : Told (fun k => g (k + 1)) r) : Told g r := by
  obtain ⟨n, hn⟩ := h
  exact ⟨n + 1, fun k hk => by obtain ⟨m, rfl⟩ : ∃ m, k = m + 1 := ⟨k - 1, by omega⟩; exact hn m (by omega)⟩
theorem Told.some_ {α : Type} {g : Nat → Option α} {r : α} (h : Told g r) : ∃ k, g k = some r := by
  obtain ⟨n, hn⟩ := h
  exact ⟨n, hn n (Nat.le_refl _)⟩
theorem Told.ite {α : Type} {c : Prop} [Decidable c] {g h : Nat → Option α} {r : α} (h1 : c → Told g r) (h2 : ¬ c → Told h r) : Told (fun k => if c then g k else h k) r := by
  by_cases hc : c
  · obtain ⟨n, hn⟩ := h1 hc
    exact ⟨n, fun k hk => by show (if c then g k else h k) = _; rw [if_pos hc]; exact hn k hk⟩
  · obtain ⟨n, hn⟩ := h2 hc
    exact ⟨n, fun k hk => by show (if c then g k else h k) = _; rw [if_neg hc]; exact hn k hk⟩
theorem wrap_nat {i : Nat} (h : i < 9223372036854775807) : wrap64 ((i : Int) + 1) = ((i + 1 : Nat) : Int) := by unfold wrap64; omega
theorem rdE_nat (l : List S34) (i : Nat) (h : i < l.length) : rd_T34 l (i : Int) = l[i] := by simp [rd_T34, List.getD_eq_getElem?_getD, List.getElem?_eq_getElem h]
def fewE (l : List S34) : Bool := decide (l.length ≤ 60) && l.all (fun e => decide (e.f0.size ≤ 100) && decide (e.f2.size ≤ 1000))
theorem few09_loop (l : List S34) (hl : l.length ≤ 60) : ∀ (d k i : Nat), i + d = l.length → d < k → carpetbaglaw09_Few.l0 k l (i : Int) = some ((l.drop i).all (fun e => decide (e.f0.size ≤ 100) && decide (e.f2.size ≤ 1000))) := by
  intro d
  induction d with
  | zero =>
    intro k i hi hk
    obtain ⟨k, rfl⟩ : ∃ m, k = m + 1 := ⟨k - 1, by omega⟩
    simp only [carpetbaglaw09_Few.l0]; rw [if_neg (by omega), List.drop_eq_nil_of_le (by omega)]; rfl
  | succ d ih =>
    intro k i hi hk
    obtain ⟨k, rfl⟩ : ∃ m, k = m + 1 := ⟨k - 1, by omega⟩
    have hlt : i < l.length := by omega
    simp only [carpetbaglaw09_Few.l0]
    rw [if_pos (by omega), if_pos (by omega), rdE_nat l i hlt, List.drop_eq_getElem_cons hlt, List.all_cons]
    by_cases h1 : (l[i].f0.size : Int) > 100
    · rw [if_pos h1, decide_eq_false (by omega)]; rfl
    rw [if_neg h1, decide_eq_true (by omega)]
    by_cases h2 : (l[i].f2.size : Int) > 1000
    · rw [if_pos h2, decide_eq_false (by omega)]; rfl
    rw [if_neg h2, decide_eq_true (by omega), wrap_nat (by omega), ih k (i + 1) (by omega) (by omega)]
    simp
theorem few09 (l : List S34) : Told (fun k => carpetbaglaw09_Few.f k l) (fewE l) := by
  refine ⟨l.length + 1, fun k hk => ?_⟩
  show carpetbaglaw09_Few.f k l = _
  unfold carpetbaglaw09_Few.f fewE
  by_cases hl : l.length ≤ 60
  · rw [if_neg (by omega), decide_eq_true hl, show (0 : Int) = ((0 : Nat) : Int) from rfl, few09_loop l hl l.length k 0 (by omega) (by omega)]
    simp
  · rw [if_pos (by omega), decide_eq_false hl]; rfl
theorem fewE_short {l : List S34} (h : fewE l = true) : shortE l = true ∧ l.length ≤ 60 := by
  unfold fewE at h
  rw [Bool.and_eq_true, decide_eq_true_eq, List.all_eq_true] at h
  refine ⟨?_, h.1⟩
  unfold shortE
  rw [List.all_eq_true]
  intro x hx
  have := h.2 x hx
  simp only [Bool.and_eq_true, decide_eq_true_eq] at this ⊢
  omega
theorem ent_eq {a b : S34} : a = b ↔ a.f0.toList = b.f0.toList ∧ a.f1 = b.f1 ∧ a.f2.toList = b.f2.toList ∧ a.f3.f0 = b.f3.f0 ∧ a.f3.f1 = b.f3.f1 := by
  constructor
  · rintro rfl; exact ⟨rfl, rfl, rfl, rfl, rfl⟩
  · rintro ⟨h0, h1, h2, h3, h4⟩
    obtain ⟨a0, a1, a2, ⟨a3, a4⟩⟩ := a
    obtain ⟨b0, b1, b2, ⟨b3, b4⟩⟩ := b
    simp only at *
    rw [toList_inj h0, toList_inj h2, h1, h3, h4]
def neE (a b : S34) : Bool := (!(a.f0.toList == b.f0.toList) || (!(a.f1 == b.f1) || (!(a.f2.toList == b.f2.toList) || ((!(a.f3.f0 == b.f3.f0) || (!(a.f3.f1 == b.f3.f1)))))))
theorem neE_iff {a b : S34} : neE a b = false ↔ a = b := by
  rw [ent_eq]
  unfold neE
  simp only [Bool.or_eq_false_iff, Bool.not_eq_false', beq_iff_eq]
def sameE : List S34 → List S34 → Bool
  | [], [] => true
  | a :: x, b :: y => !(neE a b) && sameE x y
  | _, _ => false
theorem sameE_iff : ∀ {a b : List S34}, sameE a b = true ↔ a = b
  | [], [] => by simp [sameE]
  | [], b :: y => by simp [sameE]
  | a :: x, [] => by simp [sameE]
  | a :: x, b :: y => by
    unfold sameE
    rw [Bool.and_eq_true, sameE_iff, List.cons.injEq]
    simp [neE_iff]
theorem sameE_refl (a : List S34) : sameE a a = true := sameE_iff.2 rfl
theorem sameE_len : ∀ {a b : List S34}, a.length ≠ b.length → sameE a b = false := fun h => by
  rw [Bool.eq_false_iff]
  intro e
  exact h (by rw [sameE_iff.1 e])
theorem same_loop (a b : List S34) (hab : a.length = b.length) (hl : a.length ≤ 140737488355328) : ∀ (d k i : Nat), i + d = a.length → d < k → api_Entry.l0 k a b (a.length : Int) (i : Int) = some (sameE (a.drop i) (b.drop i)) := by
  intro d
  induction d with
  | zero =>
    intro k i hi hk
    obtain ⟨k, rfl⟩ : ∃ m, k = m + 1 := ⟨k - 1, by omega⟩
    simp only [api_Entry.l0]; rw [if_neg (by omega), List.drop_eq_nil_of_le (by omega), List.drop_eq_nil_of_le (by omega)]; rfl
  | succ d ih =>
    intro k i hi hk
    obtain ⟨k, rfl⟩ : ∃ m, k = m + 1 := ⟨k - 1, by omega⟩
    have h1 : i < a.length := by omega
    have h2 : i < b.length := by omega
    simp only [api_Entry.l0]
    rw [if_pos (by omega), if_pos (by omega), if_pos (by omega), if_pos (by omega), rdE_nat a i h1, rdE_nat b i h2, List.drop_eq_getElem_cons h1, List.drop_eq_getElem_cons h2]
    unfold sameE
    show (if neE a[i] b[i] = true then _ else _) = _
    cases hn : neE a[i] b[i] with
    | true => rfl
    | false => rw [if_neg (by decide), wrap_nat (by omega), ih k (i + 1) (by omega) (by omega)]; simp
theorem same_told (a b : List S34) (hl : a.length ≤ 140737488355328) : Told (fun k => scan_Same.f k a b) (sameE a b) := by
  refine ⟨a.length + 1, fun k hk => ?_⟩
  show scan_Same.f k a b = _
  unfold scan_Same.f api_Entry.f
  by_cases h : a.length = b.length
  · rw [if_pos (by omega), show (0 : Int) = ((0 : Nat) : Int) from rfl, same_loop a b h hl a.length k 0 (by omega) (by omega)]
    rfl
  · rw [if_neg (by omega), sameE_len h]; rfl
theorem treeFrom_all {t : List S54} : ∀ (d i : Nat), i + d = t.length → treeFrom t i = true → ∀ j, (h : j < t.length) → i ≤ j → fileOk t j h = true := by
  intro d
  induction d with
  | zero => intro i hi _ j h hij; exact absurd h (by omega)
  | succ d ih =>
    intro i hi h j hj hij
    have hlt : i < t.length := by omega
    unfold treeFrom at h
    rw [dif_pos hlt, Bool.and_eq_true] at h
    by_cases e : i = j
    · subst e; exact h.1
    · exact ih (i + 1) (by omega) h.2 j hj (by omega)
theorem tree_ok {t : List S54} (h : treeB t = true) (i : Nat) (hi : i < t.length) : fileOk t i hi = true := by
  unfold treeB at h
  rw [Bool.and_eq_true] at h
  exact treeFrom_all t.length 0 (by omega) h.2 i hi (Nat.zero_le _)
theorem tree_len {t : List S54} (h : treeB t = true) : t.length ≤ 16 := by
  unfold treeB at h
  rw [Bool.and_eq_true, decide_eq_true_eq] at h
  exact h.1
theorem tree_under {t : List S54} (h : treeB t = true) {a b : S54} (ha : a ∈ t) (hb : b ∈ t) : underB a.f0 b.f0 = false := by
  obtain ⟨i, hi, rfl⟩ := List.getElem_of_mem ha
  have := tree_ok h i hi
  unfold fileOk at this
  simp only [Bool.and_eq_true, Bool.not_eq_true'] at this
  have h1 := List.any_eq_false.1 this.2.2.2 b hb
  simpa using h1
theorem names_files (l : List S34) : namesL l = (filesL l).map (·.f0) := by
  unfold namesL filesL
  rw [List.map_map]
  rfl
theorem may_tree {l : List S34} (h : treeB (filesL l) = true) (hl : l.length ≤ 32) : mayI l = 0 := by
  have hn : (namesL l).length ≤ 16 := by rw [names_files, List.length_map]; exact tree_len h
  have hc : clashL (namesL l) = false := by
    unfold clashL
    rw [List.any_eq_false]
    intro f hf
    rw [Bool.not_eq_true, List.any_eq_false]
    intro x hx
    rw [names_files] at hf hx
    obtain ⟨a, ha, rfl⟩ := List.mem_map.1 hf
    obtain ⟨b, hb, rfl⟩ := List.mem_map.1 hx
    unfold clashB
    rw [tree_under h ha hb, tree_under h hb ha]
    decide
  unfold mayI
  rw [if_neg (by omega), hc]
  rfl
theorem may_arch {l : List S34} (h : archB l = true) : mayI l = 0 := may_tree (arch_tree h) (arch_len h)
theorem arch_nil : archB [] = true := by kernel_rfl
theorem come_same (a : S34) : comeE a a = (a, false) := by
  have ho : ordE a a = 0 := by unfold ordE orderI; rw [if_pos rfl]
  unfold comeE
  rw [ho, if_neg (by decide), if_neg (by decide), if_pos (by unfold valE; simp)]
  unfold joinE
  simp
theorem merge_self {a : List S34} (h : archB a = true) : outM a a = a ∧ confM a a = [] := by
  have hr := arch_rising h
  have hn := arch_nodup h
  constructor
  · refine ext_rising (outM_rising hn hn) hr (fun x => ?_)
    rw [outM_look hn hn]
    unfold mergedE
    cases hx : lookE a x with
    | none => rfl
    | some y => simp [come_same]
  · refine List.eq_nil_iff_forall_not_mem.2 (fun x hx => ?_)
    rw [conf_mem] at hx
    unfold isConf at hx
    cases hl : lookE a x with
    | none => rw [hl] at hx; cases hx
    | some y => rw [hl] at hx; simp [come_same] at hx
theorem look_nil (x : List UInt8) : lookE [] x = none := rfl
theorem merge_nil_r {a : List S34} (h : archB a = true) : outM a [] = a ∧ confM a [] = [] := by
  have hr := arch_rising h
  have hn := arch_nodup h
  have hz := arch_nodup arch_nil
  constructor
  · refine ext_rising (outM_rising hn hz) hr (fun x => ?_)
    rw [outM_look hn hz]
    unfold mergedE
    rw [look_nil]
    cases lookE a x <;> rfl
  · refine List.eq_nil_iff_forall_not_mem.2 (fun x hx => ?_)
    rw [conf_mem, isConf_none_r (look_nil x)] at hx
    cases hx
theorem merge_nil_l {a : List S34} (h : archB a = true) : outM [] a = a ∧ confM [] a = [] := by
  have hr := arch_rising h
  have hn := arch_nodup h
  have hz := arch_nodup arch_nil
  constructor
  · refine ext_rising (outM_rising hz hn) hr (fun x => ?_)
    rw [outM_look hz hn]
    unfold mergedE
    rw [look_nil]
  · refine List.eq_nil_iff_forall_not_mem.2 (fun x hx => ?_)
    rw [conf_mem, isConf_none_l (look_nil x)] at hx
    cases hx
theorem merge_val {a b : List S34} (ha : shortE a = true) (hb : shortE b = true) (na : a.length ≤ 1000000) (nb : b.length ≤ 1000000) :
    recon_Merge.f a b = some (if archB a = true ∧ archB b = true then mergedR a b else ([], [], 1)) := merge_eq ha hb (by omega) (by omega)
theorem scan_Right_val {a : List S34} (ha : shortE a = true) (na : a.length ≤ 1000000) : scan_Right.f a = some (archB a) := by
  unfold scan_Right.f
  rw [if_pos ⟨ha, by omega⟩]
end Go.Proofs.YtlkmegeecmkkbaaGreatDoor.P

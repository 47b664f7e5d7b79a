/-
  Contracts, proved by hand over the given program: strings.Split at a separator of one byte; path.Name. (Texts of this session.)
-/
import Derived.Test.YtlkmegeecmkkbaaGreatDoorZ2
import Derived.Test.YtlkmegeecmkkbaaGreatDoorZ3
namespace Go.Proofs.YtlkmegeecmkkbaaGreatDoor.P
open Go.RowKit Go.Proofs.YtlkmegeecmkkbaaGreatDoorW.PrintWords Go.Proofs.YtlkmegeecmkkbaaGreatDoorW.PrintLast Go.Proofs.YtlkmegeecmkkbaaGreatDoorW.PrintMore
set_option linter.unusedVariables false
set_option linter.unusedSimpArgs false
def strings_Split.f (s sep : ByteArray) : Option (List ByteArray) :=
  if sep.size = 1 ∧ s.size < 4294967281 then some (Lib.splitB sep 0 (Lib.countB s sep) s) else none
set_option maxHeartbeats 1000000 in
theorem split_one (s : ByteArray) (c : UInt8) (w : World) (hs : s.size < 4294967281) :
    Calls Tryz.prog 142 #[.string s, .string ⟨#[c]⟩] w fun e w' =>
      e = .returned (.slice (some ⟨w.heap.size, 0, none⟩) (Lib.countB s ⟨#[c]⟩ + 1) (Lib.countB s ⟨#[c]⟩ + 1)) ∧ w' = w.alloc (.cells ((Lib.splitB ⟨#[c]⟩ 0 (Lib.countB s ⟨#[c]⟩) s).map Value.string).toArray 9) := by
  have h1 : 1 ≤ (⟨#[c]⟩ : ByteArray).size := Nat.le_refl 1
  have hle := Lib.countB_le ⟨#[c]⟩ h1 s.size s (Nat.le_refl _)
  have hlen := Lib.splitB_all ⟨#[c]⟩ h1 0 _ s rfl
  have c0 := Any.strings_genSplit_core Tryz.lays221 (by kernel_rfl) s ⟨#[c]⟩ 0 (-1) (Lib.countB s ⟨#[c]⟩ + 1) w hs h1 (Nat.zero_le _)
    (fun x cs hx => (Tryz.strings_Index_one x c _).mono fun e w' ⟨he, hw⟩ => ⟨by rw [he]; show _ = Ending.returned (Value.int .i64 (Lib.index x.data.toList [c])); rw [Lib.index_one], hw⟩)
    ((Tryz.strings_Count_one s c w).mono fun e w' ⟨he, hw⟩ => ⟨by rw [he]; show _ = Ending.returned (Value.int .i64 ((Lib.count s.data.toList [c] : Nat) : Int)); rw [Lib.count_one]; rfl, hw⟩)
    (by decide) (by decide) (by rw [if_pos (by decide)]; omega)
  rw [Nat.add_sub_cancel, hlen] at c0
  have e2 : Lib.cellsOf (Lib.splitB ⟨#[c]⟩ 0 (Lib.countB s ⟨#[c]⟩) s) (Lib.countB s ⟨#[c]⟩ + 1) = ((Lib.splitB ⟨#[c]⟩ 0 (Lib.countB s ⟨#[c]⟩) s).map Value.string).toArray := by rw [← hlen]; exact Lib.cellsOf_full _
  rw [e2] at c0
  have H : Calls Tryz.prog 155 #[.string s, .string ⟨#[c]⟩, .int .i64 0, .int .i64 (-1)] w (fun e w' =>
      e = .returned (.slice (some ⟨w.heap.size, 0, none⟩) (Lib.countB s ⟨#[c]⟩ + 1) (Lib.countB s ⟨#[c]⟩ + 1)) ∧ w' = w.alloc (.cells ((Lib.splitB ⟨#[c]⟩ 0 (Lib.countB s ⟨#[c]⟩) s).map Value.string).toArray 9)) := c0
  clear c0 e2 hlen hle
  have H' := Aside0.mk H
  clear H
  go_enter Tryz.func142, Tryz.ntmps142
  go_wp2_with (go_at_call 155; refine H'.out.mono ?_; rintro e w' ⟨rfl, hw⟩; rw [hw])
  go_ret
  exact ⟨rfl, rfl⟩
theorem strings_Split.calls (a0 a1 : ByteArray) (r : List ByteArray) (w : World) (h : strings_Split.f a0 a1 = some r) :
    Calls Tryz.prog 142 #[.string a0, .string a1] w fun e w' => ∃ v0_ : Value, e = .returned (v0_) ∧ Kd.R Kd.string 9 w' w.heap.size (fun _ => True) v0_ r ∧ Below w.heap.size w w' := by
  unfold strings_Split.f at h
  split at h
  · rename_i hc
    obtain ⟨c, rfl⟩ := Lib.one_byte a1 hc.1
    obtain rfl := Option.some.inj h
    refine (split_one a0 c w hc.2).mono ?_
    rintro e w' ⟨rfl, rfl⟩
    have hlen := Lib.splitB_all (⟨#[c]⟩ : ByteArray) (Nat.le_refl 1) 0 _ a0 rfl
    have hle := Lib.countB_le (⟨#[c]⟩ : ByteArray) (Nat.le_refl 1) a0.size a0 (Nat.le_refl _)
    refine ⟨_, rfl, ?_, (Below.refl _ _).alloc (Nat.le_refl _) _⟩
    have ho := World.ownsRow_lit (base := w.heap.size) (e := 9) (size := 1) w ((Lib.splitB ⟨#[c]⟩ 0 (Lib.countB a0 ⟨#[c]⟩) a0).map Value.string).toArray (Lib.countB a0 ⟨#[c]⟩ + 1) (Nat.le_refl _) (by simp only [maxLen]; omega) (by simp [hlen])
    refine Kd.R_of_own ?_ (fun _ _ => trivial)
    rw [hlen]
    simpa [encs] using ho
  · cases h
def nameByte (c : Int) : Bool := (97 ≤ c && c ≤ 122) || (48 ≤ c && c ≤ 57) || c == 46 || c == 45
def nameB (s : ByteArray) : Bool := (List.range s.size).all (fun i => nameByte (bt s i)) && decide (1 ≤ s.size) && decide (s.size ≤ 12) && s.toList != [46] && s.toList != [46, 46]
def path_Name.f (s : ByteArray) : Option Bool := if s.size ≤ 140737488351232 then some (nameB s) else none
theorem idx_others (c : Int) (h0 : 0 ≤ c) (h1 : c ≤ 255) : (Lib.indexByte [46, 45] c.toNat.toUInt8 < 0) ↔ ¬ (c = 46 ∨ c = 45) := by
  obtain ⟨n, rfl⟩ := Int.eq_ofNat_of_zero_le h0
  have hn : n < 256 := by omega
  have key : ∀ m : Fin 256, (Lib.indexByte [46, 45] (m.val).toUInt8 < 0) ↔ ¬ (((m.val : Nat) : Int) = 46 ∨ ((m.val : Nat) : Int) = 45) := by decide +kernel
  simpa using key ⟨n, hn⟩
theorem all_range_succ (p : Nat → Bool) (k : Nat) : (List.range (k + 1)).all p = ((List.range k).all p && p k) := by
  rw [List.range_succ, List.all_append]; simp
theorem all_range_false (p : Nat → Bool) (n k : Nat) (h : k < n) (hp : p k = false) : (List.range n).all p = false := by
  rw [List.all_eq_false]
  exact ⟨k, List.mem_range.2 h, by simp [hp]⟩
set_option maxHeartbeats 2000000 in
set_option maxRecDepth 100000 in
theorem path_Name.calls (a0 : ByteArray) (r : Bool) (w : World) (h : path_Name.f a0 = some r) :
    Calls Tryz.prog 143 #[.string a0] w fun e w' => e = .returned (.bool r) ∧ Below w.heap.size w w' := by
  unfold path_Name.f at h
  split at h
  case isFalse => cases h
  rename_i hs
  obtain rfl := Option.some.inj h
  clear h
  have hs' : a0.size ≤ 9223372036854775807 := by omega
  have kb := fun W => print_bytes (P := Tryz.prog) 9 159 5 Tryz.underlying9 Tryz.underlying159 Tryz.underlying5 a0 W
  have hB := bytes_below (Below.refl w.heap.size w) (Nat.le_refl _) 5 a0
  have HR := bytes_reads w 5 a0 hs'
  have HR := Aside0.mk HR
  have HB := Aside0.mk hB
  clear hB
  go_enter Tryz.func143, Tryz.ntmps143
  go_wp2
  go_loop [9] (fun i => ∃ k : Nat, k ≤ a0.size ∧ i = .int .i64 k ∧ Aside0 ((List.range k).all (fun i => nameByte (bt a0 i)) = true)) (fun i => a0.size - (intOf i).toNat)
  case atStart => exact ⟨0, Nat.zero_le _, rfl, ⟨rfl⟩⟩
  case round =>
    obtain ⟨k, hk, rfl, hall⟩ := hrel
    by_cases hlt : k < a0.size
    · obtain ⟨ad, e, hx⟩ := HR.out.at_ (k : Int) (by omega) (by omega)
      cases e
      rw [rd_bytesOf, Int.toNat_natCast, add_plain] at hx
      have hr := bt_range a0 (k : Int)
      have hq := idx_others (bt a0 (k : Int)) hr.1 hr.2
      have hg := Lib.indexByte_ge [46, 45] (bt a0 (k : Int)).toNat.toUInt8
      have hnb : Aside0 (nameByte (bt a0 (k : Int)) = true ↔ (97 ≤ bt a0 (k : Int) ∧ bt a0 (k : Int) ≤ 122) ∨ (48 ≤ bt a0 (k : Int) ∧ bt a0 (k : Int) ≤ 57) ∨ bt a0 (k : Int) = 46 ∨ bt a0 (k : Int) = 45) := ⟨by unfold nameByte; simp [Bool.or_assoc]⟩
      obtain ⟨hr0, hr1⟩ := hr
      have hcase : (nameByte (bt a0 (k : Int)) = true → Aside0 ((List.range (k + 1)).all (fun i => nameByte (bt a0 i)) = true)) ∧ (nameByte (bt a0 (k : Int)) = false → Aside0 (nameB a0 = false)) := by
        constructor
        · intro h; refine ⟨?_⟩; rw [all_range_succ, hall.out]; simpa using h
        · intro h; refine ⟨?_⟩; unfold nameB; rw [all_range_false _ _ k hlt h]; simp
      generalize bt a0 (k : Int) = c at *
      obtain ⟨q, hqe⟩ : ∃ q, Lib.indexByte [46, 45] c.toNat.toUInt8 = q := ⟨_, rfl⟩
      rw [hqe] at hq hg
      have hqe := Aside0.mk hqe
      rcases (by omega : (c < 45 ∧ q < 0) ∨ ((45 ≤ c ∧ c ≤ 46) ∧ 0 ≤ q) ∨ ((47 ≤ c ∧ c ≤ 47) ∧ q < 0) ∨ ((48 ≤ c ∧ c ≤ 57) ∧ q < 0) ∨ ((58 ≤ c ∧ c ≤ 96) ∧ q < 0) ∨ ((97 ≤ c ∧ c ≤ 122) ∧ q < 0) ∨ (122 < c ∧ q < 0)) with h | h | h | h | h | h | h
      case inl | inr.inr.inl | inr.inr.inr.inr.inl | inr.inr.inr.inr.inr.inr =>
        obtain ⟨g, hq0⟩ := h
        have hf := hcase.2 (Bool.eq_false_iff.2 (fun hc => by have := hnb.out.1 hc; omega))
        clear hq hcase hnb
        first | obtain ⟨g0, g1⟩ := g | skip
        go_wp2_with (go_at_call 156; refine (Tryz.strings_IndexByte _ _ _).mono ?_; rintro e w' ⟨rfl, rfl⟩; show _; rw [hqe.out])
        all_goals first | (go_ret; exact ⟨by rw [hf.out]; rfl, HB.out⟩) | (exfalso; rename_i hz_; simp at hz_; omega)
      all_goals
        obtain ⟨⟨g0, g1⟩, hq0⟩ := h
        have hf := hcase.1 (hnb.out.2 (by omega))
        clear hq hcase hnb
        go_wp2_with (go_at_call 156; refine (Tryz.strings_IndexByte _ _ _).mono ?_; rintro e w' ⟨rfl, rfl⟩; show _; rw [hqe.out])
        all_goals
          go_round
          case rel => exact ⟨k + 1, by omega, by go_num, hf⟩
          case measure => simp [intOf]; omega
    · obtain rfl : k = a0.size := by omega
      have hall' : Aside0 (nameB a0 = (decide (1 ≤ a0.size) && decide (a0.size ≤ 12) && a0.toList != [46] && a0.toList != [46, 46])) := ⟨by unfold nameB; rw [hall.out]; rfl⟩
      clear hall HR kb
      by_cases h1 : 1 ≤ a0.size
      · by_cases h2 : a0.size ≤ 12
        · by_cases h3 : a0.toList = [46]
          · have g3 : (a0.toList != [46]) = false := by simp [h3]
            have hf : Aside0 (nameB a0 = false) := ⟨by rw [hall'.out, g3]; simp⟩
            go_wp2
            all_goals first | (go_ret; exact ⟨by rw [hf.out]; first | rfl | (simp [*]; done), HB.out⟩) | (exfalso; simp_all; done)
          · have g3 : (a0.toList != [46]) = true := by simpa using h3
            by_cases h4 : a0.toList = [46, 46]
            · have g4 : (a0.toList != [46, 46]) = false := by simp [h4]
              have hf : Aside0 (nameB a0 = false) := ⟨by rw [hall'.out, g4]; simp⟩
              go_wp2
              all_goals first | (go_ret; exact ⟨by rw [hf.out]; first | rfl | (simp [*]; done), HB.out⟩) | (exfalso; simp_all; done)
            · have g4 : (a0.toList != [46, 46]) = true := by simpa using h4
              have hf : Aside0 (nameB a0 = true) := ⟨by rw [hall'.out, g3, g4]; simp [h1, h2]⟩
              go_wp2
              all_goals first | (go_ret; exact ⟨by rw [hf.out]; first | rfl | (simp [*]; done), HB.out⟩) | (exfalso; simp_all; done)
        · have hf : Aside0 (nameB a0 = false) := ⟨by rw [hall'.out]; simp [h2]⟩
          go_wp2
          all_goals first | (go_ret; exact ⟨by rw [hf.out]; first | rfl | (simp [*]; done), HB.out⟩) | (exfalso; simp_all; done)
      · have hf : Aside0 (nameB a0 = false) := ⟨by rw [hall'.out]; simp [h1]⟩
        go_wp2
        all_goals first | (go_ret; exact ⟨by rw [hf.out]; first | rfl | (simp [*]; done), HB.out⟩) | (exfalso; simp_all; done)
end Go.Proofs.YtlkmegeecmkkbaaGreatDoor.P

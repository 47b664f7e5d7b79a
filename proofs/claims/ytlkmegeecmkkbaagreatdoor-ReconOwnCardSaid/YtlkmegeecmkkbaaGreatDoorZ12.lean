/-
  Small whole numbers as float64 words: exact; their order, sums and what they are as integers. (Texts of this session.)
-/
import GoSem.Core.Float
import Derived.WalkKit
namespace Go.Proofs.YtlkmegeecmkkbaaGreatDoor.P
open Ieee
set_option linter.unusedSimpArgs false
set_option maxRecDepth 100000
def fl (n : Nat) : Nat := if n = 0 then 0 else (n.log2 + 1022) * 2 ^ 52 + n * 2 ^ (52 - n.log2)
theorem log2_bounds {n : Nat} (h : n ≠ 0) : 2 ^ n.log2 ≤ n ∧ n < 2 ^ (n.log2 + 1) := ⟨Nat.log2_self_le h, Nat.lt_log2_self⟩
theorem log2_le {n : Nat} (h : n < 2 ^ 40) : n.log2 ≤ 39 := by
  by_cases h0 : n = 0
  · subst h0; decide
  · have := (Nat.log2_lt h0).2 h; omega
theorem kept_bounds {n : Nat} (h0 : n ≠ 0) (h : n < 2 ^ 40) : 2 ^ 52 ≤ n * 2 ^ (52 - n.log2) ∧ n * 2 ^ (52 - n.log2) < 2 ^ 53 := by
  have hl := log2_le h
  obtain ⟨h1, h2⟩ := log2_bounds h0
  constructor
  · calc 2 ^ 52 = 2 ^ n.log2 * 2 ^ (52 - n.log2) := by rw [← Nat.pow_add]; congr 1; omega
      _ ≤ n * 2 ^ (52 - n.log2) := Nat.mul_le_mul_right _ h1
  · calc n * 2 ^ (52 - n.log2) < 2 ^ (n.log2 + 1) * 2 ^ (52 - n.log2) := Nat.mul_lt_mul_of_pos_right h2 (Nat.two_pow_pos _)
      _ = 2 ^ 53 := by rw [← Nat.pow_add]; congr 1; omega
theorem log2_scaled {n : Nat} (h0 : n ≠ 0) (s : Nat) : (n * 2 ^ s).log2 = n.log2 + s := by
  obtain ⟨h1, h2⟩ := log2_bounds h0
  have hne : n * 2 ^ s ≠ 0 := Nat.mul_ne_zero h0 (Nat.ne_of_gt (Nat.two_pow_pos _))
  have a : 2 ^ (n.log2 + s) ≤ n * 2 ^ s := by rw [Nat.pow_add]; exact Nat.mul_le_mul_right _ h1
  have b : n * 2 ^ s < 2 ^ (n.log2 + s + 1) := by
    rw [show n.log2 + s + 1 = (n.log2 + 1) + s from by omega, Nat.pow_add]; exact Nat.mul_lt_mul_of_pos_right h2 (Nat.two_pow_pos _)
  have := (Nat.le_log2 hne).2 a; have := (Nat.log2_lt hne).2 b; omega
theorem cut_exact (way : Toward) (k d : Nat) (hk : d ≤ (k * 2 ^ d).log2 + 2) : way.cut false (k * 2 ^ d) d = k := by
  unfold Toward.cut
  have hg : 1 <<< min d ((k * 2 ^ d).log2 + 2) = 2 ^ d := by rw [Nat.min_eq_left hk, Nat.shiftLeft_eq, Nat.one_mul]
  have hp := Nat.two_pow_pos d
  simp only [hg, Nat.mul_div_cancel _ hp, Nat.mul_mod_left]
  cases way <;> simp [hp, Nat.ne_of_gt hp] <;> omega
theorem rung_le {e k : Nat} (he : e ≤ 39) (hk : k < 2 ^ 53) : (e + 1022) * 2 ^ 52 + k ≤ 2047 * 2 ^ 52 := by
  have h2 : k < 2 * 2 ^ 52 := by rwa [show (2 : Nat) ^ 53 = 2 * 2 ^ 52 from rfl] at hk
  clear hk
  generalize (2 : Nat) ^ 52 = M at *
  have : (e + 1022) * M ≤ 1061 * M := Nat.mul_le_mul_right M (by omega)
  omega
theorem nearest_scaled {n : Nat} (h0 : n ≠ 0) (h : n < 2 ^ 40) (s : Nat) : double.nearest false (n * 2 ^ s) (-(s : Int)) = fl n := by
  have hl := log2_le h
  have hk := kept_bounds h0 h
  have hne : n * 2 ^ s ≠ 0 := Nat.mul_ne_zero h0 (Nat.ne_of_gt (Nat.two_pow_pos _))
  have hlp : double.leastPlace = -1074 := by decide
  have hb : double.binade = 2 ^ 52 := by decide
  have hinf : double.infRung = 2047 * 2 ^ 52 := by decide
  unfold Format.nearest fl
  rw [if_neg hne, if_neg h0, log2_scaled h0 s]
  have hlast : max (-(s : Int) + ((n.log2 + s : Nat) : Int) - (double.fractionBits : Int)) double.leastPlace = (n.log2 : Int) - 52 := by
    rw [hlp]; show max (_ - (52 : Int)) _ = _; omega
  simp only [hlast]
  have hcut : Toward.even.cut false ((n * 2 ^ s) <<< (-(s : Int) - ((n.log2 : Int) - 52)).toNat) (((n.log2 : Int) - 52) - -(s : Int)).toNat = n * 2 ^ (52 - n.log2) := by
    by_cases hs : s ≤ 52 - n.log2
    · have e1 : (-(s : Int) - ((n.log2 : Int) - 52)).toNat = 52 - n.log2 - s := by omega
      have e2 : (((n.log2 : Int) - 52) - -(s : Int)).toNat = 0 := by omega
      rw [e1, e2, Nat.shiftLeft_eq, Nat.mul_assoc, ← Nat.pow_add, show s + (52 - n.log2 - s) = 52 - n.log2 from by omega]
      have := cut_exact .even (n * 2 ^ (52 - n.log2)) 0 (by omega)
      simpa using this
    · have e1 : (-(s : Int) - ((n.log2 : Int) - 52)).toNat = 0 := by omega
      have e2 : (((n.log2 : Int) - 52) - -(s : Int)).toNat = s - (52 - n.log2) := by omega
      rw [e1, e2, Nat.shiftLeft_zero]
      have e3 : n * 2 ^ s = n * 2 ^ (52 - n.log2) * 2 ^ (s - (52 - n.log2)) := by rw [Nat.mul_assoc, ← Nat.pow_add]; congr 2; omega
      rw [e3]
      refine cut_exact .even _ _ ?_
      rw [← e3, log2_scaled h0 s]; omega
  rw [hcut]
  unfold Format.word
  rw [if_neg (by simp), hlp, hb, hinf]
  have e4 : ((n.log2 : Int) - 52 - -1074).toNat = n.log2 + 1022 := by omega
  rw [e4]
  refine Nat.min_eq_left ?_
  clear hcut hlast hne hlp hb hinf
  generalize n * 2 ^ (52 - n.log2) = k at *
  exact rung_le hl hk.2
theorem nearest_nat {n : Nat} (h : n < 2 ^ 40) : double.nearest false n 0 = fl n := by
  by_cases h0 : n = 0
  · subst h0; decide
  · have := nearest_scaled h0 h 0
    simpa using this
theorem read_fl {n : Nat} (h0 : n ≠ 0) (h : n < 2 ^ 40) : double.read (fl n) = .number false (n * 2 ^ (52 - n.log2)) ((n.log2 : Int) - 52) := by
  have hl := log2_le h
  obtain ⟨k1, k2⟩ := kept_bounds h0 h
  have hsw : double.signWeight = 2 ^ 63 := by decide
  have hlp : double.leastPlace = -1074 := by decide
  have hb : double.binade = 2 ^ 52 := by decide
  have hinf : double.infRung = 2047 * 2 ^ 52 := by decide
  have hfl : fl n = (n.log2 + 1022) * 2 ^ 52 + n * 2 ^ (52 - n.log2) := by unfold fl; rw [if_neg h0]
  generalize n * 2 ^ (52 - n.log2) = k at *
  have e5 : (2 : Nat) ^ 53 = 2 * 2 ^ 52 := by rfl
  have e6 : (2 : Nat) ^ 63 = 2048 * 2 ^ 52 := by rfl
  have hlt : fl n < 2 ^ 63 := by rw [hfl, e6]; have : (n.log2 + 1022) * 2 ^ 52 ≤ 1061 * 2 ^ 52 := Nat.mul_le_mul_right _ (by omega); omega
  unfold Format.read
  rw [hsw, hb, hinf, hlp, Nat.mod_eq_of_lt hlt, Nat.div_eq_of_lt hlt, hfl]
  have hge : ¬ (n.log2 + 1022) * 2 ^ 52 + k < 2 ^ 52 := by omega
  have hlt2 : (n.log2 + 1022) * 2 ^ 52 + k < 2047 * 2 ^ 52 := by have : (n.log2 + 1022) * 2 ^ 52 ≤ 1061 * 2 ^ 52 := Nat.mul_le_mul_right _ (by omega); omega
  simp only [if_neg hge, if_pos hlt2]
  have hk : k = 2 ^ 52 + (k - 2 ^ 52) := by omega
  have hr : k - 2 ^ 52 < 2 ^ 52 := by omega
  have hsum : (n.log2 + 1022) * 2 ^ 52 + k = (k - 2 ^ 52) + (n.log2 + 1023) * 2 ^ 52 := by omega
  have hmod : ((n.log2 + 1022) * 2 ^ 52 + k) % 2 ^ 52 = k - 2 ^ 52 := by rw [hsum, Nat.add_mul_mod_self_right, Nat.mod_eq_of_lt hr]
  have hdiv : ((n.log2 + 1022) * 2 ^ 52 + k) / 2 ^ 52 = n.log2 + 1023 := by rw [hsum, Nat.add_mul_div_right _ _ (by decide), Nat.div_eq_of_lt hr]; omega
  rw [hmod, hdiv]
  simp only [Datum.number.injEq]
  refine ⟨by decide, by omega, by omega⟩
theorem read_zero : double.read (fl 0) = .number false 0 (-1074) := by decide
theorem read_any {n : Nat} (h : n < 2 ^ 40) : ∃ p : Nat, double.read (fl n) = .number false (n * 2 ^ p) (-(p : Int)) := by
  by_cases h0 : n = 0
  · subst h0; refine ⟨1074, ?_⟩; generalize hq : 2 ^ 1074 = q; rw [read_zero, Nat.zero_mul]; rfl
  · exact ⟨52 - n.log2, by rw [read_fl h0 h]; have := log2_le h; congr 1; omega⟩
theorem signed_scaled (n p q : Nat) (h : q ≤ p) : signed false (n * 2 ^ q) (-(q : Int) - -(p : Int)).toNat = ((n * 2 ^ p : Nat) : Int) := by
  unfold signed
  rw [if_neg (by simp), show (-(q : Int) - -(p : Int)).toNat = p - q from by omega, Nat.shiftLeft_eq, Nat.mul_assoc, ← Nat.pow_add, show q + (p - q) = p from by omega]
theorem cmp_scaled (m n p : Nat) : compare ((m * 2 ^ p : Nat) : Int) ((n * 2 ^ p : Nat) : Int) = compare m n := by
  have hp := Nat.two_pow_pos p
  rcases Nat.lt_trichotomy m n with h | h | h
  · have : m * 2 ^ p < n * 2 ^ p := Nat.mul_lt_mul_of_pos_right h hp
    rw [Int.compare_eq_lt.2 (by omega), Nat.compare_eq_lt.2 h]
  · subst h; rw [Int.compare_eq_eq.2 rfl, Nat.compare_eq_eq.2 rfl]
  · have : n * 2 ^ p < m * 2 ^ p := Nat.mul_lt_mul_of_pos_right h hp
    rw [Int.compare_eq_gt.2 (by omega), Nat.compare_eq_gt.2 h]
theorem order_fl {m n : Nat} (hm : m < 2 ^ 40) (hn : n < 2 ^ 40) : double.order (fl m) (fl n) = some (compare m n) := by
  obtain ⟨p, e1⟩ := read_any hm
  obtain ⟨q, e2⟩ := read_any hn
  unfold Format.order
  rw [e1, e2]
  simp only [Datum.order]
  rcases Nat.le_total p q with h | h
  · have hb : min (-(p : Int)) (-(q : Int)) = -(q : Int) := by omega
    rw [hb, signed_scaled m q p h, signed_scaled n q q (Nat.le_refl _), cmp_scaled]
  · have hb : min (-(p : Int)) (-(q : Int)) = -(p : Int) := by omega
    rw [hb, signed_scaled m p p (Nat.le_refl _), signed_scaled n p q h, cmp_scaled]
theorem add_fl {m n : Nat} (hm : m < 2 ^ 39) (hn : n < 2 ^ 39) : double.add (fl m) (fl n) = some (fl (m + n)) := by
  have e40 : (2 : Nat) ^ 40 = 2 * 2 ^ 39 := by rfl
  obtain ⟨p, e1⟩ := read_any (n := m) (by omega)
  obtain ⟨q, e2⟩ := read_any (n := n) (by omega)
  unfold Format.add
  rw [e1, e2]
  simp only [Datum.sum, Option.map_some]
  have key : ∀ b : Nat, p ≤ b → q ≤ b → some (double.write (Datum.number (if signed false (m * 2 ^ p) (-(p : Int) - -(b : Int)).toNat + signed false (n * 2 ^ q) (-(q : Int) - -(b : Int)).toNat = 0 then false && false else decide (signed false (m * 2 ^ p) (-(p : Int) - -(b : Int)).toNat + signed false (n * 2 ^ q) (-(q : Int) - -(b : Int)).toNat < 0))
      (signed false (m * 2 ^ p) (-(p : Int) - -(b : Int)).toNat + signed false (n * 2 ^ q) (-(q : Int) - -(b : Int)).toNat).natAbs (-(b : Int)))) = some (fl (m + n)) := by
    intro b hp hq
    rw [signed_scaled m b p hp, signed_scaled n b q hq]
    have hs : ((m * 2 ^ b : Nat) : Int) + ((n * 2 ^ b : Nat) : Int) = (((m + n) * 2 ^ b : Nat) : Int) := by rw [Nat.add_mul]; omega
    rw [hs]
    have hd : decide ((((m + n) * 2 ^ b : Nat) : Int) < 0) = false := decide_eq_false (Int.not_lt.2 (Int.natCast_nonneg _))
    rw [hd, Int.natAbs_natCast]
    simp only [Bool.and_self, ite_self, Format.write]
    by_cases h0 : m + n = 0
    · rw [h0]; simp [Format.nearest, fl, Format.word]
    · rw [nearest_scaled h0 (by omega)]
  rcases Nat.le_total p q with h | h
  · have hb : min (-(p : Int)) (-(q : Int)) = -(q : Int) := by omega
    rw [hb]; exact key q h (Nat.le_refl _)
  · have hb : min (-(p : Int)) (-(q : Int)) = -(p : Int) := by omega
    rw [hb]; exact key p (Nat.le_refl _) h
theorem toInt_fl {n : Nat} (h : n < 2 ^ 40) : (double.read (fl n)).toInt .zero = some (n : Int) := by
  by_cases h0 : n = 0
  · subst h0; decide
  · have hl := log2_le h
    rw [read_fl h0 h]
    simp only [Datum.toInt, Datum.integral]
    have e1 : ((n.log2 : Int) - 52).toNat = 0 := by omega
    have e2 : (-((n.log2 : Int) - 52)).toNat = 52 - n.log2 := by omega
    rw [e1, e2, Nat.shiftLeft_zero, cut_exact .zero n (52 - n.log2) (by rw [log2_scaled h0]; omega)]
    simp [signed]
end Go.Proofs.YtlkmegeecmkkbaaGreatDoor.P

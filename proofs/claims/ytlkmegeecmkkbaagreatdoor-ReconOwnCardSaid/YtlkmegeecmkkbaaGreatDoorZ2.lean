/-
  Parts of the proof, one behind the other: GOrd, P0, GOpen. Each is a contract of a function of the program, or a plain law; no condition of its own beyond what each theorem says.
-/
import Derived.Laws.Strings
import Derived.WalkKit
import Derived.Test.YtlkmegeecmkkbaaGreatDoorProg
import Derived.Below
import Derived.Deep.Draws
import Derived.Deep.AppendLies
import Derived.Maps.AppendAt
import Derived.OwnWalk
import Derived.Laws.BytesArg
import Derived.Laws.MakeOwn
import Derived.Laws.OwnMore
import Derived.Deep.OwnRows
import Derived.Tactics
import Derived.Lib.ConvBytes
import Derived.Laws.Slices
import Derived.KernelRfl
import Derived.RowKit3
import Derived.Deep.LoopGhost
import Derived.Deep.QuietTactic
import Derived.BigQuiet
import Derived.WideLaws
import Derived.Deep.DeepCutAuto
import Derived.Deep.CutBlock
import Derived.Deep.RegionHeld3
import Derived.Laws.Rows
import Derived.Lib.AppendStr
import Derived.ArgAppend
import Derived.Laws.IdiomCopy
import Derived.OrdersHeld
import Derived.Laws.BitsLemmas
import Derived.RowKit
import Derived.Deep.Slices
import Derived.ChangeSame
import Derived.ChangeOld
import Derived.ProofKit
import Derived.Test.YtlkmegeecmkkbaaGreatDoorZ0
import Derived.Test.YtlkmegeecmkkbaaGreatDoorZ1
section
namespace Go.Proofs.YtlkmegeecmkkbaaGreatDoor.P
theorem less_irrefl : ∀ a : List UInt8, Op.bytesLess a a = false
  | [] => rfl
  | a :: x => by simp [Op.bytesLess, less_irrefl x]
theorem less_trans : ∀ a b c : List UInt8, Op.bytesLess a b = true → Op.bytesLess b c = true → Op.bytesLess a c = true
  | [], [], _, h, _ => by simp [Op.bytesLess] at h
  | [], _ :: _, [], _, h => by simp [Op.bytesLess] at h
  | [], _ :: _, _ :: _, _, _ => by simp [Op.bytesLess]
  | _ :: _, [], _, h, _ => by simp [Op.bytesLess] at h
  | _ :: _, _ :: _, [], _, h => by simp [Op.bytesLess] at h
  | a :: x, b :: y, c :: z, h1, h2 => by
    simp only [Op.bytesLess, Bool.or_eq_true, Bool.and_eq_true, decide_eq_true_eq, beq_iff_eq] at h1 h2 ⊢
    rcases h1 with h1 | ⟨rfl, h1⟩
    · rcases h2 with h2 | ⟨rfl, h2⟩
      · exact .inl (UInt8.lt_trans h1 h2)
      · exact .inl h1
    · rcases h2 with h2 | ⟨rfl, h2⟩
      · exact .inl h2
      · exact .inr ⟨rfl, less_trans x y z h1 h2⟩
theorem less_total : ∀ a b : List UInt8, Op.bytesLess a b = true ∨ a = b ∨ Op.bytesLess b a = true
  | [], [] => .inr (.inl rfl)
  | [], _ :: _ => .inl (by simp [Op.bytesLess])
  | _ :: _, [] => .inr (.inr (by simp [Op.bytesLess]))
  | a :: x, b :: y => by
    simp only [Op.bytesLess, Bool.or_eq_true, Bool.and_eq_true, decide_eq_true_eq, beq_iff_eq]
    by_cases h : a = b
    · subst h
      rcases less_total x y with h | h | h
      · exact .inl (.inr ⟨rfl, h⟩)
      · exact .inr (.inl (by rw [h]))
      · exact .inr (.inr (.inr ⟨rfl, h⟩))
    · by_cases h' : a < b
      · exact .inl (.inl h')
      · refine .inr (.inr (.inl ?_))
        rw [UInt8.lt_iff_toNat_lt] at h' ⊢
        have : a.toNat ≠ b.toNat := fun e => h (UInt8.toNat_inj.1 e)
        omega
theorem less_asymm (a b : List UInt8) (h : Op.bytesLess a b = true) : Op.bytesLess b a = false := by
  cases hb : Op.bytesLess b a with
  | false => rfl
  | true => have := less_trans a b a h hb; rw [less_irrefl] at this; cases this
theorem leq_eq (a b : List UInt8) : (Op.bytesLess a b || a == b) = !(Op.bytesLess b a) := by
  rcases less_total a b with h | h | h
  · rw [h, less_asymm a b h]; rfl
  · subst h; rw [less_irrefl]; simp
  · rw [h, less_asymm b a h]
    have : (a == b) = false := by
      rw [beq_eq_false_iff_ne]; intro e; subst e; rw [less_irrefl] at h; cases h
    rw [this]; rfl
theorem str_leq (t : TypeId) (a b : ByteArray) : binOp .leq t (.string a) (.string b) = pure (.bool (!(Op.bytesLess b.toList a.toList))) := by
  rw [← leq_eq]; simp [binOp, Op.stringOp]
theorem str_gtr (t : TypeId) (a b : ByteArray) : binOp .gtr t (.string a) (.string b) = pure (.bool (Op.bytesLess b.toList a.toList)) := by
  have := leq_eq a.toList b.toList
  have h : Op.bytesLess b.toList a.toList = !(Op.bytesLess a.toList b.toList || a.toList == b.toList) := by rw [this]; simp
  rw [h]; simp [binOp, Op.stringOp]
theorem str_geq (t : TypeId) (a b : ByteArray) : binOp .geq t (.string a) (.string b) = pure (.bool (!(Op.bytesLess a.toList b.toList))) := by simp [binOp, Op.stringOp]
end Go.Proofs.YtlkmegeecmkkbaaGreatDoor.P
end
section
namespace Go.Proofs.YtlkmegeecmkkbaaGreatDoor.P
open Go.RowKit Go.Proofs.YtlkmegeecmkkbaaGreatDoorW.PrintWords Go.Proofs.YtlkmegeecmkkbaaGreatDoorW.PrintLast Go.Proofs.YtlkmegeecmkkbaaGreatDoorW.PrintMore
attribute [local go_sem] max2_int min2_int max_two min_two max_three min_three max_four min_four   -- for this text's walks alone
set_option linter.unusedVariables false
set_option linter.unusedSimpArgs false
def errW : Option Int → Value
  | none => .nilIface
  | some c => .iface 0 (.int .i64 c)
theorem errW_none : errW none = .nilIface := rfl
theorem errW_some (c : Int) : errW (some c) = .iface 0 (.int .i64 c) := rfl
theorem info9 : (Tryz.prog.info? 9).map (fun i => (i.zero, i.size, i.bytes)) = some (some (.string ⟨#[]⟩), 1, 16) := by kernel_rfl
theorem info34 : (Tryz.prog.info? 34).map (fun i => (i.zero, i.size, i.bytes)) = some (some (.agg #[(.string ⟨#[]⟩), (.bool false), (.string ⟨#[]⟩), (.int .i64 0), (.int .i64 0)]), 5, 56) := by kernel_rfl
theorem info52 : (Tryz.prog.info? 52).map (fun i => (i.zero, i.size, i.bytes)) = some (some (.agg #[(.string ⟨#[]⟩), (.bool false), (.string ⟨#[]⟩)]), 3, 40) := by kernel_rfl
theorem info54 : (Tryz.prog.info? 54).map (fun i => (i.zero, i.size, i.bytes)) = some (some (.agg #[(.string ⟨#[]⟩), (.string ⟨#[]⟩)]), 2, 32) := by kernel_rfl
structure S32 where
  f0 : Int
  f1 : Int
def z32 : S32 := ⟨(0 : Int), (0 : Int)⟩
def k32 : Kd S32 := Kd.iso (Kd.pair (Kd.int .i64) (Kd.int .i64)) (fun x : S32 => (x.f0, x.f1))
theorem k32_open {w : World} {x : S32} {cs : List Value} (h : k32.K w x cs) : cs = [.int .i64 x.f0, .int .i64 x.f1] := by
  obtain ⟨_, _, rfl, rfl, rfl⟩ := h
  exact rfl
theorem k32_openM {w : World} {base : Nat} {ok : Nat → Prop} {x : S32} {cs : List Value} (h : k32.M w base ok x cs) : cs = [.int .i64 x.f0, .int .i64 x.f1] := by
  obtain ⟨_, _, rfl, rfl, rfl⟩ := h
  exact rfl
theorem k32_mk (w : World) (x : S32)  : k32.K w x [.int .i64 x.f0, .int .i64 x.f1] := ⟨[.int .i64 x.f0], [.int .i64 x.f1], rfl, rfl, rfl⟩
theorem k32_mkM (w : World) (base : Nat) (ok : Nat → Prop) (x : S32)  : k32.M w base ok x [.int .i64 x.f0, .int .i64 x.f1] := ⟨[.int .i64 x.f0], [.int .i64 x.f1], rfl, rfl, rfl⟩
structure S34 where
  f0 : ByteArray
  f1 : Bool
  f2 : ByteArray
  f3 : S32
def z34 : S34 := ⟨(⟨#[]⟩ : ByteArray), false, (⟨#[]⟩ : ByteArray), z32⟩
def k34 : Kd S34 := Kd.iso (Kd.pair Kd.string (Kd.pair Kd.bool (Kd.pair Kd.string k32))) (fun x : S34 => (x.f0, x.f1, x.f2, x.f3))
theorem k34_open {w : World} {x : S34} {cs : List Value} (h : k34.K w x cs) : cs = [.string x.f0, .bool x.f1, .string x.f2, .int .i64 x.f3.f0, .int .i64 x.f3.f1] := by
  obtain ⟨_, _, rfl, rfl, ⟨_, _, rfl, rfl, ⟨_, _, rfl, rfl, s3⟩⟩⟩ := h
  obtain rfl := k32_open s3
  exact rfl
theorem k34_openM {w : World} {base : Nat} {ok : Nat → Prop} {x : S34} {cs : List Value} (h : k34.M w base ok x cs) : cs = [.string x.f0, .bool x.f1, .string x.f2, .int .i64 x.f3.f0, .int .i64 x.f3.f1] := by
  obtain ⟨_, _, rfl, rfl, ⟨_, _, rfl, rfl, ⟨_, _, rfl, rfl, s3⟩⟩⟩ := h
  obtain rfl := k32_openM s3
  exact rfl
theorem k34_mk (w : World) (x : S34)  : k34.K w x [.string x.f0, .bool x.f1, .string x.f2, .int .i64 x.f3.f0, .int .i64 x.f3.f1] := ⟨[.string x.f0], [.bool x.f1, .string x.f2, .int .i64 x.f3.f0, .int .i64 x.f3.f1], rfl, rfl, ⟨[.bool x.f1], [.string x.f2, .int .i64 x.f3.f0, .int .i64 x.f3.f1], rfl, rfl, ⟨[.string x.f2], [.int .i64 x.f3.f0, .int .i64 x.f3.f1], rfl, rfl, (k32_mk w x.f3 )⟩⟩⟩
theorem k34_mkM (w : World) (base : Nat) (ok : Nat → Prop) (x : S34)  : k34.M w base ok x [.string x.f0, .bool x.f1, .string x.f2, .int .i64 x.f3.f0, .int .i64 x.f3.f1] := ⟨[.string x.f0], [.bool x.f1, .string x.f2, .int .i64 x.f3.f0, .int .i64 x.f3.f1], rfl, rfl, ⟨[.bool x.f1], [.string x.f2, .int .i64 x.f3.f0, .int .i64 x.f3.f1], rfl, rfl, ⟨[.string x.f2], [.int .i64 x.f3.f0, .int .i64 x.f3.f1], rfl, rfl, (k32_mkM w base ok x.f3 )⟩⟩⟩
def rd_T34 (xs : List S34) (i : Int) : S34 := xs.getD i.toNat z34
theorem at_T34 {w : World} {A : Option Addr} {n : Nat} {xs : List S34} (h : Kd.C k34 w A n xs) (i : Int) (h0 : 0 ≤ i) (h1 : i < n) : ∃ ad , A = some ad ∧ w.cell? (ad.add (i.toNat * 5)) = some (.string (rd_T34 xs i).f0) ∧ w.cell? ⟨(ad.add (i.toNat * 5)).block, (ad.add (i.toNat * 5)).off + 1, none⟩ = some (.bool (rd_T34 xs i).f1) ∧ w.cell? ⟨(ad.add (i.toNat * 5)).block, (ad.add (i.toNat * 5)).off + 2, none⟩ = some (.string (rd_T34 xs i).f2) ∧ w.cell? ⟨(ad.add (i.toNat * 5)).block, (ad.add (i.toNat * 5)).off + 3, none⟩ = some (.int .i64 (rd_T34 xs i).f3.f0) ∧ w.cell? ⟨(ad.add (i.toNat * 5)).block, (ad.add (i.toNat * 5)).off + 4, none⟩ = some (.int .i64 (rd_T34 xs i).f3.f1) := by
  obtain ⟨ad, c, e, _, hK, hc0⟩ := Kd.C_get h z34 i h0 h1
  have hc : ∀ j u, c[j]? = some u → w.cell? (ad.add (i.toNat * 5 + j)) = some u := hc0
  obtain rfl := k34_open hK
  exact ⟨ad, e, hc 0 _ rfl, by rw [← add_field _ _ 1 (by omega)]; exact hc 1 _ rfl, by rw [← add_field _ _ 2 (by omega)]; exact hc 2 _ rfl, by rw [← add_field _ _ 3 (by omega)]; exact hc 3 _ rfl, by rw [← add_field _ _ 4 (by omega)]; exact hc 4 _ rfl⟩
structure S54 where
  f0 : ByteArray
  f1 : ByteArray
def z54 : S54 := ⟨(⟨#[]⟩ : ByteArray), (⟨#[]⟩ : ByteArray)⟩
def k54 : Kd S54 := Kd.iso (Kd.pair Kd.string Kd.string) (fun x : S54 => (x.f0, x.f1))
theorem k54_open {w : World} {x : S54} {cs : List Value} (h : k54.K w x cs) : cs = [.string x.f0, .string x.f1] := by
  obtain ⟨_, _, rfl, rfl, rfl⟩ := h
  exact rfl
theorem k54_mkM (w : World) (base : Nat) (ok : Nat → Prop) (x : S54)  : k54.M w base ok x [.string x.f0, .string x.f1] := ⟨[.string x.f0], [.string x.f1], rfl, rfl, rfl⟩
def rd_T54 (xs : List S54) (i : Int) : S54 := xs.getD i.toNat z54
theorem at_T54 {w : World} {A : Option Addr} {n : Nat} {xs : List S54} (h : Kd.C k54 w A n xs) (i : Int) (h0 : 0 ≤ i) (h1 : i < n) : ∃ ad , A = some ad ∧ w.cell? (ad.add (i.toNat * 2)) = some (.string (rd_T54 xs i).f0) ∧ w.cell? ⟨(ad.add (i.toNat * 2)).block, (ad.add (i.toNat * 2)).off + 1, none⟩ = some (.string (rd_T54 xs i).f1) := by
  obtain ⟨ad, c, e, _, hK, hc0⟩ := Kd.C_get h z54 i h0 h1
  have hc : ∀ j u, c[j]? = some u → w.cell? (ad.add (i.toNat * 2 + j)) = some u := hc0
  obtain rfl := k54_open hK
  exact ⟨ad, e, hc 0 _ rfl, by rw [← add_field _ _ 1 (by omega)]; exact hc 1 _ rfl⟩
structure S52 where
  f0 : ByteArray
  f1 : Bool
  f2 : ByteArray
def z52 : S52 := ⟨(⟨#[]⟩ : ByteArray), false, (⟨#[]⟩ : ByteArray)⟩
def k52 : Kd S52 := Kd.iso (Kd.pair Kd.string (Kd.pair Kd.bool Kd.string)) (fun x : S52 => (x.f0, x.f1, x.f2))
theorem k52_open {w : World} {x : S52} {cs : List Value} (h : k52.K w x cs) : cs = [.string x.f0, .bool x.f1, .string x.f2] := by
  obtain ⟨_, _, rfl, rfl, ⟨_, _, rfl, rfl, rfl⟩⟩ := h
  exact rfl
theorem k52_mkM (w : World) (base : Nat) (ok : Nat → Prop) (x : S52)  : k52.M w base ok x [.string x.f0, .bool x.f1, .string x.f2] := ⟨[.string x.f0], [.bool x.f1, .string x.f2], rfl, rfl, ⟨[.bool x.f1], [.string x.f2], rfl, rfl, rfl⟩⟩
def rd_T52 (xs : List S52) (i : Int) : S52 := xs.getD i.toNat z52
theorem at_T52 {w : World} {A : Option Addr} {n : Nat} {xs : List S52} (h : Kd.C k52 w A n xs) (i : Int) (h0 : 0 ≤ i) (h1 : i < n) : ∃ ad , A = some ad ∧ w.cell? (ad.add (i.toNat * 3)) = some (.string (rd_T52 xs i).f0) ∧ w.cell? ⟨(ad.add (i.toNat * 3)).block, (ad.add (i.toNat * 3)).off + 1, none⟩ = some (.bool (rd_T52 xs i).f1) ∧ w.cell? ⟨(ad.add (i.toNat * 3)).block, (ad.add (i.toNat * 3)).off + 2, none⟩ = some (.string (rd_T52 xs i).f2) := by
  obtain ⟨ad, c, e, _, hK, hc0⟩ := Kd.C_get h z52 i h0 h1
  have hc : ∀ j u, c[j]? = some u → w.cell? (ad.add (i.toNat * 3 + j)) = some u := hc0
  obtain rfl := k52_open hK
  exact ⟨ad, e, hc 0 _ rfl, by rw [← add_field _ _ 1 (by omega)]; exact hc 1 _ rfl, by rw [← add_field _ _ 2 (by omega)]; exact hc 2 _ rfl⟩
end Go.Proofs.YtlkmegeecmkkbaaGreatDoor.P
end
section
namespace Go.Proofs.YtlkmegeecmkkbaaGreatDoor.P
open Go.RowKit Go.ChangeShapes Go.WideShapes Go.Deep Go.Proofs.YtlkmegeecmkkbaaGreatDoorW.PrintWords Go.Proofs.YtlkmegeecmkkbaaGreatDoorW.PrintLast Go.Proofs.YtlkmegeecmkkbaaGreatDoorW.PrintMore
set_option linter.unusedVariables false
set_option linter.unusedSimpArgs false
section
variable {H : Type} {enc : TypeId × Value → H} {w : World} {base : Nat} {spare : Nat → Bool} {held : Bool}
theorem open_rows {P : Program} {α : Type} (z : α) {K : α → List Value → Prop} {t e : TypeId} {sz fuel : Nat} {cs : List Value} {x : DataW H × List MemPlace} (ht : P.underlying t = some (.slice e)) (hsz : P.cellsOf e = sz)
    (hel : ∀ n cs' y, DataW.trod enc P w base spare held n e cs' = some y → ∃ p : α, K p cs') (h : DataW.trod enc P w base spare held fuel t cs = some x) :
    ∃ (A : Option Addr) (len cap : Nat) (xs : List α), cs = [.slice A len cap] ∧ len ≤ cap ∧ ReadsRow K sz w A len xs := by
  rcases open_slice ht h with ⟨rfl, _⟩ | ⟨a, len, cap, m, n, D, Pl, rfl, hb, hl, hm, hmm, _, hi⟩
  · exact ⟨none, 0, 0, [], rfl, Nat.le_refl _, rfl, by omega, fun h => absurd h (Nat.lt_irrefl _)⟩
  · have hlm : len ≤ m := by rw [hmm]; split <;> omega
    haveI : Inhabited α := ⟨z⟩
    obtain ⟨f, hf⟩ := choose_lt (n := len) (p := fun i (q : α) => ∃ c, c.length = sz ∧ K q c ∧ ∀ j u, c[j]? = some u → w.cell? (a.add (i * sz + j)) = some u) (fun i hi' => by
      obtain ⟨cs', hc, hty⟩ := hi i (by omega)
      obtain ⟨p, hp⟩ := hel _ _ _ hty
      obtain ⟨_, hcl, hat⟩ := World.cells?_some hc
      rw [hsz] at hcl hc hat
      refine ⟨p, cs', hcl, hp, fun j u hu => ?_⟩
      have hj : j < sz := by rw [← hcl]; exact (List.getElem?_eq_some_iff.1 hu).1
      rw [← hu, ← hat j hj, Go.Deep.add_add])
    refine ⟨some a, len, cap, (List.range len).map f, rfl, hl, by simp, by unfold maxLen at hm; omega, fun _ => ⟨a, rfl, fun j p hp => ?_⟩⟩
    rw [List.getElem?_map] at hp
    obtain ⟨i, hi1, rfl⟩ := Option.map_eq_some_iff.1 hp
    obtain ⟨hil, rfl⟩ := List.getElem?_eq_some_iff.1 hi1
    rw [List.getElem_range]
    exact hf j (by simpa using hil)
theorem cells9 : Tryz.prog.cellsOf 9 = 1 := by kernel_rfl
theorem cells4 : Tryz.prog.cellsOf 4 = 1 := by kernel_rfl
theorem cells3 : Tryz.prog.cellsOf 3 = 1 := by kernel_rfl
theorem cells32 : Tryz.prog.cellsOf 32 = 2 := by kernel_rfl
theorem cells34 : Tryz.prog.cellsOf 34 = 5 := by kernel_rfl
set_option maxRecDepth 100000 in
theorem pair_of_trod {n : Nat} {cs : List Value} {y : DataW H × List MemPlace} (h : DataW.trod enc Tryz.prog w base spare held n 32 cs = some y) : ∃ p : S32, cs = [.int .i64 p.f0, .int .i64 p.f1] := by
  obtain ⟨xs, m, _, _, hl, hlen, hf⟩ := DataW.trod_struct Tryz.underlying32 h
  have h0 := hf 0 _ rfl
  have h1 := hf 1 _ rfl
  rw [cells32] at hl
  match xs, hlen, cs, hl with
  | [y0, y1], _, [c0, c1], _ =>
    obtain ⟨i0, e0, _⟩ := DataW.trod_int Tryz.underlying3 h0
    obtain ⟨i1, e1, _⟩ := DataW.trod_int Tryz.underlying3 h1
    simp [cells3] at e0 e1
    subst e0 e1
    exact ⟨⟨i0, i1⟩, rfl⟩
set_option maxRecDepth 100000 in
theorem ent_of_trod (n : Nat) (cs : List Value) (y : DataW H × List MemPlace) (h : DataW.trod enc Tryz.prog w base spare held n 34 cs = some y) : ∃ p : S34, k34.K w p cs := by
  obtain ⟨xs, m, _, _, hl, hlen, hf⟩ := DataW.trod_struct Tryz.underlying34 h
  have h0 := hf 0 _ rfl
  have h1 := hf 1 _ rfl
  have h2 := hf 2 _ rfl
  have h3 := hf 3 _ rfl
  rw [cells34] at hl
  match xs, hlen, cs, hl with
  | [y0, y1, y2, y3], _, [c0, c1, c2, c3, c4], _ =>
    obtain ⟨s0, e0, _⟩ := DataW.trod_string Tryz.underlying9 h0
    obtain ⟨b1, e1, _⟩ := DataW.trod_bool Tryz.underlying4 h1
    obtain ⟨s2, e2, _⟩ := DataW.trod_string Tryz.underlying9 h2
    obtain ⟨p3, e3⟩ := pair_of_trod h3
    simp [cells9, cells4, cells32] at e0 e1 e2 e3
    obtain ⟨e3, e4⟩ := e3
    subst e0 e1 e2 e3 e4
    exact ⟨⟨s0, b1, s2, p3⟩, k34_mk w _⟩
theorem open_entries {a : Option Addr} {len cap : Nat} {d : DataW H} {p : List MemPlace} (h : DataW.Trod enc Tryz.prog w base spare held 22 (.slice a len cap) d p) :
    ∃ l, l.length = len ∧ len ≤ cap ∧ Kd.C k34 w a l.length l := by
  obtain ⟨fuel, hf⟩ := h
  obtain ⟨A, n, c, xs, hcs, hl, hr⟩ := open_rows z34 Tryz.underlying22 cells34 ent_of_trod hf
  obtain rfl := hr.1
  simp [Value.cells] at hcs
  obtain ⟨rfl, rfl, rfl⟩ := hcs
  exact ⟨xs, rfl, hl, hr⟩
theorem below_of_trod {t : TypeId} {v : Value} {d : DataW H} {p : List MemPlace} (h : DataW.Trod enc Tryz.prog w base spare held t v d p) : ∀ x ∈ p, x.block < w.heap.size := by
  obtain ⟨m, hm⟩ := h
  exact DataW.trod_lt m _ _ _ hm
end
section
variable {H : Type} {enc : TypeId × Value → H} {P : Program} {w : World} {base : Nat} {spare : Nat → Bool} {held : Bool}
theorem trodAll_nil_mk : DataW.TrodAll enc P w base spare held [] [] [] [] := by simp [DataW.TrodAll]
theorem trodAll_cons_mk {t : TypeId} {ts : List TypeId} {v : Value} {vs : List Value} {d : DataW H} {ds : List (DataW H)} {p q : List MemPlace} (h : DataW.Trod enc P w base spare held t v d p) (hs : DataW.TrodAll enc P w base spare held ts vs ds q) :
    DataW.TrodAll enc P w base spare held (t :: ts) (v :: vs) (d :: ds) (p ++ q) := by
  exact ⟨p, q, h, hs, rfl⟩
end
end Go.Proofs.YtlkmegeecmkkbaaGreatDoor.P
end

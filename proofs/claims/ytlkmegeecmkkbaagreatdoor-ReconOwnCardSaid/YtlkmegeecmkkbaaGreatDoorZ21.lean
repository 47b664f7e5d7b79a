/-
  A region's order by its table: for great regions. (Texts of this session.)
-/
import Derived.Test.YtlkmegeecmkkbaaGreatDoorZ7
import Derived.Test.YtlkmegeecmkkbaaGreatDoorZ0
namespace Go.Proofs.YtlkmegeecmkkbaaGreatDoor.P
open Go Go.RowKit Go.Proofs.YtlkmegeecmkkbaaGreatDoorW.PrintLast Go.Proofs.YtlkmegeecmkkbaaGreatDoorW.PrintWords
def uptoL (m n : Nat) : List Bool := (List.range m).map fun i => decide (i < n)
def seqT (T : Bool × List (List Nat × List Nat)) (evs : List Nat) : Bool :=
  (List.range T.2.length).all fun n => if evs.contains n then (readyT T.2 (uptoL T.2.length n) == [n] && (uptoL T.2.length n).set n true == uptoL T.2.length (n + 1)) else takeT T [] (uptoL T.2.length n) (uptoL T.2.length (n + 1)) n
theorem seqOK_of {ops : Array Oper} {T : Bool × List (List Nat × List Nat)} {evs : List Nat} (hT : rtab .any ops = T) (h : seqT T evs = true) : seqOK ops evs = true := by
  have hl : T.2.length = ops.size := by rw [← hT]; exact rtab_length
  unfold seqT at h
  rw [hl] at h
  unfold seqOK
  rw [List.all_eq_true] at h ⊢
  intro n hn
  have h1 := h n hn
  by_cases he : evs.contains n
  · rw [if_pos he] at h1 ⊢
    exact one_of hT h1
  · rw [if_neg he] at h1 ⊢
    exact take_of hT h1
end Go.Proofs.YtlkmegeecmkkbaaGreatDoor.P

/-
  recon.known: its contract, proved by hand: a map whose elements read as entries. (Texts of this session.)
-/
import Derived.Maps.RangeWalk
import Derived.Carry
import Derived.Maps.Ext
import Derived.Sort.KeysCollected
import Derived.Test.YtlkmegeecmkkbaaGreatDoorZ8
namespace Go.Proofs.YtlkmegeecmkkbaaGreatDoor.P
open Go.RowKit Go.Proofs.YtlkmegeecmkkbaaGreatDoorW.PrintWords Go.Proofs.YtlkmegeecmkkbaaGreatDoorW.PrintLast Go.Proofs.YtlkmegeecmkkbaaGreatDoorW.PrintMore
set_option linter.unusedVariables false
set_option linter.unusedSimpArgs false
def entV (e : S34) : Value := .agg #[.string e.f0, .bool e.f1, .string e.f2, .int .i64 e.f3.f0, .int .i64 e.f3.f1]
def entL : List Value → Option S34
  | [.string f, .bool h, .string d, .int .i64 x, .int .i64 y] => some ⟨f, h, d, ⟨x, y⟩⟩
  | _ => none
def entR : Value → Option (DataW S34 × List MemPlace)
  | .agg cs => (entL cs.toList).map (fun e => (.held e, []))
  | _ => none
theorem entR_mk (e : S34) : entR (entV e) = some (.held e, []) := rfl
theorem entL_inv {l : List Value} {e : S34} (h : entL l = some e) : l = [.string e.f0, .bool e.f1, .string e.f2, .int .i64 e.f3.f0, .int .i64 e.f3.f1] := by
  unfold entL at h
  split at h
  · cases h; rfl
  · cases h
theorem entR_inv {v : Value} {z : DataW S34 × List MemPlace} (h : entR v = some z) : ∃ e, v = entV e ∧ z = (.held e, []) := by
  unfold entR at h
  split at h
  · rename_i cs
    cases hl : entL cs.toList with
    | none => rw [hl] at h; cases h
    | some e =>
      rw [hl] at h
      refine ⟨e, ?_, by simpa using h.symm⟩
      have := entL_inv hl
      unfold entV
      congr 1
      exact Array.toList_inj.1 this
  · cases h
def keyE (p : ByteArray) : Lit := .string p.data.toList
def mapOf (l : List S34) : DataW S34 := l.foldl (fun m e => m.put (keyE e.f0) (.held e)) (.map [])
theorem mapOf_snoc (l : List S34) (e : S34) : mapOf (l ++ [e]) = (mapOf l).put (keyE e.f0) (.held e) := by simp [mapOf, List.foldl_append]
theorem und_map : Tryz.prog.underlying 69 = some (.map 9 34) := by kernel_rfl
theorem keyed_str : Go.Maps.Keyed Tryz.prog 9 := Go.Maps.string_keyed Tryz.underlying9
theorem keyE_mk {p : ByteArray} (h : p.size < 4294967281) : keyOf Tryz.prog 9 (.string p) = some (keyE p) := Go.WideMaps.keyOf_string_mk Tryz.underlying9 (by unfold maxLen; omega)
set_option maxHeartbeats 4000000 in
set_option maxRecDepth 100000 in
theorem known_calls (A0 : Option Addr) (c0 : Nat) (l0 : List S34) (w : World) (hr0 : Kd.C k34 w A0 l0.length l0) (hc0 : l0.length ≤ c0) (hsh : shortE l0 = true) (hm : l0.length ≤ 4398046511103) :
    Calls Tryz.prog 46 #[.slice A0 l0.length c0] w fun e w' => e = .returned (.map (some w.heap.size)) ∧ w'.ownsMap Tryz.prog 9 entR w.heap.size l0.length (mapOf l0) ∧ Below w.heap.size w w' := by
  have HR0 := Aside0.mk hr0
  have HSH := Aside0.mk (fun x (hx : x ∈ l0) => (by simpa using List.all_eq_true.1 hsh x hx : x.f0.size < 4294967281))
  clear hr0 hsh
  have hu9 := Tryz.underlying9
  have hu34 := Tryz.underlying34
  have HM0 := Aside0.mk (World.ownsMap_made w Tryz.prog 9 entR)
  go_enter Tryz.func46, Tryz.ntmps46
  have hmk := run_makeMap (P := Tryz.prog) 69 w
  go_wp2
  clear hmk
  go_loopg [9] l0.length (fun gg s9 wr => ∃ kk : Nat, kk ≤ l0.length ∧ l0.length - kk ≤ gg ∧ s9 = .int .i64 kk ∧ Aside0 (wr.ownsMap Tryz.prog 9 entR w.heap.size kk (mapOf (l0.take kk))) ∧ Aside0 (Below w.heap.size w wr))
  case atStart => exact ⟨0, Nat.zero_le _, by omega, rfl, HM0, ⟨below_alloc (Below.refl _ w) _⟩⟩
  case round =>
    clear HM0
    obtain ⟨kk, hkk, hg, rfl, HO, HB⟩ := hrel
    by_cases hlt : kk < l0.length
    · have hltz : (kk : Int) < (l0.length : Int) := by omega
      obtain ⟨ad, e, hx0, hx1, hx2, hx3, hx4⟩ := at_T34 HR0.out (kk : Int) (by omega) hltz
      cases e
      rw [rd_T34_nat l0 kk hlt, Int.toNat_natCast] at hx0 hx1 hx2 hx3 hx4
      replace hx0 := pw_cell_below HB.out hx0
      replace hx1 := pw_cell_below HB.out hx1
      replace hx2 := pw_cell_below HB.out hx2
      replace hx3 := pw_cell_below HB.out hx3
      replace hx4 := pw_cell_below HB.out hx4
      have hst : Aside0 (mapOf (l0.take (kk + 1)) = (mapOf (l0.take kk)).put (keyE l0[kk].f0) (.held l0[kk])) := ⟨by rw [List.take_succ_eq_append_getElem hlt, mapOf_snoc]⟩
      have hkey := Aside0.mk (keyE_mk (HSH.out _ (List.getElem_mem hlt)))
      have hval := Aside0.mk (entR_mk l0[kk])
      have hkm : Aside0 (kk < maxLen) := ⟨by unfold maxLen; omega⟩
      clear HSH
      unfold entV at hval
      generalize mapOf (l0.take kk) = D at *
      generalize l0[kk] = en at *
      have HA := Aside0.mk (HO.out.alloc (.cells #[.string en.f0, .bool en.f1, .string en.f2, .int .i64 en.f3.f0, .int .i64 en.f3.f1] 34))
      have HBA := Aside0.mk (below_alloc HB.out (.cells #[.string en.f0, .bool en.f1, .string en.f2, .int .i64 en.f3.f0, .int .i64 en.f3.f1] 34))
      clear HO HB
      go_wp2_with (first | (at_mapUpdate; refine wpList_mapUpdate_own _ rfl _ _ _ 69 rfl 9 34 keyed_str und_map entR w.heap.size kk D rfl HA.out hkm.out _ _ (keyE en.f0) rfl rfl hkey.out (.held en) [] hval.out ?_; intro w1 hown1 hgrow1; rw [← hst.out] at hown1; have HO := Aside0.mk hown1; have HB := Aside0.mk (pw_below_grown HBA.out _ HBA.out.size hgrow1 (fun k hk => by cases hk; exact Nat.le_refl _)); clear hown1 hgrow1 HA HBA))
      go_roundg (l0.length - (kk + 1))
      case measure => omega
      case rel => exact ⟨kk + 1, by omega, by omega, by go_num, HO, HB⟩
    · have hk : kk = l0.length := by omega
      subst hk
      rw [List.take_length] at HO
      go_wp2
      go_ret
      exact ⟨rfl, HO.out, HB.out⟩
end Go.Proofs.YtlkmegeecmkkbaaGreatDoor.P

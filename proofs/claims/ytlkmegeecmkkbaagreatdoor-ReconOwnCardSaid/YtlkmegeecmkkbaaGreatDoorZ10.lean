/-
  slices.IndexFunc, slices.ContainsFunc over entries and strings, whatever the predicate; scan.find: contracts proved by hand. (Texts of this session.)
-/
import Derived.Test.YtlkmegeecmkkbaaGreatDoorZ5
namespace Go.Proofs.YtlkmegeecmkkbaaGreatDoor.P
open Go.RowKit Go.Proofs.YtlkmegeecmkkbaaGreatDoorW.PrintWords Go.Proofs.YtlkmegeecmkkbaaGreatDoorW.PrintLast Go.Proofs.YtlkmegeecmkkbaaGreatDoorW.PrintMore
set_option linter.unusedVariables false
set_option linter.unusedSimpArgs false
theorem rd_T34_nat' (l : List S34) (i : Nat) (h : i < l.length) : rd_T34 l (i : Int) = l[i] := by
  simp [rd_T34, List.getD_eq_getElem?_getD, List.getElem?_eq_getElem h]
theorem rdOf_nat' (l : List ByteArray) (i : Nat) (h : i < l.length) : rdOf ByteArray.empty l (i : Int) = l[i] := by
  simp [rdOf, List.getD_eq_getElem?_getD, List.getElem?_eq_getElem h]
set_option maxHeartbeats 2000000 in
set_option maxRecDepth 100000 in
theorem indexFunc_Entry (g : Nat) (lb : Array Value) (p : S34 → Bool) (eg : ∀ args w, (callFunc g args).run Tryz.prog w = .ok (.enter g args) w) (A0 : Option Addr) (c0 : Nat) (l0 : List S34) (w : World) (hr0 : Kd.C k34 w A0 l0.length l0) (hm : l0.length ≤ 140737488355328)
    (hp : ∀ i, (h : i < l0.length) → ∀ W, Below w.heap.size w W → Calls Tryz.prog g (#[.agg #[.string l0[i].f0, .bool l0[i].f1, .string l0[i].f2, .int .i64 l0[i].f3.f0, .int .i64 l0[i].f3.f1]] ++ lb) W fun e w' => e = .returned (.bool (p l0[i])) ∧ Below W.heap.size W w') :
    Calls Tryz.prog 115 #[.slice A0 l0.length c0, .func (.func g) #[] lb] w fun e w' => e = .returned (.int .i64 (idxP p l0)) ∧ Below w.heap.size w w' := by
  have HP := Aside0.mk hp
  have HR0 := Aside0.mk hr0
  clear hp hr0
  have hu := Tryz.underlying34
  go_enter Tryz.func115, Tryz.ntmps115
  go_wp2
  go_loopg [5, 8] l0.length (fun gg _ s8 wr => ∃ kk : Nat, kk ≤ l0.length ∧ l0.length - kk ≤ gg ∧ s8 = .int .i64 kk ∧ Aside0 (Below w.heap.size w wr) ∧ Aside0 (∀ j (h : j < l0.length), j < kk → p l0[j] = false))
  case atStart => exact ⟨0, Nat.zero_le _, by omega, rfl, ⟨Below.refl _ w⟩, ⟨fun j _ hj => absurd hj (Nat.not_lt_zero _)⟩⟩
  case round =>
    obtain ⟨kk, hkk, hg, rfl, HB, HA⟩ := hrel
    by_cases hlt : kk < l0.length
    · have hltz : (kk : Int) < (l0.length : Int) := by omega
      obtain ⟨ad, e, hx0, hx1, hx2, hx3, hx4⟩ := at_T34 HR0.out (kk : Int) (by omega) hltz
      cases e
      rw [rd_T34_nat' l0 kk hlt, Int.toNat_natCast] at hx0 hx1 hx2 hx3 hx4
      replace hx0 := (HB.out.cell (World.block_lt_of_cell? w _ hx0)).trans hx0
      replace hx1 := (HB.out.cell (World.block_lt_of_cell? w _ hx1)).trans hx1
      replace hx2 := (HB.out.cell (World.block_lt_of_cell? w _ hx2)).trans hx2
      replace hx3 := (HB.out.cell (World.block_lt_of_cell? w _ hx3)).trans hx3
      replace hx4 := (HB.out.cell (World.block_lt_of_cell? w _ hx4)).trans hx4
      have hcall := HP.out kk hlt wr HB.out
      have hit := idxP_hit p l0 kk hlt HA.out
      have HS : p l0[kk] = false → Aside0 (∀ j (h : j < l0.length), j < kk + 1 → p l0[j] = false) := fun h => ⟨fun j hj hjk => by
        by_cases e : j = kk
        · subst e; exact h
        · exact HA.out j hj (by omega)⟩
      generalize l0[kk] = y at hx0 hx1 hx2 hx3 hx4 hcall hit HS
      cases hq : p y with
      | true =>
        rw [hq] at hcall
        have hit := Aside0.mk (hit hq)
        clear HS hq
        have HC := Aside0.mk hcall
        clear hcall
        go_wp2_with (go_at_fn g; refine HC.out.mono ?_; rintro e w' ⟨rfl, hb'⟩)
        go_ret
        exact ⟨by rw [hit.out]; rfl, below_then HB.out HB.out.size hb'⟩
      | false =>
        rw [hq] at hcall
        have HS := HS hq
        clear hit hq
        have HC := Aside0.mk hcall
        clear hcall
        go_wp2_with (go_at_fn g; refine HC.out.mono ?_; rintro e w' ⟨rfl, hb'⟩)
        go_roundg (l0.length - (kk + 1))
        case measure => omega
        case rel => exact ⟨kk + 1, by omega, by omega, by go_num, ⟨below_then HB.out HB.out.size hb'⟩, HS⟩
    · have hltz : ¬ (kk : Int) < (l0.length : Int) := by omega
      have hmiss := Aside0.mk (idxP_miss p l0 (fun j hj => HA.out j hj (by omega)))
      clear HA HP
      go_wp2
      go_ret
      exact ⟨by rw [hmiss.out]; rfl, HB.out⟩
set_option maxHeartbeats 2000000 in
set_option maxRecDepth 100000 in
theorem indexFunc_string (g : Nat) (lb : Array Value) (p : ByteArray → Bool) (eg : ∀ args w, (callFunc g args).run Tryz.prog w = .ok (.enter g args) w) (A0 : Option Addr) (c0 : Nat) (l0 : List ByteArray) (w : World) (hr0 : Kd.C Kd.string w A0 l0.length l0) (hm : l0.length ≤ 140737488355328)
    (hp : ∀ i, (h : i < l0.length) → ∀ W, Below w.heap.size w W → Calls Tryz.prog g (#[.string l0[i]] ++ lb) W fun e w' => e = .returned (.bool (p l0[i])) ∧ Below W.heap.size W w') :
    Calls Tryz.prog 126 #[.slice A0 l0.length c0, .func (.func g) #[] lb] w fun e w' => e = .returned (.int .i64 (idxP p l0)) ∧ Below w.heap.size w w' := by
  have HP := Aside0.mk hp
  have HR0 := Aside0.mk hr0
  clear hp hr0
  go_enter Tryz.func126, Tryz.ntmps126
  go_wp2
  go_loopg [5, 8] l0.length (fun gg _ s8 wr => ∃ kk : Nat, kk ≤ l0.length ∧ l0.length - kk ≤ gg ∧ s8 = .int .i64 kk ∧ Aside0 (Below w.heap.size w wr) ∧ Aside0 (∀ j (h : j < l0.length), j < kk → p l0[j] = false))
  case atStart => exact ⟨0, Nat.zero_le _, by omega, rfl, ⟨Below.refl _ w⟩, ⟨fun j _ hj => absurd hj (Nat.not_lt_zero _)⟩⟩
  case round =>
    obtain ⟨kk, hkk, hg, rfl, HB, HA⟩ := hrel
    by_cases hlt : kk < l0.length
    · have hltz : (kk : Int) < (l0.length : Int) := by omega
      obtain ⟨ad, e, hx0⟩ := Kd.at_string HR0.out (kk : Int) (by omega) hltz
      cases e
      rw [rdOf_nat' l0 kk hlt, Int.toNat_natCast] at hx0
      replace hx0 := (HB.out.cell (World.block_lt_of_cell? w _ hx0)).trans hx0
      have hcall := HP.out kk hlt wr HB.out
      have hit := idxP_hit p l0 kk hlt HA.out
      have HS : p l0[kk] = false → Aside0 (∀ j (h : j < l0.length), j < kk + 1 → p l0[j] = false) := fun h => ⟨fun j hj hjk => by
        by_cases e : j = kk
        · subst e; exact h
        · exact HA.out j hj (by omega)⟩
      generalize l0[kk] = y at hx0 hcall hit HS
      cases hq : p y with
      | true =>
        rw [hq] at hcall
        have hit := Aside0.mk (hit hq)
        clear HS hq
        have HC := Aside0.mk hcall
        clear hcall
        go_wp2_with (go_at_fn g; refine HC.out.mono ?_; rintro e w' ⟨rfl, hb'⟩)
        go_ret
        exact ⟨by rw [hit.out]; rfl, below_then HB.out HB.out.size hb'⟩
      | false =>
        rw [hq] at hcall
        have HS := HS hq
        clear hit hq
        have HC := Aside0.mk hcall
        clear hcall
        go_wp2_with (go_at_fn g; refine HC.out.mono ?_; rintro e w' ⟨rfl, hb'⟩)
        go_roundg (l0.length - (kk + 1))
        case measure => omega
        case rel => exact ⟨kk + 1, by omega, by omega, by go_num, ⟨below_then HB.out HB.out.size hb'⟩, HS⟩
    · have hltz : ¬ (kk : Int) < (l0.length : Int) := by omega
      have hmiss := Aside0.mk (idxP_miss p l0 (fun j hj => HA.out j hj (by omega)))
      clear HA HP
      go_wp2
      go_ret
      exact ⟨by rw [hmiss.out]; rfl, HB.out⟩
set_option maxHeartbeats 2000000 in
theorem containsFunc_string (g : Nat) (lb : Array Value) (p : ByteArray → Bool) (eg : ∀ args w, (callFunc g args).run Tryz.prog w = .ok (.enter g args) w) (A0 : Option Addr) (c0 : Nat) (l0 : List ByteArray) (w : World) (hr0 : Kd.C Kd.string w A0 l0.length l0) (hm : l0.length ≤ 140737488355328)
    (hp : ∀ i, (h : i < l0.length) → ∀ W, Below w.heap.size w W → Calls Tryz.prog g (#[.string l0[i]] ++ lb) W fun e w' => e = .returned (.bool (p l0[i])) ∧ Below W.heap.size W w') :
    Calls Tryz.prog 90 #[.slice A0 l0.length c0, .func (.func g) #[] lb] w fun e w' => e = .returned (.bool (l0.any p)) ∧ Below w.heap.size w w' := by
  have HC := Aside0.mk (indexFunc_string g lb p eg A0 c0 l0 w hr0 hm hp)
  have ha := Aside0.mk (idxP_any p l0)
  clear hp hr0
  generalize idxP p l0 = r at HC ha
  go_enter Tryz.func90, Tryz.ntmps90
  go_wp2_with (go_at_call 126; refine HC.out.mono ?_; rintro e w' ⟨rfl, hb'⟩)
  go_ret
  exact ⟨by rw [← ha.out]; rfl, hb'⟩
def scan_find.f (l0 : List S34) (a1 : ByteArray) : Option Int := if l0.length ≤ 140737488355328 then some (idxP (fun e => e.f0.toList == a1.toList) l0) else none
theorem find_pred (B : Nat) (p f : ByteArray) (h : Bool) (d : ByteArray) (x y : Int) (w W : World) (hb : Below w.heap.size w W) (hB : B < w.heap.size) (hc : w.cell? ⟨B, 0, none⟩ = some (.string p)) :
    Calls Tryz.prog 116 (#[.agg #[.string f, .bool h, .string d, .int .i64 x, .int .i64 y]] ++ #[.pointer (some ⟨B, 0, none⟩)]) W fun e w' => e = .returned (.bool (f.toList == p.toList)) ∧ Below W.heap.size W w' := by
  have hc' : W.cell? ⟨B, 0, none⟩ = some (.string p) := (hb.cell (p := ⟨B, 0, none⟩) hB).trans hc
  have hBW : B < W.heap.size := Nat.lt_of_lt_of_le hB hb.size
  have hne : B ≠ W.heap.size := by omega
  clear hc hB hb
  show Calls Tryz.prog 116 #[.agg #[.string f, .bool h, .string d, .int .i64 x, .int .i64 y], .pointer (some ⟨B, 0, none⟩)] W _
  go_enter Tryz.func116, Tryz.ntmps116
  go_wp2
  go_ret
  exact ⟨rfl, (Below.refl _ _).alloc (Nat.le_refl _) _⟩
set_option maxHeartbeats 1000000 in
theorem scan_find.calls (A0 : Option Addr) (c0 : Nat) (l0 : List S34) (a1 : ByteArray) (r : Int) (w : World) (hr0 : Kd.C k34 w A0 l0.length l0) (hc0 : l0.length ≤ c0) (h : scan_find.f l0 a1 = some r) :
    Calls Tryz.prog 73 #[.slice A0 l0.length c0, .string a1] w fun e w' => e = .returned (.int .i64 r) ∧ Below w.heap.size w w' := by
  unfold scan_find.f at h
  split at h
  case isFalse => cases h
  rename_i hm
  obtain rfl := Option.some.inj h
  clear h
  have hbW : Below w.heap.size w (w.alloc (.cells #[.string a1] 9)) := (Below.refl _ _).alloc (Nat.le_refl _) _
  have HI := Aside0.mk (indexFunc_Entry 116 #[.pointer (some ⟨w.heap.size, 0, none⟩)] (fun e => e.f0.toList == a1.toList) (enters_of Tryz.func116 (by kernel_rfl) rfl) A0 c0 l0 (w.alloc (.cells #[.string a1] 9)) (Kd.C_below hr0 hbW) hm
    (fun i hi W hb' => find_pred w.heap.size a1 l0[i].f0 l0[i].f1 l0[i].f2 l0[i].f3.f0 l0[i].f3.f1 _ W hb' (by simp) (by simp)))
  have hbW := Aside0.mk hbW
  clear hr0
  generalize idxP (fun e : S34 => e.f0.toList == a1.toList) l0 = r at *
  go_enter Tryz.func73, Tryz.ntmps73
  go_wp2_with fail
  refine HI.out.mono ?_
  rintro e w1 ⟨rfl, hb1⟩
  go_wp2_with fail
  go_ret
  exact ⟨rfl, below_then hbW.out hbW.out.size hb1⟩
end Go.Proofs.YtlkmegeecmkkbaaGreatDoor.P

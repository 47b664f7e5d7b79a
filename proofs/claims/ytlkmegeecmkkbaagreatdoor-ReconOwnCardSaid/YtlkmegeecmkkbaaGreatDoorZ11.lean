/-
  recon.may: its contract, proved by hand. (Texts of this session.)
-/
import Derived.Test.YtlkmegeecmkkbaaGreatDoorZ8
import Derived.Test.YtlkmegeecmkkbaaGreatDoorZ10
namespace Go.Proofs.YtlkmegeecmkkbaaGreatDoor.P
open Go.RowKit Go.Proofs.YtlkmegeecmkkbaaGreatDoorW.PrintWords Go.Proofs.YtlkmegeecmkkbaaGreatDoorW.PrintLast Go.Proofs.YtlkmegeecmkkbaaGreatDoorW.PrintMore
set_option linter.unusedVariables false
set_option linter.unusedSimpArgs false
def namesL (l : List S34) : List ByteArray := (l.filter (·.f1)).map (·.f0)
def clashL (fs : List ByteArray) : Bool := fs.any (fun f => fs.any (fun x => clashB f x))
def mayI (l : List S34) : Int := if 32 < l.length ∨ 16 < (namesL l).length then 2 else if clashL (namesL l) = true then 6 else 0
def recon_may.f (l : List S34) : Option Int := if shortE l = true ∧ l.length ≤ 4398046511103 then some (mayI l) else none
theorem namesL_take_succ (l : List S34) (i : Nat) (h : i < l.length) : namesL (l.take (i + 1)) = if l[i].f1 = true then namesL (l.take i) ++ [l[i].f0] else namesL (l.take i) := by
  rw [List.take_succ_eq_append_getElem h]
  unfold namesL
  rw [List.filter_append, List.map_append]
  cases hb : l[i].f1 with
  | true => simp [List.filter_cons, hb]
  | false => simp [List.filter_cons, hb]
theorem namesL_length (l : List S34) : (namesL l).length ≤ l.length := by
  unfold namesL; rw [List.length_map]; exact List.length_filter_le _ _
theorem namesL_short {l : List S34} (h : shortE l = true) : ∀ x ∈ namesL l, x.size < 4294967281 := by
  intro x hx
  unfold namesL at hx
  obtain ⟨e, he, rfl⟩ := List.mem_map.1 hx
  simpa using List.all_eq_true.1 h e (List.mem_filter.1 he).1
theorem clash_pred (B : Nat) (f d : ByteArray) (w W : World) (hb : Below w.heap.size w W) (hB : B < w.heap.size) (hc : w.cell? ⟨B, 0, none⟩ = some (.string f)) (hf : f.size < 4294967281) (hd : d.size < 4294967281) :
    Calls Tryz.prog 91 (#[.string d] ++ #[.pointer (some ⟨B, 0, none⟩)]) W fun e w' => e = .returned (.bool (clashB f d)) ∧ Below W.heap.size W w' := by
  have hc' : W.cell? ⟨B, 0, none⟩ = some (.string f) := (hb.cell (p := ⟨B, 0, none⟩) hB).trans hc
  have HU := Aside0.mk (fun W' => clash_calls f d W' hf hd)
  clear hc hb
  show Calls Tryz.prog 91 #[.string d, .pointer (some ⟨B, 0, none⟩)] W _
  go_enter Tryz.func91, Tryz.ntmps91
  go_wp2_with (go_at_call 92; refine (HU.out _).mono ?_; rintro e w' ⟨rfl, hb'⟩)
  go_ret
  exact ⟨rfl, hb'⟩
set_option maxHeartbeats 4000000 in
set_option maxRecDepth 100000 in
theorem recon_may.calls (A0 : Option Addr) (c0 : Nat) (l0 : List S34) (r : Int) (w : World) (hr0 : Kd.C k34 w A0 l0.length l0) (hc0 : l0.length ≤ c0) (h : recon_may.f l0 = some r) :
    Calls Tryz.prog 50 #[.slice A0 l0.length c0] w fun e w' => e = .returned (.int .i64 r) ∧ Below w.heap.size w w' := by
  unfold recon_may.f at h
  split at h
  case isFalse => cases h
  rename_i hs
  obtain ⟨hsh, hm⟩ := hs
  obtain rfl := Option.some.inj h
  have HR0 := Aside0.mk hr0
  clear h hr0
  have HNS := Aside0.mk (namesL_short hsh)
  clear hsh
  have hu9 := Tryz.underlying9
  have hu34 := Tryz.underlying34
  go_enter Tryz.func50, Tryz.ntmps50
  go_wp2
  go_loopg [3, 10] l0.length (fun gg s3 s10 wr => ∃ kk : Nat, kk ≤ l0.length ∧ l0.length - kk ≤ gg ∧ s10 = .int .i64 kk ∧ Aside0 (Kd.R Kd.string 9 wr w.heap.size (fun _ => True) s3 (namesL (l0.take kk))) ∧ Aside0 (Below w.heap.size w wr))
  case atStart => exact ⟨0, Nat.zero_le _, by omega, rfl, ⟨Kd.R_nil _ _ _ _ _⟩, ⟨Below.refl _ w⟩⟩
  case round =>
    obtain ⟨kk, hkk, hg, rfl, HO, HB⟩ := hrel
    by_cases hlt : kk < l0.length
    · have hltz : (kk : Int) < (l0.length : Int) := by omega
      obtain ⟨ad, e, hx0, hx1, hx2, hx3, hx4⟩ := at_T34 HR0.out (kk : Int) (by omega) hltz
      cases e
      rw [rd_T34_nat l0 kk hlt, Int.toNat_natCast] at hx0 hx1 hx2 hx3 hx4
      replace hx0 := pw_cell_below HB.out hx0
      replace hx1 := pw_cell_below HB.out hx1
      replace hx2 := pw_cell_below HB.out hx2
      replace hx3 := pw_cell_below HB.out hx3
      replace hx4 := pw_cell_below HB.out hx4
      have hst := Aside0.mk (namesL_take_succ l0 kk hlt)
      have hln : (namesL (l0.take kk)).length ≤ kk := Nat.le_trans (namesL_length _) (by simp; omega)
      have LM : Aside0 ((namesL (l0.take kk)).length < 4398046511104) := ⟨by omega⟩
      clear hln
      generalize namesL (l0.take kk) = acc at *
      generalize l0[kk].f0 = f at *
      generalize l0[kk].f1 = hh at *
      generalize l0[kk].f2 = dd at *
      generalize l0[kk].f3.f0 = cx at *
      generalize l0[kk].f3.f1 = cy at *
      cases hh with
      | true =>
        rw [if_pos rfl] at hst
        go_wp2_with (first | ((with_reducible refine gate_builtin (b := .append) (xs := #[.tmp 16, .tmp 19]) rfl ?_); at_builtin; refine Kd.R_append Kd.string (w0 := w) w.heap.size rfl (.tmp 16) (.tmp 19) 25 9 (.string ⟨#[]⟩) 16 rfl Tryz.underlying25 info9 rfl (by decide) (by omega) u3 acc f [.string f] (fun _ => True) (fun _ => False) rfl (by first | rfl | (go_simp; done) | (go_simp; rfl)) ?aP (fun _ hk => hk.elim) ?aF ?aO ?aB ?aS ?aL ?_; (case aP => exact rfl); (case aB => exact (by repeat (first | (with_reducible first | exact HB.out | apply below_alloc | apply pw_below_drewN | apply below_drew1) | exact HB.out))); (case aF => exact (fun _ _ => trivial)); (case aO => exact (by (with_reducible repeat (first | apply Kd.R_alloc | apply Kd.R_drewN | apply Kd.R_drew)); exact HO.out)); (case aS => exact (below_size (by repeat (first | (with_reducible first | exact HB.out | apply below_alloc | apply pw_below_drewN | apply below_drew1) | exact HB.out)))); (case aL => have := LM.out; omega); intro v116 w8 ho hb hg2 hat; rw [← hst.out] at ho; have n0_ := Aside0.mk (hb); have n1_ := Aside0.mk (ho); clear HB; clear HO; have HB := n0_; have HO := n1_; clear n0_ n1_; clear ho hb hg2 hat))
        go_roundg (l0.length - (kk + 1))
        case measure => omega
        case rel => exact ⟨kk + 1, by omega, by omega, by go_num, HO, HB⟩
      | false =>
        rw [if_neg (by decide)] at hst
        go_wp2
        go_roundg (l0.length - (kk + 1))
        case measure => omega
        case rel => exact ⟨kk + 1, by omega, by omega, by go_num, ⟨by rw [hst.out]; exact Kd.R_alloc HO.out _⟩, ⟨below_alloc HB.out _⟩⟩
    · have hk : kk = l0.length := by omega
      subst hk
      rw [List.take_length] at HO
      obtain ⟨A1, c1, e1, hl1, hC1⟩ := Kd.R_reads HO.out
      have hmb : Aside0 (mayI l0 = if 32 < l0.length ∨ 16 < (namesL l0).length then 2 else if clashL (namesL l0) = true then 6 else 0) := ⟨rfl⟩
      have hnl := namesL_length l0
      clear HR0 HO
      generalize hfs : namesL l0 = fs at *
      clear hfs
      subst e1
      have hC1 := Aside0.mk hC1
      by_cases h32 : 32 < l0.length
      · have h32z : decide ((32 : Int) < (l0.length : Int)) = true := by simp; omega
        rw [if_pos (Or.inl h32)] at hmb
        go_wp2
        go_ret
        exact ⟨by rw [hmb.out]; rfl, HB.out⟩
      · have h32z : decide ((32 : Int) < (l0.length : Int)) = false := by simp; omega
        by_cases h16 : 16 < fs.length
        · have h16z : decide ((16 : Int) < (fs.length : Int)) = true := by simp; omega
          rw [if_pos (Or.inr h16)] at hmb
          go_wp2
          go_ret
          exact ⟨by rw [hmb.out]; rfl, HB.out⟩
        · have h16z : decide ((16 : Int) < (fs.length : Int)) = false := by simp; omega
          rw [if_neg (by omega)] at hmb
          go_wp2
          go_loopg [32] fs.length (fun gg s32 W => ∃ kk : Nat, kk ≤ fs.length ∧ fs.length - kk ≤ gg ∧ s32 = .int .i64 kk ∧ Aside0 (Below w.heap.size w W) ∧ Aside0 (Below wr.heap.size wr W) ∧ Aside0 (∀ j (h : j < fs.length), j < kk → fs.any (fun x => clashB fs[j] x) = false))
          case atStart => exact ⟨0, Nat.zero_le _, by omega, rfl, HB, ⟨Below.refl _ _⟩, ⟨fun j _ hj => absurd hj (Nat.not_lt_zero _)⟩⟩
          case round =>
            clear HB
            obtain ⟨kk, hkk, hg, rfl, HB, HB1, HA⟩ := hrel
            by_cases hlt : kk < fs.length
            · have hltz : (kk : Int) < (fs.length : Int) := by omega
              obtain ⟨ad, e, hx0⟩ := Kd.at_string hC1.out (kk : Int) (by omega) hltz
              cases e
              rw [rdOf_nat' fs kk hlt, Int.toNat_natCast] at hx0
              replace hx0 := pw_cell_below HB1.out hx0
              have hbW : Below wr.heap.size wr (wr.alloc (.cells #[.string fs[kk]] 9)) := (Below.refl _ _).alloc (Nat.le_refl _) _
              have HC := Aside0.mk (containsFunc_string 91 #[.pointer (some ⟨wr.heap.size, 0, none⟩)] (fun x => clashB fs[kk] x) (enters_of Tryz.func91 (by kernel_rfl) rfl) (some ad) c1 fs (wr.alloc (.cells #[.string fs[kk]] 9)) (Kd.C_below (Kd.C_below hC1.out HB1.out) hbW) (by omega)
                (fun i hi W' hb' => clash_pred wr.heap.size fs[kk] fs[i] _ W' hb' (by simp) (by simp) (HNS.out _ (List.getElem_mem hlt)) (HNS.out _ (List.getElem_mem hi))))
              have hbW := Aside0.mk hbW
              have hend : Aside0 (fs.any (fun x => clashB fs[kk] x) = true → clashL fs = true) := ⟨fun h => List.any_eq_true.2 ⟨fs[kk], List.getElem_mem hlt, h⟩⟩
              have HS : Aside0 (fs.any (fun x => clashB fs[kk] x) = false → ∀ j (h : j < fs.length), j < kk + 1 → fs.any (fun x => clashB fs[j] x) = false) := ⟨fun h j hj hjk => by
                by_cases e : j = kk
                · subst e; exact h
                · exact HA.out j hj (by omega)⟩
              clear HNS
              generalize fs.any (fun x => clashB fs[kk] x) = an at HC hend HS
              generalize fs[kk] = f at hx0 HC hbW
              cases an with
              | true =>
                have hend := hend.out rfl
                rw [hend, if_pos rfl] at hmb
                clear hend HS HA
                go_wp2_with fail
                refine HC.out.mono ?_
                rintro e w2 ⟨rfl, hb2⟩
                go_wp2
                go_ret
                exact ⟨by rw [hmb.out]; rfl, below_then (below_then HB.out HB.out.size hbW.out) (Nat.le_trans HB.out.size hbW.out.size) hb2⟩
              | false =>
                have HS := Aside0.mk (HS.out rfl)
                clear hend
                go_wp2_with fail
                refine HC.out.mono ?_
                rintro e w2 ⟨rfl, hb2⟩
                have hb2 := Aside0.mk hb2
                go_wp2
                go_roundg (fs.length - (kk + 1))
                case measure => omega
                case rel => exact ⟨kk + 1, by omega, by omega, by go_num, ⟨below_then (below_then HB.out HB.out.size hbW.out) (Nat.le_trans HB.out.size hbW.out.size) hb2.out⟩, ⟨below_then (below_then HB1.out HB1.out.size hbW.out) (Nat.le_trans HB1.out.size hbW.out.size) hb2.out⟩, ⟨HS.out (by trivial)⟩⟩
            · have hltz : ¬ (kk : Int) < (fs.length : Int) := by omega
              have hmiss : Aside0 (clashL fs = false) := ⟨by
                unfold clashL
                rw [List.any_eq_false]
                intro x hx
                obtain ⟨j, hj, rfl⟩ := List.getElem_of_mem hx
                rw [HA.out j hj (by omega)]
                decide⟩
              rw [hmiss.out, if_neg (by decide)] at hmb
              go_wp2
              go_ret
              exact ⟨by rw [hmb.out]; rfl, HB.out⟩
end Go.Proofs.YtlkmegeecmkkbaaGreatDoor.P

/-
  recon.Settle: its contract, proved by hand. (Texts of this session.)
-/
import Derived.Test.YtlkmegeecmkkbaaGreatDoorZ18
import Derived.Test.YtlkmegeecmkkbaaGreatDoorZ19
import Derived.Test.YtlkmegeecmkkbaaGreatDoorZ14
import Derived.Test.YtlkmegeecmkkbaaGreatDoorZ7
namespace Go.Proofs.YtlkmegeecmkkbaaGreatDoor.P
open Go.RowKit Go.Maps Go.Proofs.YtlkmegeecmkkbaaGreatDoorW.PrintWords Go.Proofs.YtlkmegeecmkkbaaGreatDoorW.PrintLast Go.Proofs.YtlkmegeecmkkbaaGreatDoorW.PrintMore
attribute [local go_sem high] eqA32
set_option linter.unusedVariables false
set_option linter.unusedSimpArgs false
theorem merge_eq {l0 l1 : List S34} (h0 : shortE l0 = true) (h1 : shortE l1 = true) (n0 : l0.length ≤ 140737488351232 / 56) (n1 : l1.length ≤ 140737488351232 / 56) :
    recon_Merge.f l0 l1 = some (if archB l0 = true ∧ archB l1 = true then mergedR l0 l1 else ([], [], 1)) := by
  unfold recon_Merge.f mergedR
  rw [if_pos ⟨h0, h1, n0, n1⟩]
theorem set_shortE {l : List S34} (h : shortE l = true) (i : Nat) (e : S34) (he : e.f0.size < 4294967281) : shortE (l.set i e) = true := by
  unfold shortE at *
  rw [List.all_eq_true] at *
  intro x hx
  rcases List.mem_or_eq_of_mem_set hx with hx | rfl
  · exact h x hx
  · simpa using he
theorem field_Entry3 (a b c d e : Value) (W : World) : (Instr.field 34 (.agg #[a, b, c, d, e]) 3).run Tryz.prog W = .ok (.agg #[d, e]) W := by kernel_rfl
attribute [local go_sem] field_Entry3
theorem blk_lt_R {w : World} {base g n cap : Nat} {ok : Nat → Prop} {xs : List S34} (h : Kd.R k34 34 w base ok (.slice (some ⟨g, 0, none⟩) n cap) xs) : g < w.heap.size := by
  obtain ⟨inner, ho⟩ := Kd.R_own h
  obtain ⟨cells, hc⟩ := own_typed ho g (by simp [Value.ownBlock])
  exact blk_lt hc
set_option maxHeartbeats 8000000 in
set_option maxRecDepth 100000 in
theorem recon_Settle.calls (A0 : Option Addr) (c0 : Nat) (l0 : List S34) (A1 : Option Addr) (c1 : Nat) (l1 : List S34) (p : ByteArray) (take : Bool) (au : Int) (r1 : List S34) (r2 : Int) (w : World) (hr0 : Kd.C k34 w A0 l0.length l0) (hc0 : l0.length ≤ c0) (hr1 : Kd.C k34 w A1 l1.length l1) (hc1 : l1.length ≤ c1) (h : recon_Settle.f l0 l1 p take au = some (r1, r2)) :
    Calls Tryz.prog 23 #[.slice A0 l0.length c0, .slice A1 l1.length c1, .string p, .bool take, .int .i64 au] w fun e w' => ∃ v0_ : Value, e = .returned (.tuple #[v0_, .int .i64 r2]) ∧ Kd.R k34 34 w' w.heap.size (fun _ => True) v0_ r1 ∧ Below w.heap.size w w' := by
  unfold recon_Settle.f at h
  split at h
  case isFalse => cases h
  rename_i hs
  obtain ⟨hsh0, hsh1, hm0, hm1⟩ := hs
  replace h := Option.some.inj h
  have hM := merge_eq hsh0 hsh1 hm0 hm1
  have HR0 := Aside0.mk hr0
  have HR1 := Aside0.mk hr1
  have hu9 := Tryz.underlying9
  have hu34 := Tryz.underlying34
  have hu32 := Tryz.underlying32
  unfold settleI at h
  by_cases hg : (archB l0 = true ∧ archB l1 = true) ∧ mayI (outM l0 l1) = 0
  · obtain ⟨hA, hmz⟩ := hg
    rw [if_pos hA, if_pos hmz] at h
    rw [if_pos hA] at hM
    unfold mergedR at hM
    rw [if_pos hmz] at hM
    obtain ⟨hA0, hA1⟩ := hA
    have HM := Aside0.mk hM
    have hcl : ((confM l0 l1).map BAof).length ≤ 64 := by rw [List.length_map]; have := confM_length l0 l1; have := arch_len hA0; have := arch_len hA1; omega
    have hct := contains_eq ((confM l0 l1).map BAof) p (by omega)
    rw [conf_any] at hct
    clear hM hmz hr0 hr1
    cases hcf : isConf l0 l1 p.data.toList with
    | false =>
      rw [hcf] at hct h
      rw [if_neg (by decide)] at h
      have HCT := Aside0.mk hct
      have h := Aside0.mk h
      clear hct hcf
      generalize (confM l0 l1).map BAof = cs at *
      generalize outM l0 l1 = out at *
      go_enter Tryz.func23, Tryz.ntmps23
      go_wp2_with fail
      refine (recon_Merge.calls A0 c0 l0 A1 c1 l1 _ _ _ _ HR0.out hc0 HR1.out hc1 HM.out).mono ?_
      rintro e w1 ⟨v0, v1, rfl, hR0, hR1, hb1⟩
      have hb1 := Aside0.mk hb1
      obtain ⟨A2, c2, rfl, hl2, hC2⟩ := Kd.R_reads hR1
      have HC2 := Aside0.mk hC2
      clear hR0 hR1 hC2
      go_wp2_with fail
      refine (slices_Contains_string_string.calls _ A2 c2 cs p _ _ HC2.out hl2 HCT.out).mono ?_
      rintro e w2 ⟨rfl, hb2⟩
      have hb2 := Aside0.mk hb2
      go_wp2
      go_ret2
      obtain ⟨rfl, rfl⟩ : r1 = [] ∧ r2 = 3 := by have := h.out; injection this with e1 e2; exact ⟨e1.symm, e2.symm⟩
      exact ⟨.slice none 0 0, by rfl, Kd.R_nil _ _ _ _ _, below_step hb1.out (by first | exact hb2.out | exact hb2.out.below)⟩
    | true =>
      rw [hcf] at hct h
      rw [if_pos rfl] at h
      obtain ⟨ea, eb, hla, hlb, _⟩ := isConf_look hcf
      unfold settleR at h
      rw [hla, hlb] at h
      simp only at h
      obtain ⟨i, hi, hix, hia⟩ := idx_of_look hla
      obtain ⟨j, hj, hjx, hjb⟩ := idx_of_look hlb
      have hpl : placeE l0 p = i := by unfold placeE; rw [hix]; rfl
      rw [hpl] at h
      have hka := arch_clock hA0 ea (lookE_mem hla).1
      have hkb := arch_clock hA1 eb (lookE_mem hlb).1
      have hF0 := scan_Find_eq hA0 hsh0 p
      have hF1 := scan_Find_eq hA1 hsh1 p
      rw [hix] at hF0
      rw [hjx] at hF1
      have hwk := wasE_ok hka hkb
      have htk := tickI_ok (wasE ea eb) (by omega) au
      have hpsz : p.size < 4294967281 := by
        have h1 := shortE_of_mem hsh0 (lookE_mem hla).1
        have h2 := (lookE_mem hla).2
        unfold pathL at h2
        have h3 : ea.f0 = p := ByteArray.ext (Array.toList_inj.1 h2)
        rw [← h3]
        exact h1
      have hl0 : l0.length ≤ 32 := arch_len hA0
      have hmay : ∀ (e : S34), e.f0 = p → recon_may.f (l0.set i e) = some (mayI (l0.set i e)) := fun e he => by
        unfold recon_may.f
        rw [if_pos ⟨set_shortE hsh0 i e (by rw [he]; exact hpsz), by rw [List.length_set]; omega⟩]
      have HMAY := Aside0.mk hmay
      have HCP := Aside0.mk (show scan_Copy.f l0 = some l0 from by
        unfold scan_Copy.f clone_Entry.f
        rw [if_pos (by omega)]
        rfl)
      have HJ := Aside0.mk (joined_eq hka hkb)
      have HOF := Aside0.mk (clock_Of_eq hwk)
      have HTK := Aside0.mk (clock_Tick_eq hwk au)
      have HPR := Aside0.mk (clock_Pair_eq htk)
      have HCT := Aside0.mk hct
      have h := Aside0.mk h
      have HF0 := Aside0.mk hF0
      have HF1 := Aside0.mk hF1
      have HIA := Aside0.mk hia
      have HJB := Aside0.mk hjb
      have HHI := Aside0.mk hi
      have HHJ := Aside0.mk hj
      clear hct hcf hmay hF0 hF1 hia hjb hix hjx hpl hla hlb hwk htk hka hkb
      generalize (confM l0 l1).map BAof = cs at *
      generalize outM l0 l1 = out at *
      go_enter Tryz.func23, Tryz.ntmps23
      go_wp2_with fail
      refine (recon_Merge.calls A0 c0 l0 A1 c1 l1 _ _ _ _ HR0.out hc0 HR1.out hc1 HM.out).mono ?_
      rintro e w1 ⟨v0, v1, rfl, hR0, hR1, hb1⟩
      have hb1 := Aside0.mk hb1
      obtain ⟨A2, c2, rfl, hl2, hC2⟩ := Kd.R_reads hR1
      have HC2 := Aside0.mk hC2
      clear hR0 hR1 hC2
      go_wp2_with fail
      refine (slices_Contains_string_string.calls _ A2 c2 cs p _ _ HC2.out hl2 HCT.out).mono ?_
      rintro e w2 ⟨rfl, hb2⟩
      have hb2 := Aside0.mk (below_step hb1.out (by first | exact hb2 | exact hb2.below))
      go_wp2_with fail
      refine (scan_Copy.calls A0 c0 l0 l0 _ (Kd.C_below HR0.out hb2.out) hc0 HCP.out).mono ?_
      rintro e w3 ⟨v3, rfl, hR3, hb3⟩
      have HB := Aside0.mk (below_step hb2.out hb3)
      have hR3 := Kd.R_lower hR3 hb2.out.size
      obtain ⟨g, cap, rfl, hgb, hgl, _⟩ := Kd.R_form hR3 (by omega)
      have HO := Aside0.mk hR3
      clear hb1 hb2 hb3 hR3
      have HC0 := Aside0.mk (fun W (hb : Below w3.heap.size w3 W) => scan_Find.calls A0 c0 l0 p _ W (Kd.C_below HR0.out (below_step HB.out hb)) hc0 HF0.out)
      have HC1 := Aside0.mk (fun W (hb : Below w3.heap.size w3 W) => scan_Find.calls A1 c1 l1 p _ W (Kd.C_below HR1.out (below_step HB.out hb)) hc1 HF1.out)
      go_wp2_with fail
      obtain ⟨ad1, e1, y0, y1, y2, y3, y4⟩ := at_T34 HR1.out (j : Int) (by omega) (by have := HHJ.out; omega)
      cases e1
      rw [rd_T34_nat l1 j HHJ.out, HJB.out, Int.toNat_natCast] at y0 y1 y2 y3 y4
      have Y0 := Aside0.mk (pw_cell_below HB.out y0)
      have Y1 := Aside0.mk (pw_cell_below HB.out y1)
      have Y2 := Aside0.mk (pw_cell_below HB.out y2)
      have Y3 := Aside0.mk (pw_cell_below HB.out y3)
      have Y4 := Aside0.mk (pw_cell_below HB.out y4)
      clear y0 y1 y2 y3 y4
      have HIi := HHI.out
      have HJj := HHJ.out
      have i0 : (0 : Int) ≤ (i : Int) := by omega
      have i1 : (i : Int) < (l0.length : Int) := by omega
      have j0 : (0 : Int) ≤ (j : Int) := by omega
      have j1 : (j : Int) < (l1.length : Int) := by omega
      go_cut [16, 17] (fun v16 v17 W => ∃ g17 : Nat, v16 = .pointer (some ⟨g, i * 5, none⟩) ∧ v17 = .pointer (some ⟨g17, 0, none⟩) ∧ Aside0 (W.heap[g17]? = some (.cells #[.string eb.f0, .bool eb.f1, .string eb.f2, .int .i64 eb.f3.f0, .int .i64 eb.f3.f1] 34 (0, 0))) ∧ Aside0 (w.heap.size ≤ g17 ∧ g ≠ g17) ∧ Aside0 (Kd.R k34 34 W w.heap.size (fun k => k = g) (.slice (some ⟨g, 0, none⟩) l0.length cap) l0) ∧ Aside0 (Below w.heap.size w W))
      case first =>
        refine start_ (n := 14) (S := fun w' => Below w3.heap.size w3 w') (ds := [13]) #[false, false, false, false, false, false, false, false, false, false, false, false, false, false] (by kernel_rfl) rfl rfl (below_drew (Below.refl _ _)) (fun hHeld => ?_)
        refine take_ (i := 0) (N := some 38) (v := ?_) (a' := ?_) #[true, false, false, false, false, false, false, false, false, false, false, false, false, false] rfl rfl (by kernel_rfl) (fun _ _ _ h => h) (Or.inl ⟨by rfl, ?_⟩) hHeld ?_ ?_
        rotate_left
        · rintro w' hS
          go_simp
          with_reducible rfl
        rotate_left
        · simp only [Act.put, List.setIfInBounds_toArray, List.set_cons_zero, List.set_cons_succ, i64_w, i32_w]
          rfl
        refine take_ (i := 1) (N := some 39) (v := ?_) (a' := ?_) #[true, true, false, false, false, false, false, false, false, false, false, false, false, false] rfl rfl (by kernel_rfl) (fun _ _ _ h => h) (Or.inl ⟨by rfl, ?_⟩) hHeld ?_ ?_
        rotate_left
        · rintro w' hS
          go_simp
          with_reducible rfl
        rotate_left
        · simp only [Act.put, List.setIfInBounds_toArray, List.set_cons_zero, List.set_cons_succ, i64_w, i32_w]
          rfl
        refine take_ (i := 2) (N := some 40) (v := ?_) (a' := ?_) #[true, true, true, false, false, false, false, false, false, false, false, false, false, false] rfl rfl (by kernel_rfl) (fun _ _ _ h => h) (Or.inl ⟨by rfl, ?_⟩) hHeld ?_ ?_
        rotate_left
        · rintro w' hS
          go_simp
          with_reducible rfl
        rotate_left
        · simp only [Act.put, List.setIfInBounds_toArray, List.set_cons_zero, List.set_cons_succ, i64_w, i32_w]
          rfl
        refine take_ (i := 5) (N := some 43) (v := ?_) (a' := ?_) #[true, true, true, false, false, true, false, false, false, false, false, false, false, false] rfl rfl (by kernel_rfl) (fun _ _ _ h => h) (Or.inl ⟨by rfl, ?_⟩) hHeld ?_ ?_
        rotate_left
        · rintro w' hS
          go_simp
          with_reducible rfl
        rotate_left
        · simp only [Act.put, List.setIfInBounds_toArray, List.set_cons_zero, List.set_cons_succ, i64_w, i32_w]
          rfl
        refine take_ (i := 6) (N := some 44) (v := ?_) (a' := ?_) #[true, true, true, false, false, true, true, false, false, false, false, false, false, false] rfl rfl (by kernel_rfl) (fun _ _ _ h => h) (Or.inl ⟨by rfl, ?_⟩) hHeld ?_ ?_
        rotate_left
        · rintro w' hS
          go_simp
          with_reducible rfl
        rotate_left
        · simp only [Act.put, List.setIfInBounds_toArray, List.set_cons_zero, List.set_cons_succ, i64_w, i32_w]
          rfl
        refine take_ (i := 7) (N := some 45) (v := ?_) (a' := ?_) #[true, true, true, false, false, true, true, true, false, false, false, false, false, false] rfl rfl (by kernel_rfl) (fun _ _ _ h => h) (Or.inl ⟨by rfl, ?_⟩) hHeld ?_ ?_
        rotate_left
        · rintro w' hS
          go_simp
          with_reducible rfl
        rotate_left
        · simp only [Act.put, List.setIfInBounds_toArray, List.set_cons_zero, List.set_cons_succ, i64_w, i32_w]
          rfl
        refine two_ (i := 3) (j := 11) (Ni := some 41) (Nj := some 17) #[true, true, true, true, false, true, true, true, false, false, false, false, false, false] #[true, true, true, false, false, true, true, true, false, false, false, true, false, false] rfl rfl rfl rfl (by kernel_rfl) (by decide) (by decide) (fun K hK => ?_) (fun K hK => ?_)
        · refine goes_ Tryz.func28 (by kernel_rfl) rfl #[.slice A0 l0.length c0, .string p] (by rfl) rfl rfl (by (try simp only [List.map_toArray, List.map_cons, List.map_nil]); first | done | rfl) ?_
          with_reducible refine (HC0.out _ hHeld).mono ?_
          rintro e w7_3 ⟨rfl, hb7_3⟩
          refine ⟨_, rfl, ?_⟩
          have HB7_3 := Aside0.mk (below_step hHeld hb7_3)
          refine hK.out _ _ HB7_3.out (fun hHeld => ?_)
          clear hK K
          refine norm_ (a' := ?_) ?_ ?_
          rotate_left
          · show Act.put _ (some 41) _ = _
            simp only [Act.put, List.setIfInBounds_toArray, List.set_cons_zero, List.set_cons_succ, i64_w, i32_w]
            rfl
          refine take_ (i := 4) (N := some 42) (v := ?_) (a' := ?_) #[true, true, true, true, true, true, true, true, false, false, false, false, false, false] rfl rfl (by kernel_rfl) (fun _ _ _ h => h) (Or.inl ⟨by rfl, ?_⟩) hHeld ?_ ?_
          rotate_left
          · rintro w' hS
            go_simp
            with_reducible rfl
          rotate_left
          · simp only [Act.put, List.setIfInBounds_toArray, List.set_cons_zero, List.set_cons_succ, i64_w, i32_w]
            rfl
          refine two_ (i := 8) (j := 11) (Ni := some 46) (Nj := some 17) #[true, true, true, true, true, true, true, true, true, false, false, false, false, false] #[true, true, true, true, true, true, true, true, false, false, false, true, false, false] rfl rfl rfl rfl (by kernel_rfl) (by decide) (by decide) (fun K hK => ?_) (fun K hK => ?_)
          · refine goes_ Tryz.func28 (by kernel_rfl) rfl #[.slice (some ad1) l1.length c1, .string p] (by rfl) rfl rfl (by (try simp only [List.map_toArray, List.map_cons, List.map_nil]); first | done | rfl) ?_
            with_reducible refine (HC1.out _ hHeld).mono ?_
            rintro e w7_8 ⟨rfl, hb7_8⟩
            refine ⟨_, rfl, ?_⟩
            have HB7_8 := Aside0.mk (below_step HB7_3.out hb7_8)
            refine hK.out _ _ HB7_8.out (fun hHeld => ?_)
            clear hK K
            refine norm_ (a' := ?_) ?_ ?_
            rotate_left
            · show Act.put _ (some 46) _ = _
              simp only [Act.put, List.setIfInBounds_toArray, List.set_cons_zero, List.set_cons_succ, i64_w, i32_w]
              rfl
            refine take_ (i := 9) (N := some 47) (v := ?_) (a' := ?_) #[true, true, true, true, true, true, true, true, true, true, false, false, false, false] rfl rfl (by kernel_rfl) (fun _ _ _ h => h) (Or.inl ⟨by rfl, ?_⟩) hHeld ?_ ?_
            rotate_left
            · rintro w' hS
              go_simp
              with_reducible rfl
            rotate_left
            · simp only [Act.put, List.setIfInBounds_toArray, List.set_cons_zero, List.set_cons_succ, i64_w, i32_w]
              rfl
            refine take_ (i := 10) (N := some 48) (v := ?_) (a' := ?_) #[true, true, true, true, true, true, true, true, true, true, true, false, false, false] rfl rfl (by kernel_rfl) (fun _ _ _ h => h) (Or.inl ⟨by rfl, ?_⟩) hHeld ?_ ?_
            rotate_left
            · rintro w' hS
              have z0_ := pw_cell_below hS Y0.out
              have z1_ := pw_cell_below hS Y1.out
              have z2_ := pw_cell_below hS Y2.out
              have z3_ := pw_cell_below hS Y3.out
              have z4_ := pw_cell_below hS Y4.out
              go_simp
              with_reducible rfl
            rotate_left
            · simp only [Act.put, List.setIfInBounds_toArray, List.set_cons_zero, List.set_cons_succ, i64_w, i32_w]
              rfl
            refine one_ (i := 11) (N := some 17) #[true, true, true, true, true, true, true, true, true, true, true, true, false, false] rfl rfl (by kernel_rfl) (by decide) (fun K hK => ?_)
            refine box_step (by rfl) rfl (by go_simp; rfl) ?_
            intro g7_11 hg_ w7_11 hh_ hb7_11
            have hh7_11 := Aside0.mk hh_
            have hz7_11 := Aside0.mk (show w3.heap.size ≤ g7_11 from by rw [hg_]; exact hHeld.size)
            clear hg_ hh_
            have HB7_11 := Aside0.mk (below_step HB7_8.out hb7_11)
            refine hK.out _ _ HB7_11.out (fun hHeld => ?_)
            clear hK K
            refine norm_ (a' := ?_) ?_ ?_
            rotate_left
            · show Act.put _ (some 17) _ = _
              simp only [Act.put, List.setIfInBounds_toArray, List.set_cons_zero, List.set_cons_succ, i64_w, i32_w]
              rfl
            refine take_ (i := 12) (N := some 16) (v := ?_) (a' := ?_) #[true, true, true, true, true, true, true, true, true, true, true, true, true, false] rfl rfl (by kernel_rfl) (fun _ _ _ h => h) (Or.inl ⟨by rfl, ?_⟩) hHeld ?_ ?_
            rotate_left
            · rintro w' hS
              go_simp
              with_reducible rfl
            rotate_left
            · simp only [Act.put, List.setIfInBounds_toArray, List.set_cons_zero, List.set_cons_succ, i64_w, i32_w]
              rfl
            refine last_ (i := 13) (N := none) #[true, true, true, true, true, true, true, true, true, true, true, true, true, true] rfl rfl (by kernel_rfl) (by decide) (fun K hK => ?_)
            refine block_step (by rfl) rfl hh7_11.out (seg := [.string eb.f0, .bool eb.f1, .string eb.f2, .int .i64 eb.f3.f0, .int .i64 eb.f3.f1]) (by rfl) (by rfl) rfl (by kernel_rfl) rfl (by simp [Value.oneCell']) ?_
            intro w7_13 hh_ hg_
            have hh7_13 := Aside0.mk hh_
            have hg7_13 := Aside0.mk hg_
            clear hh_ hg_
            refine hK.out _ _ ?_
            clear hK K
            refine norm_ (a' := ?_) ?_ ?_
            rotate_left
            · show Act.put _ (none) _ = _
              simp only [Act.put, List.setIfInBounds_toArray, List.set_cons_zero, List.set_cons_succ, i64_w, i32_w]
              rfl
            refine done_ (by kernel_rfl) ?_
            have hz_ := hz7_11.out
            have hq_ := HB.out.size
            go_wp2
            go_meet
            case rel => exact ⟨g7_11, rfl, rfl, hh7_13, ⟨by omega, by omega⟩, ⟨Kd.R_grown (Kd.R_below (R_only HO.out) HB7_11.out) hg7_13.out (fun k hk e => by injection e with e; omega)⟩, ⟨pw_below_grown (below_step HB.out HB7_11.out) (some g7_11) (below_step HB.out HB7_11.out).size hg7_13.out (fun k hk => by cases hk; omega)⟩⟩
          · refine box_step (by rfl) rfl (by go_simp; rfl) ?_
            intro g7_11 hg_ w7_11 hh_ hb7_11
            have hh7_11 := Aside0.mk hh_
            have hz7_11 := Aside0.mk (show w3.heap.size ≤ g7_11 from by rw [hg_]; exact hHeld.size)
            clear hg_ hh_
            have HB7_11 := Aside0.mk (below_step HB7_3.out hb7_11)
            refine hK.out _ _ HB7_11.out (fun hHeld => ?_)
            clear hK K
            refine norm_ (a' := ?_) ?_ ?_
            rotate_left
            · show Act.put _ (some 17) _ = _
              simp only [Act.put, List.setIfInBounds_toArray, List.set_cons_zero, List.set_cons_succ, i64_w, i32_w]
              rfl
            refine one_ (i := 8) (N := some 46) #[true, true, true, true, true, true, true, true, true, false, false, true, false, false] rfl rfl (by kernel_rfl) (by decide) (fun K hK => ?_)
            refine goes_ Tryz.func28 (by kernel_rfl) rfl #[.slice (some ad1) l1.length c1, .string p] (by rfl) rfl rfl (by (try simp only [List.map_toArray, List.map_cons, List.map_nil]); first | done | rfl) ?_
            with_reducible refine (HC1.out _ hHeld).mono ?_
            rintro e w7_8 ⟨rfl, hb7_8⟩
            refine ⟨_, rfl, ?_⟩
            have hh7_11 := Aside0.mk (blk_below hh7_11.out hb7_8)
            have HB7_8 := Aside0.mk (below_step HB7_11.out hb7_8)
            refine hK.out _ _ HB7_8.out (fun hHeld => ?_)
            clear hK K
            refine norm_ (a' := ?_) ?_ ?_
            rotate_left
            · show Act.put _ (some 46) _ = _
              simp only [Act.put, List.setIfInBounds_toArray, List.set_cons_zero, List.set_cons_succ, i64_w, i32_w]
              rfl
            refine take_ (i := 9) (N := some 47) (v := ?_) (a' := ?_) #[true, true, true, true, true, true, true, true, true, true, false, true, false, false] rfl rfl (by kernel_rfl) (fun _ _ _ h => h) (Or.inl ⟨by rfl, ?_⟩) hHeld ?_ ?_
            rotate_left
            · rintro w' hS
              go_simp
              with_reducible rfl
            rotate_left
            · simp only [Act.put, List.setIfInBounds_toArray, List.set_cons_zero, List.set_cons_succ, i64_w, i32_w]
              rfl
            refine take_ (i := 10) (N := some 48) (v := ?_) (a' := ?_) #[true, true, true, true, true, true, true, true, true, true, true, true, false, false] rfl rfl (by kernel_rfl) (fun _ _ _ h => h) (Or.inl ⟨by rfl, ?_⟩) hHeld ?_ ?_
            rotate_left
            · rintro w' hS
              have z0_ := pw_cell_below hS Y0.out
              have z1_ := pw_cell_below hS Y1.out
              have z2_ := pw_cell_below hS Y2.out
              have z3_ := pw_cell_below hS Y3.out
              have z4_ := pw_cell_below hS Y4.out
              go_simp
              with_reducible rfl
            rotate_left
            · simp only [Act.put, List.setIfInBounds_toArray, List.set_cons_zero, List.set_cons_succ, i64_w, i32_w]
              rfl
            refine take_ (i := 12) (N := some 16) (v := ?_) (a' := ?_) #[true, true, true, true, true, true, true, true, true, true, true, true, true, false] rfl rfl (by kernel_rfl) (fun _ _ _ h => h) (Or.inl ⟨by rfl, ?_⟩) hHeld ?_ ?_
            rotate_left
            · rintro w' hS
              go_simp
              with_reducible rfl
            rotate_left
            · simp only [Act.put, List.setIfInBounds_toArray, List.set_cons_zero, List.set_cons_succ, i64_w, i32_w]
              rfl
            refine last_ (i := 13) (N := none) #[true, true, true, true, true, true, true, true, true, true, true, true, true, true] rfl rfl (by kernel_rfl) (by decide) (fun K hK => ?_)
            refine block_step (by rfl) rfl hh7_11.out (seg := [.string eb.f0, .bool eb.f1, .string eb.f2, .int .i64 eb.f3.f0, .int .i64 eb.f3.f1]) (by rfl) (by rfl) rfl (by kernel_rfl) rfl (by simp [Value.oneCell']) ?_
            intro w7_13 hh_ hg_
            have hh7_13 := Aside0.mk hh_
            have hg7_13 := Aside0.mk hg_
            clear hh_ hg_
            refine hK.out _ _ ?_
            clear hK K
            refine norm_ (a' := ?_) ?_ ?_
            rotate_left
            · show Act.put _ (none) _ = _
              simp only [Act.put, List.setIfInBounds_toArray, List.set_cons_zero, List.set_cons_succ, i64_w, i32_w]
              rfl
            refine done_ (by kernel_rfl) ?_
            have hz_ := hz7_11.out
            have hq_ := HB.out.size
            go_wp2
            go_meet
            case rel => exact ⟨g7_11, rfl, rfl, hh7_13, ⟨by omega, by omega⟩, ⟨Kd.R_grown (Kd.R_below (R_only HO.out) HB7_8.out) hg7_13.out (fun k hk e => by injection e with e; omega)⟩, ⟨pw_below_grown (below_step HB.out HB7_8.out) (some g7_11) (below_step HB.out HB7_8.out).size hg7_13.out (fun k hk => by cases hk; omega)⟩⟩
        · refine box_step (by rfl) rfl (by go_simp; rfl) ?_
          intro g7_11 hg_ w7_11 hh_ hb7_11
          have hh7_11 := Aside0.mk hh_
          have hz7_11 := Aside0.mk (show w3.heap.size ≤ g7_11 from by rw [hg_]; exact hHeld.size)
          clear hg_ hh_
          have HB7_11 := Aside0.mk (below_step hHeld hb7_11)
          refine hK.out _ _ HB7_11.out (fun hHeld => ?_)
          clear hK K
          refine norm_ (a' := ?_) ?_ ?_
          rotate_left
          · show Act.put _ (some 17) _ = _
            simp only [Act.put, List.setIfInBounds_toArray, List.set_cons_zero, List.set_cons_succ, i64_w, i32_w]
            rfl
          refine one_ (i := 3) (N := some 41) #[true, true, true, true, false, true, true, true, false, false, false, true, false, false] rfl rfl (by kernel_rfl) (by decide) (fun K hK => ?_)
          refine goes_ Tryz.func28 (by kernel_rfl) rfl #[.slice A0 l0.length c0, .string p] (by rfl) rfl rfl (by (try simp only [List.map_toArray, List.map_cons, List.map_nil]); first | done | rfl) ?_
          with_reducible refine (HC0.out _ hHeld).mono ?_
          rintro e w7_3 ⟨rfl, hb7_3⟩
          refine ⟨_, rfl, ?_⟩
          have hh7_11 := Aside0.mk (blk_below hh7_11.out hb7_3)
          have HB7_3 := Aside0.mk (below_step HB7_11.out hb7_3)
          refine hK.out _ _ HB7_3.out (fun hHeld => ?_)
          clear hK K
          refine norm_ (a' := ?_) ?_ ?_
          rotate_left
          · show Act.put _ (some 41) _ = _
            simp only [Act.put, List.setIfInBounds_toArray, List.set_cons_zero, List.set_cons_succ, i64_w, i32_w]
            rfl
          refine take_ (i := 4) (N := some 42) (v := ?_) (a' := ?_) #[true, true, true, true, true, true, true, true, false, false, false, true, false, false] rfl rfl (by kernel_rfl) (fun _ _ _ h => h) (Or.inl ⟨by rfl, ?_⟩) hHeld ?_ ?_
          rotate_left
          · rintro w' hS
            go_simp
            with_reducible rfl
          rotate_left
          · simp only [Act.put, List.setIfInBounds_toArray, List.set_cons_zero, List.set_cons_succ, i64_w, i32_w]
            rfl
          refine one_ (i := 8) (N := some 46) #[true, true, true, true, true, true, true, true, true, false, false, true, false, false] rfl rfl (by kernel_rfl) (by decide) (fun K hK => ?_)
          refine goes_ Tryz.func28 (by kernel_rfl) rfl #[.slice (some ad1) l1.length c1, .string p] (by rfl) rfl rfl (by (try simp only [List.map_toArray, List.map_cons, List.map_nil]); first | done | rfl) ?_
          with_reducible refine (HC1.out _ hHeld).mono ?_
          rintro e w7_8 ⟨rfl, hb7_8⟩
          refine ⟨_, rfl, ?_⟩
          have hh7_11 := Aside0.mk (blk_below hh7_11.out hb7_8)
          have HB7_8 := Aside0.mk (below_step HB7_3.out hb7_8)
          refine hK.out _ _ HB7_8.out (fun hHeld => ?_)
          clear hK K
          refine norm_ (a' := ?_) ?_ ?_
          rotate_left
          · show Act.put _ (some 46) _ = _
            simp only [Act.put, List.setIfInBounds_toArray, List.set_cons_zero, List.set_cons_succ, i64_w, i32_w]
            rfl
          refine take_ (i := 9) (N := some 47) (v := ?_) (a' := ?_) #[true, true, true, true, true, true, true, true, true, true, false, true, false, false] rfl rfl (by kernel_rfl) (fun _ _ _ h => h) (Or.inl ⟨by rfl, ?_⟩) hHeld ?_ ?_
          rotate_left
          · rintro w' hS
            go_simp
            with_reducible rfl
          rotate_left
          · simp only [Act.put, List.setIfInBounds_toArray, List.set_cons_zero, List.set_cons_succ, i64_w, i32_w]
            rfl
          refine take_ (i := 10) (N := some 48) (v := ?_) (a' := ?_) #[true, true, true, true, true, true, true, true, true, true, true, true, false, false] rfl rfl (by kernel_rfl) (fun _ _ _ h => h) (Or.inl ⟨by rfl, ?_⟩) hHeld ?_ ?_
          rotate_left
          · rintro w' hS
            have z0_ := pw_cell_below hS Y0.out
            have z1_ := pw_cell_below hS Y1.out
            have z2_ := pw_cell_below hS Y2.out
            have z3_ := pw_cell_below hS Y3.out
            have z4_ := pw_cell_below hS Y4.out
            go_simp
            with_reducible rfl
          rotate_left
          · simp only [Act.put, List.setIfInBounds_toArray, List.set_cons_zero, List.set_cons_succ, i64_w, i32_w]
            rfl
          refine take_ (i := 12) (N := some 16) (v := ?_) (a' := ?_) #[true, true, true, true, true, true, true, true, true, true, true, true, true, false] rfl rfl (by kernel_rfl) (fun _ _ _ h => h) (Or.inl ⟨by rfl, ?_⟩) hHeld ?_ ?_
          rotate_left
          · rintro w' hS
            go_simp
            with_reducible rfl
          rotate_left
          · simp only [Act.put, List.setIfInBounds_toArray, List.set_cons_zero, List.set_cons_succ, i64_w, i32_w]
            rfl
          refine last_ (i := 13) (N := none) #[true, true, true, true, true, true, true, true, true, true, true, true, true, true] rfl rfl (by kernel_rfl) (by decide) (fun K hK => ?_)
          refine block_step (by rfl) rfl hh7_11.out (seg := [.string eb.f0, .bool eb.f1, .string eb.f2, .int .i64 eb.f3.f0, .int .i64 eb.f3.f1]) (by rfl) (by rfl) rfl (by kernel_rfl) rfl (by simp [Value.oneCell']) ?_
          intro w7_13 hh_ hg_
          have hh7_13 := Aside0.mk hh_
          have hg7_13 := Aside0.mk hg_
          clear hh_ hg_
          refine hK.out _ _ ?_
          clear hK K
          refine norm_ (a' := ?_) ?_ ?_
          rotate_left
          · show Act.put _ (none) _ = _
            simp only [Act.put, List.setIfInBounds_toArray, List.set_cons_zero, List.set_cons_succ, i64_w, i32_w]
            rfl
          refine done_ (by kernel_rfl) ?_
          have hz_ := hz7_11.out
          have hq_ := HB.out.size
          go_wp2
          go_meet
          case rel => exact ⟨g7_11, rfl, rfl, hh7_13, ⟨by omega, by omega⟩, ⟨Kd.R_grown (Kd.R_below (R_only HO.out) HB7_8.out) hg7_13.out (fun k hk e => by injection e with e; omega)⟩, ⟨pw_below_grown (below_step HB.out HB7_8.out) (some g7_11) (below_step HB.out HB7_8.out).size hg7_13.out (fun k hk => by cases hk; omega)⟩⟩
      case rest =>
        obtain ⟨g17, rfl, rfl, HH17, HG17, HO7, HB7⟩ := hcut
        obtain ⟨W7, rfl⟩ : ∃ x, x = wc := ⟨_, rfl⟩
        clear HO HB HC0 HC1 Y0 Y1 Y2 Y3 Y4 hgl
        have hgl := blk_lt HH17.out
        obtain ⟨x0, x1, x2, x3, x4⟩ := R_cells HO7.out i HIi
        rw [HIA.out] at x0 x1 x2 x3 x4
        have X0 := Aside0.mk x0
        have X1 := Aside0.mk x1
        have X2 := Aside0.mk x2
        have X3 := Aside0.mk x3
        have X4 := Aside0.mk x4
        have Z0 := Aside0.mk ((blk_cell HH17.out 0).trans rfl)
        have Z1 := Aside0.mk ((blk_cell HH17.out 1).trans rfl)
        have Z2 := Aside0.mk ((blk_cell HH17.out 2).trans rfl)
        have Z3 := Aside0.mk ((blk_cell HH17.out 3).trans rfl)
        have Z4 := Aside0.mk ((blk_cell HH17.out 4).trans rfl)
        clear x0 x1 x2 x3 x4
        go_wp2_with fail
        go_cut [18] (fun v18 W => ∃ g18 : Nat, v18 = .pointer (some ⟨g18, 0, none⟩) ∧ Aside0 (W.heap[g18]? = some (.cells #[.int .i64 (wasE ea eb).1, .int .i64 (wasE ea eb).2] 32 (0, 0))) ∧ Aside0 (W.heap[g17]? = some (.cells #[.string eb.f0, .bool eb.f1, .string eb.f2, .int .i64 eb.f3.f0, .int .i64 eb.f3.f1] 34 (0, 0))) ∧ Aside0 (w.heap.size ≤ g18 ∧ g ≠ g18) ∧ Aside0 (Kd.R k34 34 W w.heap.size (fun k => k = g) (.slice (some ⟨g, 0, none⟩) l0.length cap) l0) ∧ Aside0 (Below w.heap.size w W))
        case first =>
          have hgg := Kd.R_base HO7.out g (by simp [Value.ownBlock])
          have hgW := blk_lt_R HO7.out
          refine start_ (n := 8) (S := fun w' => Below W7.heap.size W7 w') (ds := [7]) #[false, false, false, false, false, false, false, false] (by kernel_rfl) rfl rfl (below_drew (Below.refl _ _)) (fun hHeld => ?_)
          refine take_ (i := 0) (N := some 49) (v := ?_) (a' := ?_) #[true, false, false, false, false, false, false, false] rfl rfl (by kernel_rfl) (fun _ _ _ h => h) (Or.inl ⟨by rfl, ?_⟩) hHeld ?_ ?_
          rotate_left
          · rintro w' hS
            go_simp
            with_reducible rfl
          rotate_left
          · simp only [Act.put, List.setIfInBounds_toArray, List.set_cons_zero, List.set_cons_succ, i64_w, i32_w]
            rfl
          refine take_ (i := 1) (N := some 50) (v := ?_) (a' := ?_) #[true, true, false, false, false, false, false, false] rfl rfl (by kernel_rfl) (fun _ _ _ h => h) (Or.inl ⟨by rfl, ?_⟩) hHeld ?_ ?_
          rotate_left
          · rintro w' hS
            go_simp
            with_reducible rfl
          rotate_left
          · simp only [Act.put, List.setIfInBounds_toArray, List.set_cons_zero, List.set_cons_succ, i64_w, i32_w]
            rfl
          refine take_ (i := 2) (N := some 51) (v := ?_) (a' := ?_) #[true, true, true, false, false, false, false, false] rfl rfl (by kernel_rfl) (fun _ _ _ h => h) (Or.inl ⟨by rfl, ?_⟩) hHeld ?_ ?_
          rotate_left
          · rintro w' hS
            have z0_ := pw_cell_below hS X0.out
            have z1_ := pw_cell_below hS X1.out
            have z2_ := pw_cell_below hS X2.out
            have z3_ := pw_cell_below hS X3.out
            have z4_ := pw_cell_below hS X4.out
            have z5_ := pw_cell_below hS Z0.out
            have z6_ := pw_cell_below hS Z1.out
            have z7_ := pw_cell_below hS Z2.out
            have z8_ := pw_cell_below hS Z3.out
            have z9_ := pw_cell_below hS Z4.out
            go_simp
            with_reducible rfl
          rotate_left
          · simp only [Act.put, List.setIfInBounds_toArray, List.set_cons_zero, List.set_cons_succ, i64_w, i32_w]
            rfl
          refine take_ (i := 3) (N := some 52) (v := ?_) (a' := ?_) #[true, true, true, true, false, false, false, false] rfl rfl (by kernel_rfl) (fun _ _ _ h => h) (Or.inl ⟨by rfl, ?_⟩) hHeld ?_ ?_
          rotate_left
          · rintro w' hS
            have z0_ := pw_cell_below hS X0.out
            have z1_ := pw_cell_below hS X1.out
            have z2_ := pw_cell_below hS X2.out
            have z3_ := pw_cell_below hS X3.out
            have z4_ := pw_cell_below hS X4.out
            have z5_ := pw_cell_below hS Z0.out
            have z6_ := pw_cell_below hS Z1.out
            have z7_ := pw_cell_below hS Z2.out
            have z8_ := pw_cell_below hS Z3.out
            have z9_ := pw_cell_below hS Z4.out
            go_simp
            with_reducible rfl
          rotate_left
          · simp only [Act.put, List.setIfInBounds_toArray, List.set_cons_zero, List.set_cons_succ, i64_w, i32_w]
            rfl
          refine two_ (i := 4) (j := 6) (Ni := some 53) (Nj := some 18) #[true, true, true, true, true, false, false, false] #[true, true, true, true, false, false, true, false] rfl rfl rfl rfl (by kernel_rfl) (by decide) (by decide) (fun K hK => ?_) (fun K hK => ?_)
          · refine goes_ Tryz.func64 (by kernel_rfl) rfl #[.agg #[.string ea.f0, .bool ea.f1, .string ea.f2, .int .i64 ea.f3.f0, .int .i64 ea.f3.f1], .agg #[.string eb.f0, .bool eb.f1, .string eb.f2, .int .i64 eb.f3.f0, .int .i64 eb.f3.f1]] (by rfl) rfl rfl (by (try simp only [List.map_toArray, List.map_cons, List.map_nil]); first | done | rfl) ?_
            with_reducible refine (recon_joined.calls _ _ _ _ _ _ _ _ _ _ _ _ _ _ _ _ HJ.out).mono ?_
            rintro e w8_4 ⟨rfl, hb8_4⟩
            refine ⟨_, rfl, ?_⟩
            have HB8_4 := Aside0.mk (below_step hHeld hb8_4)
            refine hK.out _ _ HB8_4.out (fun hHeld => ?_)
            clear hK K
            refine norm_ (a' := ?_) ?_ ?_
            rotate_left
            · show Act.put _ (some 53) _ = _
              simp only [Act.put, List.setIfInBounds_toArray, List.set_cons_zero, List.set_cons_succ, i64_w, i32_w]
              rfl
            refine take_ (i := 5) (N := some 54) (v := ?_) (a' := ?_) #[true, true, true, true, true, true, false, false] rfl rfl (by kernel_rfl) (fun _ _ _ h => h) (Or.inl ⟨by rfl, ?_⟩) hHeld ?_ ?_
            rotate_left
            · rintro w' hS
              go_simp
              with_reducible rfl
            rotate_left
            · simp only [Act.put, List.setIfInBounds_toArray, List.set_cons_zero, List.set_cons_succ, i64_w, i32_w]
              rfl
            refine one_ (i := 6) (N := some 18) #[true, true, true, true, true, true, true, false] rfl rfl (by kernel_rfl) (by decide) (fun K hK => ?_)
            refine box_step (by rfl) rfl (by go_simp; rfl) ?_
            intro g8_6 hg_ w8_6 hh_ hb8_6
            have hh8_6 := Aside0.mk hh_
            have hz8_6 := Aside0.mk (show W7.heap.size ≤ g8_6 from by rw [hg_]; exact hHeld.size)
            clear hg_ hh_
            have HB8_6 := Aside0.mk (below_step HB8_4.out hb8_6)
            refine hK.out _ _ HB8_6.out (fun hHeld => ?_)
            clear hK K
            refine norm_ (a' := ?_) ?_ ?_
            rotate_left
            · show Act.put _ (some 18) _ = _
              simp only [Act.put, List.setIfInBounds_toArray, List.set_cons_zero, List.set_cons_succ, i64_w, i32_w]
              rfl
            refine last_ (i := 7) (N := none) #[true, true, true, true, true, true, true, true] rfl rfl (by kernel_rfl) (by decide) (fun K hK => ?_)
            refine block_step (by rfl) rfl hh8_6.out (seg := [.int .i64 (wasE ea eb).1, .int .i64 (wasE ea eb).2]) (by rfl) (by rfl) rfl (by kernel_rfl) rfl (by simp [Value.oneCell']) ?_
            intro w8_7 hh_ hg_
            have hh8_7 := Aside0.mk hh_
            have hg8_7 := Aside0.mk hg_
            clear hh_ hg_
            refine hK.out _ _ ?_
            clear hK K
            refine norm_ (a' := ?_) ?_ ?_
            rotate_left
            · show Act.put _ (none) _ = _
              simp only [Act.put, List.setIfInBounds_toArray, List.set_cons_zero, List.set_cons_succ, i64_w, i32_w]
              rfl
            refine done_ (by kernel_rfl) ?_
            have hz_ := hz8_6.out
            have hq_ := HB7.out.size
            go_wp2
            go_meet
            case rel => exact ⟨g8_6, rfl, hh8_7, ⟨blk_grown (blk_below HH17.out HB8_6.out) hg8_7.out (fun e => by injection e with e; omega)⟩, ⟨by omega, by omega⟩, ⟨Kd.R_grown (Kd.R_below HO7.out HB8_6.out) hg8_7.out (fun k hk e => by injection e with e; omega)⟩, ⟨pw_below_grown (below_step HB7.out HB8_6.out) (some g8_6) (below_step HB7.out HB8_6.out).size hg8_7.out (fun k hk => by cases hk; omega)⟩⟩
          · refine box_step (by rfl) rfl (by go_simp; rfl) ?_
            intro g8_6 hg_ w8_6 hh_ hb8_6
            have hh8_6 := Aside0.mk hh_
            have hz8_6 := Aside0.mk (show W7.heap.size ≤ g8_6 from by rw [hg_]; exact hHeld.size)
            clear hg_ hh_
            have HB8_6 := Aside0.mk (below_step hHeld hb8_6)
            refine hK.out _ _ HB8_6.out (fun hHeld => ?_)
            clear hK K
            refine norm_ (a' := ?_) ?_ ?_
            rotate_left
            · show Act.put _ (some 18) _ = _
              simp only [Act.put, List.setIfInBounds_toArray, List.set_cons_zero, List.set_cons_succ, i64_w, i32_w]
              rfl
            refine one_ (i := 4) (N := some 53) #[true, true, true, true, true, false, true, false] rfl rfl (by kernel_rfl) (by decide) (fun K hK => ?_)
            refine goes_ Tryz.func64 (by kernel_rfl) rfl #[.agg #[.string ea.f0, .bool ea.f1, .string ea.f2, .int .i64 ea.f3.f0, .int .i64 ea.f3.f1], .agg #[.string eb.f0, .bool eb.f1, .string eb.f2, .int .i64 eb.f3.f0, .int .i64 eb.f3.f1]] (by rfl) rfl rfl (by (try simp only [List.map_toArray, List.map_cons, List.map_nil]); first | done | rfl) ?_
            with_reducible refine (recon_joined.calls _ _ _ _ _ _ _ _ _ _ _ _ _ _ _ _ HJ.out).mono ?_
            rintro e w8_4 ⟨rfl, hb8_4⟩
            refine ⟨_, rfl, ?_⟩
            have hh8_6 := Aside0.mk (blk_below hh8_6.out hb8_4)
            have HB8_4 := Aside0.mk (below_step HB8_6.out hb8_4)
            refine hK.out _ _ HB8_4.out (fun hHeld => ?_)
            clear hK K
            refine norm_ (a' := ?_) ?_ ?_
            rotate_left
            · show Act.put _ (some 53) _ = _
              simp only [Act.put, List.setIfInBounds_toArray, List.set_cons_zero, List.set_cons_succ, i64_w, i32_w]
              rfl
            refine take_ (i := 5) (N := some 54) (v := ?_) (a' := ?_) #[true, true, true, true, true, true, true, false] rfl rfl (by kernel_rfl) (fun _ _ _ h => h) (Or.inl ⟨by rfl, ?_⟩) hHeld ?_ ?_
            rotate_left
            · rintro w' hS
              go_simp
              with_reducible rfl
            rotate_left
            · simp only [Act.put, List.setIfInBounds_toArray, List.set_cons_zero, List.set_cons_succ, i64_w, i32_w]
              rfl
            refine last_ (i := 7) (N := none) #[true, true, true, true, true, true, true, true] rfl rfl (by kernel_rfl) (by decide) (fun K hK => ?_)
            refine block_step (by rfl) rfl hh8_6.out (seg := [.int .i64 (wasE ea eb).1, .int .i64 (wasE ea eb).2]) (by rfl) (by rfl) rfl (by kernel_rfl) rfl (by simp [Value.oneCell']) ?_
            intro w8_7 hh_ hg_
            have hh8_7 := Aside0.mk hh_
            have hg8_7 := Aside0.mk hg_
            clear hh_ hg_
            refine hK.out _ _ ?_
            clear hK K
            refine norm_ (a' := ?_) ?_ ?_
            rotate_left
            · show Act.put _ (none) _ = _
              simp only [Act.put, List.setIfInBounds_toArray, List.set_cons_zero, List.set_cons_succ, i64_w, i32_w]
              rfl
            refine done_ (by kernel_rfl) ?_
            have hz_ := hz8_6.out
            have hq_ := HB7.out.size
            go_wp2
            go_meet
            case rel => exact ⟨g8_6, rfl, hh8_7, ⟨blk_grown (blk_below HH17.out HB8_4.out) hg8_7.out (fun e => by injection e with e; omega)⟩, ⟨by omega, by omega⟩, ⟨Kd.R_grown (Kd.R_below HO7.out HB8_4.out) hg8_7.out (fun k hk e => by injection e with e; omega)⟩, ⟨pw_below_grown (below_step HB7.out HB8_4.out) (some g8_6) (below_step HB7.out HB8_4.out).size hg8_7.out (fun k hk => by cases hk; omega)⟩⟩
        case rest =>
          clear HO7 HB7 X0 X1 X2 X3 X4 Z0 Z1 Z2 Z3 Z4 HH17
          obtain ⟨g18, rfl, HH18, HH17, HG18, HO8, HB8⟩ := hcut
          obtain ⟨W8, rfl⟩ : ∃ x, x = wc := ⟨_, rfl⟩
          obtain ⟨x0, x1, x2, x3, x4⟩ := R_cells HO8.out i HIi
          rw [HIA.out] at x1 x2
          have X1 := Aside0.mk x1
          have X2 := Aside0.mk x2
          have Z0 := Aside0.mk ((blk_cell HH18.out 0).trans rfl)
          have Z1 := Aside0.mk ((blk_cell HH18.out 1).trans rfl)
          clear x0 x1 x2 x3 x4
          go_wp2_with fail
          go_cut [18] (fun v18 W => v18 = .pointer (some ⟨g18, 0, none⟩) ∧ Aside0 (W.heap[g18]? = some (.cells #[.int .i64 (wasE ea eb).1, .int .i64 (wasE ea eb).2] 32 (0, 0))) ∧ Aside0 (W.heap[g17]? = some (.cells #[.string eb.f0, .bool eb.f1, .string eb.f2, .int .i64 eb.f3.f0, .int .i64 eb.f3.f1] 34 (0, 0))) ∧ Aside0 (Kd.R k34 34 W w.heap.size (fun k => k = g) (.slice (some ⟨g, 0, none⟩) l0.length cap) (l0.set i ⟨p, ea.f1, ea.f2, ⟨(tickI (wasE ea eb) au).1, (tickI (wasE ea eb) au).2⟩⟩)) ∧ Aside0 (Below w.heap.size w W))
          case first =>
            have hgW := blk_lt_R HO8.out
            refine start_ (n := 18) (S := fun w' => Below W8.heap.size W8 w') (ds := [17]) #[false, false, false, false, false, false, false, false, false, false, false, false, false, false, false, false, false, false] (by kernel_rfl) rfl rfl (below_drew (Below.refl _ _)) (fun hHeld => ?_)
            refine take_ (i := 0) (N := some 55) (v := ?_) (a' := ?_) #[true, false, false, false, false, false, false, false, false, false, false, false, false, false, false, false, false, false] rfl rfl (by kernel_rfl) (fun _ _ _ h => h) (Or.inl ⟨by rfl, ?_⟩) hHeld ?_ ?_
            rotate_left
            · rintro w' hS
              go_simp
              with_reducible rfl
            rotate_left
            · simp only [Act.put, List.setIfInBounds_toArray, List.set_cons_zero, List.set_cons_succ, i64_w, i32_w]
              rfl
            refine take_ (i := 1) (N := some 56) (v := ?_) (a' := ?_) #[true, true, false, false, false, false, false, false, false, false, false, false, false, false, false, false, false, false] rfl rfl (by kernel_rfl) (fun _ _ _ h => h) (Or.inl ⟨by rfl, ?_⟩) hHeld ?_ ?_
            rotate_left
            · rintro w' hS
              go_simp
              with_reducible rfl
            rotate_left
            · simp only [Act.put, List.setIfInBounds_toArray, List.set_cons_zero, List.set_cons_succ, i64_w, i32_w]
              rfl
            refine take_ (i := 2) (N := some 57) (v := ?_) (a' := ?_) #[true, true, true, false, false, false, false, false, false, false, false, false, false, false, false, false, false, false] rfl rfl (by kernel_rfl) (fun _ _ _ h => h) (Or.inl ⟨by rfl, ?_⟩) hHeld ?_ ?_
            rotate_left
            · rintro w' hS
              go_simp
              with_reducible rfl
            rotate_left
            · simp only [Act.put, List.setIfInBounds_toArray, List.set_cons_zero, List.set_cons_succ, i64_w, i32_w]
              rfl
            refine take_ (i := 3) (N := some 58) (v := ?_) (a' := ?_) #[true, true, true, true, false, false, false, false, false, false, false, false, false, false, false, false, false, false] rfl rfl (by kernel_rfl) (fun _ _ _ h => h) (Or.inl ⟨by rfl, ?_⟩) hHeld ?_ ?_
            rotate_left
            · rintro w' hS
              go_simp
              with_reducible rfl
            rotate_left
            · simp only [Act.put, List.setIfInBounds_toArray, List.set_cons_zero, List.set_cons_succ, i64_w, i32_w]
              rfl
            refine take_ (i := 4) (N := some 59) (v := ?_) (a' := ?_) #[true, true, true, true, true, false, false, false, false, false, false, false, false, false, false, false, false, false] rfl rfl (by kernel_rfl) (fun _ _ _ h => h) (Or.inl ⟨by rfl, ?_⟩) hHeld ?_ ?_
            rotate_left
            · rintro w' hS
              go_simp
              with_reducible rfl
            rotate_left
            · simp only [Act.put, List.setIfInBounds_toArray, List.set_cons_zero, List.set_cons_succ, i64_w, i32_w]
              rfl
            refine take_ (i := 5) (N := some 60) (v := ?_) (a' := ?_) #[true, true, true, true, true, true, false, false, false, false, false, false, false, false, false, false, false, false] rfl rfl (by kernel_rfl) (fun _ _ _ h => h) (Or.inl ⟨by rfl, ?_⟩) hHeld ?_ ?_
            rotate_left
            · rintro w' hS
              have z0_ := pw_cell_below hS X1.out
              have z1_ := pw_cell_below hS X2.out
              have z2_ := pw_cell_below hS Z0.out
              have z3_ := pw_cell_below hS Z1.out
              go_simp
              with_reducible rfl
            rotate_left
            · simp only [Act.put, List.setIfInBounds_toArray, List.set_cons_zero, List.set_cons_succ, i64_w, i32_w]
              rfl
            refine take_ (i := 6) (N := some 61) (v := ?_) (a' := ?_) #[true, true, true, true, true, true, true, false, false, false, false, false, false, false, false, false, false, false] rfl rfl (by kernel_rfl) (fun _ _ _ h => h) (Or.inl ⟨by rfl, ?_⟩) hHeld ?_ ?_
            rotate_left
            · rintro w' hS
              go_simp
              with_reducible rfl
            rotate_left
            · simp only [Act.put, List.setIfInBounds_toArray, List.set_cons_zero, List.set_cons_succ, i64_w, i32_w]
              rfl
            refine take_ (i := 7) (N := some 62) (v := ?_) (a' := ?_) #[true, true, true, true, true, true, true, true, false, false, false, false, false, false, false, false, false, false] rfl rfl (by kernel_rfl) (fun _ _ _ h => h) (Or.inl ⟨by rfl, ?_⟩) hHeld ?_ ?_
            rotate_left
            · rintro w' hS
              go_simp
              with_reducible rfl
            rotate_left
            · simp only [Act.put, List.setIfInBounds_toArray, List.set_cons_zero, List.set_cons_succ, i64_w, i32_w]
              rfl
            refine take_ (i := 8) (N := some 63) (v := ?_) (a' := ?_) #[true, true, true, true, true, true, true, true, true, false, false, false, false, false, false, false, false, false] rfl rfl (by kernel_rfl) (fun _ _ _ h => h) (Or.inl ⟨by rfl, ?_⟩) hHeld ?_ ?_
            rotate_left
            · rintro w' hS
              go_simp
              with_reducible rfl
            rotate_left
            · simp only [Act.put, List.setIfInBounds_toArray, List.set_cons_zero, List.set_cons_succ, i64_w, i32_w]
              rfl
            refine take_ (i := 9) (N := some 64) (v := ?_) (a' := ?_) #[true, true, true, true, true, true, true, true, true, true, false, false, false, false, false, false, false, false] rfl rfl (by kernel_rfl) (fun _ _ _ h => h) (Or.inl ⟨by rfl, ?_⟩) hHeld ?_ ?_
            rotate_left
            · rintro w' hS
              have z0_ := pw_cell_below hS X1.out
              have z1_ := pw_cell_below hS X2.out
              have z2_ := pw_cell_below hS Z0.out
              have z3_ := pw_cell_below hS Z1.out
              go_simp
              with_reducible rfl
            rotate_left
            · simp only [Act.put, List.setIfInBounds_toArray, List.set_cons_zero, List.set_cons_succ, i64_w, i32_w]
              rfl
            refine take_ (i := 10) (N := some 65) (v := ?_) (a' := ?_) #[true, true, true, true, true, true, true, true, true, true, true, false, false, false, false, false, false, false] rfl rfl (by kernel_rfl) (fun _ _ _ h => h) (Or.inl ⟨by rfl, ?_⟩) hHeld ?_ ?_
            rotate_left
            · rintro w' hS
              have z0_ := pw_cell_below hS X1.out
              have z1_ := pw_cell_below hS X2.out
              have z2_ := pw_cell_below hS Z0.out
              have z3_ := pw_cell_below hS Z1.out
              go_simp
              with_reducible rfl
            rotate_left
            · simp only [Act.put, List.setIfInBounds_toArray, List.set_cons_zero, List.set_cons_succ, i64_w, i32_w]
              rfl
            refine take_ (i := 12) (N := some 67) (v := ?_) (a' := ?_) #[true, true, true, true, true, true, true, true, true, true, true, false, true, false, false, false, false, false] rfl rfl (by kernel_rfl) (fun _ _ _ h => h) (Or.inl ⟨by rfl, ?_⟩) hHeld ?_ ?_
            rotate_left
            · rintro w' hS
              go_simp
              with_reducible rfl
            rotate_left
            · simp only [Act.put, List.setIfInBounds_toArray, List.set_cons_zero, List.set_cons_succ, i64_w, i32_w]
              rfl
            refine one_ (i := 11) (N := some 66) #[true, true, true, true, true, true, true, true, true, true, true, true, true, false, false, false, false, false] rfl rfl (by kernel_rfl) (by decide) (fun K hK => ?_)
            refine goes_ Tryz.func67 (by kernel_rfl) rfl #[.agg #[.int .i64 (wasE ea eb).1, .int .i64 (wasE ea eb).2]] (by rfl) rfl rfl (by (try simp only [List.map_toArray, List.map_cons, List.map_nil]); first | done | rfl) ?_
            with_reducible refine (clock_Of.calls _ _ _ _ HOF.out).mono ?_
            rintro e w9_11 ⟨rfl, hb9_11⟩
            refine ⟨_, rfl, ?_⟩
            have HB9_11 := Aside0.mk (below_step hHeld hb9_11)
            refine hK.out _ _ HB9_11.out (fun hHeld => ?_)
            clear hK K
            refine norm_ (a' := ?_) ?_ ?_
            rotate_left
            · show Act.put _ (some 66) _ = _
              simp only [Act.put, List.setIfInBounds_toArray, List.set_cons_zero, List.set_cons_succ, i64_w, i32_w]
              rfl
            refine one_ (i := 13) (N := some 68) #[true, true, true, true, true, true, true, true, true, true, true, true, true, true, false, false, false, false] rfl rfl (by kernel_rfl) (by decide) (fun K hK => ?_)
            refine goes_ Tryz.func66 (by kernel_rfl) rfl #[cpx ((wasE ea eb).1, (wasE ea eb).2), .int .i64 au] (by rfl) rfl rfl (by (try simp only [List.map_toArray, List.map_cons, List.map_nil]); first | done | rfl) ?_
            with_reducible refine (clock_Tick.calls _ _ _ _ HTK.out).mono ?_
            rintro e w9_13 ⟨rfl, hb9_13⟩
            refine ⟨_, rfl, ?_⟩
            have HB9_13 := Aside0.mk (below_step HB9_11.out hb9_13)
            refine hK.out _ _ HB9_13.out (fun hHeld => ?_)
            clear hK K
            refine norm_ (a' := ?_) ?_ ?_
            rotate_left
            · show Act.put _ (some 68) _ = _
              simp only [Act.put, List.setIfInBounds_toArray, List.set_cons_zero, List.set_cons_succ, i64_w, i32_w]
              rfl
            refine one_ (i := 14) (N := some 69) #[true, true, true, true, true, true, true, true, true, true, true, true, true, true, true, false, false, false] rfl rfl (by kernel_rfl) (by decide) (fun K hK => ?_)
            refine goes_ Tryz.func65 (by kernel_rfl) rfl #[cpx (tickI (wasE ea eb) au)] (by rfl) rfl rfl (by (try simp only [List.map_toArray, List.map_cons, List.map_nil]); first | done | rfl) ?_
            with_reducible refine (clock_Pair.calls _ _ _ _ HPR.out).mono ?_
            rintro e w9_14 ⟨rfl, hb9_14⟩
            refine ⟨_, rfl, ?_⟩
            have HB9_14 := Aside0.mk (below_step HB9_13.out hb9_14)
            refine hK.out _ _ HB9_14.out (fun hHeld => ?_)
            clear hK K
            refine norm_ (a' := ?_) ?_ ?_
            rotate_left
            · show Act.put _ (some 69) _ = _
              simp only [Act.put, List.setIfInBounds_toArray, List.set_cons_zero, List.set_cons_succ, i64_w, i32_w]
              rfl
            refine one_ (i := 15) (N := some 70) #[true, true, true, true, true, true, true, true, true, true, true, true, true, true, true, true, false, false] rfl rfl (by kernel_rfl) (by decide) (fun K hK => ?_)
            refine still_step (by rfl) (by go_simp; with_reducible rfl) ?_
            refine hK.out _ _ hHeld (fun hHeld => ?_)
            clear hK K
            refine norm_ (a' := ?_) ?_ ?_
            rotate_left
            · show Act.put _ (some 70) _ = _
              simp only [Act.put, List.setIfInBounds_toArray, List.set_cons_zero, List.set_cons_succ, i64_w, i32_w]
              rfl
            refine take_ (i := 16) (N := some 71) (v := ?_) (a' := ?_) #[true, true, true, true, true, true, true, true, true, true, true, true, true, true, true, true, true, false] rfl rfl (by kernel_rfl) (fun _ _ _ h => h) (Or.inl ⟨by rfl, ?_⟩) hHeld ?_ ?_
            rotate_left
            · rintro w' hS
              go_simp
              with_reducible rfl
            rotate_left
            · simp only [Act.put, List.setIfInBounds_toArray, List.set_cons_zero, List.set_cons_succ, i64_w, i32_w]
              rfl
            refine last_ (i := 17) (N := none) #[true, true, true, true, true, true, true, true, true, true, true, true, true, true, true, true, true, true] rfl rfl (by kernel_rfl) (by decide) (fun K hK => ?_)
            refine R_store_ent (by rfl) rfl (Kd.R_below HO8.out HB9_14.out) i HIi 0 ⟨p, ea.f1, ea.f2, ⟨(tickI (wasE ea eb) au).1, (tickI (wasE ea eb) au).2⟩⟩ [.string p, .bool ea.f1, .string ea.f2, .int .i64 (tickI (wasE ea eb) au).1, .int .i64 (tickI (wasE ea eb) au).2] (by first | rfl | (simp only [List.getElem_set_self]; rfl)) (by simp) (by rfl) (by first | rfl | omega) (by rfl) (by kernel_rfl) (by simp [Value.oneCell']) ?_
            intro w9_17 ho_ hg_
            have HO9_17 := Aside0.mk ho_
            have hg9_17 := Aside0.mk hg_
            clear ho_ hg_
            refine hK.out _ _ ?_
            clear hK K
            refine norm_ (a' := ?_) ?_ ?_
            rotate_left
            · show Act.put _ (none) _ = _
              simp only [Act.put, List.setIfInBounds_toArray, List.set_cons_zero, List.set_cons_succ, i64_w, i32_w]
              rfl
            refine done_ (by kernel_rfl) ?_
            have hn17 := HG17.out.2
            have hn18 := HG18.out.2
            go_wp2
            go_meet
            case rel => exact ⟨rfl, ⟨blk_grown (blk_below HH18.out HB9_14.out) hg9_17.out (fun e => by injection e with e; omega)⟩, ⟨blk_grown (blk_below HH17.out HB9_14.out) hg9_17.out (fun e => by injection e with e; omega)⟩, ⟨HO9_17.out⟩, ⟨pw_below_grown (below_step HB8.out HB9_14.out) (some g) (below_step HB8.out HB9_14.out).size hg9_17.out (fun k hk => by cases hk; exact hgb)⟩⟩
          case rest =>
            clear HO8 HB8 X1 X2 Z0 Z1 HH17 HH18
            obtain ⟨rfl, HH18, HH17, HO9, HB9⟩ := hcut
            obtain ⟨W9, rfl⟩ : ∃ x, x = wc := ⟨_, rfl⟩
            have HIs : i < (l0.set i ⟨p, ea.f1, ea.f2, ⟨(tickI (wasE ea eb) au).1, (tickI (wasE ea eb) au).2⟩⟩).length := by rw [List.length_set]; exact HIi
            obtain ⟨x0, x1, x2, x3, x4⟩ := R_cells HO9.out i HIs
            rw [List.getElem_set_self] at x3 x4
            have X3 := Aside0.mk x3
            have X4 := Aside0.mk x4
            have Z0 := Aside0.mk ((blk_cell HH18.out 0).trans rfl)
            have Z1 := Aside0.mk ((blk_cell HH18.out 1).trans rfl)
            clear x0 x1 x2 x3 x4
            by_cases hq : tickI (wasE ea eb) au = wasE ea eb
            · have h := h.out
              rw [if_pos hq] at h
              have h := Aside0.mk h
              have hbq : (((tickI (wasE ea eb) au).1 == (wasE ea eb).1) && ((tickI (wasE ea eb) au).2 == (wasE ea eb).2)) = true := by rw [hq]; simp
              clear hq
              go_wp2_with fail
              refine start_ (n := 6) (S := fun w' => Below W9.heap.size W9 w') (ds := []) #[false, false, false, false, false, false] (by kernel_rfl) rfl rfl (below_drew (Below.refl _ _)) (fun hHeld => ?_)
              refine take_ (i := 0) (N := some 72) (v := ?_) (a' := ?_) #[true, false, false, false, false, false] rfl rfl (by kernel_rfl) (fun _ _ _ h => h) (Or.inl ⟨by rfl, ?_⟩) hHeld ?_ ?_
              rotate_left
              · rintro w' hS
                go_simp
                with_reducible rfl
              rotate_left
              · simp only [Act.put, List.setIfInBounds_toArray, List.set_cons_zero, List.set_cons_succ, i64_w, i32_w]
                rfl
              refine take_ (i := 1) (N := some 73) (v := ?_) (a' := ?_) #[true, true, false, false, false, false] rfl rfl (by kernel_rfl) (fun _ _ _ h => h) (Or.inl ⟨by rfl, ?_⟩) hHeld ?_ ?_
              rotate_left
              · rintro w' hS
                go_simp
                with_reducible rfl
              rotate_left
              · simp only [Act.put, List.setIfInBounds_toArray, List.set_cons_zero, List.set_cons_succ, i64_w, i32_w]
                rfl
              refine take_ (i := 2) (N := some 74) (v := ?_) (a' := ?_) #[true, true, true, false, false, false] rfl rfl (by kernel_rfl) (fun _ _ _ h => h) (Or.inl ⟨by rfl, ?_⟩) hHeld ?_ ?_
              rotate_left
              · rintro w' hS
                go_simp
                with_reducible rfl
              rotate_left
              · simp only [Act.put, List.setIfInBounds_toArray, List.set_cons_zero, List.set_cons_succ, i64_w, i32_w]
                rfl
              refine take_ (i := 3) (N := some 75) (v := ?_) (a' := ?_) #[true, true, true, true, false, false] rfl rfl (by kernel_rfl) (fun _ _ _ h => h) (Or.inl ⟨by rfl, ?_⟩) hHeld ?_ ?_
              rotate_left
              · rintro w' hS
                have z0_ := pw_cell_below hS X3.out
                have z1_ := pw_cell_below hS X4.out
                have z2_ := pw_cell_below hS Z0.out
                have z3_ := pw_cell_below hS Z1.out
                go_simp
                with_reducible rfl
              rotate_left
              · simp only [Act.put, List.setIfInBounds_toArray, List.set_cons_zero, List.set_cons_succ, i64_w, i32_w]
                rfl
              refine take_ (i := 4) (N := some 76) (v := ?_) (a' := ?_) #[true, true, true, true, true, false] rfl rfl (by kernel_rfl) (fun _ _ _ h => h) (Or.inl ⟨by rfl, ?_⟩) hHeld ?_ ?_
              rotate_left
              · rintro w' hS
                have z0_ := pw_cell_below hS X3.out
                have z1_ := pw_cell_below hS X4.out
                have z2_ := pw_cell_below hS Z0.out
                have z3_ := pw_cell_below hS Z1.out
                go_simp
                with_reducible rfl
              rotate_left
              · simp only [Act.put, List.setIfInBounds_toArray, List.set_cons_zero, List.set_cons_succ, i64_w, i32_w]
                rfl
              refine take_ (i := 5) (N := some 77) (v := ?_) (a' := ?_) #[true, true, true, true, true, true] rfl rfl (by kernel_rfl) (fun _ _ _ h => h) (Or.inl ⟨by rfl, ?_⟩) hHeld ?_ ?_
              rotate_left
              · rintro w' hS
                go_simp
                with_reducible rfl
              rotate_left
              · simp only [Act.put, List.setIfInBounds_toArray, List.set_cons_zero, List.set_cons_succ, i64_w, i32_w]
                rfl
              refine done_ (by kernel_rfl) ?_
              go_wp2
              go_ret2
              obtain ⟨rfl, rfl⟩ : r1 = [] ∧ r2 = 2 := by have := h.out; injection this with e1 e2; exact ⟨e1.symm, e2.symm⟩
              exact ⟨.slice none 0 0, by rfl, Kd.R_nil _ _ _ _ _, below_drew HB9.out⟩
            · have h := h.out
              rw [if_neg hq] at h
              have h := Aside0.mk h
              have hbq : (((tickI (wasE ea eb) au).1 == (wasE ea eb).1) && ((tickI (wasE ea eb) au).2 == (wasE ea eb).2)) = false := by
                rw [Bool.eq_false_iff]
                intro hh
                simp only [Bool.and_eq_true, beq_iff_eq] at hh
                exact hq (Prod.ext hh.1 hh.2)
              clear hq
              cases take with
              | false =>
                go_wp2_with fail
                refine start_ (n := 6) (S := fun w' => Below W9.heap.size W9 w') (ds := []) #[false, false, false, false, false, false] (by kernel_rfl) rfl rfl (below_drew (Below.refl _ _)) (fun hHeld => ?_)
                refine take_ (i := 0) (N := some 72) (v := ?_) (a' := ?_) #[true, false, false, false, false, false] rfl rfl (by kernel_rfl) (fun _ _ _ h => h) (Or.inl ⟨by rfl, ?_⟩) hHeld ?_ ?_
                rotate_left
                · rintro w' hS
                  go_simp
                  with_reducible rfl
                rotate_left
                · simp only [Act.put, List.setIfInBounds_toArray, List.set_cons_zero, List.set_cons_succ, i64_w, i32_w]
                  rfl
                refine take_ (i := 1) (N := some 73) (v := ?_) (a' := ?_) #[true, true, false, false, false, false] rfl rfl (by kernel_rfl) (fun _ _ _ h => h) (Or.inl ⟨by rfl, ?_⟩) hHeld ?_ ?_
                rotate_left
                · rintro w' hS
                  go_simp
                  with_reducible rfl
                rotate_left
                · simp only [Act.put, List.setIfInBounds_toArray, List.set_cons_zero, List.set_cons_succ, i64_w, i32_w]
                  rfl
                refine take_ (i := 2) (N := some 74) (v := ?_) (a' := ?_) #[true, true, true, false, false, false] rfl rfl (by kernel_rfl) (fun _ _ _ h => h) (Or.inl ⟨by rfl, ?_⟩) hHeld ?_ ?_
                rotate_left
                · rintro w' hS
                  go_simp
                  with_reducible rfl
                rotate_left
                · simp only [Act.put, List.setIfInBounds_toArray, List.set_cons_zero, List.set_cons_succ, i64_w, i32_w]
                  rfl
                refine take_ (i := 3) (N := some 75) (v := ?_) (a' := ?_) #[true, true, true, true, false, false] rfl rfl (by kernel_rfl) (fun _ _ _ h => h) (Or.inl ⟨by rfl, ?_⟩) hHeld ?_ ?_
                rotate_left
                · rintro w' hS
                  have z0_ := pw_cell_below hS X3.out
                  have z1_ := pw_cell_below hS X4.out
                  have z2_ := pw_cell_below hS Z0.out
                  have z3_ := pw_cell_below hS Z1.out
                  go_simp
                  with_reducible rfl
                rotate_left
                · simp only [Act.put, List.setIfInBounds_toArray, List.set_cons_zero, List.set_cons_succ, i64_w, i32_w]
                  rfl
                refine take_ (i := 4) (N := some 76) (v := ?_) (a' := ?_) #[true, true, true, true, true, false] rfl rfl (by kernel_rfl) (fun _ _ _ h => h) (Or.inl ⟨by rfl, ?_⟩) hHeld ?_ ?_
                rotate_left
                · rintro w' hS
                  have z0_ := pw_cell_below hS X3.out
                  have z1_ := pw_cell_below hS X4.out
                  have z2_ := pw_cell_below hS Z0.out
                  have z3_ := pw_cell_below hS Z1.out
                  go_simp
                  with_reducible rfl
                rotate_left
                · simp only [Act.put, List.setIfInBounds_toArray, List.set_cons_zero, List.set_cons_succ, i64_w, i32_w]
                  rfl
                refine take_ (i := 5) (N := some 77) (v := ?_) (a' := ?_) #[true, true, true, true, true, true] rfl rfl (by kernel_rfl) (fun _ _ _ h => h) (Or.inl ⟨by rfl, ?_⟩) hHeld ?_ ?_
                rotate_left
                · rintro w' hS
                  go_simp
                  with_reducible rfl
                rotate_left
                · simp only [Act.put, List.setIfInBounds_toArray, List.set_cons_zero, List.set_cons_succ, i64_w, i32_w]
                  rfl
                refine done_ (by kernel_rfl) ?_
                skip
                clear hbq X3 X4 Z0 Z1
                have HLR := Kd.R_reads' HO9.out
                have HMY : Aside0 (∀ W, Below W9.heap.size W9 W → Calls Tryz.prog 50 #[.slice (some ⟨g, 0, none⟩) l0.length cap] W fun e w' => e = .returned (.int .i64 (mayI (l0.set i (settledE ea eb p false au)))) ∧ Below W.heap.size W w') := ⟨fun W hb => by
                  have hmy := recon_may.calls (some ⟨g, 0, none⟩) cap (l0.set i (settledE ea eb p false au)) (mayI (l0.set i (settledE ea eb p false au))) W (Kd.C_below HLR.2.2 hb) (by rw [List.length_set]; exact HLR.2.1) (HMAY.out (settledE ea eb p false au) (settled_f0 _ _ _ _ _))
                  rw [List.length_set] at hmy
                  exact hmy⟩
                clear HLR HMAY
                have HE := Aside0.mk (show Kd.R k34 34 W9 w.heap.size (fun _ => True) (.slice (some ⟨g, 0, none⟩) l0.length cap) (l0.set i (settledE ea eb p false au)) from R_any HO9.out)
                generalize l0.set i (settledE ea eb p false au) = fin at *
                have HMY := Aside0.mk (fun W hb => HMY.out W hb)
                by_cases hm : mayI fin = 0
                · have h := h.out
                  rw [if_pos hm] at h
                  have h := Aside0.mk h
                  rw [hm] at HMY
                  clear hm
                  go_wp2_with fail
                  refine (HMY.out _ (below_drew (Below.refl _ _))).mono ?_
                  rintro e w12 ⟨rfl, hb12⟩
                  have hb12 := Aside0.mk hb12
                  go_wp2
                  go_ret2
                  obtain ⟨rfl, rfl⟩ : r1 = fin ∧ r2 = 0 := by have := h.out; injection this with e1 e2; exact ⟨e1.symm, e2.symm⟩
                  exact ⟨.slice (some ⟨g, 0, none⟩) l0.length cap, by rfl, Kd.R_below (w := (W9).drew) (Kd.R_drew HE.out) hb12.out, below_step (below_drew HB9.out) hb12.out⟩
                · have h := h.out
                  rw [if_neg hm] at h
                  obtain ⟨rfl, rfl⟩ : r1 = [] ∧ r2 = mayI fin := by injection h with e1 e2; exact ⟨e1.symm, e2.symm⟩
                  clear h
                  have hmb : (mayI fin == 0) = false := by simpa using hm
                  have hmb2 : (mayI fin != 0) = true := by simpa using hm
                  clear hm
                  go_wp2_with fail
                  refine (HMY.out _ (below_drew (Below.refl _ _))).mono ?_
                  rintro e w12 ⟨rfl, hb12⟩
                  have hb12 := Aside0.mk hb12
                  go_wp2
                  go_ret2
                  exact ⟨.slice none 0 0, by rfl, Kd.R_nil _ _ _ _ _, below_step (below_drew HB9.out) hb12.out⟩
              | true =>
                go_wp2_with fail
                refine start_ (n := 6) (S := fun w' => Below W9.heap.size W9 w') (ds := []) #[false, false, false, false, false, false] (by kernel_rfl) rfl rfl (below_drew (Below.refl _ _)) (fun hHeld => ?_)
                refine take_ (i := 0) (N := some 72) (v := ?_) (a' := ?_) #[true, false, false, false, false, false] rfl rfl (by kernel_rfl) (fun _ _ _ h => h) (Or.inl ⟨by rfl, ?_⟩) hHeld ?_ ?_
                rotate_left
                · rintro w' hS
                  go_simp
                  with_reducible rfl
                rotate_left
                · simp only [Act.put, List.setIfInBounds_toArray, List.set_cons_zero, List.set_cons_succ, i64_w, i32_w]
                  rfl
                refine take_ (i := 1) (N := some 73) (v := ?_) (a' := ?_) #[true, true, false, false, false, false] rfl rfl (by kernel_rfl) (fun _ _ _ h => h) (Or.inl ⟨by rfl, ?_⟩) hHeld ?_ ?_
                rotate_left
                · rintro w' hS
                  go_simp
                  with_reducible rfl
                rotate_left
                · simp only [Act.put, List.setIfInBounds_toArray, List.set_cons_zero, List.set_cons_succ, i64_w, i32_w]
                  rfl
                refine take_ (i := 2) (N := some 74) (v := ?_) (a' := ?_) #[true, true, true, false, false, false] rfl rfl (by kernel_rfl) (fun _ _ _ h => h) (Or.inl ⟨by rfl, ?_⟩) hHeld ?_ ?_
                rotate_left
                · rintro w' hS
                  go_simp
                  with_reducible rfl
                rotate_left
                · simp only [Act.put, List.setIfInBounds_toArray, List.set_cons_zero, List.set_cons_succ, i64_w, i32_w]
                  rfl
                refine take_ (i := 3) (N := some 75) (v := ?_) (a' := ?_) #[true, true, true, true, false, false] rfl rfl (by kernel_rfl) (fun _ _ _ h => h) (Or.inl ⟨by rfl, ?_⟩) hHeld ?_ ?_
                rotate_left
                · rintro w' hS
                  have z0_ := pw_cell_below hS X3.out
                  have z1_ := pw_cell_below hS X4.out
                  have z2_ := pw_cell_below hS Z0.out
                  have z3_ := pw_cell_below hS Z1.out
                  go_simp
                  with_reducible rfl
                rotate_left
                · simp only [Act.put, List.setIfInBounds_toArray, List.set_cons_zero, List.set_cons_succ, i64_w, i32_w]
                  rfl
                refine take_ (i := 4) (N := some 76) (v := ?_) (a' := ?_) #[true, true, true, true, true, false] rfl rfl (by kernel_rfl) (fun _ _ _ h => h) (Or.inl ⟨by rfl, ?_⟩) hHeld ?_ ?_
                rotate_left
                · rintro w' hS
                  have z0_ := pw_cell_below hS X3.out
                  have z1_ := pw_cell_below hS X4.out
                  have z2_ := pw_cell_below hS Z0.out
                  have z3_ := pw_cell_below hS Z1.out
                  go_simp
                  with_reducible rfl
                rotate_left
                · simp only [Act.put, List.setIfInBounds_toArray, List.set_cons_zero, List.set_cons_succ, i64_w, i32_w]
                  rfl
                refine take_ (i := 5) (N := some 77) (v := ?_) (a' := ?_) #[true, true, true, true, true, true] rfl rfl (by kernel_rfl) (fun _ _ _ h => h) (Or.inl ⟨by rfl, ?_⟩) hHeld ?_ ?_
                rotate_left
                · rintro w' hS
                  go_simp
                  with_reducible rfl
                rotate_left
                · simp only [Act.put, List.setIfInBounds_toArray, List.set_cons_zero, List.set_cons_succ, i64_w, i32_w]
                  rfl
                refine done_ (by kernel_rfl) ?_
                skip
                clear hbq X3 X4 Z0 Z1
                have HO10 := Aside0.mk (Kd.R_drew HO9.out)
                have HH10 := Aside0.mk (blk_drew HH17.out)
                have HB10 := Aside0.mk (below_drew HB9.out)
                clear HO9 HH17 HH18 HB9
                generalize W9.drew = W10 at *
                go_wp2_with fail
                go_cut [18] (fun v18 W => v18 = .pointer (some ⟨g18, 0, none⟩) ∧ Aside0 (Kd.R k34 34 W w.heap.size (fun k => k = g) (.slice (some ⟨g, 0, none⟩) l0.length cap) (l0.set i (settledE ea eb p true au))) ∧ Aside0 (Below w.heap.size w W))
                case first =>
                  have hn17 := HG17.out.2
                  go_wp2_with fail
                  refine start_ (n := 12) (S := fun w' => w'.heap[g17]? = some (.cells #[.string eb.f0, .bool eb.f1, .string eb.f2, .int .i64 eb.f3.f0, .int .i64 eb.f3.f1] 34 (0, 0))) (ds := [11]) #[false, false, false, false, false, false, false, false, false, false, false, false] (by kernel_rfl) rfl rfl (blk_drew HH10.out) (fun hHeld => ?_)
                  refine take_ (i := 0) (N := some 79) (v := ?_) (a' := ?_) #[true, false, false, false, false, false, false, false, false, false, false, false] rfl rfl (by kernel_rfl) (fun _ _ _ h => h) (Or.inl ⟨by rfl, ?_⟩) hHeld ?_ ?_
                  rotate_left
                  · rintro w' hS
                    go_simp
                    with_reducible rfl
                  rotate_left
                  · simp only [Act.put, List.setIfInBounds_toArray, List.set_cons_zero, List.set_cons_succ, i64_w, i32_w]
                    rfl
                  refine take_ (i := 1) (N := some 80) (v := ?_) (a' := ?_) #[true, true, false, false, false, false, false, false, false, false, false, false] rfl rfl (by kernel_rfl) (fun _ _ _ h => h) (Or.inl ⟨by rfl, ?_⟩) hHeld ?_ ?_
                  rotate_left
                  · rintro w' hS
                    go_simp
                    with_reducible rfl
                  rotate_left
                  · simp only [Act.put, List.setIfInBounds_toArray, List.set_cons_zero, List.set_cons_succ, i64_w, i32_w]
                    rfl
                  refine take_ (i := 2) (N := some 81) (v := ?_) (a' := ?_) #[true, true, true, false, false, false, false, false, false, false, false, false] rfl rfl (by kernel_rfl) (fun _ _ _ h => h) (Or.inl ⟨by rfl, ?_⟩) hHeld ?_ ?_
                  rotate_left
                  · rintro w' hS
                    go_simp
                    with_reducible rfl
                  rotate_left
                  · simp only [Act.put, List.setIfInBounds_toArray, List.set_cons_zero, List.set_cons_succ, i64_w, i32_w]
                    rfl
                  refine take_ (i := 3) (N := some 82) (v := ?_) (a' := ?_) #[true, true, true, true, false, false, false, false, false, false, false, false] rfl rfl (by kernel_rfl) (fun _ _ _ h => h) (Or.inl ⟨by rfl, ?_⟩) hHeld ?_ ?_
                  rotate_left
                  · rintro w' hS
                    have z0_ := (blk_cell hS 1).trans rfl
                    have z1_ := (blk_cell hS 2).trans rfl
                    go_simp
                    with_reducible rfl
                  rotate_left
                  · simp only [Act.put, List.setIfInBounds_toArray, List.set_cons_zero, List.set_cons_succ, i64_w, i32_w]
                    rfl
                  refine take_ (i := 4) (N := some 83) (v := ?_) (a' := ?_) #[true, true, true, true, true, false, false, false, false, false, false, false] rfl rfl (by kernel_rfl) (fun _ _ _ h => h) (Or.inl ⟨by rfl, ?_⟩) hHeld ?_ ?_
                  rotate_left
                  · rintro w' hS
                    go_simp
                    with_reducible rfl
                  rotate_left
                  · simp only [Act.put, List.setIfInBounds_toArray, List.set_cons_zero, List.set_cons_succ, i64_w, i32_w]
                    rfl
                  refine take_ (i := 5) (N := some 84) (v := ?_) (a' := ?_) #[true, true, true, true, true, true, false, false, false, false, false, false] rfl rfl (by kernel_rfl) (fun _ _ _ h => h) (Or.inl ⟨by rfl, ?_⟩) hHeld ?_ ?_
                  rotate_left
                  · rintro w' hS
                    have z0_ := (blk_cell hS 1).trans rfl
                    have z1_ := (blk_cell hS 2).trans rfl
                    go_simp
                    with_reducible rfl
                  rotate_left
                  · simp only [Act.put, List.setIfInBounds_toArray, List.set_cons_zero, List.set_cons_succ, i64_w, i32_w]
                    rfl
                  refine take_ (i := 6) (N := some 85) (v := ?_) (a' := ?_) #[true, true, true, true, true, true, true, false, false, false, false, false] rfl rfl (by kernel_rfl) (fun _ _ _ h => h) (Or.inl ⟨by rfl, ?_⟩) hHeld ?_ ?_
                  rotate_left
                  · rintro w' hS
                    go_simp
                    with_reducible rfl
                  rotate_left
                  · simp only [Act.put, List.setIfInBounds_toArray, List.set_cons_zero, List.set_cons_succ, i64_w, i32_w]
                    rfl
                  refine take_ (i := 7) (N := some 86) (v := ?_) (a' := ?_) #[true, true, true, true, true, true, true, true, false, false, false, false] rfl rfl (by kernel_rfl) (fun _ _ _ h => h) (Or.inl ⟨by rfl, ?_⟩) hHeld ?_ ?_
                  rotate_left
                  · rintro w' hS
                    go_simp
                    with_reducible rfl
                  rotate_left
                  · simp only [Act.put, List.setIfInBounds_toArray, List.set_cons_zero, List.set_cons_succ, i64_w, i32_w]
                    rfl
                  refine one_ (i := 8) (N := none) #[true, true, true, true, true, true, true, true, true, false, false, false] rfl rfl (by kernel_rfl) (by decide) (fun K hK => ?_)
                  refine R_store_ent (by rfl) rfl (Kd.R_drew HO10.out) i HIs 1 ⟨p, eb.f1, ea.f2, ⟨(tickI (wasE ea eb) au).1, (tickI (wasE ea eb) au).2⟩⟩ [.bool eb.f1] (by first | rfl | (simp only [List.getElem_set_self]; rfl)) (by simp) (by rfl) (by first | rfl | omega) (by rfl) (by kernel_rfl) (by simp [Value.oneCell']) ?_
                  intro w13_8 ho_ hg_
                  have HO13_8 := Aside0.mk ho_
                  have hg13_8 := Aside0.mk hg_
                  clear ho_ hg_
                  refine hK.out _ _ (blk_grown hHeld hg13_8.out (fun e => by injection e with e; omega)) (fun hHeld => ?_)
                  clear hK K
                  refine norm_ (a' := ?_) ?_ ?_
                  rotate_left
                  · show Act.put _ (none) _ = _
                    simp only [Act.put, List.setIfInBounds_toArray, List.set_cons_zero, List.set_cons_succ, i64_w, i32_w]
                    rfl
                  refine take_ (i := 9) (N := some 87) (v := ?_) (a' := ?_) #[true, true, true, true, true, true, true, true, true, true, false, false] rfl rfl (by kernel_rfl) (fun _ _ _ h => h) (Or.inl ⟨by rfl, ?_⟩) hHeld ?_ ?_
                  rotate_left
                  · rintro w' hS
                    go_simp
                    with_reducible rfl
                  rotate_left
                  · simp only [Act.put, List.setIfInBounds_toArray, List.set_cons_zero, List.set_cons_succ, i64_w, i32_w]
                    rfl
                  refine take_ (i := 10) (N := some 88) (v := ?_) (a' := ?_) #[true, true, true, true, true, true, true, true, true, true, true, false] rfl rfl (by kernel_rfl) (fun _ _ _ h => h) (Or.inl ⟨by rfl, ?_⟩) hHeld ?_ ?_
                  rotate_left
                  · rintro w' hS
                    go_simp
                    with_reducible rfl
                  rotate_left
                  · simp only [Act.put, List.setIfInBounds_toArray, List.set_cons_zero, List.set_cons_succ, i64_w, i32_w]
                    rfl
                  refine last_ (i := 11) (N := none) #[true, true, true, true, true, true, true, true, true, true, true, true] rfl rfl (by kernel_rfl) (by decide) (fun K hK => ?_)
                  refine R_store_ent (by rfl) rfl HO13_8.out i (by rw [List.length_set]; exact HIs) 2 (settledE ea eb p true au) [.string eb.f2] (by first | rfl | (simp only [List.getElem_set_self]; rfl)) (by simp) (by rfl) (by first | rfl | omega) (by rfl) (by kernel_rfl) (by simp [Value.oneCell']) ?_
                  intro w13_11 ho_ hg_
                  have HO13_11 := Aside0.mk ho_
                  have hg13_11 := Aside0.mk hg_
                  clear ho_ hg_
                  refine hK.out _ _ ?_
                  clear hK K
                  refine norm_ (a' := ?_) ?_ ?_
                  rotate_left
                  · show Act.put _ (none) _ = _
                    simp only [Act.put, List.setIfInBounds_toArray, List.set_cons_zero, List.set_cons_succ, i64_w, i32_w]
                    rfl
                  refine done_ (by kernel_rfl) ?_
                  go_wp2
                  go_meet
                  case rel => exact ⟨rfl, ⟨by have := HO13_11.out; rwa [List.set_set, List.set_set] at this⟩, ⟨pw_below_grown (pw_below_grown (below_drew HB10.out) (some g) (below_drew HB10.out).size hg13_8.out (fun k hk => by cases hk; exact hgb)) (some g) (pw_below_grown (below_drew HB10.out) (some g) (below_drew HB10.out).size hg13_8.out (fun k hk => by cases hk; exact hgb)).size hg13_11.out (fun k hk => by cases hk; exact hgb)⟩⟩
                case rest =>
                  obtain ⟨rfl, HO9, HB9⟩ := hcut
                  obtain ⟨W9, rfl⟩ : ∃ x, x = wc := ⟨_, rfl⟩
                  have HLR := Kd.R_reads' HO9.out
                  have HMY : Aside0 (∀ W, Below W9.heap.size W9 W → Calls Tryz.prog 50 #[.slice (some ⟨g, 0, none⟩) l0.length cap] W fun e w' => e = .returned (.int .i64 (mayI (l0.set i (settledE ea eb p true au)))) ∧ Below W.heap.size W w') := ⟨fun W hb => by
                    have hmy := recon_may.calls (some ⟨g, 0, none⟩) cap (l0.set i (settledE ea eb p true au)) (mayI (l0.set i (settledE ea eb p true au))) W (Kd.C_below HLR.2.2 hb) (by rw [List.length_set]; exact HLR.2.1) (HMAY.out (settledE ea eb p true au) (settled_f0 _ _ _ _ _))
                    rw [List.length_set] at hmy
                    exact hmy⟩
                  clear HLR HMAY
                  have HE := Aside0.mk (show Kd.R k34 34 W9 w.heap.size (fun _ => True) (.slice (some ⟨g, 0, none⟩) l0.length cap) (l0.set i (settledE ea eb p true au)) from R_any HO9.out)
                  generalize l0.set i (settledE ea eb p true au) = fin at *
                  have HMY := Aside0.mk (fun W hb => HMY.out W hb)
                  by_cases hm : mayI fin = 0
                  · have h := h.out
                    rw [if_pos hm] at h
                    have h := Aside0.mk h
                    rw [hm] at HMY
                    clear hm
                    go_wp2_with fail
                    refine (HMY.out _ (Below.refl _ _)).mono ?_
                    rintro e w12 ⟨rfl, hb12⟩
                    have hb12 := Aside0.mk hb12
                    go_wp2
                    go_ret2
                    obtain ⟨rfl, rfl⟩ : r1 = fin ∧ r2 = 0 := by have := h.out; injection this with e1 e2; exact ⟨e1.symm, e2.symm⟩
                    exact ⟨.slice (some ⟨g, 0, none⟩) l0.length cap, by rfl, Kd.R_below HE.out hb12.out, below_step HB9.out hb12.out⟩
                  · have h := h.out
                    rw [if_neg hm] at h
                    obtain ⟨rfl, rfl⟩ : r1 = [] ∧ r2 = mayI fin := by injection h with e1 e2; exact ⟨e1.symm, e2.symm⟩
                    clear h
                    have hmb : (mayI fin == 0) = false := by simpa using hm
                    have hmb2 : (mayI fin != 0) = true := by simpa using hm
                    clear hm
                    go_wp2_with fail
                    refine (HMY.out _ (Below.refl _ _)).mono ?_
                    rintro e w12 ⟨rfl, hb12⟩
                    have hb12 := Aside0.mk hb12
                    go_wp2
                    go_ret2
                    exact ⟨.slice none 0 0, by rfl, Kd.R_nil _ _ _ _ _, below_step HB9.out hb12.out⟩
  · have hbad : ∃ m3 : Int, m3 ≠ 0 ∧ recon_Merge.f l0 l1 = some ([], [], m3) ∧ r1 = [] ∧ r2 = m3 := by
      by_cases hA : archB l0 = true ∧ archB l1 = true
      · have hmz : mayI (outM l0 l1) ≠ 0 := fun e => hg ⟨hA, e⟩
        rw [if_pos hA, if_neg hmz] at h
        rw [if_pos hA] at hM
        unfold mergedR at hM
        rw [if_neg hmz] at hM
        injection h with e1 e2
        exact ⟨_, hmz, hM, e1.symm, e2.symm⟩
      · rw [if_neg hA] at h hM
        injection h with e1 e2
        exact ⟨1, by decide, hM, e1.symm, e2.symm⟩
    obtain ⟨m3, hne, hM3, rfl, rfl⟩ := hbad
    clear h hM hg
    have HM := Aside0.mk hM3
    have hmb : (r2 == 0) = false := by simpa using hne
    have hmb2 : (r2 != 0) = true := by simpa using hne
    clear hM3 hne hr0 hr1
    go_enter Tryz.func23, Tryz.ntmps23
    go_wp2_with fail
    refine (recon_Merge.calls A0 c0 l0 A1 c1 l1 _ _ _ _ HR0.out hc0 HR1.out hc1 HM.out).mono ?_
    rintro e w1 ⟨v0, v1, rfl, hR0, hR1, hb1⟩
    have hb1 := Aside0.mk hb1
    clear hR0 hR1
    go_wp2
    go_ret2
    exact ⟨.slice none 0 0, by rfl, Kd.R_nil _ _ _ _ _, hb1.out⟩
end Go.Proofs.YtlkmegeecmkkbaaGreatDoor.P

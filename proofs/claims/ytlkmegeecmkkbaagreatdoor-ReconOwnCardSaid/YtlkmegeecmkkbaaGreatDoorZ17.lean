/-
  recon.Merge: its contract, proved by hand. (Texts of this session.)
-/
import Derived.Test.YtlkmegeecmkkbaaGreatDoorZ16
namespace Go.Proofs.YtlkmegeecmkkbaaGreatDoor.P
open Go.RowKit Go.Maps Go.Proofs.YtlkmegeecmkkbaaGreatDoorW.PrintWords Go.Proofs.YtlkmegeecmkkbaaGreatDoorW.PrintLast Go.Proofs.YtlkmegeecmkkbaaGreatDoorW.PrintMore
set_option linter.unusedVariables false
set_option linter.unusedSimpArgs false
def recon_Merge.f (a b : List S34) : Option (List S34 × List ByteArray × Int) :=
  if shortE a = true ∧ shortE b = true ∧ a.length ≤ 140737488351232 / 56 ∧ b.length ≤ 140737488351232 / 56 then
    some (if archB a = true ∧ archB b = true then (if mayI (outM a b) = 0 then (outM a b, (confM a b).map BAof, 0) else ([], [], mayI (outM a b))) else ([], [], 1))
  else none
def mergedR (a b : List S34) : List S34 × List ByteArray × Int := if mayI (outM a b) = 0 then (outM a b, (confM a b).map BAof, 0) else ([], [], mayI (outM a b))
set_option maxHeartbeats 8000000 in
set_option maxRecDepth 100000 in
theorem recon_Merge.calls (A0 : Option Addr) (c0 : Nat) (l0 : List S34) (A1 : Option Addr) (c1 : Nat) (l1 : List S34) (r1 : List S34) (r2 : List ByteArray) (r3 : Int) (w : World) (hr0 : Kd.C k34 w A0 l0.length l0) (hc0 : l0.length ≤ c0) (hr1 : Kd.C k34 w A1 l1.length l1) (hc1 : l1.length ≤ c1) (h : recon_Merge.f l0 l1 = some (r1, r2, r3)) :
    Calls Tryz.prog 14 #[.slice A0 l0.length c0, .slice A1 l1.length c1] w fun e w' => ∃ v0 v1 : Value, e = .returned (.tuple #[v0, v1, .int .i64 r3]) ∧ Kd.R k34 34 w' w.heap.size (fun _ => True) v0 r1 ∧ Kd.R Kd.string 9 w' w.heap.size (fun _ => True) v1 r2 ∧ Below w.heap.size w w' := by
  unfold recon_Merge.f at h
  split at h
  case isFalse => cases h
  rename_i hs
  obtain ⟨hsh0, hsh1, hm0, hm1⟩ := hs
  replace h := Option.some.inj h
  have HS0 := Aside0.mk hsh0
  have HS1 := Aside0.mk hsh1
  have HR0 := Aside0.mk hr0
  have HR1 := Aside0.mk hr1
  have hf0 := Aside0.mk (show scan_Right.f l0 = some (archB l0) from by unfold scan_Right.f; rw [if_pos ⟨hsh0, hm0⟩])
  have hf1 := Aside0.mk (show scan_Right.f l1 = some (archB l1) from by unfold scan_Right.f; rw [if_pos ⟨hsh1, hm1⟩])
  clear hr0 hr1 hsh0 hsh1
  have hu9 := Tryz.underlying9
  have hu34 := Tryz.underlying34
  cases hA0 : archB l0 with
  | false =>
    rw [hA0] at hf0 h
    rw [if_neg (by simp)] at h
    have h := Aside0.mk h
    clear hf1
    go_enter Tryz.func14, Tryz.ntmps14
    go_wp2_with fail
    refine (scan_Right.calls A0 c0 l0 false _ HR0.out hc0 hf0.out).mono ?_
    rintro e w1 ⟨rfl, hb1⟩
    have hb1 := Aside0.mk hb1
    go_wp2
    go_ret3
    obtain ⟨rfl, rfl, rfl⟩ : r1 = [] ∧ r2 = [] ∧ r3 = 1 := by have := h.out; injection this with e1 e2; injection e2 with e2 e3; exact ⟨e1.symm, e2.symm, e3.symm⟩
    exact ⟨_, _, rfl, Kd.R_nil _ _ _ _ _, Kd.R_nil _ _ _ _ _, hb1.out⟩
  | true =>
    rw [hA0] at hf0 h
    cases hA1 : archB l1 with
    | false =>
      rw [hA1] at hf1 h
      rw [if_neg (by simp)] at h
      have h := Aside0.mk h
      go_enter Tryz.func14, Tryz.ntmps14
      go_wp2_with fail
      refine (scan_Right.calls A0 c0 l0 true _ HR0.out hc0 hf0.out).mono ?_
      rintro e w1 ⟨rfl, hb1⟩
      have hb1 := Aside0.mk hb1
      go_wp2_with fail
      refine (scan_Right.calls A1 c1 l1 false _ (Kd.C_below HR1.out hb1.out) hc1 hf1.out).mono ?_
      rintro e w2 ⟨rfl, hb2⟩
      have hb2 := Aside0.mk hb2
      go_wp2
      go_ret3
      obtain ⟨rfl, rfl, rfl⟩ : r1 = [] ∧ r2 = [] ∧ r3 = 1 := by have := h.out; injection this with e1 e2; injection e2 with e2 e3; exact ⟨e1.symm, e2.symm, e3.symm⟩
      exact ⟨_, _, rfl, Kd.R_nil _ _ _ _ _, Kd.R_nil _ _ _ _ _, below_then hb1.out hb1.out.size hb2.out⟩
    | true =>
      rw [hA1] at hf1 h
      rw [if_pos ⟨rfl, rfl⟩] at h
      have h : mergedR l0 l1 = (r1, r2, r3) := h
      have h := Aside0.mk h
      go_enter Tryz.func14, Tryz.ntmps14
      go_wp2_with fail
      refine (scan_Right.calls A0 c0 l0 true _ HR0.out hc0 hf0.out).mono ?_
      rintro e w1 ⟨rfl, hb1⟩
      have hb1 := Aside0.mk hb1
      go_wp2_with fail
      refine (scan_Right.calls A1 c1 l1 true _ (Kd.C_below HR1.out hb1.out) hc1 hf1.out).mono ?_
      rintro e w2 ⟨rfl, hb2⟩
      have HB := Aside0.mk (below_then hb1.out hb1.out.size hb2)
      clear hb1 hb2
      go_wp2_with fail
      refine (known_calls A0 c0 l0 _ (Kd.C_below HR0.out HB.out) hc0 HS0.out (by omega)).mono ?_
      rintro e w3 ⟨rfl, ho1, hb3⟩
      have hz1 : w.heap.size ≤ w2.heap.size := HB.out.size
      have HB1 := Aside0.mk (below_then HB.out HB.out.size hb3)
      have hlt1 := ho1.lt
      have HO1 := Aside0.mk ho1
      clear hb3 ho1
      go_wp2_with fail
      refine (known_calls A1 c1 l1 _ (Kd.C_below HR1.out HB1.out) hc1 HS1.out (by omega)).mono ?_
      rintro e w4 ⟨rfl, ho2, hb4⟩
      have HO1 := Aside0.mk (HO1.out.kept (grown_of_below hb4 none) (by simp))
      have HB2 := Aside0.mk (below_then HB1.out HB1.out.size hb4)
      have hz2 : w.heap.size ≤ w3.heap.size := HB1.out.size
      have hlt2 := ho2.lt
      have HO2 := Aside0.mk ho2
      have hbz : w2.heap.size ≠ w3.heap.size := by omega
      clear hb4 ho2 HB HB1
      generalize w2.heap.size = B1 at *
      generalize w3.heap.size = B2 at *
      go_wp2_with (first | (at_range; refine wpList_range_own _ rfl _ 69 rfl 9 34 keyed_str und_map entR B2 l1.length (mapOf l1) rfl HO2.out ?_; intro w5 hrg5 hg5 hs5; have HRG := Aside0.mk hrg5; have HG5 := Aside0.mk hg5; clear hrg5 hg5) | go_in)
      go_frame
      have hrl := HRG.out.lt
      have hne5 := HRG.out.ne
      have HO1 := Aside0.mk (HO1.out.kept HG5.out (by simp))
      have HO2 := Aside0.mk (HO2.out.kept HG5.out (by simp))
      have hz4 : w.heap.size ≤ w4.heap.size := HB2.out.size
      have HB5 := Aside0.mk (pw_below_grown HB2.out none hz4 HG5.out (fun k hk => by cases hk))
      have HN0 := Aside0.mk (arch_nodup hA0)
      have HN1 := Aside0.mk (arch_nodup hA1)
      have HK0 := Aside0.mk (arch_clock hA0)
      have HK1 := Aside0.mk (arch_clock hA1)
      have hsz1 : Maps.size (mapOf l1) ≤ l1.length := HO2.out.size_le
      clear HB2 HG5 HR0 HR1
      generalize w4.heap.size = RR at *
      go_loopg [9] (Maps.size (mapOf l1)) (fun gg s9 wr => ∃ (left : Lit → Bool) (cnt n : Nat) (ss : List (List UInt8)), cnt ≤ gg ∧ n + cnt ≤ l0.length + l1.length ∧ ss.length + cnt ≤ l1.length ∧ Aside0 (wr.ranges Tryz.prog 9 entR B2 RR l1.length (mapOf l1) left cnt) ∧ Aside0 (wr.ownsMap Tryz.prog 9 entR B1 n (mapM l0 l1 ss)) ∧ Aside0 (Collected (mapOf l1) left ss) ∧ Aside0 (Kd.R Kd.string 9 wr w.heap.size (fun _ => True) s9 ((ss.filter (isConf l0 l1)).map BAof)) ∧ Aside0 (Below w.heap.size w wr))
      case atStart => exact ⟨_, _, l0.length, [], Nat.le_refl _, by omega, by simpa using hsz1, HRG, HO1, ⟨Collected.start _⟩, ⟨Kd.R_nil _ _ _ _ _⟩, HB5⟩
      case round =>
        clear HRG HO1 HO2 HB5
        obtain ⟨left, cnt, n, ss, hcg, hnc, hsc, HRG, HO1, HC, HS, HB⟩ := hrel
        go_wp2_with (first | (at_next; refine wpList_next_ent _ rfl _ rfl B2 RR l1.length l1 HN1.out left cnt rfl HRG.out ?_ ?_) | go_in)
        · intro hl0
          have hall := coll_all HC.out hl0
          have hhas : ∀ x, Maps.has (mapM l0 l1 ss) (.string x) = (mergedE l0 l1 x).isSome := has_done hall
          have hat : ∀ x z, (mapM l0 l1 ss).atKey (.string x) z = heldOr (mergedE l0 l1 x) z := atKey_done HN0.out hall
          have hcf := conf_sorted HN0.out HN1.out HC.out.1 hall
          have hcl : (ss.filter (isConf l0 l1)).length < 4611686018427387904 := by
            have h1 := List.length_filter_le (isConf l0 l1) ss
            omega
          have hszD := HO1.out.size_le
          have hHH := Aside0.mk hhas
          have hAT := Aside0.mk hat
          have hCF := Aside0.mk hcf
          have hCL := Aside0.mk hcl
          clear hall hhas hat hcf hcl HC HRG
          generalize mapM l0 l1 ss = D at *
          generalize ss.filter (isConf l0 l1) = cs at *
          have hmk : Aside0 (∀ W, Calls Tryz.prog 49 #[.map (some B1)] W fun e w' => e = .returned (.func (.func 89) #[] #[.pointer (some ⟨W.heap.size, 0, none⟩)]) ∧ w' = W.alloc (.cells #[.map (some B1)] 69)) :=
            ⟨fun W => callsIn_wide.1 (Tryz.maps_Keys_49 (some B1) W)⟩
          have hsk := Aside0.mk (callsIn_wide.1 (Tryz.slices_Sorted_keys_48_49 B1 n D entR wr HO1.out (by unfold maxLen; omega) (by omega)))
          go_wp2_with fail
          refine (hmk.out _).mono ?_
          rintro e w6 ⟨rfl, rfl⟩
          go_wp2_with fail
          refine hsk.out.mono ?_
          rintro e w7 ⟨v7, ks, rfl, hpk, hrow, hnil, hb7⟩
          obtain ⟨hk1, hk2⟩ := keys_of_map HN0.out HN1.out HO1.out hHH.out hpk
          have hKL := keysM_length l0 l1
          rw [hk1, hk2, ← encs_BAof] at hrow
          have HKS := Aside0.mk (Kd.R_lower (Kd.R_of_own (ok := fun _ => True) (by rw [List.length_map]; exact hrow) (fun _ _ => trivial)) (by simp; exact Nat.le_trans HB.out.size (Nat.le_succ _)) : Kd.R Kd.string 9 w7 w.heap.size (fun _ => True) v7 ((keysM l0 l1).map BAof))
          have hb7' := Aside0.mk hb7
          have HO := Aside0.mk ((HO1.out.alloc (.cells #[.map (some B1)] 69)).kept (grown_of_below hb7 none) (by simp))
          have HS7 := Aside0.mk (Kd.R_below (Kd.R_alloc HS.out (.cells #[.map (some B1)] 69)) hb7)
          have HB7 := Aside0.mk (below_step (below_alloc HB.out (.cells #[.map (some B1)] 69)) hb7)
          have HL : Aside0 (∀ i (h : i < ((keysM l0 l1).map BAof).length), ∃ e, ((keysM l0 l1).map BAof)[i].size < 4294967281 ∧ (∀ z, D.atKey (keyE ((keysM l0 l1).map BAof)[i]) z = .held e) ∧ ((keysM l0 l1).take (i + 1)).filterMap (mergedE l0 l1) = ((keysM l0 l1).take i).filterMap (mergedE l0 l1) ++ [e]) := ⟨fun i h => by
            rw [List.length_map] at h
            have hm := mem_keysM.1 (List.getElem_mem h)
            obtain ⟨e, he⟩ := Option.isSome_iff_exists.1 hm
            refine ⟨e, ?_, ?_, take_filterMap_succ l0 l1 _ i h he⟩
            · rw [List.getElem_map]; exact key_short HS0.out HS1.out hm
            · intro z
              rw [List.getElem_map]
              have := hAT.out (keysM l0 l1)[i] z
              rw [he] at this
              exact this⟩
          have HLT : Aside0 (∀ i, i ≤ ((keysM l0 l1).map BAof).length → (((keysM l0 l1).take i).filterMap (mergedE l0 l1)).length ≤ i) := ⟨fun i _ => Nat.le_trans (List.length_filterMap_le _ _) (by simp; omega)⟩
          have HL0 : Aside0 (((keysM l0 l1).take 0).filterMap (mergedE l0 l1) = []) := ⟨rfl⟩
          have HLE : Aside0 (((keysM l0 l1).take ((keysM l0 l1).map BAof).length).filterMap (mergedE l0 l1) = outM l0 l1) := ⟨by rw [List.length_map, List.take_length]; rfl⟩
          have hLL : ((keysM l0 l1).map BAof).length ≤ 64 := by rw [List.length_map]; have := arch_len hA0; have := arch_len hA1; omega
          clear hb7 hrow hpk hnil hk1 hk2 HO1 HS HB hAT hHH hKL hmk hsk
          generalize hF : (fun i : Nat => ((keysM l0 l1).take i).filterMap (mergedE l0 l1)) = F at *
          have hFe : ∀ i, ((keysM l0 l1).take i).filterMap (mergedE l0 l1) = F i := fun i => congrFun hF i
          simp only [hFe] at HL HLT HL0 HLE
          clear hFe hF
          generalize (keysM l0 l1).map BAof = L at *
          obtain ⟨A7, c7, e7, hl7, hC7⟩ := Kd.R_reads HKS.out
          subst e7
          clear hC7
          go_wp2
          go_loopg [16, 68] L.length (fun gg s16 s68 wr => ∃ kk : Nat, kk ≤ L.length ∧ L.length - kk ≤ gg ∧ s68 = .int .i64 kk ∧ Aside0 (Kd.R k34 34 wr w.heap.size (fun _ => True) s16 (F kk)) ∧ Aside0 (wr.ownsMap Tryz.prog 9 entR B1 n D) ∧ Aside0 (Kd.R Kd.string 9 wr w.heap.size (fun _ => True) u9 (cs.map BAof)) ∧ Aside0 (Kd.R Kd.string 9 wr w.heap.size (fun _ => True) (.slice A7 L.length c7) L) ∧ Aside0 (Below w.heap.size w wr))
          case atStart => exact ⟨0, Nat.zero_le _, by omega, rfl, ⟨by rw [HL0.out]; exact Kd.R_nil _ _ _ _ _⟩, HO, HS7, HKS, HB7⟩
          case round =>
            clear HO HS7 HKS HB7
            obtain ⟨kk, hkk, hg, rfl, HR, HO, HS, HKS, HB⟩ := hrel
            by_cases hlt : kk < L.length
            · have hltz : (kk : Int) < (L.length : Int) := by omega
              obtain ⟨e, hsz, hate, hout⟩ := HL.out kk hlt
              obtain ⟨A8, c8, e8, hl8, hC8⟩ := Kd.R_reads HKS.out
              injection e8 with e8a e8b e8c
              subst e8a e8c
              obtain ⟨ad, e9, hx0⟩ := Kd.at_string hC8 (kk : Int) (by omega) hltz
              cases e9
              rw [rdOf_nat' L kk hlt, Int.toNat_natCast] at hx0
              have LM : Aside0 ((F kk).length < 1000000) := ⟨by have := HLT.out kk hkk; omega⟩
              have hsz := Aside0.mk hsz
              have hate := Aside0.mk hate
              have hout := Aside0.mk hout
              clear hC8
              generalize L[kk] = p at *
              generalize F kk = acc at *
              go_wp2_with (first | (at_lookup; refine wpList_look_plain _ rfl _ _ rfl B1 n D rfl HO.out p hsz.out rfl e hate.out ?_) | ((with_reducible refine gate_builtin (b := .append) (xs := #[.tmp 72, .tmp 76]) rfl ?_); at_builtin; refine Kd.R_append k34 (w0 := w) w.heap.size rfl (.tmp 72) (.tmp 76) 22 34 (.agg #[(.string ⟨#[]⟩), (.bool false), (.string ⟨#[]⟩), (.int .i64 0), (.int .i64 0)]) 56 rfl Tryz.underlying22 info34 rfl (by decide) (by omega) u16 acc e [.string e.f0, .bool e.f1, .string e.f2, .int .i64 e.f3.f0, .int .i64 e.f3.f1] (fun _ => True) (fun _ => False) rfl (by first | rfl | (go_simp; done) | (go_simp; rfl)) ?aP (fun _ hk => hk.elim) ?aF ?aO ?aB ?aS ?aL ?_; (case aP => exact k34_mkM _ _ _ e); (case aB => exact HB.out); (case aF => exact (fun _ _ => trivial)); (case aO => exact HR.out); (case aS => exact HB.out.size); (case aL => have := LM.out; omega); intro v116 w11 ho hb hg2 hat2; have HR11 := Aside0.mk ho; have HB11 := Aside0.mk hb; have HO11 := Aside0.mk (HO.out.kept hg2 (R_ne_nc' HR.out (notcells_map HO.out))); have HS11 := Aside0.mk (Kd.R_over HS.out HR.out (by decide) hg2); have HKS11 := Aside0.mk (Kd.R_over HKS.out HR.out (by decide) hg2); clear ho hb hg2 hat2 HO HR HS HKS HB))
              go_roundg (L.length - (kk + 1))
              case measure => omega
              case rel => exact ⟨kk + 1, by omega, by omega, by go_num, ⟨by rw [hout.out]; exact HR11.out⟩, HO11, HS11, HKS11, HB11⟩
            · have hk : kk = L.length := by omega
              subst hk
              rw [HLE.out] at HR
              obtain ⟨A9, c9, e9, hl9, hC9⟩ := Kd.R_reads HR.out
              have HC9 := Aside0.mk hC9
              have hmay := Aside0.mk (show recon_may.f (outM l0 l1) = some (mayI (outM l0 l1)) from by
                unfold recon_may.f
                rw [if_pos ⟨outM_short HS0.out HS1.out, by have := outM_length l0 l1; have := arch_len hA0; have := arch_len hA1; omega⟩])
              have hsort := Aside0.mk (fun W (hb : Below wr.heap.size wr W) => sort_R (w := W) (ok := fun _ => True) cs (Kd.R_below HS.out hb) hCL.out)
              unfold mergedR at h
              clear hC9 HL HLT HL0 HLE HKS HO
              generalize outM l0 l1 = out at *
              subst e9
              by_cases hm0 : mayI out = 0
              · rw [if_pos hm0] at h
                rw [hm0] at hmay
                have h := h.out
                injection h with h1 h2
                injection h2 with h2 h3
                subst h1 h2 h3
                go_wp2_with fail
                refine (recon_may.calls A9 c9 out 0 _ HC9.out hl9 hmay.out).mono ?_
                rintro e w12 ⟨rfl, hb12⟩
                have hb12 := Aside0.mk hb12
                go_wp2_with fail
                refine (hsort.out _ hb12.out).mono ?_
                rintro e w13 ⟨rfl, hR13, hg13, hs13⟩
                have hR13 := Aside0.mk hR13
                have hg13 := Aside0.mk hg13
                go_wp2
                go_ret3
                refine ⟨_, _, rfl, Kd.R_over (Kd.R_below HR.out hb12.out) (Kd.R_below HS.out hb12.out) (by decide) hg13.out, ?_, pw_below_grown (below_step HB.out hb12.out) _ (below_step HB.out hb12.out).size hg13.out (fun k hk => Kd.R_base HS.out k hk)⟩
                rw [← hCF.out]
                exact hR13.out
              · rw [if_neg hm0] at h
                have h := h.out
                injection h with h1 h2
                injection h2 with h2 h3
                subst h1 h2
                rw [h3] at hmay hm0
                go_wp2_with fail
                refine (recon_may.calls A9 c9 out r3 _ HC9.out hl9 hmay.out).mono ?_
                rintro e w12 ⟨rfl, hb12⟩
                have hb12 := Aside0.mk hb12
                go_wp2
                go_ret3
                exact ⟨_, _, rfl, Kd.R_nil _ _ _ _ _, Kd.R_nil _ _ _ _ _, below_step HB.out hb12.out⟩
        · intro c w6 cnt1 hlo hlk hrg1 hlt hg1 hs1 hen
          have hx : pathL c ∉ ss := coll_not HC.out hlk
          have hmem := (lookE_mem hlo).1
          have hsz := Aside0.mk (shortE_of_mem HS1.out hmem)
          have hokc := HK1.out c hmem
          have hhas : Maps.has (mapM l0 l1 ss) (keyE c.f0) = (lookE l0 (pathL c)).isSome := by
            rw [show keyE c.f0 = .string (pathL c) from rfl, has_mapM l0 l1 _ ss (coll_b HC.out)]; simp [hx]
          have hat : ∀ z, (mapM l0 l1 ss).atKey (keyE c.f0) z = heldOr (lookE l0 (pathL c)) z := fun z => by
            rw [show keyE c.f0 = .string (pathL c) from rfl, at_mapM l0 l1 HN0.out _ z ss (coll_b HC.out), if_neg hx]
          have HC' := Aside0.mk (HC.out.step (x := pathL c) hlk (fun zd => by rw [at_mapOf _ zd l1 HN1.out, hlo]; rfl))
          have hcf : BAof (pathL c) = c.f0 := BAof_path
          have hcs := conf_snoc l0 l1 ss (pathL c)
          have hzB : w.heap.size ≤ w6.heap.size := by rw [hs1]; exact HB.out.size
          have HO7 := Aside0.mk ((HO1.out.kept hg1 (by simp; omega)).alloc (.cells #[.string c.f0, .bool c.f1, .string c.f2, .int .i64 c.f3.f0, .int .i64 c.f3.f1] 34))
          have HRG7 := Aside0.mk (hrg1.alloc (.cells #[.string c.f0, .bool c.f1, .string c.f2, .int .i64 c.f3.f0, .int .i64 c.f3.f1] 34))
          have HS7 := Aside0.mk (Kd.R_alloc (R_str_kept HS.out (notcells_iter HRG.out) hg1) (.cells #[.string c.f0, .bool c.f1, .string c.f2, .int .i64 c.f3.f0, .int .i64 c.f3.f1] 34))
          have HB7 := Aside0.mk (below_alloc (pw_below_grown HB.out _ HB.out.size hg1 (fun k hk => by cases hk; exact hz4)) (.cells #[.string c.f0, .bool c.f1, .string c.f2, .int .i64 c.f3.f0, .int .i64 c.f3.f1] 34))
          have hkey := Aside0.mk (keyE_mk hsz.out)
          have hnm : Aside0 (n < maxLen) := ⟨by unfold maxLen; omega⟩
          have hcl : Aside0 ((ss.filter (isConf l0 l1)).length < 4398046511104) := ⟨by
            have h1 := List.length_filter_le (isConf l0 l1) ss
            omega⟩
          clear HO1 HRG HS HB hrg1 hg1 HC hlk hmem hx
          cases hl0 : lookE l0 (pathL c) with
          | none =>
            rw [hl0] at hhas hat
            rw [conf_none hl0, if_neg (by decide)] at hcs
            have hst := Aside0.mk (step_none ss hl0 hlo)
            have hval := Aside0.mk (entR_mk c)
            unfold entV at hval
            have hhas := Aside0.mk hhas
            have hcs := Aside0.mk hcs
            clear hat
            generalize mapM l0 l1 ss = D at *
            go_wp2_with (first | (at_lookup; refine wpList_look_none _ rfl _ _ rfl B1 n D rfl HO7.out c.f0 hsz.out rfl hhas.out ?_) | (at_mapUpdate; refine wpList_mapUpdate_own _ rfl _ _ _ 69 rfl 9 34 keyed_str und_map entR B1 n D rfl (HO7.out.alloc _) hnm.out _ _ (keyE c.f0) rfl rfl hkey.out (.held c) [] hval.out ?_; intro w8 ho8 hg8; go_frame) | go_in)
            have HO8 := Aside0.mk (show w8.ownsMap Tryz.prog 9 entR B1 (n + 1) (mapM l0 l1 (ss ++ [pathL c])) by rw [hst.out]; exact ho8)
            have HRG8 := Aside0.mk ((HRG7.out.alloc _).kept hg8 (by simp; omega) (by simp; omega))
            have HS8 := Aside0.mk (R_str_kept (Kd.R_alloc HS7.out _) (notcells_map (HO7.out.alloc _)) hg8)
            have HB8 := Aside0.mk (pw_below_grown (below_alloc HB7.out _) _ (below_alloc HB7.out _).size hg8 (fun k hk => by cases hk; omega))
            clear ho8 hg8
            go_roundg cnt1
            case measure => omega
            case rel => exact ⟨_, cnt1, n + 1, ss ++ [pathL c], Nat.le_refl _, by omega, by simp; omega, HRG8, HO8, HC', ⟨by rw [hcs.out]; exact HS8.out⟩, HB8⟩
          | some y =>
            rw [hl0] at hhas hat
            rw [conf_some hl0 hlo] at hcs
            have hst := Aside0.mk (step_some ss hl0 hlo)
            have hcc := Aside0.mk (fun W => come_calls y c (HK0.out y (lookE_mem hl0).1) hokc W)
            obtain ⟨z1, z2, hz⟩ : ∃ z1 z2, comeE y c = (z1, z2) := ⟨_, _, rfl⟩
            rw [hz] at hcs
            have hst : Aside0 (mapM l0 l1 (ss ++ [pathL c]) = (mapM l0 l1 ss).put (keyE c.f0) (.held z1)) := ⟨by have := hst.out; rw [hz] at this; exact this⟩
            have hcc : Aside0 (∀ W, Calls Tryz.prog 47 #[.agg #[.string y.f0, .bool y.f1, .string y.f2, .int .i64 y.f3.f0, .int .i64 y.f3.f1], .agg #[.string c.f0, .bool c.f1, .string c.f2, .int .i64 c.f3.f0, .int .i64 c.f3.f1]] W fun e w' => e = .returned (.tuple #[.agg #[.string z1.f0, .bool z1.f1, .string z1.f2, .int .i64 z1.f3.f0, .int .i64 z1.f3.f1], .bool z2]) ∧ Below W.heap.size W w') := ⟨fun W => by have := hcc.out W; rw [hz] at this; exact this⟩
            have hval := Aside0.mk (entR_mk z1)
            unfold entV at hval
            have hhas := Aside0.mk hhas
            have hat : Aside0 (∀ z, (mapM l0 l1 ss).atKey (keyE c.f0) z = .held y) := ⟨hat⟩
            clear hz
            generalize mapM l0 l1 ss = D at *
            have hbx : Aside0 (∀ W, Below W.heap.size W (W.alloc (.cells #[.string z1.f0, .bool z1.f1, .string z1.f2, .int .i64 z1.f3.f0, .int .i64 z1.f3.f1] 34))) := ⟨fun W => (Below.refl _ _).alloc (Nat.le_refl _) _⟩
            go_wp2_with (first | (at_lookup; refine wpList_look_some _ rfl _ _ rfl B1 n D rfl HO7.out c.f0 hsz.out rfl y hat.out hhas.out ?_))
            refine (hcc.out _).mono ?_
            rintro e w8 ⟨rfl, hb8⟩
            have hg8 := grown_of_below hb8 none
            have HO9 := Aside0.mk (((HO7.out.alloc _).kept hg8 (by simp)).alloc (.cells #[.string z1.f0, .bool z1.f1, .string z1.f2, .int .i64 z1.f3.f0, .int .i64 z1.f3.f1] 34))
            have HRG9 := Aside0.mk (((HRG7.out.alloc _).kept hg8 (by simp) (by simp)).alloc (.cells #[.string z1.f0, .bool z1.f1, .string z1.f2, .int .i64 z1.f3.f0, .int .i64 z1.f3.f1] 34))
            have HS9 := Aside0.mk (Kd.R_alloc (Kd.R_below (Kd.R_alloc HS7.out _) hb8) (.cells #[.string z1.f0, .bool z1.f1, .string z1.f2, .int .i64 z1.f3.f0, .int .i64 z1.f3.f1] 34))
            have HB9 := Aside0.mk (below_alloc (below_step (below_alloc HB7.out _) hb8) (.cells #[.string z1.f0, .bool z1.f1, .string z1.f2, .int .i64 z1.f3.f0, .int .i64 z1.f3.f1] 34))
            clear hb8 hg8 HO7 HRG7 HS7 HB7
            have LM : Aside0 (((ss.filter (isConf l0 l1)).map BAof).length < 4398046511104) := ⟨by rw [List.length_map]; exact hcl.out⟩
            cases z2 with
            | false =>
              have hcs2 : Aside0 (((ss ++ [pathL c]).filter (isConf l0 l1)).map BAof = (ss.filter (isConf l0 l1)).map BAof) := ⟨by rw [hcs, if_neg (by simp)]⟩
              clear hcs
              generalize (ss.filter (isConf l0 l1)).map BAof = acc at *
              go_wp2_with (first | (at_mapUpdate; refine wpList_mapUpdate_own _ rfl _ _ _ 69 rfl 9 34 keyed_str und_map entR B1 n D rfl HO9.out hnm.out _ _ (keyE c.f0) rfl rfl hkey.out (.held z1) [] hval.out ?_; intro w10 ho10 hg10; rw [← hst.out] at ho10; have HO10 := Aside0.mk ho10; have HRG10 := Aside0.mk (HRG9.out.kept hg10 (by simp; omega) (by simp; omega)); have HS10 := Aside0.mk (R_str_kept HS9.out (notcells_map HO9.out) hg10); have HB10 := Aside0.mk (pw_below_grown HB9.out _ HB9.out.size hg10 (fun k hk => by cases hk; omega)); clear ho10 hg10 HO9 HRG9 HS9 HB9; go_frame))
              go_roundg cnt1
              case measure => omega
              case rel => exact ⟨_, cnt1, n + 1, ss ++ [pathL c], Nat.le_refl _, by omega, by simp; omega, HRG10, HO10, HC', ⟨by rw [hcs2.out]; exact HS10.out⟩, HB10⟩
            | true =>
              have hcs2 : Aside0 (((ss ++ [pathL c]).filter (isConf l0 l1)).map BAof = (ss.filter (isConf l0 l1)).map BAof ++ [c.f0]) := ⟨by rw [hcs, if_pos rfl, List.map_append, List.map_cons, List.map_nil, hcf]⟩
              clear hcs
              generalize (ss.filter (isConf l0 l1)).map BAof = acc at *
              go_wp2_with (first | (at_mapUpdate; refine wpList_mapUpdate_own _ rfl _ _ _ 69 rfl 9 34 keyed_str und_map entR B1 n D rfl HO9.out hnm.out _ _ (keyE c.f0) rfl rfl hkey.out (.held z1) [] hval.out ?_; intro w10 ho10 hg10; rw [← hst.out] at ho10; have HO10 := Aside0.mk ho10; have HRG10 := Aside0.mk (HRG9.out.kept hg10 (by simp; omega) (by simp; omega)); have HS10 := Aside0.mk (R_str_kept HS9.out (notcells_map HO9.out) hg10); have HB10 := Aside0.mk (pw_below_grown HB9.out _ HB9.out.size hg10 (fun k hk => by cases hk; omega)); clear ho10 hg10 HO9 HRG9 HS9 HB9; go_frame) | ((with_reducible refine gate_builtin (b := .append) (xs := #[.tmp 60, .tmp 62]) rfl ?_); at_builtin; refine Kd.R_append Kd.string (w0 := w) w.heap.size rfl (.tmp 60) (.tmp 62) 25 9 (.string ⟨#[]⟩) 16 rfl Tryz.underlying25 info9 rfl (by decide) (by omega) u9 acc c.f0 [.string c.f0] (fun _ => True) (fun _ => False) rfl (by first | rfl | (go_simp; done) | (go_simp; rfl)) ?aP (fun _ hk => hk.elim) ?aF ?aO ?aB ?aS ?aL ?_; (case aP => exact rfl); (case aB => exact HB10.out); (case aF => exact (fun _ _ => trivial)); (case aO => exact HS10.out); (case aS => exact HB10.out.size); (case aL => have := LM.out; omega); intro v116 w11 ho hb hg2 hat2; have HS11 := Aside0.mk ho; have HB11 := Aside0.mk hb; have HO11 := Aside0.mk (HO10.out.kept hg2 (R_ne_nc HS10.out (notcells_map HO10.out))); have HRG11 := Aside0.mk (HRG10.out.kept hg2 (R_ne_nc HS10.out (notcells_map HRG10.out.owns)) (R_ne_nc HS10.out (notcells_iter HRG10.out))); clear ho hb hg2 hat2 HO10 HRG10 HS10 HB10))
              go_roundg cnt1
              case measure => omega
              case rel => exact ⟨_, cnt1, n + 1, ss ++ [pathL c], Nat.le_refl _, by omega, by simp; omega, HRG11, HO11, HC', ⟨by rw [hcs2.out]; exact HS11.out⟩, HB11⟩
end Go.Proofs.YtlkmegeecmkkbaaGreatDoor.P

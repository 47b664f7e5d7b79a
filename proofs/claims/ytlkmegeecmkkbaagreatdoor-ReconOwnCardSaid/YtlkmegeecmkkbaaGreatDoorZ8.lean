/-
  scan.Right: its contract, proved by hand: whatever archive whose paths are no longer than the model's bound. (Texts of this session.)
-/
import Derived.Test.YtlkmegeecmkkbaaGreatDoorZ6
import Derived.Test.YtlkmegeecmkkbaaGreatDoorZ7
namespace Go.Proofs.YtlkmegeecmkkbaaGreatDoor.P
open Go.RowKit Go.Proofs.YtlkmegeecmkkbaaGreatDoorW.PrintWords Go.Proofs.YtlkmegeecmkkbaaGreatDoorW.PrintLast Go.Proofs.YtlkmegeecmkkbaaGreatDoorW.PrintMore
attribute [local go_sem] str_leq str_gtr str_geq
attribute [local go_sem high] eqA32
set_option linter.unusedVariables false
set_option linter.unusedSimpArgs false
def clockB (x y : Int) : Bool := decide (0 ≤ min x y) && decide (max x y ≤ 1073741824)
theorem clock_Right_eq (x y : Int) : clock_Right.f x y = some (clockB x y) := by
  unfold clock_Right.f clockB mn mx
  by_cases h : (if y < x then y else x) ≥ 0
  · rw [if_pos h]
    have h1 : 0 ≤ min x y := by split at h <;> omega
    rw [decide_eq_true h1, Bool.true_and]
    congr 1
    rw [decide_eq_decide]
    split <;> omega
  · rw [if_neg h]
    have h1 : ¬ 0 ≤ min x y := by split at h <;> omega
    rw [decide_eq_false h1, Bool.false_and]
def fileOf (e : S34) : S54 := ⟨e.f0, e.f2⟩
def filesL (l : List S34) : List S54 := (l.filter (·.f1)).map fileOf
def entOk (l : List S34) (i : Nat) (h : i < l.length) : Bool :=
  pathB l[i].f0 && ((if h0 : 0 < i then ltB (l[i - 1]'(by omega)).f0 l[i].f0 else true) && (clockB l[i].f3.f0 l[i].f3.f1 && (!(l[i].f3.f0 == 0 && l[i].f3.f1 == 0) && (l[i].f1 || l[i].f2.toList.isEmpty))))
def archFrom (l : List S34) (i : Nat) : Bool := if h : i < l.length then entOk l i h && archFrom l (i + 1) else true
termination_by l.length - i
def archB (l : List S34) : Bool := archFrom l 0 && (decide (l.length ≤ 32) && treeB (filesL l))
def shortE (l : List S34) : Bool := l.all (fun x => decide (x.f0.size < 4294967281))
def scan_Right.f (l : List S34) : Option Bool := if shortE l = true ∧ l.length ≤ 140737488351232 / 56 then some (archB l) else none
theorem rd_T34_nat (l : List S34) (i : Nat) (h : i < l.length) : rd_T34 l (i : Int) = l[i] := by
  simp [rd_T34, List.getD_eq_getElem?_getD, List.getElem?_eq_getElem h]
theorem files_loop (l : List S34) (hn : l.length ≤ 4398046511103) : ∀ (d k i : Nat) (acc : List S54), i + d = l.length → d < k → acc.length ≤ i →
    scan_files.l0 k acc l (l.length : Int) (i : Int) = some (acc ++ filesL (l.drop i)) := by
  intro d
  induction d with
  | zero =>
    intro k i acc hi hk ha
    obtain ⟨k, rfl⟩ : ∃ m, k = m + 1 := ⟨k - 1, by omega⟩
    simp only [scan_files.l0]
    rw [if_neg (by omega), List.drop_eq_nil_of_le (by omega)]
    simp [filesL]
  | succ d ih =>
    intro k i acc hi hk ha
    obtain ⟨k, rfl⟩ : ∃ m, k = m + 1 := ⟨k - 1, by omega⟩
    have hlt : i < l.length := by omega
    simp only [scan_files.l0]
    rw [if_pos (by omega), if_pos (by omega), if_pos (by omega), rd_T34_nat l i hlt, List.drop_eq_getElem_cons hlt, wrap_succ (Nat.le_of_lt hlt) (by omega)]
    cases hb : l[i].f1 with
    | true =>
      rw [if_pos rfl, if_pos (by omega), ih k (i + 1) _ (by omega) (by omega) (by simp; omega)]
      rw [filesL, filesL, List.filter_cons_of_pos (by simpa using hb)]
      simp [fileOf]
    | false =>
      rw [if_neg (by simp), ih k (i + 1) _ (by omega) (by omega) (by omega)]
      rw [filesL, filesL, List.filter_cons_of_neg (by simp [hb])]
theorem scan_files_eq (l : List S34) (hn : l.length ≤ 4398046511103) : scan_files.f (l.length + 1) l = some (filesL l) := by
  unfold scan_files.f
  have := files_loop l hn l.length (l.length + 1) 0 [] (by omega) (by omega) (by simp)
  simpa using this
theorem filesL_length (l : List S34) : (filesL l).length ≤ l.length := by
  unfold filesL; rw [List.length_map]; exact List.length_filter_le _ _
theorem shortF_files {l : List S34} (h : shortE l = true) : shortF (filesL l) = true := by
  unfold shortF filesL
  rw [List.all_map, List.all_eq_true]
  intro x hx
  exact List.all_eq_true.1 h x (List.mem_filter.1 hx).1
set_option maxHeartbeats 4000000 in
set_option maxRecDepth 100000 in
theorem scan_Right.calls (A0 : Option Addr) (c0 : Nat) (l0 : List S34) (r : Bool) (w : World) (hr0 : Kd.C k34 w A0 l0.length l0) (hc0 : l0.length ≤ c0) (h : scan_Right.f l0 = some r) :
    Calls Tryz.prog 26 #[.slice A0 l0.length c0] w fun e w' => e = .returned (.bool r) ∧ Below w.heap.size w w' := by
  unfold scan_Right.f at h
  split at h
  case isFalse => cases h
  rename_i hs
  obtain ⟨hsh, hm⟩ := hs
  obtain rfl := Option.some.inj h
  have hm' : l0.length ≤ 4398046511103 := by omega
  have HR0 := Aside0.mk hr0
  clear h hr0 hm
  have HSE := Aside0.mk hsh
  have HSH := Aside0.mk (fun x (hx : x ∈ l0) => (by simpa using List.all_eq_true.1 hsh x hx : x.f0.size < 4294967281))
  clear hsh
  have hu9 := Tryz.underlying9
  have hu32 := Tryz.underlying32
  go_enter Tryz.func26, Tryz.ntmps26
  go_wp2
  go_loopg [7] l0.length (fun gg s7 wr => ∃ kk : Nat, kk ≤ l0.length ∧ l0.length - kk ≤ gg ∧ s7 = .int .i64 kk ∧ Aside0 (Below w.heap.size w wr) ∧ Aside0 (archB l0 = (archFrom l0 kk && (decide (l0.length ≤ 32) && treeB (filesL l0)))))
  case atStart => exact ⟨0, Nat.zero_le _, by omega, rfl, ⟨Below.refl _ w⟩, ⟨rfl⟩⟩
  case round =>
    obtain ⟨kk, hkk, hg, rfl, HB, HA⟩ := hrel
    by_cases hlt : kk < l0.length
    · have hltz : (kk : Int) < (l0.length : Int) := by omega
      obtain ⟨ad, e, hx0, hx1, hx2, hx3, hx4⟩ := at_T34 HR0.out (kk : Int) (by omega) hltz
      cases e
      rw [rd_T34_nat l0 kk hlt, Int.toNat_natCast] at hx0 hx1 hx2 hx3 hx4
      replace hx0 := pw_cell_below HB.out hx0
      replace hx1 := pw_cell_below HB.out hx1
      replace hx2 := pw_cell_below HB.out hx2
      replace hx3 := pw_cell_below HB.out hx3
      replace hx4 := pw_cell_below HB.out hx4
      have hstep : ∀ b, entOk l0 kk hlt = b → archFrom l0 kk = (b && archFrom l0 (kk + 1)) := fun b hb => by rw [← hb]; conv => lhs; unfold archFrom; rw [dif_pos hlt]
      have hsz : l0[kk].f0.size < 4294967281 := HSH.out _ (List.getElem_mem hlt)
      have hok : Aside0 (entOk l0 kk hlt = (pathB l0[kk].f0 && ((if h0 : 0 < kk then ltB (l0[kk - 1]'(by omega)).f0 l0[kk].f0 else true) && (clockB l0[kk].f3.f0 l0[kk].f3.f1 && (!(l0[kk].f3.f0 == 0 && l0[kk].f3.f1 == 0) && (l0[kk].f1 || l0[kk].f2.toList.isEmpty)))))) := ⟨rfl⟩
      have hright : Aside0 (∀ W, Calls Tryz.prog 70 #[.string l0[kk].f0] W fun e w' => e = .returned (.bool (pathB l0[kk].f0)) ∧ Below W.heap.size W w') := ⟨fun W => right_calls _ W hsz⟩
      have hclock : Aside0 (∀ W, Calls Tryz.prog 71 #[.agg #[.int .i64 l0[kk].f3.f0, .int .i64 l0[kk].f3.f1]] W fun e w' => e = .returned (.bool (clockB l0[kk].f3.f0 l0[kk].f3.f1)) ∧ Below W.heap.size W w') := ⟨fun W => clock_Right.calls _ _ _ W (clock_Right_eq _ _)⟩
      generalize hfk : entOk l0 kk hlt = ok at hstep hok
      have hst := Aside0.mk (hstep ok rfl)
      clear hstep HSH hsz hfk
      generalize l0[kk].f0 = f at *
      generalize l0[kk].f1 = hh at *
      generalize l0[kk].f2 = dd at *
      generalize l0[kk].f3.f0 = cx at *
      generalize l0[kk].f3.f1 = cy at *
      have hbW : Aside0 (Below wr.heap.size wr (wr.alloc (.cells #[.string f, .bool hh, .string dd, .int .i64 cx, .int .i64 cy] 34))) := ⟨(Below.refl _ _).alloc (Nat.le_refl _) _⟩
      by_cases hk0 : 0 < kk
      · rw [dif_pos hk0] at hok
        obtain ⟨j, hjk⟩ : ∃ j, j + 1 = kk := ⟨kk - 1, by omega⟩
        have hw : wrap64 ((kk : Int) - 1) = (j : Int) := by unfold wrap64; omega
        have hjl : (j : Int) < (l0.length : Int) := by omega
        have hj0 : (0 : Int) ≤ (j : Int) := by omega
        have hkj : kk - 1 = j := by omega
        simp only [hkj] at hok
        obtain ⟨ad', e, hp0, hp1, hp2, hp3, hp4⟩ := at_T34 HR0.out (j : Int) hj0 hjl
        cases e
        clear hp1 hp2 hp3 hp4
        rw [rd_T34_nat l0 j (by omega), Int.toNat_natCast] at hp0
        replace hp0 := pw_cell_below HB.out hp0
        have hjk := Aside0.mk hjk
        generalize (l0[j]'(by omega)).f0 = pv at *
        have hS6 : ((wr.alloc (.cells #[.string f, .bool hh, .string dd, .int .i64 cx, .int .i64 cy] 34)).drew.cell? ⟨wr.heap.size, 0, none⟩ = some (.string f) ∧ (wr.alloc (.cells #[.string f, .bool hh, .string dd, .int .i64 cx, .int .i64 cy] 34)).drew.cell? ⟨wr.heap.size, 1, none⟩ = some (.bool hh) ∧ (wr.alloc (.cells #[.string f, .bool hh, .string dd, .int .i64 cx, .int .i64 cy] 34)).drew.cell? ⟨wr.heap.size, 2, none⟩ = some (.string dd) ∧ (wr.alloc (.cells #[.string f, .bool hh, .string dd, .int .i64 cx, .int .i64 cy] 34)).drew.cell? ⟨wr.heap.size, 3, none⟩ = some (.int .i64 cx) ∧ (wr.alloc (.cells #[.string f, .bool hh, .string dd, .int .i64 cx, .int .i64 cy] 34)).drew.cell? ⟨wr.heap.size, 4, none⟩ = some (.int .i64 cy) ∧ (wr.alloc (.cells #[.string f, .bool hh, .string dd, .int .i64 cx, .int .i64 cy] 34)).drew.cell? (ad.add (j * 5)) = some (.string pv)) :=
          ⟨by simp, by simp, by simp, by simp, by simp, pw_cell_below (below_drew hbW.out) hp0⟩
        have hS6 := Aside0.mk hS6
        have hk0' : decide ((0 : Int) < (kk : Int)) = true := by simp; omega
        cases hpf : pathB f with
        | false =>
          rw [hpf] at hright hok
          have hok' : Aside0 (archB l0 = false) := ⟨by rw [HA.out, hst.out, hok.out]; rfl⟩
          clear hok hst
          go_wp2_with fail
          refine at_start (evs := [2, 22]) (S := fun w' => w'.cell? ⟨wr.heap.size, 0, none⟩ = some (.string f) ∧ w'.cell? ⟨wr.heap.size, 1, none⟩ = some (.bool hh) ∧ w'.cell? ⟨wr.heap.size, 2, none⟩ = some (.string dd) ∧ w'.cell? ⟨wr.heap.size, 3, none⟩ = some (.int .i64 cx) ∧ w'.cell? ⟨wr.heap.size, 4, none⟩ = some (.int .i64 cy) ∧ w'.cell? (ad.add (j * 5)) = some (.string pv)) (by kernel_rfl) (by kernel_rfl) hS6.out (fun HOK hHeld => ?_)
          have hBW := Aside0.mk (below_drew hbW.out)
          generalize (wr.alloc (.cells #[.string f, .bool hh, .string dd, .int .i64 cx, .int .i64 cy] 34)).drew = W at hBW hHeld ⊢
          repeat (first | (refine at_off HOK hHeld rfl rfl (fun _ _ _ h => h) (by rfl) rfl (by simp only [Act.put, List.setIfInBounds_toArray, List.set_cons_zero, List.set_cons_succ, i64_w, i32_w]; rfl) ?_) | (refine at_evoff HOK hHeld rfl rfl (by rfl) rfl (by simp only [Act.put, List.setIfInBounds_toArray, List.set_cons_zero, List.set_cons_succ, i64_w, i32_w]; rfl) ?_) | (refine at_pure (v := ?_) (a' := ?_) HOK hHeld rfl rfl (fun _ _ _ h => h) (by rfl) ?_ rfl ?_ ?_; rotate_left 2; (focus (rintro w' ⟨s0, s1, s2, s3, s4, s5⟩; go_simp; with_reducible rfl)); (focus (simp only [Act.put, List.setIfInBounds_toArray, List.set_cons_zero, List.set_cons_succ, i64_w, i32_w]; rfl))))
          refine at_call HOK rfl rfl Tryz.func70 (by kernel_rfl) rfl #[.string f] (by rfl) rfl (by (try simp only [List.map_toArray, List.map_cons, List.map_nil]); first | done | rfl) rfl ?_
          with_reducible refine (hright.out _).mono ?_
          rintro e w1 ⟨rfl, hb1⟩
          have hb1 := Aside0.mk hb1
          refine ⟨_, rfl, ⟨pw_cell_below hb1.out hHeld.1, pw_cell_below hb1.out hHeld.2.1, pw_cell_below hb1.out hHeld.2.2.1, pw_cell_below hb1.out hHeld.2.2.2.1, pw_cell_below hb1.out hHeld.2.2.2.2.1, pw_cell_below hb1.out hHeld.2.2.2.2.2⟩, fun hHeld => ⟨_, by simp only [Act.put, List.setIfInBounds_toArray, List.set_cons_zero, List.set_cons_succ, i64_w, i32_w]; rfl, ?_⟩⟩
          repeat (first | (refine at_off HOK hHeld rfl rfl (fun _ _ _ h => h) (by rfl) rfl (by simp only [Act.put, List.setIfInBounds_toArray, List.set_cons_zero, List.set_cons_succ, i64_w, i32_w]; rfl) ?_) | (refine at_evoff HOK hHeld rfl rfl (by rfl) rfl (by simp only [Act.put, List.setIfInBounds_toArray, List.set_cons_zero, List.set_cons_succ, i64_w, i32_w]; rfl) ?_) | (refine at_pure (v := ?_) (a' := ?_) HOK hHeld rfl rfl (fun _ _ _ h => h) (by rfl) ?_ rfl ?_ ?_; rotate_left 2; (focus (rintro w' ⟨s0, s1, s2, s3, s4, s5⟩; go_simp; with_reducible rfl)); (focus (simp only [Act.put, List.setIfInBounds_toArray, List.set_cons_zero, List.set_cons_succ, i64_w, i32_w]; rfl))))
          refine at_done rfl ?_ (by kernel_rfl)
          go_wp2
          go_ret
          exact ⟨by rw [hok'.out]; rfl, below_then (below_then HB.out HB.out.size hBW.out) (Nat.le_trans HB.out.size hBW.out.size) hb1.out⟩
        | true =>
          rw [hpf] at hright hok
          cases hlt2 : ltB pv f with
          | false =>
            rw [hlt2] at hok
            have hbl : Op.bytesLess pv.toList f.toList = false := hlt2
            have hok' : Aside0 (archB l0 = false) := ⟨by rw [HA.out, hst.out, hok.out]; rfl⟩
            clear hok hst
            go_wp2_with fail
            refine at_start (evs := [2, 22]) (S := fun w' => w'.cell? ⟨wr.heap.size, 0, none⟩ = some (.string f) ∧ w'.cell? ⟨wr.heap.size, 1, none⟩ = some (.bool hh) ∧ w'.cell? ⟨wr.heap.size, 2, none⟩ = some (.string dd) ∧ w'.cell? ⟨wr.heap.size, 3, none⟩ = some (.int .i64 cx) ∧ w'.cell? ⟨wr.heap.size, 4, none⟩ = some (.int .i64 cy) ∧ w'.cell? (ad.add (j * 5)) = some (.string pv)) (by kernel_rfl) (by kernel_rfl) hS6.out (fun HOK hHeld => ?_)
            have hBW := Aside0.mk (below_drew hbW.out)
            generalize (wr.alloc (.cells #[.string f, .bool hh, .string dd, .int .i64 cx, .int .i64 cy] 34)).drew = W at hBW hHeld ⊢
            repeat (first | (refine at_off HOK hHeld rfl rfl (fun _ _ _ h => h) (by rfl) rfl (by simp only [Act.put, List.setIfInBounds_toArray, List.set_cons_zero, List.set_cons_succ, i64_w, i32_w]; rfl) ?_) | (refine at_evoff HOK hHeld rfl rfl (by rfl) rfl (by simp only [Act.put, List.setIfInBounds_toArray, List.set_cons_zero, List.set_cons_succ, i64_w, i32_w]; rfl) ?_) | (refine at_pure (v := ?_) (a' := ?_) HOK hHeld rfl rfl (fun _ _ _ h => h) (by rfl) ?_ rfl ?_ ?_; rotate_left 2; (focus (rintro w' ⟨s0, s1, s2, s3, s4, s5⟩; go_simp; with_reducible rfl)); (focus (simp only [Act.put, List.setIfInBounds_toArray, List.set_cons_zero, List.set_cons_succ, i64_w, i32_w]; rfl))))
            refine at_call HOK rfl rfl Tryz.func70 (by kernel_rfl) rfl #[.string f] (by rfl) rfl (by (try simp only [List.map_toArray, List.map_cons, List.map_nil]); first | done | rfl) rfl ?_
            with_reducible refine (hright.out _).mono ?_
            rintro e w1 ⟨rfl, hb1⟩
            have hb1 := Aside0.mk hb1
            refine ⟨_, rfl, ⟨pw_cell_below hb1.out hHeld.1, pw_cell_below hb1.out hHeld.2.1, pw_cell_below hb1.out hHeld.2.2.1, pw_cell_below hb1.out hHeld.2.2.2.1, pw_cell_below hb1.out hHeld.2.2.2.2.1, pw_cell_below hb1.out hHeld.2.2.2.2.2⟩, fun hHeld => ⟨_, by simp only [Act.put, List.setIfInBounds_toArray, List.set_cons_zero, List.set_cons_succ, i64_w, i32_w]; rfl, ?_⟩⟩
            repeat (first | (refine at_off HOK hHeld rfl rfl (fun _ _ _ h => h) (by rfl) rfl (by simp only [Act.put, List.setIfInBounds_toArray, List.set_cons_zero, List.set_cons_succ, i64_w, i32_w]; rfl) ?_) | (refine at_evoff HOK hHeld rfl rfl (by rfl) rfl (by simp only [Act.put, List.setIfInBounds_toArray, List.set_cons_zero, List.set_cons_succ, i64_w, i32_w]; rfl) ?_) | (refine at_pure (v := ?_) (a' := ?_) HOK hHeld rfl rfl (fun _ _ _ h => h) (by rfl) ?_ rfl ?_ ?_; rotate_left 2; (focus (rintro w' ⟨s0, s1, s2, s3, s4, s5⟩; go_simp; with_reducible rfl)); (focus (simp only [Act.put, List.setIfInBounds_toArray, List.set_cons_zero, List.set_cons_succ, i64_w, i32_w]; rfl))))
            refine at_done rfl ?_ (by kernel_rfl)
            go_wp2
            go_ret
            exact ⟨by rw [hok'.out]; rfl, below_then (below_then HB.out HB.out.size hBW.out) (Nat.le_trans HB.out.size hBW.out.size) hb1.out⟩
          | true =>
            rw [hlt2] at hok
            have hbl : Op.bytesLess pv.toList f.toList = true := hlt2
            cases hck : clockB cx cy with
            | false =>
              rw [hck] at hclock hok
              have hok' : Aside0 (archB l0 = false) := ⟨by rw [HA.out, hst.out, hok.out]; rfl⟩
              clear hok hst
              go_wp2_with fail
              refine at_start (evs := [2, 22]) (S := fun w' => w'.cell? ⟨wr.heap.size, 0, none⟩ = some (.string f) ∧ w'.cell? ⟨wr.heap.size, 1, none⟩ = some (.bool hh) ∧ w'.cell? ⟨wr.heap.size, 2, none⟩ = some (.string dd) ∧ w'.cell? ⟨wr.heap.size, 3, none⟩ = some (.int .i64 cx) ∧ w'.cell? ⟨wr.heap.size, 4, none⟩ = some (.int .i64 cy) ∧ w'.cell? (ad.add (j * 5)) = some (.string pv)) (by kernel_rfl) (by kernel_rfl) hS6.out (fun HOK hHeld => ?_)
              have hBW := Aside0.mk (below_drew hbW.out)
              generalize (wr.alloc (.cells #[.string f, .bool hh, .string dd, .int .i64 cx, .int .i64 cy] 34)).drew = W at hBW hHeld ⊢
              repeat (first | (refine at_off HOK hHeld rfl rfl (fun _ _ _ h => h) (by rfl) rfl (by simp only [Act.put, List.setIfInBounds_toArray, List.set_cons_zero, List.set_cons_succ, i64_w, i32_w]; rfl) ?_) | (refine at_evoff HOK hHeld rfl rfl (by rfl) rfl (by simp only [Act.put, List.setIfInBounds_toArray, List.set_cons_zero, List.set_cons_succ, i64_w, i32_w]; rfl) ?_) | (refine at_pure (v := ?_) (a' := ?_) HOK hHeld rfl rfl (fun _ _ _ h => h) (by rfl) ?_ rfl ?_ ?_; rotate_left 2; (focus (rintro w' ⟨s0, s1, s2, s3, s4, s5⟩; go_simp; with_reducible rfl)); (focus (simp only [Act.put, List.setIfInBounds_toArray, List.set_cons_zero, List.set_cons_succ, i64_w, i32_w]; rfl))))
              refine at_call HOK rfl rfl Tryz.func70 (by kernel_rfl) rfl #[.string f] (by rfl) rfl (by (try simp only [List.map_toArray, List.map_cons, List.map_nil]); first | done | rfl) rfl ?_
              with_reducible refine (hright.out _).mono ?_
              rintro e w1 ⟨rfl, hb1⟩
              have hb1 := Aside0.mk hb1
              refine ⟨_, rfl, ⟨pw_cell_below hb1.out hHeld.1, pw_cell_below hb1.out hHeld.2.1, pw_cell_below hb1.out hHeld.2.2.1, pw_cell_below hb1.out hHeld.2.2.2.1, pw_cell_below hb1.out hHeld.2.2.2.2.1, pw_cell_below hb1.out hHeld.2.2.2.2.2⟩, fun hHeld => ⟨_, by simp only [Act.put, List.setIfInBounds_toArray, List.set_cons_zero, List.set_cons_succ, i64_w, i32_w]; rfl, ?_⟩⟩
              repeat (first | (refine at_off HOK hHeld rfl rfl (fun _ _ _ h => h) (by rfl) rfl (by simp only [Act.put, List.setIfInBounds_toArray, List.set_cons_zero, List.set_cons_succ, i64_w, i32_w]; rfl) ?_) | (refine at_evoff HOK hHeld rfl rfl (by rfl) rfl (by simp only [Act.put, List.setIfInBounds_toArray, List.set_cons_zero, List.set_cons_succ, i64_w, i32_w]; rfl) ?_) | (refine at_pure (v := ?_) (a' := ?_) HOK hHeld rfl rfl (fun _ _ _ h => h) (by rfl) ?_ rfl ?_ ?_; rotate_left 2; (focus (rintro w' ⟨s0, s1, s2, s3, s4, s5⟩; go_simp; with_reducible rfl)); (focus (simp only [Act.put, List.setIfInBounds_toArray, List.set_cons_zero, List.set_cons_succ, i64_w, i32_w]; rfl))))
              refine at_call HOK rfl rfl Tryz.func71 (by kernel_rfl) rfl #[.agg #[.int .i64 cx, .int .i64 cy]] (by rfl) rfl (by (try simp only [List.map_toArray, List.map_cons, List.map_nil]); first | done | rfl) rfl ?_
              with_reducible refine (hclock.out _).mono ?_
              rintro e w2 ⟨rfl, hb2⟩
              have hb2 := Aside0.mk hb2
              refine ⟨_, rfl, ⟨pw_cell_below hb2.out hHeld.1, pw_cell_below hb2.out hHeld.2.1, pw_cell_below hb2.out hHeld.2.2.1, pw_cell_below hb2.out hHeld.2.2.2.1, pw_cell_below hb2.out hHeld.2.2.2.2.1, pw_cell_below hb2.out hHeld.2.2.2.2.2⟩, fun hHeld => ⟨_, by simp only [Act.put, List.setIfInBounds_toArray, List.set_cons_zero, List.set_cons_succ, i64_w, i32_w]; rfl, ?_⟩⟩
              repeat (first | (refine at_off HOK hHeld rfl rfl (fun _ _ _ h => h) (by rfl) rfl (by simp only [Act.put, List.setIfInBounds_toArray, List.set_cons_zero, List.set_cons_succ, i64_w, i32_w]; rfl) ?_) | (refine at_evoff HOK hHeld rfl rfl (by rfl) rfl (by simp only [Act.put, List.setIfInBounds_toArray, List.set_cons_zero, List.set_cons_succ, i64_w, i32_w]; rfl) ?_) | (refine at_pure (v := ?_) (a' := ?_) HOK hHeld rfl rfl (fun _ _ _ h => h) (by rfl) ?_ rfl ?_ ?_; rotate_left 2; (focus (rintro w' ⟨s0, s1, s2, s3, s4, s5⟩; go_simp; with_reducible rfl)); (focus (simp only [Act.put, List.setIfInBounds_toArray, List.set_cons_zero, List.set_cons_succ, i64_w, i32_w]; rfl))))
              refine at_done rfl ?_ (by kernel_rfl)
              go_wp2
              go_ret
              exact ⟨by rw [hok'.out]; rfl, below_then (below_then (below_then HB.out HB.out.size hBW.out) (Nat.le_trans HB.out.size hBW.out.size) hb1.out) (Nat.le_trans (Nat.le_trans HB.out.size hBW.out.size) hb1.out.size) hb2.out⟩
            | true =>
              rw [hck] at hclock hok
              cases hz : (cx == 0 && cy == 0) with
              | true =>
                rw [hz] at hok
                have hok' : Aside0 (archB l0 = false) := ⟨by rw [HA.out, hst.out, hok.out]; rfl⟩
                clear hok hst
                go_wp2_with fail
                refine at_start (evs := [2, 22]) (S := fun w' => w'.cell? ⟨wr.heap.size, 0, none⟩ = some (.string f) ∧ w'.cell? ⟨wr.heap.size, 1, none⟩ = some (.bool hh) ∧ w'.cell? ⟨wr.heap.size, 2, none⟩ = some (.string dd) ∧ w'.cell? ⟨wr.heap.size, 3, none⟩ = some (.int .i64 cx) ∧ w'.cell? ⟨wr.heap.size, 4, none⟩ = some (.int .i64 cy) ∧ w'.cell? (ad.add (j * 5)) = some (.string pv)) (by kernel_rfl) (by kernel_rfl) hS6.out (fun HOK hHeld => ?_)
                have hBW := Aside0.mk (below_drew hbW.out)
                generalize (wr.alloc (.cells #[.string f, .bool hh, .string dd, .int .i64 cx, .int .i64 cy] 34)).drew = W at hBW hHeld ⊢
                repeat (first | (refine at_off HOK hHeld rfl rfl (fun _ _ _ h => h) (by rfl) rfl (by simp only [Act.put, List.setIfInBounds_toArray, List.set_cons_zero, List.set_cons_succ, i64_w, i32_w]; rfl) ?_) | (refine at_evoff HOK hHeld rfl rfl (by rfl) rfl (by simp only [Act.put, List.setIfInBounds_toArray, List.set_cons_zero, List.set_cons_succ, i64_w, i32_w]; rfl) ?_) | (refine at_pure (v := ?_) (a' := ?_) HOK hHeld rfl rfl (fun _ _ _ h => h) (by rfl) ?_ rfl ?_ ?_; rotate_left 2; (focus (rintro w' ⟨s0, s1, s2, s3, s4, s5⟩; go_simp; with_reducible rfl)); (focus (simp only [Act.put, List.setIfInBounds_toArray, List.set_cons_zero, List.set_cons_succ, i64_w, i32_w]; rfl))))
                refine at_call HOK rfl rfl Tryz.func70 (by kernel_rfl) rfl #[.string f] (by rfl) rfl (by (try simp only [List.map_toArray, List.map_cons, List.map_nil]); first | done | rfl) rfl ?_
                with_reducible refine (hright.out _).mono ?_
                rintro e w1 ⟨rfl, hb1⟩
                have hb1 := Aside0.mk hb1
                refine ⟨_, rfl, ⟨pw_cell_below hb1.out hHeld.1, pw_cell_below hb1.out hHeld.2.1, pw_cell_below hb1.out hHeld.2.2.1, pw_cell_below hb1.out hHeld.2.2.2.1, pw_cell_below hb1.out hHeld.2.2.2.2.1, pw_cell_below hb1.out hHeld.2.2.2.2.2⟩, fun hHeld => ⟨_, by simp only [Act.put, List.setIfInBounds_toArray, List.set_cons_zero, List.set_cons_succ, i64_w, i32_w]; rfl, ?_⟩⟩
                repeat (first | (refine at_off HOK hHeld rfl rfl (fun _ _ _ h => h) (by rfl) rfl (by simp only [Act.put, List.setIfInBounds_toArray, List.set_cons_zero, List.set_cons_succ, i64_w, i32_w]; rfl) ?_) | (refine at_evoff HOK hHeld rfl rfl (by rfl) rfl (by simp only [Act.put, List.setIfInBounds_toArray, List.set_cons_zero, List.set_cons_succ, i64_w, i32_w]; rfl) ?_) | (refine at_pure (v := ?_) (a' := ?_) HOK hHeld rfl rfl (fun _ _ _ h => h) (by rfl) ?_ rfl ?_ ?_; rotate_left 2; (focus (rintro w' ⟨s0, s1, s2, s3, s4, s5⟩; go_simp; with_reducible rfl)); (focus (simp only [Act.put, List.setIfInBounds_toArray, List.set_cons_zero, List.set_cons_succ, i64_w, i32_w]; rfl))))
                refine at_call HOK rfl rfl Tryz.func71 (by kernel_rfl) rfl #[.agg #[.int .i64 cx, .int .i64 cy]] (by rfl) rfl (by (try simp only [List.map_toArray, List.map_cons, List.map_nil]); first | done | rfl) rfl ?_
                with_reducible refine (hclock.out _).mono ?_
                rintro e w2 ⟨rfl, hb2⟩
                have hb2 := Aside0.mk hb2
                refine ⟨_, rfl, ⟨pw_cell_below hb2.out hHeld.1, pw_cell_below hb2.out hHeld.2.1, pw_cell_below hb2.out hHeld.2.2.1, pw_cell_below hb2.out hHeld.2.2.2.1, pw_cell_below hb2.out hHeld.2.2.2.2.1, pw_cell_below hb2.out hHeld.2.2.2.2.2⟩, fun hHeld => ⟨_, by simp only [Act.put, List.setIfInBounds_toArray, List.set_cons_zero, List.set_cons_succ, i64_w, i32_w]; rfl, ?_⟩⟩
                repeat (first | (refine at_off HOK hHeld rfl rfl (fun _ _ _ h => h) (by rfl) rfl (by simp only [Act.put, List.setIfInBounds_toArray, List.set_cons_zero, List.set_cons_succ, i64_w, i32_w]; rfl) ?_) | (refine at_evoff HOK hHeld rfl rfl (by rfl) rfl (by simp only [Act.put, List.setIfInBounds_toArray, List.set_cons_zero, List.set_cons_succ, i64_w, i32_w]; rfl) ?_) | (refine at_pure (v := ?_) (a' := ?_) HOK hHeld rfl rfl (fun _ _ _ h => h) (by rfl) ?_ rfl ?_ ?_; rotate_left 2; (focus (rintro w' ⟨s0, s1, s2, s3, s4, s5⟩; go_simp; with_reducible rfl)); (focus (simp only [Act.put, List.setIfInBounds_toArray, List.set_cons_zero, List.set_cons_succ, i64_w, i32_w]; rfl))))
                refine at_done rfl ?_ (by kernel_rfl)
                go_wp2
                go_ret
                exact ⟨by rw [hok'.out]; rfl, below_then (below_then (below_then HB.out HB.out.size hBW.out) (Nat.le_trans HB.out.size hBW.out.size) hb1.out) (Nat.le_trans (Nat.le_trans HB.out.size hBW.out.size) hb1.out.size) hb2.out⟩
              | false =>
                rw [hz] at hok
                cases hh with
                | true =>
                  have hok' : Aside0 (archB l0 = (archFrom l0 (kk + 1) && (decide (l0.length ≤ 32) && treeB (filesL l0)))) := ⟨by rw [HA.out, hst.out, hok.out]; rfl⟩
                  clear hok hst
                  go_wp2_with fail
                  refine at_start (evs := [2, 22]) (S := fun w' => w'.cell? ⟨wr.heap.size, 0, none⟩ = some (.string f) ∧ w'.cell? ⟨wr.heap.size, 1, none⟩ = some (.bool true) ∧ w'.cell? ⟨wr.heap.size, 2, none⟩ = some (.string dd) ∧ w'.cell? ⟨wr.heap.size, 3, none⟩ = some (.int .i64 cx) ∧ w'.cell? ⟨wr.heap.size, 4, none⟩ = some (.int .i64 cy) ∧ w'.cell? (ad.add (j * 5)) = some (.string pv)) (by kernel_rfl) (by kernel_rfl) hS6.out (fun HOK hHeld => ?_)
                  have hBW := Aside0.mk (below_drew hbW.out)
                  generalize (wr.alloc (.cells #[.string f, .bool true, .string dd, .int .i64 cx, .int .i64 cy] 34)).drew = W at hBW hHeld ⊢
                  repeat (first | (refine at_off HOK hHeld rfl rfl (fun _ _ _ h => h) (by rfl) rfl (by simp only [Act.put, List.setIfInBounds_toArray, List.set_cons_zero, List.set_cons_succ, i64_w, i32_w]; rfl) ?_) | (refine at_evoff HOK hHeld rfl rfl (by rfl) rfl (by simp only [Act.put, List.setIfInBounds_toArray, List.set_cons_zero, List.set_cons_succ, i64_w, i32_w]; rfl) ?_) | (refine at_pure (v := ?_) (a' := ?_) HOK hHeld rfl rfl (fun _ _ _ h => h) (by rfl) ?_ rfl ?_ ?_; rotate_left 2; (focus (rintro w' ⟨s0, s1, s2, s3, s4, s5⟩; go_simp; with_reducible rfl)); (focus (simp only [Act.put, List.setIfInBounds_toArray, List.set_cons_zero, List.set_cons_succ, i64_w, i32_w]; rfl))))
                  refine at_call HOK rfl rfl Tryz.func70 (by kernel_rfl) rfl #[.string f] (by rfl) rfl (by (try simp only [List.map_toArray, List.map_cons, List.map_nil]); first | done | rfl) rfl ?_
                  with_reducible refine (hright.out _).mono ?_
                  rintro e w1 ⟨rfl, hb1⟩
                  have hb1 := Aside0.mk hb1
                  refine ⟨_, rfl, ⟨pw_cell_below hb1.out hHeld.1, pw_cell_below hb1.out hHeld.2.1, pw_cell_below hb1.out hHeld.2.2.1, pw_cell_below hb1.out hHeld.2.2.2.1, pw_cell_below hb1.out hHeld.2.2.2.2.1, pw_cell_below hb1.out hHeld.2.2.2.2.2⟩, fun hHeld => ⟨_, by simp only [Act.put, List.setIfInBounds_toArray, List.set_cons_zero, List.set_cons_succ, i64_w, i32_w]; rfl, ?_⟩⟩
                  repeat (first | (refine at_off HOK hHeld rfl rfl (fun _ _ _ h => h) (by rfl) rfl (by simp only [Act.put, List.setIfInBounds_toArray, List.set_cons_zero, List.set_cons_succ, i64_w, i32_w]; rfl) ?_) | (refine at_evoff HOK hHeld rfl rfl (by rfl) rfl (by simp only [Act.put, List.setIfInBounds_toArray, List.set_cons_zero, List.set_cons_succ, i64_w, i32_w]; rfl) ?_) | (refine at_pure (v := ?_) (a' := ?_) HOK hHeld rfl rfl (fun _ _ _ h => h) (by rfl) ?_ rfl ?_ ?_; rotate_left 2; (focus (rintro w' ⟨s0, s1, s2, s3, s4, s5⟩; go_simp; with_reducible rfl)); (focus (simp only [Act.put, List.setIfInBounds_toArray, List.set_cons_zero, List.set_cons_succ, i64_w, i32_w]; rfl))))
                  refine at_call HOK rfl rfl Tryz.func71 (by kernel_rfl) rfl #[.agg #[.int .i64 cx, .int .i64 cy]] (by rfl) rfl (by (try simp only [List.map_toArray, List.map_cons, List.map_nil]); first | done | rfl) rfl ?_
                  with_reducible refine (hclock.out _).mono ?_
                  rintro e w2 ⟨rfl, hb2⟩
                  have hb2 := Aside0.mk hb2
                  refine ⟨_, rfl, ⟨pw_cell_below hb2.out hHeld.1, pw_cell_below hb2.out hHeld.2.1, pw_cell_below hb2.out hHeld.2.2.1, pw_cell_below hb2.out hHeld.2.2.2.1, pw_cell_below hb2.out hHeld.2.2.2.2.1, pw_cell_below hb2.out hHeld.2.2.2.2.2⟩, fun hHeld => ⟨_, by simp only [Act.put, List.setIfInBounds_toArray, List.set_cons_zero, List.set_cons_succ, i64_w, i32_w]; rfl, ?_⟩⟩
                  repeat (first | (refine at_off HOK hHeld rfl rfl (fun _ _ _ h => h) (by rfl) rfl (by simp only [Act.put, List.setIfInBounds_toArray, List.set_cons_zero, List.set_cons_succ, i64_w, i32_w]; rfl) ?_) | (refine at_evoff HOK hHeld rfl rfl (by rfl) rfl (by simp only [Act.put, List.setIfInBounds_toArray, List.set_cons_zero, List.set_cons_succ, i64_w, i32_w]; rfl) ?_) | (refine at_pure (v := ?_) (a' := ?_) HOK hHeld rfl rfl (fun _ _ _ h => h) (by rfl) ?_ rfl ?_ ?_; rotate_left 2; (focus (rintro w' ⟨s0, s1, s2, s3, s4, s5⟩; go_simp; with_reducible rfl)); (focus (simp only [Act.put, List.setIfInBounds_toArray, List.set_cons_zero, List.set_cons_succ, i64_w, i32_w]; rfl))))
                  refine at_done rfl ?_ (by kernel_rfl)
                  go_wp2
                  go_roundg (l0.length - (kk + 1))
                  case measure => omega
                  case rel => exact ⟨kk + 1, by omega, by omega, by go_num, ⟨below_then (below_then (below_then HB.out HB.out.size hBW.out) (Nat.le_trans HB.out.size hBW.out.size) hb1.out) (Nat.le_trans (Nat.le_trans HB.out.size hBW.out.size) hb1.out.size) hb2.out⟩, hok'⟩
                | false =>
                  cases hde : dd.toList.isEmpty with
                  | true =>
                    rw [hde] at hok
                    have hok' : Aside0 (archB l0 = (archFrom l0 (kk + 1) && (decide (l0.length ≤ 32) && treeB (filesL l0)))) := ⟨by rw [HA.out, hst.out, hok.out]; rfl⟩
                    clear hok hst
                    have hd0 : dd.toList = [] := List.isEmpty_iff.1 hde
                    go_wp2_with fail
                    refine at_start (evs := [2, 22]) (S := fun w' => w'.cell? ⟨wr.heap.size, 0, none⟩ = some (.string f) ∧ w'.cell? ⟨wr.heap.size, 1, none⟩ = some (.bool false) ∧ w'.cell? ⟨wr.heap.size, 2, none⟩ = some (.string dd) ∧ w'.cell? ⟨wr.heap.size, 3, none⟩ = some (.int .i64 cx) ∧ w'.cell? ⟨wr.heap.size, 4, none⟩ = some (.int .i64 cy) ∧ w'.cell? (ad.add (j * 5)) = some (.string pv)) (by kernel_rfl) (by kernel_rfl) hS6.out (fun HOK hHeld => ?_)
                    have hBW := Aside0.mk (below_drew hbW.out)
                    generalize (wr.alloc (.cells #[.string f, .bool false, .string dd, .int .i64 cx, .int .i64 cy] 34)).drew = W at hBW hHeld ⊢
                    repeat (first | (refine at_off HOK hHeld rfl rfl (fun _ _ _ h => h) (by rfl) rfl (by simp only [Act.put, List.setIfInBounds_toArray, List.set_cons_zero, List.set_cons_succ, i64_w, i32_w]; rfl) ?_) | (refine at_evoff HOK hHeld rfl rfl (by rfl) rfl (by simp only [Act.put, List.setIfInBounds_toArray, List.set_cons_zero, List.set_cons_succ, i64_w, i32_w]; rfl) ?_) | (refine at_pure (v := ?_) (a' := ?_) HOK hHeld rfl rfl (fun _ _ _ h => h) (by rfl) ?_ rfl ?_ ?_; rotate_left 2; (focus (rintro w' ⟨s0, s1, s2, s3, s4, s5⟩; go_simp; with_reducible rfl)); (focus (simp only [Act.put, List.setIfInBounds_toArray, List.set_cons_zero, List.set_cons_succ, i64_w, i32_w]; rfl))))
                    refine at_call HOK rfl rfl Tryz.func70 (by kernel_rfl) rfl #[.string f] (by rfl) rfl (by (try simp only [List.map_toArray, List.map_cons, List.map_nil]); first | done | rfl) rfl ?_
                    with_reducible refine (hright.out _).mono ?_
                    rintro e w1 ⟨rfl, hb1⟩
                    have hb1 := Aside0.mk hb1
                    refine ⟨_, rfl, ⟨pw_cell_below hb1.out hHeld.1, pw_cell_below hb1.out hHeld.2.1, pw_cell_below hb1.out hHeld.2.2.1, pw_cell_below hb1.out hHeld.2.2.2.1, pw_cell_below hb1.out hHeld.2.2.2.2.1, pw_cell_below hb1.out hHeld.2.2.2.2.2⟩, fun hHeld => ⟨_, by simp only [Act.put, List.setIfInBounds_toArray, List.set_cons_zero, List.set_cons_succ, i64_w, i32_w]; rfl, ?_⟩⟩
                    repeat (first | (refine at_off HOK hHeld rfl rfl (fun _ _ _ h => h) (by rfl) rfl (by simp only [Act.put, List.setIfInBounds_toArray, List.set_cons_zero, List.set_cons_succ, i64_w, i32_w]; rfl) ?_) | (refine at_evoff HOK hHeld rfl rfl (by rfl) rfl (by simp only [Act.put, List.setIfInBounds_toArray, List.set_cons_zero, List.set_cons_succ, i64_w, i32_w]; rfl) ?_) | (refine at_pure (v := ?_) (a' := ?_) HOK hHeld rfl rfl (fun _ _ _ h => h) (by rfl) ?_ rfl ?_ ?_; rotate_left 2; (focus (rintro w' ⟨s0, s1, s2, s3, s4, s5⟩; go_simp; with_reducible rfl)); (focus (simp only [Act.put, List.setIfInBounds_toArray, List.set_cons_zero, List.set_cons_succ, i64_w, i32_w]; rfl))))
                    refine at_call HOK rfl rfl Tryz.func71 (by kernel_rfl) rfl #[.agg #[.int .i64 cx, .int .i64 cy]] (by rfl) rfl (by (try simp only [List.map_toArray, List.map_cons, List.map_nil]); first | done | rfl) rfl ?_
                    with_reducible refine (hclock.out _).mono ?_
                    rintro e w2 ⟨rfl, hb2⟩
                    have hb2 := Aside0.mk hb2
                    refine ⟨_, rfl, ⟨pw_cell_below hb2.out hHeld.1, pw_cell_below hb2.out hHeld.2.1, pw_cell_below hb2.out hHeld.2.2.1, pw_cell_below hb2.out hHeld.2.2.2.1, pw_cell_below hb2.out hHeld.2.2.2.2.1, pw_cell_below hb2.out hHeld.2.2.2.2.2⟩, fun hHeld => ⟨_, by simp only [Act.put, List.setIfInBounds_toArray, List.set_cons_zero, List.set_cons_succ, i64_w, i32_w]; rfl, ?_⟩⟩
                    repeat (first | (refine at_off HOK hHeld rfl rfl (fun _ _ _ h => h) (by rfl) rfl (by simp only [Act.put, List.setIfInBounds_toArray, List.set_cons_zero, List.set_cons_succ, i64_w, i32_w]; rfl) ?_) | (refine at_evoff HOK hHeld rfl rfl (by rfl) rfl (by simp only [Act.put, List.setIfInBounds_toArray, List.set_cons_zero, List.set_cons_succ, i64_w, i32_w]; rfl) ?_) | (refine at_pure (v := ?_) (a' := ?_) HOK hHeld rfl rfl (fun _ _ _ h => h) (by rfl) ?_ rfl ?_ ?_; rotate_left 2; (focus (rintro w' ⟨s0, s1, s2, s3, s4, s5⟩; go_simp; with_reducible rfl)); (focus (simp only [Act.put, List.setIfInBounds_toArray, List.set_cons_zero, List.set_cons_succ, i64_w, i32_w]; rfl))))
                    refine at_done rfl ?_ (by kernel_rfl)
                    go_wp2
                    go_roundg (l0.length - (kk + 1))
                    case measure => omega
                    case rel => exact ⟨kk + 1, by omega, by omega, by go_num, ⟨below_then (below_then (below_then HB.out HB.out.size hBW.out) (Nat.le_trans HB.out.size hBW.out.size) hb1.out) (Nat.le_trans (Nat.le_trans HB.out.size hBW.out.size) hb1.out.size) hb2.out⟩, hok'⟩
                  | false =>
                    rw [hde] at hok
                    have hok' : Aside0 (archB l0 = false) := ⟨by rw [HA.out, hst.out, hok.out]; rfl⟩
                    clear hok hst
                    have hd0 : ¬ dd.toList = [] := fun h => by rw [h] at hde; cases hde
                    have hd1 : (dd.toList != []) = true := by simpa using hd0
                    go_wp2_with fail
                    refine at_start (evs := [2, 22]) (S := fun w' => w'.cell? ⟨wr.heap.size, 0, none⟩ = some (.string f) ∧ w'.cell? ⟨wr.heap.size, 1, none⟩ = some (.bool false) ∧ w'.cell? ⟨wr.heap.size, 2, none⟩ = some (.string dd) ∧ w'.cell? ⟨wr.heap.size, 3, none⟩ = some (.int .i64 cx) ∧ w'.cell? ⟨wr.heap.size, 4, none⟩ = some (.int .i64 cy) ∧ w'.cell? (ad.add (j * 5)) = some (.string pv)) (by kernel_rfl) (by kernel_rfl) hS6.out (fun HOK hHeld => ?_)
                    have hBW := Aside0.mk (below_drew hbW.out)
                    generalize (wr.alloc (.cells #[.string f, .bool false, .string dd, .int .i64 cx, .int .i64 cy] 34)).drew = W at hBW hHeld ⊢
                    repeat (first | (refine at_off HOK hHeld rfl rfl (fun _ _ _ h => h) (by rfl) rfl (by simp only [Act.put, List.setIfInBounds_toArray, List.set_cons_zero, List.set_cons_succ, i64_w, i32_w]; rfl) ?_) | (refine at_evoff HOK hHeld rfl rfl (by rfl) rfl (by simp only [Act.put, List.setIfInBounds_toArray, List.set_cons_zero, List.set_cons_succ, i64_w, i32_w]; rfl) ?_) | (refine at_pure (v := ?_) (a' := ?_) HOK hHeld rfl rfl (fun _ _ _ h => h) (by rfl) ?_ rfl ?_ ?_; rotate_left 2; (focus (rintro w' ⟨s0, s1, s2, s3, s4, s5⟩; go_simp; with_reducible rfl)); (focus (simp only [Act.put, List.setIfInBounds_toArray, List.set_cons_zero, List.set_cons_succ, i64_w, i32_w]; rfl))))
                    refine at_call HOK rfl rfl Tryz.func70 (by kernel_rfl) rfl #[.string f] (by rfl) rfl (by (try simp only [List.map_toArray, List.map_cons, List.map_nil]); first | done | rfl) rfl ?_
                    with_reducible refine (hright.out _).mono ?_
                    rintro e w1 ⟨rfl, hb1⟩
                    have hb1 := Aside0.mk hb1
                    refine ⟨_, rfl, ⟨pw_cell_below hb1.out hHeld.1, pw_cell_below hb1.out hHeld.2.1, pw_cell_below hb1.out hHeld.2.2.1, pw_cell_below hb1.out hHeld.2.2.2.1, pw_cell_below hb1.out hHeld.2.2.2.2.1, pw_cell_below hb1.out hHeld.2.2.2.2.2⟩, fun hHeld => ⟨_, by simp only [Act.put, List.setIfInBounds_toArray, List.set_cons_zero, List.set_cons_succ, i64_w, i32_w]; rfl, ?_⟩⟩
                    repeat (first | (refine at_off HOK hHeld rfl rfl (fun _ _ _ h => h) (by rfl) rfl (by simp only [Act.put, List.setIfInBounds_toArray, List.set_cons_zero, List.set_cons_succ, i64_w, i32_w]; rfl) ?_) | (refine at_evoff HOK hHeld rfl rfl (by rfl) rfl (by simp only [Act.put, List.setIfInBounds_toArray, List.set_cons_zero, List.set_cons_succ, i64_w, i32_w]; rfl) ?_) | (refine at_pure (v := ?_) (a' := ?_) HOK hHeld rfl rfl (fun _ _ _ h => h) (by rfl) ?_ rfl ?_ ?_; rotate_left 2; (focus (rintro w' ⟨s0, s1, s2, s3, s4, s5⟩; go_simp; with_reducible rfl)); (focus (simp only [Act.put, List.setIfInBounds_toArray, List.set_cons_zero, List.set_cons_succ, i64_w, i32_w]; rfl))))
                    refine at_call HOK rfl rfl Tryz.func71 (by kernel_rfl) rfl #[.agg #[.int .i64 cx, .int .i64 cy]] (by rfl) rfl (by (try simp only [List.map_toArray, List.map_cons, List.map_nil]); first | done | rfl) rfl ?_
                    with_reducible refine (hclock.out _).mono ?_
                    rintro e w2 ⟨rfl, hb2⟩
                    have hb2 := Aside0.mk hb2
                    refine ⟨_, rfl, ⟨pw_cell_below hb2.out hHeld.1, pw_cell_below hb2.out hHeld.2.1, pw_cell_below hb2.out hHeld.2.2.1, pw_cell_below hb2.out hHeld.2.2.2.1, pw_cell_below hb2.out hHeld.2.2.2.2.1, pw_cell_below hb2.out hHeld.2.2.2.2.2⟩, fun hHeld => ⟨_, by simp only [Act.put, List.setIfInBounds_toArray, List.set_cons_zero, List.set_cons_succ, i64_w, i32_w]; rfl, ?_⟩⟩
                    repeat (first | (refine at_off HOK hHeld rfl rfl (fun _ _ _ h => h) (by rfl) rfl (by simp only [Act.put, List.setIfInBounds_toArray, List.set_cons_zero, List.set_cons_succ, i64_w, i32_w]; rfl) ?_) | (refine at_evoff HOK hHeld rfl rfl (by rfl) rfl (by simp only [Act.put, List.setIfInBounds_toArray, List.set_cons_zero, List.set_cons_succ, i64_w, i32_w]; rfl) ?_) | (refine at_pure (v := ?_) (a' := ?_) HOK hHeld rfl rfl (fun _ _ _ h => h) (by rfl) ?_ rfl ?_ ?_; rotate_left 2; (focus (rintro w' ⟨s0, s1, s2, s3, s4, s5⟩; go_simp; with_reducible rfl)); (focus (simp only [Act.put, List.setIfInBounds_toArray, List.set_cons_zero, List.set_cons_succ, i64_w, i32_w]; rfl))))
                    refine at_done rfl ?_ (by kernel_rfl)
                    go_wp2
                    go_ret
                    exact ⟨by rw [hok'.out]; rfl, below_then (below_then (below_then HB.out HB.out.size hBW.out) (Nat.le_trans HB.out.size hBW.out.size) hb1.out) (Nat.le_trans (Nat.le_trans HB.out.size hBW.out.size) hb1.out.size) hb2.out⟩
      · rw [dif_neg hk0] at hok
        have hk0' : decide ((0 : Int) < (kk : Int)) = false := by simp; omega
        cases hpf : pathB f with
        | false =>
          rw [hpf] at hright hok
          have hok' : Aside0 (archB l0 = false) := ⟨by rw [HA.out, hst.out, hok.out]; rfl⟩
          clear hok hst
          go_wp2_with fail
          refine at_start (evs := [2, 22]) (S := fun w' => w'.cell? ⟨wr.heap.size, 0, none⟩ = some (.string f) ∧ w'.cell? ⟨wr.heap.size, 1, none⟩ = some (.bool hh) ∧ w'.cell? ⟨wr.heap.size, 2, none⟩ = some (.string dd) ∧ w'.cell? ⟨wr.heap.size, 3, none⟩ = some (.int .i64 cx) ∧ w'.cell? ⟨wr.heap.size, 4, none⟩ = some (.int .i64 cy)) (by kernel_rfl) (by kernel_rfl) (by simp) (fun HOK hHeld => ?_)
          have hBW := Aside0.mk (below_drew hbW.out)
          generalize (wr.alloc (.cells #[.string f, .bool hh, .string dd, .int .i64 cx, .int .i64 cy] 34)).drew = W at hBW hHeld ⊢
          repeat (first | (refine at_off HOK hHeld rfl rfl (fun _ _ _ h => h) (by rfl) rfl (by simp only [Act.put, List.setIfInBounds_toArray, List.set_cons_zero, List.set_cons_succ, i64_w, i32_w]; rfl) ?_) | (refine at_evoff HOK hHeld rfl rfl (by rfl) rfl (by simp only [Act.put, List.setIfInBounds_toArray, List.set_cons_zero, List.set_cons_succ, i64_w, i32_w]; rfl) ?_) | (refine at_pure (v := ?_) (a' := ?_) HOK hHeld rfl rfl (fun _ _ _ h => h) (by rfl) ?_ rfl ?_ ?_; rotate_left 2; (focus (rintro w' ⟨s0, s1, s2, s3, s4⟩; go_simp; with_reducible rfl)); (focus (simp only [Act.put, List.setIfInBounds_toArray, List.set_cons_zero, List.set_cons_succ, i64_w, i32_w]; rfl))))
          refine at_call HOK rfl rfl Tryz.func70 (by kernel_rfl) rfl #[.string f] (by rfl) rfl (by (try simp only [List.map_toArray, List.map_cons, List.map_nil]); first | done | rfl) rfl ?_
          with_reducible refine (hright.out _).mono ?_
          rintro e w1 ⟨rfl, hb1⟩
          have hb1 := Aside0.mk hb1
          refine ⟨_, rfl, ⟨pw_cell_below hb1.out hHeld.1, pw_cell_below hb1.out hHeld.2.1, pw_cell_below hb1.out hHeld.2.2.1, pw_cell_below hb1.out hHeld.2.2.2.1, pw_cell_below hb1.out hHeld.2.2.2.2⟩, fun hHeld => ⟨_, by simp only [Act.put, List.setIfInBounds_toArray, List.set_cons_zero, List.set_cons_succ, i64_w, i32_w]; rfl, ?_⟩⟩
          repeat (first | (refine at_off HOK hHeld rfl rfl (fun _ _ _ h => h) (by rfl) rfl (by simp only [Act.put, List.setIfInBounds_toArray, List.set_cons_zero, List.set_cons_succ, i64_w, i32_w]; rfl) ?_) | (refine at_evoff HOK hHeld rfl rfl (by rfl) rfl (by simp only [Act.put, List.setIfInBounds_toArray, List.set_cons_zero, List.set_cons_succ, i64_w, i32_w]; rfl) ?_) | (refine at_pure (v := ?_) (a' := ?_) HOK hHeld rfl rfl (fun _ _ _ h => h) (by rfl) ?_ rfl ?_ ?_; rotate_left 2; (focus (rintro w' ⟨s0, s1, s2, s3, s4⟩; go_simp; with_reducible rfl)); (focus (simp only [Act.put, List.setIfInBounds_toArray, List.set_cons_zero, List.set_cons_succ, i64_w, i32_w]; rfl))))
          refine at_done rfl ?_ (by kernel_rfl)
          go_wp2
          go_ret
          exact ⟨by rw [hok'.out]; rfl, below_then (below_then HB.out HB.out.size hBW.out) (Nat.le_trans HB.out.size hBW.out.size) hb1.out⟩
        | true =>
          rw [hpf] at hright hok
          cases hck : clockB cx cy with
          | false =>
            rw [hck] at hclock hok
            have hok' : Aside0 (archB l0 = false) := ⟨by rw [HA.out, hst.out, hok.out]; rfl⟩
            clear hok hst
            go_wp2_with fail
            refine at_start (evs := [2, 22]) (S := fun w' => w'.cell? ⟨wr.heap.size, 0, none⟩ = some (.string f) ∧ w'.cell? ⟨wr.heap.size, 1, none⟩ = some (.bool hh) ∧ w'.cell? ⟨wr.heap.size, 2, none⟩ = some (.string dd) ∧ w'.cell? ⟨wr.heap.size, 3, none⟩ = some (.int .i64 cx) ∧ w'.cell? ⟨wr.heap.size, 4, none⟩ = some (.int .i64 cy)) (by kernel_rfl) (by kernel_rfl) (by simp) (fun HOK hHeld => ?_)
            have hBW := Aside0.mk (below_drew hbW.out)
            generalize (wr.alloc (.cells #[.string f, .bool hh, .string dd, .int .i64 cx, .int .i64 cy] 34)).drew = W at hBW hHeld ⊢
            repeat (first | (refine at_off HOK hHeld rfl rfl (fun _ _ _ h => h) (by rfl) rfl (by simp only [Act.put, List.setIfInBounds_toArray, List.set_cons_zero, List.set_cons_succ, i64_w, i32_w]; rfl) ?_) | (refine at_evoff HOK hHeld rfl rfl (by rfl) rfl (by simp only [Act.put, List.setIfInBounds_toArray, List.set_cons_zero, List.set_cons_succ, i64_w, i32_w]; rfl) ?_) | (refine at_pure (v := ?_) (a' := ?_) HOK hHeld rfl rfl (fun _ _ _ h => h) (by rfl) ?_ rfl ?_ ?_; rotate_left 2; (focus (rintro w' ⟨s0, s1, s2, s3, s4⟩; go_simp; with_reducible rfl)); (focus (simp only [Act.put, List.setIfInBounds_toArray, List.set_cons_zero, List.set_cons_succ, i64_w, i32_w]; rfl))))
            refine at_call HOK rfl rfl Tryz.func70 (by kernel_rfl) rfl #[.string f] (by rfl) rfl (by (try simp only [List.map_toArray, List.map_cons, List.map_nil]); first | done | rfl) rfl ?_
            with_reducible refine (hright.out _).mono ?_
            rintro e w1 ⟨rfl, hb1⟩
            have hb1 := Aside0.mk hb1
            refine ⟨_, rfl, ⟨pw_cell_below hb1.out hHeld.1, pw_cell_below hb1.out hHeld.2.1, pw_cell_below hb1.out hHeld.2.2.1, pw_cell_below hb1.out hHeld.2.2.2.1, pw_cell_below hb1.out hHeld.2.2.2.2⟩, fun hHeld => ⟨_, by simp only [Act.put, List.setIfInBounds_toArray, List.set_cons_zero, List.set_cons_succ, i64_w, i32_w]; rfl, ?_⟩⟩
            repeat (first | (refine at_off HOK hHeld rfl rfl (fun _ _ _ h => h) (by rfl) rfl (by simp only [Act.put, List.setIfInBounds_toArray, List.set_cons_zero, List.set_cons_succ, i64_w, i32_w]; rfl) ?_) | (refine at_evoff HOK hHeld rfl rfl (by rfl) rfl (by simp only [Act.put, List.setIfInBounds_toArray, List.set_cons_zero, List.set_cons_succ, i64_w, i32_w]; rfl) ?_) | (refine at_pure (v := ?_) (a' := ?_) HOK hHeld rfl rfl (fun _ _ _ h => h) (by rfl) ?_ rfl ?_ ?_; rotate_left 2; (focus (rintro w' ⟨s0, s1, s2, s3, s4⟩; go_simp; with_reducible rfl)); (focus (simp only [Act.put, List.setIfInBounds_toArray, List.set_cons_zero, List.set_cons_succ, i64_w, i32_w]; rfl))))
            refine at_call HOK rfl rfl Tryz.func71 (by kernel_rfl) rfl #[.agg #[.int .i64 cx, .int .i64 cy]] (by rfl) rfl (by (try simp only [List.map_toArray, List.map_cons, List.map_nil]); first | done | rfl) rfl ?_
            with_reducible refine (hclock.out _).mono ?_
            rintro e w2 ⟨rfl, hb2⟩
            have hb2 := Aside0.mk hb2
            refine ⟨_, rfl, ⟨pw_cell_below hb2.out hHeld.1, pw_cell_below hb2.out hHeld.2.1, pw_cell_below hb2.out hHeld.2.2.1, pw_cell_below hb2.out hHeld.2.2.2.1, pw_cell_below hb2.out hHeld.2.2.2.2⟩, fun hHeld => ⟨_, by simp only [Act.put, List.setIfInBounds_toArray, List.set_cons_zero, List.set_cons_succ, i64_w, i32_w]; rfl, ?_⟩⟩
            repeat (first | (refine at_off HOK hHeld rfl rfl (fun _ _ _ h => h) (by rfl) rfl (by simp only [Act.put, List.setIfInBounds_toArray, List.set_cons_zero, List.set_cons_succ, i64_w, i32_w]; rfl) ?_) | (refine at_evoff HOK hHeld rfl rfl (by rfl) rfl (by simp only [Act.put, List.setIfInBounds_toArray, List.set_cons_zero, List.set_cons_succ, i64_w, i32_w]; rfl) ?_) | (refine at_pure (v := ?_) (a' := ?_) HOK hHeld rfl rfl (fun _ _ _ h => h) (by rfl) ?_ rfl ?_ ?_; rotate_left 2; (focus (rintro w' ⟨s0, s1, s2, s3, s4⟩; go_simp; with_reducible rfl)); (focus (simp only [Act.put, List.setIfInBounds_toArray, List.set_cons_zero, List.set_cons_succ, i64_w, i32_w]; rfl))))
            refine at_done rfl ?_ (by kernel_rfl)
            go_wp2
            go_ret
            exact ⟨by rw [hok'.out]; rfl, below_then (below_then (below_then HB.out HB.out.size hBW.out) (Nat.le_trans HB.out.size hBW.out.size) hb1.out) (Nat.le_trans (Nat.le_trans HB.out.size hBW.out.size) hb1.out.size) hb2.out⟩
          | true =>
            rw [hck] at hclock hok
            cases hz : (cx == 0 && cy == 0) with
            | true =>
              rw [hz] at hok
              have hok' : Aside0 (archB l0 = false) := ⟨by rw [HA.out, hst.out, hok.out]; rfl⟩
              clear hok hst
              go_wp2_with fail
              refine at_start (evs := [2, 22]) (S := fun w' => w'.cell? ⟨wr.heap.size, 0, none⟩ = some (.string f) ∧ w'.cell? ⟨wr.heap.size, 1, none⟩ = some (.bool hh) ∧ w'.cell? ⟨wr.heap.size, 2, none⟩ = some (.string dd) ∧ w'.cell? ⟨wr.heap.size, 3, none⟩ = some (.int .i64 cx) ∧ w'.cell? ⟨wr.heap.size, 4, none⟩ = some (.int .i64 cy)) (by kernel_rfl) (by kernel_rfl) (by simp) (fun HOK hHeld => ?_)
              have hBW := Aside0.mk (below_drew hbW.out)
              generalize (wr.alloc (.cells #[.string f, .bool hh, .string dd, .int .i64 cx, .int .i64 cy] 34)).drew = W at hBW hHeld ⊢
              repeat (first | (refine at_off HOK hHeld rfl rfl (fun _ _ _ h => h) (by rfl) rfl (by simp only [Act.put, List.setIfInBounds_toArray, List.set_cons_zero, List.set_cons_succ, i64_w, i32_w]; rfl) ?_) | (refine at_evoff HOK hHeld rfl rfl (by rfl) rfl (by simp only [Act.put, List.setIfInBounds_toArray, List.set_cons_zero, List.set_cons_succ, i64_w, i32_w]; rfl) ?_) | (refine at_pure (v := ?_) (a' := ?_) HOK hHeld rfl rfl (fun _ _ _ h => h) (by rfl) ?_ rfl ?_ ?_; rotate_left 2; (focus (rintro w' ⟨s0, s1, s2, s3, s4⟩; go_simp; with_reducible rfl)); (focus (simp only [Act.put, List.setIfInBounds_toArray, List.set_cons_zero, List.set_cons_succ, i64_w, i32_w]; rfl))))
              refine at_call HOK rfl rfl Tryz.func70 (by kernel_rfl) rfl #[.string f] (by rfl) rfl (by (try simp only [List.map_toArray, List.map_cons, List.map_nil]); first | done | rfl) rfl ?_
              with_reducible refine (hright.out _).mono ?_
              rintro e w1 ⟨rfl, hb1⟩
              have hb1 := Aside0.mk hb1
              refine ⟨_, rfl, ⟨pw_cell_below hb1.out hHeld.1, pw_cell_below hb1.out hHeld.2.1, pw_cell_below hb1.out hHeld.2.2.1, pw_cell_below hb1.out hHeld.2.2.2.1, pw_cell_below hb1.out hHeld.2.2.2.2⟩, fun hHeld => ⟨_, by simp only [Act.put, List.setIfInBounds_toArray, List.set_cons_zero, List.set_cons_succ, i64_w, i32_w]; rfl, ?_⟩⟩
              repeat (first | (refine at_off HOK hHeld rfl rfl (fun _ _ _ h => h) (by rfl) rfl (by simp only [Act.put, List.setIfInBounds_toArray, List.set_cons_zero, List.set_cons_succ, i64_w, i32_w]; rfl) ?_) | (refine at_evoff HOK hHeld rfl rfl (by rfl) rfl (by simp only [Act.put, List.setIfInBounds_toArray, List.set_cons_zero, List.set_cons_succ, i64_w, i32_w]; rfl) ?_) | (refine at_pure (v := ?_) (a' := ?_) HOK hHeld rfl rfl (fun _ _ _ h => h) (by rfl) ?_ rfl ?_ ?_; rotate_left 2; (focus (rintro w' ⟨s0, s1, s2, s3, s4⟩; go_simp; with_reducible rfl)); (focus (simp only [Act.put, List.setIfInBounds_toArray, List.set_cons_zero, List.set_cons_succ, i64_w, i32_w]; rfl))))
              refine at_call HOK rfl rfl Tryz.func71 (by kernel_rfl) rfl #[.agg #[.int .i64 cx, .int .i64 cy]] (by rfl) rfl (by (try simp only [List.map_toArray, List.map_cons, List.map_nil]); first | done | rfl) rfl ?_
              with_reducible refine (hclock.out _).mono ?_
              rintro e w2 ⟨rfl, hb2⟩
              have hb2 := Aside0.mk hb2
              refine ⟨_, rfl, ⟨pw_cell_below hb2.out hHeld.1, pw_cell_below hb2.out hHeld.2.1, pw_cell_below hb2.out hHeld.2.2.1, pw_cell_below hb2.out hHeld.2.2.2.1, pw_cell_below hb2.out hHeld.2.2.2.2⟩, fun hHeld => ⟨_, by simp only [Act.put, List.setIfInBounds_toArray, List.set_cons_zero, List.set_cons_succ, i64_w, i32_w]; rfl, ?_⟩⟩
              repeat (first | (refine at_off HOK hHeld rfl rfl (fun _ _ _ h => h) (by rfl) rfl (by simp only [Act.put, List.setIfInBounds_toArray, List.set_cons_zero, List.set_cons_succ, i64_w, i32_w]; rfl) ?_) | (refine at_evoff HOK hHeld rfl rfl (by rfl) rfl (by simp only [Act.put, List.setIfInBounds_toArray, List.set_cons_zero, List.set_cons_succ, i64_w, i32_w]; rfl) ?_) | (refine at_pure (v := ?_) (a' := ?_) HOK hHeld rfl rfl (fun _ _ _ h => h) (by rfl) ?_ rfl ?_ ?_; rotate_left 2; (focus (rintro w' ⟨s0, s1, s2, s3, s4⟩; go_simp; with_reducible rfl)); (focus (simp only [Act.put, List.setIfInBounds_toArray, List.set_cons_zero, List.set_cons_succ, i64_w, i32_w]; rfl))))
              refine at_done rfl ?_ (by kernel_rfl)
              go_wp2
              go_ret
              exact ⟨by rw [hok'.out]; rfl, below_then (below_then (below_then HB.out HB.out.size hBW.out) (Nat.le_trans HB.out.size hBW.out.size) hb1.out) (Nat.le_trans (Nat.le_trans HB.out.size hBW.out.size) hb1.out.size) hb2.out⟩
            | false =>
              rw [hz] at hok
              cases hh with
              | true =>
                have hok' : Aside0 (archB l0 = (archFrom l0 (kk + 1) && (decide (l0.length ≤ 32) && treeB (filesL l0)))) := ⟨by rw [HA.out, hst.out, hok.out]; rfl⟩
                clear hok hst
                go_wp2_with fail
                refine at_start (evs := [2, 22]) (S := fun w' => w'.cell? ⟨wr.heap.size, 0, none⟩ = some (.string f) ∧ w'.cell? ⟨wr.heap.size, 1, none⟩ = some (.bool true) ∧ w'.cell? ⟨wr.heap.size, 2, none⟩ = some (.string dd) ∧ w'.cell? ⟨wr.heap.size, 3, none⟩ = some (.int .i64 cx) ∧ w'.cell? ⟨wr.heap.size, 4, none⟩ = some (.int .i64 cy)) (by kernel_rfl) (by kernel_rfl) (by simp) (fun HOK hHeld => ?_)
                have hBW := Aside0.mk (below_drew hbW.out)
                generalize (wr.alloc (.cells #[.string f, .bool true, .string dd, .int .i64 cx, .int .i64 cy] 34)).drew = W at hBW hHeld ⊢
                repeat (first | (refine at_off HOK hHeld rfl rfl (fun _ _ _ h => h) (by rfl) rfl (by simp only [Act.put, List.setIfInBounds_toArray, List.set_cons_zero, List.set_cons_succ, i64_w, i32_w]; rfl) ?_) | (refine at_evoff HOK hHeld rfl rfl (by rfl) rfl (by simp only [Act.put, List.setIfInBounds_toArray, List.set_cons_zero, List.set_cons_succ, i64_w, i32_w]; rfl) ?_) | (refine at_pure (v := ?_) (a' := ?_) HOK hHeld rfl rfl (fun _ _ _ h => h) (by rfl) ?_ rfl ?_ ?_; rotate_left 2; (focus (rintro w' ⟨s0, s1, s2, s3, s4⟩; go_simp; with_reducible rfl)); (focus (simp only [Act.put, List.setIfInBounds_toArray, List.set_cons_zero, List.set_cons_succ, i64_w, i32_w]; rfl))))
                refine at_call HOK rfl rfl Tryz.func70 (by kernel_rfl) rfl #[.string f] (by rfl) rfl (by (try simp only [List.map_toArray, List.map_cons, List.map_nil]); first | done | rfl) rfl ?_
                with_reducible refine (hright.out _).mono ?_
                rintro e w1 ⟨rfl, hb1⟩
                have hb1 := Aside0.mk hb1
                refine ⟨_, rfl, ⟨pw_cell_below hb1.out hHeld.1, pw_cell_below hb1.out hHeld.2.1, pw_cell_below hb1.out hHeld.2.2.1, pw_cell_below hb1.out hHeld.2.2.2.1, pw_cell_below hb1.out hHeld.2.2.2.2⟩, fun hHeld => ⟨_, by simp only [Act.put, List.setIfInBounds_toArray, List.set_cons_zero, List.set_cons_succ, i64_w, i32_w]; rfl, ?_⟩⟩
                repeat (first | (refine at_off HOK hHeld rfl rfl (fun _ _ _ h => h) (by rfl) rfl (by simp only [Act.put, List.setIfInBounds_toArray, List.set_cons_zero, List.set_cons_succ, i64_w, i32_w]; rfl) ?_) | (refine at_evoff HOK hHeld rfl rfl (by rfl) rfl (by simp only [Act.put, List.setIfInBounds_toArray, List.set_cons_zero, List.set_cons_succ, i64_w, i32_w]; rfl) ?_) | (refine at_pure (v := ?_) (a' := ?_) HOK hHeld rfl rfl (fun _ _ _ h => h) (by rfl) ?_ rfl ?_ ?_; rotate_left 2; (focus (rintro w' ⟨s0, s1, s2, s3, s4⟩; go_simp; with_reducible rfl)); (focus (simp only [Act.put, List.setIfInBounds_toArray, List.set_cons_zero, List.set_cons_succ, i64_w, i32_w]; rfl))))
                refine at_call HOK rfl rfl Tryz.func71 (by kernel_rfl) rfl #[.agg #[.int .i64 cx, .int .i64 cy]] (by rfl) rfl (by (try simp only [List.map_toArray, List.map_cons, List.map_nil]); first | done | rfl) rfl ?_
                with_reducible refine (hclock.out _).mono ?_
                rintro e w2 ⟨rfl, hb2⟩
                have hb2 := Aside0.mk hb2
                refine ⟨_, rfl, ⟨pw_cell_below hb2.out hHeld.1, pw_cell_below hb2.out hHeld.2.1, pw_cell_below hb2.out hHeld.2.2.1, pw_cell_below hb2.out hHeld.2.2.2.1, pw_cell_below hb2.out hHeld.2.2.2.2⟩, fun hHeld => ⟨_, by simp only [Act.put, List.setIfInBounds_toArray, List.set_cons_zero, List.set_cons_succ, i64_w, i32_w]; rfl, ?_⟩⟩
                repeat (first | (refine at_off HOK hHeld rfl rfl (fun _ _ _ h => h) (by rfl) rfl (by simp only [Act.put, List.setIfInBounds_toArray, List.set_cons_zero, List.set_cons_succ, i64_w, i32_w]; rfl) ?_) | (refine at_evoff HOK hHeld rfl rfl (by rfl) rfl (by simp only [Act.put, List.setIfInBounds_toArray, List.set_cons_zero, List.set_cons_succ, i64_w, i32_w]; rfl) ?_) | (refine at_pure (v := ?_) (a' := ?_) HOK hHeld rfl rfl (fun _ _ _ h => h) (by rfl) ?_ rfl ?_ ?_; rotate_left 2; (focus (rintro w' ⟨s0, s1, s2, s3, s4⟩; go_simp; with_reducible rfl)); (focus (simp only [Act.put, List.setIfInBounds_toArray, List.set_cons_zero, List.set_cons_succ, i64_w, i32_w]; rfl))))
                refine at_done rfl ?_ (by kernel_rfl)
                go_wp2
                go_roundg (l0.length - (kk + 1))
                case measure => omega
                case rel => exact ⟨kk + 1, by omega, by omega, by go_num, ⟨below_then (below_then (below_then HB.out HB.out.size hBW.out) (Nat.le_trans HB.out.size hBW.out.size) hb1.out) (Nat.le_trans (Nat.le_trans HB.out.size hBW.out.size) hb1.out.size) hb2.out⟩, hok'⟩
              | false =>
                cases hde : dd.toList.isEmpty with
                | true =>
                  rw [hde] at hok
                  have hok' : Aside0 (archB l0 = (archFrom l0 (kk + 1) && (decide (l0.length ≤ 32) && treeB (filesL l0)))) := ⟨by rw [HA.out, hst.out, hok.out]; rfl⟩
                  clear hok hst
                  have hd0 : dd.toList = [] := List.isEmpty_iff.1 hde
                  go_wp2_with fail
                  refine at_start (evs := [2, 22]) (S := fun w' => w'.cell? ⟨wr.heap.size, 0, none⟩ = some (.string f) ∧ w'.cell? ⟨wr.heap.size, 1, none⟩ = some (.bool false) ∧ w'.cell? ⟨wr.heap.size, 2, none⟩ = some (.string dd) ∧ w'.cell? ⟨wr.heap.size, 3, none⟩ = some (.int .i64 cx) ∧ w'.cell? ⟨wr.heap.size, 4, none⟩ = some (.int .i64 cy)) (by kernel_rfl) (by kernel_rfl) (by simp) (fun HOK hHeld => ?_)
                  have hBW := Aside0.mk (below_drew hbW.out)
                  generalize (wr.alloc (.cells #[.string f, .bool false, .string dd, .int .i64 cx, .int .i64 cy] 34)).drew = W at hBW hHeld ⊢
                  repeat (first | (refine at_off HOK hHeld rfl rfl (fun _ _ _ h => h) (by rfl) rfl (by simp only [Act.put, List.setIfInBounds_toArray, List.set_cons_zero, List.set_cons_succ, i64_w, i32_w]; rfl) ?_) | (refine at_evoff HOK hHeld rfl rfl (by rfl) rfl (by simp only [Act.put, List.setIfInBounds_toArray, List.set_cons_zero, List.set_cons_succ, i64_w, i32_w]; rfl) ?_) | (refine at_pure (v := ?_) (a' := ?_) HOK hHeld rfl rfl (fun _ _ _ h => h) (by rfl) ?_ rfl ?_ ?_; rotate_left 2; (focus (rintro w' ⟨s0, s1, s2, s3, s4⟩; go_simp; with_reducible rfl)); (focus (simp only [Act.put, List.setIfInBounds_toArray, List.set_cons_zero, List.set_cons_succ, i64_w, i32_w]; rfl))))
                  refine at_call HOK rfl rfl Tryz.func70 (by kernel_rfl) rfl #[.string f] (by rfl) rfl (by (try simp only [List.map_toArray, List.map_cons, List.map_nil]); first | done | rfl) rfl ?_
                  with_reducible refine (hright.out _).mono ?_
                  rintro e w1 ⟨rfl, hb1⟩
                  have hb1 := Aside0.mk hb1
                  refine ⟨_, rfl, ⟨pw_cell_below hb1.out hHeld.1, pw_cell_below hb1.out hHeld.2.1, pw_cell_below hb1.out hHeld.2.2.1, pw_cell_below hb1.out hHeld.2.2.2.1, pw_cell_below hb1.out hHeld.2.2.2.2⟩, fun hHeld => ⟨_, by simp only [Act.put, List.setIfInBounds_toArray, List.set_cons_zero, List.set_cons_succ, i64_w, i32_w]; rfl, ?_⟩⟩
                  repeat (first | (refine at_off HOK hHeld rfl rfl (fun _ _ _ h => h) (by rfl) rfl (by simp only [Act.put, List.setIfInBounds_toArray, List.set_cons_zero, List.set_cons_succ, i64_w, i32_w]; rfl) ?_) | (refine at_evoff HOK hHeld rfl rfl (by rfl) rfl (by simp only [Act.put, List.setIfInBounds_toArray, List.set_cons_zero, List.set_cons_succ, i64_w, i32_w]; rfl) ?_) | (refine at_pure (v := ?_) (a' := ?_) HOK hHeld rfl rfl (fun _ _ _ h => h) (by rfl) ?_ rfl ?_ ?_; rotate_left 2; (focus (rintro w' ⟨s0, s1, s2, s3, s4⟩; go_simp; with_reducible rfl)); (focus (simp only [Act.put, List.setIfInBounds_toArray, List.set_cons_zero, List.set_cons_succ, i64_w, i32_w]; rfl))))
                  refine at_call HOK rfl rfl Tryz.func71 (by kernel_rfl) rfl #[.agg #[.int .i64 cx, .int .i64 cy]] (by rfl) rfl (by (try simp only [List.map_toArray, List.map_cons, List.map_nil]); first | done | rfl) rfl ?_
                  with_reducible refine (hclock.out _).mono ?_
                  rintro e w2 ⟨rfl, hb2⟩
                  have hb2 := Aside0.mk hb2
                  refine ⟨_, rfl, ⟨pw_cell_below hb2.out hHeld.1, pw_cell_below hb2.out hHeld.2.1, pw_cell_below hb2.out hHeld.2.2.1, pw_cell_below hb2.out hHeld.2.2.2.1, pw_cell_below hb2.out hHeld.2.2.2.2⟩, fun hHeld => ⟨_, by simp only [Act.put, List.setIfInBounds_toArray, List.set_cons_zero, List.set_cons_succ, i64_w, i32_w]; rfl, ?_⟩⟩
                  repeat (first | (refine at_off HOK hHeld rfl rfl (fun _ _ _ h => h) (by rfl) rfl (by simp only [Act.put, List.setIfInBounds_toArray, List.set_cons_zero, List.set_cons_succ, i64_w, i32_w]; rfl) ?_) | (refine at_evoff HOK hHeld rfl rfl (by rfl) rfl (by simp only [Act.put, List.setIfInBounds_toArray, List.set_cons_zero, List.set_cons_succ, i64_w, i32_w]; rfl) ?_) | (refine at_pure (v := ?_) (a' := ?_) HOK hHeld rfl rfl (fun _ _ _ h => h) (by rfl) ?_ rfl ?_ ?_; rotate_left 2; (focus (rintro w' ⟨s0, s1, s2, s3, s4⟩; go_simp; with_reducible rfl)); (focus (simp only [Act.put, List.setIfInBounds_toArray, List.set_cons_zero, List.set_cons_succ, i64_w, i32_w]; rfl))))
                  refine at_done rfl ?_ (by kernel_rfl)
                  go_wp2
                  go_roundg (l0.length - (kk + 1))
                  case measure => omega
                  case rel => exact ⟨kk + 1, by omega, by omega, by go_num, ⟨below_then (below_then (below_then HB.out HB.out.size hBW.out) (Nat.le_trans HB.out.size hBW.out.size) hb1.out) (Nat.le_trans (Nat.le_trans HB.out.size hBW.out.size) hb1.out.size) hb2.out⟩, hok'⟩
                | false =>
                  rw [hde] at hok
                  have hok' : Aside0 (archB l0 = false) := ⟨by rw [HA.out, hst.out, hok.out]; rfl⟩
                  clear hok hst
                  have hd0 : ¬ dd.toList = [] := fun h => by rw [h] at hde; cases hde
                  have hd1 : (dd.toList != []) = true := by simpa using hd0
                  go_wp2_with fail
                  refine at_start (evs := [2, 22]) (S := fun w' => w'.cell? ⟨wr.heap.size, 0, none⟩ = some (.string f) ∧ w'.cell? ⟨wr.heap.size, 1, none⟩ = some (.bool false) ∧ w'.cell? ⟨wr.heap.size, 2, none⟩ = some (.string dd) ∧ w'.cell? ⟨wr.heap.size, 3, none⟩ = some (.int .i64 cx) ∧ w'.cell? ⟨wr.heap.size, 4, none⟩ = some (.int .i64 cy)) (by kernel_rfl) (by kernel_rfl) (by simp) (fun HOK hHeld => ?_)
                  have hBW := Aside0.mk (below_drew hbW.out)
                  generalize (wr.alloc (.cells #[.string f, .bool false, .string dd, .int .i64 cx, .int .i64 cy] 34)).drew = W at hBW hHeld ⊢
                  repeat (first | (refine at_off HOK hHeld rfl rfl (fun _ _ _ h => h) (by rfl) rfl (by simp only [Act.put, List.setIfInBounds_toArray, List.set_cons_zero, List.set_cons_succ, i64_w, i32_w]; rfl) ?_) | (refine at_evoff HOK hHeld rfl rfl (by rfl) rfl (by simp only [Act.put, List.setIfInBounds_toArray, List.set_cons_zero, List.set_cons_succ, i64_w, i32_w]; rfl) ?_) | (refine at_pure (v := ?_) (a' := ?_) HOK hHeld rfl rfl (fun _ _ _ h => h) (by rfl) ?_ rfl ?_ ?_; rotate_left 2; (focus (rintro w' ⟨s0, s1, s2, s3, s4⟩; go_simp; with_reducible rfl)); (focus (simp only [Act.put, List.setIfInBounds_toArray, List.set_cons_zero, List.set_cons_succ, i64_w, i32_w]; rfl))))
                  refine at_call HOK rfl rfl Tryz.func70 (by kernel_rfl) rfl #[.string f] (by rfl) rfl (by (try simp only [List.map_toArray, List.map_cons, List.map_nil]); first | done | rfl) rfl ?_
                  with_reducible refine (hright.out _).mono ?_
                  rintro e w1 ⟨rfl, hb1⟩
                  have hb1 := Aside0.mk hb1
                  refine ⟨_, rfl, ⟨pw_cell_below hb1.out hHeld.1, pw_cell_below hb1.out hHeld.2.1, pw_cell_below hb1.out hHeld.2.2.1, pw_cell_below hb1.out hHeld.2.2.2.1, pw_cell_below hb1.out hHeld.2.2.2.2⟩, fun hHeld => ⟨_, by simp only [Act.put, List.setIfInBounds_toArray, List.set_cons_zero, List.set_cons_succ, i64_w, i32_w]; rfl, ?_⟩⟩
                  repeat (first | (refine at_off HOK hHeld rfl rfl (fun _ _ _ h => h) (by rfl) rfl (by simp only [Act.put, List.setIfInBounds_toArray, List.set_cons_zero, List.set_cons_succ, i64_w, i32_w]; rfl) ?_) | (refine at_evoff HOK hHeld rfl rfl (by rfl) rfl (by simp only [Act.put, List.setIfInBounds_toArray, List.set_cons_zero, List.set_cons_succ, i64_w, i32_w]; rfl) ?_) | (refine at_pure (v := ?_) (a' := ?_) HOK hHeld rfl rfl (fun _ _ _ h => h) (by rfl) ?_ rfl ?_ ?_; rotate_left 2; (focus (rintro w' ⟨s0, s1, s2, s3, s4⟩; go_simp; with_reducible rfl)); (focus (simp only [Act.put, List.setIfInBounds_toArray, List.set_cons_zero, List.set_cons_succ, i64_w, i32_w]; rfl))))
                  refine at_call HOK rfl rfl Tryz.func71 (by kernel_rfl) rfl #[.agg #[.int .i64 cx, .int .i64 cy]] (by rfl) rfl (by (try simp only [List.map_toArray, List.map_cons, List.map_nil]); first | done | rfl) rfl ?_
                  with_reducible refine (hclock.out _).mono ?_
                  rintro e w2 ⟨rfl, hb2⟩
                  have hb2 := Aside0.mk hb2
                  refine ⟨_, rfl, ⟨pw_cell_below hb2.out hHeld.1, pw_cell_below hb2.out hHeld.2.1, pw_cell_below hb2.out hHeld.2.2.1, pw_cell_below hb2.out hHeld.2.2.2.1, pw_cell_below hb2.out hHeld.2.2.2.2⟩, fun hHeld => ⟨_, by simp only [Act.put, List.setIfInBounds_toArray, List.set_cons_zero, List.set_cons_succ, i64_w, i32_w]; rfl, ?_⟩⟩
                  repeat (first | (refine at_off HOK hHeld rfl rfl (fun _ _ _ h => h) (by rfl) rfl (by simp only [Act.put, List.setIfInBounds_toArray, List.set_cons_zero, List.set_cons_succ, i64_w, i32_w]; rfl) ?_) | (refine at_evoff HOK hHeld rfl rfl (by rfl) rfl (by simp only [Act.put, List.setIfInBounds_toArray, List.set_cons_zero, List.set_cons_succ, i64_w, i32_w]; rfl) ?_) | (refine at_pure (v := ?_) (a' := ?_) HOK hHeld rfl rfl (fun _ _ _ h => h) (by rfl) ?_ rfl ?_ ?_; rotate_left 2; (focus (rintro w' ⟨s0, s1, s2, s3, s4⟩; go_simp; with_reducible rfl)); (focus (simp only [Act.put, List.setIfInBounds_toArray, List.set_cons_zero, List.set_cons_succ, i64_w, i32_w]; rfl))))
                  refine at_done rfl ?_ (by kernel_rfl)
                  go_wp2
                  go_ret
                  exact ⟨by rw [hok'.out]; rfl, below_then (below_then (below_then HB.out HB.out.size hBW.out) (Nat.le_trans HB.out.size hBW.out.size) hb1.out) (Nat.le_trans (Nat.le_trans HB.out.size hBW.out.size) hb1.out.size) hb2.out⟩
    · have hk : kk = l0.length := by omega
      subst hk
      have hend : Aside0 (archB l0 = (decide (l0.length ≤ 32) && treeB (filesL l0))) := ⟨by rw [HA.out]; unfold archFrom; rw [dif_neg (by omega)]; rfl⟩
      clear HA
      by_cases h32 : l0.length ≤ 32
      · have hf := Aside0.mk (fun W (hb : Below w.heap.size w W) => scan_files.calls (l0.length + 1) A0 c0 l0 (filesL l0) W (Kd.C_below HR0.out hb) hc0 (scan_files_eq l0 hm'))
        have hend' : Aside0 (archB l0 = treeB (filesL l0)) := ⟨by rw [hend.out, decide_eq_true h32]; rfl⟩
        have ht := Aside0.mk (show tree_Right.f (filesL l0) = some (treeB (filesL l0)) from by unfold tree_Right.f; rw [if_pos ⟨shortF_files HSE.out, by have := filesL_length l0; omega⟩])
        generalize treeB (filesL l0) = tb at *
        generalize filesL l0 = fl0 at *
        go_wp2_with fail
        refine (hf.out _ HB.out).mono ?_
        rintro e w1 ⟨v0, rfl, hR, hb1⟩
        obtain ⟨A1, c1, rfl, hl1, hC1⟩ := Kd.R_reads hR
        have hC1 := Aside0.mk hC1
        have hb1 := Aside0.mk hb1
        clear hR
        go_wp2_with fail
        refine (tree_Right.calls A1 c1 fl0 tb _ hC1.out hl1 ht.out).mono ?_
        rintro e w2 ⟨rfl, hb2⟩
        go_wp2_with fail
        go_ret
        exact ⟨by rw [hend'.out]; rfl, below_then (below_then HB.out HB.out.size hb1.out) (Nat.le_trans HB.out.size hb1.out.size) hb2⟩
      · have hend' : Aside0 (archB l0 = false) := ⟨by rw [hend.out, decide_eq_false h32]; rfl⟩
        go_wp2_with fail
        go_ret
        exact ⟨by rw [hend'.out]; rfl, HB.out⟩
end Go.Proofs.YtlkmegeecmkkbaaGreatDoor.P

/-
  carpetbaglaw10.small: it returns true. (Texts of this session.)
-/
import Derived.Test.YtlkmegeecmkkbaaGreatDoorZ19
import Derived.Test.YtlkmegeecmkkbaaGreatDoorZ20
import Derived.Test.YtlkmegeecmkkbaaGreatDoorZ22
import Derived.Test.YtlkmegeecmkkbaaGreatDoorZ18
import Derived.Test.YtlkmegeecmkkbaaGreatDoorZ23
namespace Go.Proofs.YtlkmegeecmkkbaaGreatDoor.P
open Go.RowKit Go.Maps Go.Proofs.YtlkmegeecmkkbaaGreatDoorW.PrintWords Go.Proofs.YtlkmegeecmkkbaaGreatDoorW.PrintLast Go.Proofs.YtlkmegeecmkkbaaGreatDoorW.PrintMore
attribute [local go_sem high] eqA34 eqA52
set_option linter.unusedVariables false
set_option linter.unusedSimpArgs false
def carpetbaglaw10_small.f : Option Bool := some true
theorem reps_ents {w : World} {base : Nat} {ok : Nat → Prop} : ∀ l : List S34, Reps (k34.M w base ok) 5 l (l.flatMap entCells)
  | [] => Reps.none _ _
  | x :: l => Reps.c5 (show Kd.M k34 w base ok x (entCells x) from k34_mkM _ _ _ x) (reps_ents l)
theorem C_lit {W : World} {g : Nat} {l : List S34} (h : W.heap[g]? = some (.cells (l.flatMap entCells).toArray 34 (0, 0))) (hn : l.length ≤ 9223372036854775807) : Kd.C k34 W (some ⟨g, 0, none⟩) l.length l := by
  refine ⟨rfl, hn, fun _ => ⟨_, rfl, fun j p hp => ⟨entCells p, rfl, k34_mk _ _, fun i u hu => ?_⟩⟩⟩
  have hr := (reps_ents (w := W) (base := 0) (ok := fun _ => True) l).2 j p hp
  have hc : ((l.flatMap entCells).drop (j * 5)).take 5 = entCells p := k34_openM hr
  rw [← hc] at hu
  rw [List.getElem?_take] at hu
  split at hu
  · rw [List.getElem?_drop] at hu
    rw [add_plain, show k34.sz = 5 from rfl, blk_cell h, List.getElem?_toArray]
    exact hu
  · cases hu
set_option maxHeartbeats 8000000 in
set_option maxRecDepth 100000 in
theorem carpetbaglaw10_small.calls (r : Bool) (w : World) (h : carpetbaglaw10_small.f = some r) :
    Calls Tryz.prog 12 #[] w fun e w' => e = .returned (.bool r) ∧ Below w.heap.size w w' := by
  obtain rfl := Option.some.inj h
  clear h
  have hu9 := Tryz.underlying9
  have hu34 := Tryz.underlying34
  have hu32 := Tryz.underlying32
  have hu52 := Tryz.underlying52
  go_enter Tryz.func12, Tryz.ntmps12
  go_wp2_with fail
  show Calls Tryz.prog 14 #[.slice (some ⟨w.heap.size, 0, none⟩) smA.length 2, .slice (some ⟨w.heap.size + 1, 0, none⟩) smB.length 3] ((w.alloc (.cells (smA.flatMap entCells).toArray 34)).alloc (.cells (smB.flatMap entCells).toArray 34)) _
  have hx1 := blk_alloc (blk_new w (.cells (smA.flatMap entCells).toArray 34)) (.cells (smB.flatMap entCells).toArray 34)
  have hx2 := blk_new (w.alloc (.cells (smA.flatMap entCells).toArray 34)) (.cells (smB.flatMap entCells).toArray 34)
  have hb0 := below_alloc (below_alloc (Below.refl w.heap.size w) (.cells (smA.flatMap entCells).toArray 34)) (.cells (smB.flatMap entCells).toArray 34)
  rw [World.size_alloc] at hx2
  generalize (w.alloc (.cells (smA.flatMap entCells).toArray 34)).alloc (.cells (smB.flatMap entCells).toArray 34) = w2 at *
  have hW2 := Aside0.mk hb0
  have hC1 := Aside0.mk (C_lit hx1 (by decide))
  have hC2 := Aside0.mk (C_lit hx2 (by decide))
  have hl1 : smA.length ≤ 2 := by decide
  have hl2 : smB.length ≤ 3 := by decide
  clear hx1 hx2 hb0
  generalize w.heap.size + 1 = g2 at *
  obtain ⟨g1, hg1⟩ : ∃ g1, g1 = w.heap.size := ⟨_, rfl⟩
  rw [← hg1] at hC1 ⊢
  clear hg1
  refine (recon_Merge.calls (some ⟨g1, 0, none⟩) 2 smA (some ⟨g2, 0, none⟩) 3 smB smL [ba 102] 0 _ hC1.out hl1 hC2.out hl2 small_merge).mono ?_
  rintro e w3 ⟨v3, v4, rfl, ho3, ho4, hb3⟩
  obtain ⟨g3, c3, rfl, _, _, _⟩ := Kd.R_form ho3 (by decide)
  obtain ⟨g4, c4, rfl, _, _, _⟩ := Kd.R_form ho4 (by decide)
  obtain ⟨_, hl3, hC3⟩ := Kd.R_reads' ho3
  obtain ⟨_, hl4, hC4⟩ := Kd.R_reads' ho4
  have hC1 := Aside0.mk (Kd.C_below hC1.out hb3)
  have hC2 := Aside0.mk (Kd.C_below hC2.out hb3)
  have hC3 := Aside0.mk hC3
  have hC4 := Aside0.mk hC4
  have hW3 := Aside0.mk (below_step hW2.out hb3)
  clear ho3 ho4 hb3 hW2
  go_wp2_with fail
  refine (scan_Tree.calls 20 (some ⟨g1, 0, none⟩) 2 smA smT _ hC1.out hl1 small_tree).mono ?_
  rintro e w4 ⟨v5, rfl, ho5, hb4⟩
  obtain ⟨g5, c5, rfl, _, _, _⟩ := Kd.R_form ho5 (by decide)
  obtain ⟨_, hl5, hC5⟩ := Kd.R_reads' ho5
  have hC1 := Aside0.mk (Kd.C_below hC1.out hb4)
  have hC2 := Aside0.mk (Kd.C_below hC2.out hb4)
  have hC3 := Aside0.mk (Kd.C_below hC3.out hb4)
  have hC4 := Aside0.mk (Kd.C_below hC4.out hb4)
  have hC5 := Aside0.mk hC5
  have hW4 := Aside0.mk (below_step hW3.out hb4)
  clear ho5 hb4 hW3
  go_wp2_with fail
  refine (recon_Plan.calls 20 (some ⟨g5, 0, none⟩) c5 smT (some ⟨g3, 0, none⟩) c3 smL smP 0 _ hC5.out hl5 hC3.out hl3 small_plan).mono ?_
  rintro e w5 ⟨v6, rfl, ho6, hb5⟩
  obtain ⟨g6, c6, rfl, _, _, _⟩ := Kd.R_form ho6 (by decide)
  obtain ⟨_, hl6, hC6⟩ := Kd.R_reads' ho6
  have hC1 := Aside0.mk (Kd.C_below hC1.out hb5)
  have hC2 := Aside0.mk (Kd.C_below hC2.out hb5)
  have hC3 := Aside0.mk (Kd.C_below hC3.out hb5)
  have hC4 := Aside0.mk (Kd.C_below hC4.out hb5)
  have hC6 := Aside0.mk hC6
  have hW5 := Aside0.mk (below_step hW4.out hb5)
  clear ho6 hb5 hW4 hC5
  go_wp2_with fail
  refine (recon_Settle.calls (some ⟨g3, 0, none⟩) c3 smL (some ⟨g2, 0, none⟩) 3 smB (ba 102) true 0 smS 0 _ hC3.out hl3 hC2.out hl2 small_settle).mono ?_
  rintro e w6 ⟨v7, rfl, ho7, hb6⟩
  obtain ⟨g7, c7, rfl, _, _, _⟩ := Kd.R_form ho7 (by decide)
  obtain ⟨_, hl7, hC7⟩ := Kd.R_reads' ho7
  have hC1 := Aside0.mk (Kd.C_below hC1.out hb6)
  have hC2 := Aside0.mk (Kd.C_below hC2.out hb6)
  have hC3 := Aside0.mk (Kd.C_below hC3.out hb6)
  have hC4 := Aside0.mk (Kd.C_below hC4.out hb6)
  have hC6 := Aside0.mk (Kd.C_below hC6.out hb6)
  have hC7 := Aside0.mk hC7
  have hW6 := Aside0.mk (below_step hW5.out hb6)
  clear ho7 hb6 hW5
  go_wp2_with fail
  refine (recon_Settle.calls (some ⟨g3, 0, none⟩) c3 smL (some ⟨g2, 0, none⟩) 3 smB (ba 103) true 0 [] 3 _ hC3.out hl3 hC2.out hl2 small_none).mono ?_
  rintro e w7 ⟨v8, rfl, _, hb7⟩
  have hC1 := Aside0.mk (Kd.C_below hC1.out hb7)
  have hC2 := Aside0.mk (Kd.C_below hC2.out hb7)
  have hC3 := Aside0.mk (Kd.C_below hC3.out hb7)
  have hC4 := Aside0.mk (Kd.C_below hC4.out hb7)
  have hC6 := Aside0.mk (Kd.C_below hC6.out hb7)
  have hC7 := Aside0.mk (Kd.C_below hC7.out hb7)
  have hW7 := Aside0.mk (below_step hW6.out hb7)
  clear hb7 hW6
  obtain ⟨ad_, e_, q0_, q1_, q2_, q3_, q4_⟩ := at_T34 hC3.out (0 : Int) (by decide) (by decide)
  cases e_
  have Kg3_0 := Aside0.mk (show w7.cell? ⟨g3, 0, none⟩ = some (.string ⟨#[102]⟩) from q0_)
  have Kg3_1 := Aside0.mk (show w7.cell? ⟨g3, 1, none⟩ = some (.bool true) from q1_)
  have Kg3_2 := Aside0.mk (show w7.cell? ⟨g3, 2, none⟩ = some (.string ⟨#[49]⟩) from q2_)
  have Kg3_3 := Aside0.mk (show w7.cell? ⟨g3, 3, none⟩ = some (.int .i64 2) from q3_)
  have Kg3_4 := Aside0.mk (show w7.cell? ⟨g3, 4, none⟩ = some (.int .i64 0) from q4_)
  clear q0_ q1_ q2_ q3_ q4_
  obtain ⟨ad_, e_, q0_, q1_, q2_, q3_, q4_⟩ := at_T34 hC3.out (1 : Int) (by decide) (by decide)
  cases e_
  have Kg3_5 := Aside0.mk (show w7.cell? ⟨g3, 5, none⟩ = some (.string ⟨#[103]⟩) from q0_)
  have Kg3_6 := Aside0.mk (show w7.cell? ⟨g3, 6, none⟩ = some (.bool false) from q1_)
  have Kg3_7 := Aside0.mk (show w7.cell? ⟨g3, 7, none⟩ = some (.string ⟨#[]⟩) from q2_)
  have Kg3_8 := Aside0.mk (show w7.cell? ⟨g3, 8, none⟩ = some (.int .i64 1) from q3_)
  have Kg3_9 := Aside0.mk (show w7.cell? ⟨g3, 9, none⟩ = some (.int .i64 1) from q4_)
  clear q0_ q1_ q2_ q3_ q4_
  obtain ⟨ad_, e_, q0_, q1_, q2_, q3_, q4_⟩ := at_T34 hC1.out (0 : Int) (by decide) (by decide)
  cases e_
  have Kg1_0 := Aside0.mk (show w7.cell? ⟨g1, 0, none⟩ = some (.string ⟨#[102]⟩) from q0_)
  have Kg1_1 := Aside0.mk (show w7.cell? ⟨g1, 1, none⟩ = some (.bool true) from q1_)
  have Kg1_2 := Aside0.mk (show w7.cell? ⟨g1, 2, none⟩ = some (.string ⟨#[49]⟩) from q2_)
  have Kg1_3 := Aside0.mk (show w7.cell? ⟨g1, 3, none⟩ = some (.int .i64 2) from q3_)
  have Kg1_4 := Aside0.mk (show w7.cell? ⟨g1, 4, none⟩ = some (.int .i64 0) from q4_)
  clear q0_ q1_ q2_ q3_ q4_
  obtain ⟨ad_, e_, q0_, q1_, q2_, q3_, q4_⟩ := at_T34 hC2.out (1 : Int) (by decide) (by decide)
  cases e_
  have Kg2_5 := Aside0.mk (show w7.cell? ⟨g2, 5, none⟩ = some (.string ⟨#[103]⟩) from q0_)
  have Kg2_6 := Aside0.mk (show w7.cell? ⟨g2, 6, none⟩ = some (.bool false) from q1_)
  have Kg2_7 := Aside0.mk (show w7.cell? ⟨g2, 7, none⟩ = some (.string ⟨#[]⟩) from q2_)
  have Kg2_8 := Aside0.mk (show w7.cell? ⟨g2, 8, none⟩ = some (.int .i64 1) from q3_)
  have Kg2_9 := Aside0.mk (show w7.cell? ⟨g2, 9, none⟩ = some (.int .i64 1) from q4_)
  clear q0_ q1_ q2_ q3_ q4_
  obtain ⟨ad_, e_, q0_, q1_, q2_, q3_, q4_⟩ := at_T34 hC7.out (0 : Int) (by decide) (by decide)
  cases e_
  have Kg7_0 := Aside0.mk (show w7.cell? ⟨g7, 0, none⟩ = some (.string ⟨#[102]⟩) from q0_)
  have Kg7_1 := Aside0.mk (show w7.cell? ⟨g7, 1, none⟩ = some (.bool true) from q1_)
  have Kg7_2 := Aside0.mk (show w7.cell? ⟨g7, 2, none⟩ = some (.string ⟨#[50]⟩) from q2_)
  have Kg7_3 := Aside0.mk (show w7.cell? ⟨g7, 3, none⟩ = some (.int .i64 3) from q3_)
  have Kg7_4 := Aside0.mk (show w7.cell? ⟨g7, 4, none⟩ = some (.int .i64 1) from q4_)
  clear q0_ q1_ q2_ q3_ q4_
  obtain ⟨ad_, e_, q0_, q1_, q2_⟩ := at_T52 hC6.out (0 : Int) (by decide) (by decide)
  cases e_
  have Kg6_0 := Aside0.mk (show w7.cell? ⟨g6, 0, none⟩ = some (.string ⟨#[103]⟩) from q0_)
  have Kg6_1 := Aside0.mk (show w7.cell? ⟨g6, 1, none⟩ = some (.bool false) from q1_)
  have Kg6_2 := Aside0.mk (show w7.cell? ⟨g6, 2, none⟩ = some (.string ⟨#[]⟩) from q2_)
  clear q0_ q1_ q2_
  obtain ⟨ad_, e_, q0_, q1_, q2_⟩ := at_T52 hC6.out (1 : Int) (by decide) (by decide)
  cases e_
  have Kg6_3 := Aside0.mk (show w7.cell? ⟨g6, 3, none⟩ = some (.string ⟨#[104]⟩) from q0_)
  have Kg6_4 := Aside0.mk (show w7.cell? ⟨g6, 4, none⟩ = some (.bool true) from q1_)
  have Kg6_5 := Aside0.mk (show w7.cell? ⟨g6, 5, none⟩ = some (.string ⟨#[]⟩) from q2_)
  clear q0_ q1_ q2_
  obtain ⟨ad_, e_, q0_⟩ := Kd.at_string hC4.out (0 : Int) (by decide) (by decide)
  cases e_
  have Kg4_0 := Aside0.mk (show w7.cell? ⟨g4, 0, none⟩ = some (.string ⟨#[102]⟩) from q0_)
  clear q0_
  have HGg : Aside0 (∀ W, Below w7.heap.size w7 W → Calls Tryz.prog 18 #[.slice (some ⟨g3, 0, none⟩) 3 c3, .slice (some ⟨g2, 0, none⟩) 3 3, .string ⟨#[103]⟩] W fun e w' => e = .returned (.bool true) ∧ Below W.heap.size W w') := ⟨fun W hb => recon_Agree.calls 20 (some ⟨g3, 0, none⟩) c3 smL (some ⟨g2, 0, none⟩) 3 smB (ba 103) true W (Kd.C_below hC3.out hb) hl3 (Kd.C_below hC2.out hb) hl2 small_agree_g⟩
  have HGf : Aside0 (∀ W, Below w7.heap.size w7 W → Calls Tryz.prog 18 #[.slice (some ⟨g3, 0, none⟩) 3 c3, .slice (some ⟨g2, 0, none⟩) 3 3, .string ⟨#[102]⟩] W fun e w' => e = .returned (.bool false) ∧ Below W.heap.size W w') := ⟨fun W hb => recon_Agree.calls 20 (some ⟨g3, 0, none⟩) c3 smL (some ⟨g2, 0, none⟩) 3 smB (ba 102) false W (Kd.C_below hC3.out hb) hl3 (Kd.C_below hC2.out hb) hl2 small_agree_f⟩
  have HGx : Aside0 (∀ W, Below w7.heap.size w7 W → Calls Tryz.prog 18 #[.slice (some ⟨g3, 0, none⟩) 3 c3, .slice (some ⟨g2, 0, none⟩) 3 3, .string ⟨#[120]⟩] W fun e w' => e = .returned (.bool true) ∧ Below W.heap.size W w') := ⟨fun W hb => recon_Agree.calls 20 (some ⟨g3, 0, none⟩) c3 smL (some ⟨g2, 0, none⟩) 3 smB (ba 120) true W (Kd.C_below hC3.out hb) hl3 (Kd.C_below hC2.out hb) hl2 small_agree_x⟩
  have n3 : (smL.length : Int) = 3 := rfl
  have n6 : (smP.length : Int) = 2 := rfl
  have n7 : (smS.length : Int) = 3 := rfl
  have n3' : smL.length = 3 := rfl
  have n2' : smB.length = 3 := rfl
  have n6' : smP.length = 2 := rfl
  have n7' : smS.length = 3 := rfl
  clear hC1 hC2 hC3 hC4 hC6 hC7 hl1 hl2 hl3 hl4 hl5 hl6 hl7
  go_wp2_with fail
  clear n3 n6 n7 n3' n2' n6' n7'
  refine at_start (evs := [63, 68, 74]) (S := fun w' => Below w7.heap.size w7 w') (by kernel_rfl) small9ok (below_drew (Below.refl _ _)) (fun HOK hHeld => ?_)
  repeat (first | (refine at_off HOK hHeld rfl rfl (fun _ _ _ h => h) (by rfl) rfl (by simp only [Act.put, List.setIfInBounds_toArray, List.set_cons_zero, List.set_cons_succ, i64_w, i32_w]; rfl) ?_) | (refine at_evoff HOK hHeld rfl rfl (by rfl) rfl (by simp only [Act.put, List.setIfInBounds_toArray, List.set_cons_zero, List.set_cons_succ, i64_w, i32_w]; rfl) ?_) | (refine at_pure (v := ?_) (a' := ?_) HOK hHeld rfl rfl (fun _ _ _ h => h) (by rfl) ?_ rfl ?_ ?_; rotate_left 2; (focus (first | (rintro w' hS; go_simp; with_reducible rfl) | (rintro w' hS; have z0_ := pw_cell_below hS Kg3_0.out; have z1_ := pw_cell_below hS Kg3_1.out; have z2_ := pw_cell_below hS Kg3_2.out; have z3_ := pw_cell_below hS Kg3_3.out; have z4_ := pw_cell_below hS Kg3_4.out; have z5_ := pw_cell_below hS Kg3_5.out; have z6_ := pw_cell_below hS Kg3_6.out; have z7_ := pw_cell_below hS Kg3_7.out; have z8_ := pw_cell_below hS Kg3_8.out; have z9_ := pw_cell_below hS Kg3_9.out; have z10_ := pw_cell_below hS Kg1_0.out; have z11_ := pw_cell_below hS Kg1_1.out; have z12_ := pw_cell_below hS Kg1_2.out; have z13_ := pw_cell_below hS Kg1_3.out; have z14_ := pw_cell_below hS Kg1_4.out; have z15_ := pw_cell_below hS Kg2_5.out; have z16_ := pw_cell_below hS Kg2_6.out; have z17_ := pw_cell_below hS Kg2_7.out; have z18_ := pw_cell_below hS Kg2_8.out; have z19_ := pw_cell_below hS Kg2_9.out; have z20_ := pw_cell_below hS Kg7_0.out; have z21_ := pw_cell_below hS Kg7_1.out; have z22_ := pw_cell_below hS Kg7_2.out; have z23_ := pw_cell_below hS Kg7_3.out; have z24_ := pw_cell_below hS Kg7_4.out; have z25_ := pw_cell_below hS Kg6_0.out; have z26_ := pw_cell_below hS Kg6_1.out; have z27_ := pw_cell_below hS Kg6_2.out; have z28_ := pw_cell_below hS Kg6_3.out; have z29_ := pw_cell_below hS Kg6_4.out; have z30_ := pw_cell_below hS Kg6_5.out; have z31_ := pw_cell_below hS Kg4_0.out; go_simp; with_reducible rfl))); (focus (simp only [Act.put, List.setIfInBounds_toArray, List.set_cons_zero, List.set_cons_succ, i64_w, i32_w]; rfl))))
  refine at_call HOK rfl rfl Tryz.func18 (by kernel_rfl) rfl #[.slice (some ⟨g3, 0, none⟩) 3 c3, .slice (some ⟨g2, 0, none⟩) 3 3, .string ⟨#[103]⟩] (by rfl) rfl (by (try simp only [List.map_toArray, List.map_cons, List.map_nil]); first | done | rfl) rfl ?_
  with_reducible refine (HGg.out _ hHeld).mono ?_
  rintro e w1 ⟨rfl, hb1⟩
  have hb1 := Aside0.mk hb1
  refine ⟨_, rfl, below_step hHeld hb1.out, fun hHeld => ⟨_, by simp only [Act.put, List.setIfInBounds_toArray, List.set_cons_zero, List.set_cons_succ, i64_w, i32_w]; rfl, ?_⟩⟩
  repeat (first | (refine at_off HOK hHeld rfl rfl (fun _ _ _ h => h) (by rfl) rfl (by simp only [Act.put, List.setIfInBounds_toArray, List.set_cons_zero, List.set_cons_succ, i64_w, i32_w]; rfl) ?_) | (refine at_evoff HOK hHeld rfl rfl (by rfl) rfl (by simp only [Act.put, List.setIfInBounds_toArray, List.set_cons_zero, List.set_cons_succ, i64_w, i32_w]; rfl) ?_) | (refine at_pure (v := ?_) (a' := ?_) HOK hHeld rfl rfl (fun _ _ _ h => h) (by rfl) ?_ rfl ?_ ?_; rotate_left 2; (focus (first | (rintro w' hS; go_simp; with_reducible rfl) | (rintro w' hS; have z0_ := pw_cell_below hS Kg3_0.out; have z1_ := pw_cell_below hS Kg3_1.out; have z2_ := pw_cell_below hS Kg3_2.out; have z3_ := pw_cell_below hS Kg3_3.out; have z4_ := pw_cell_below hS Kg3_4.out; have z5_ := pw_cell_below hS Kg3_5.out; have z6_ := pw_cell_below hS Kg3_6.out; have z7_ := pw_cell_below hS Kg3_7.out; have z8_ := pw_cell_below hS Kg3_8.out; have z9_ := pw_cell_below hS Kg3_9.out; have z10_ := pw_cell_below hS Kg1_0.out; have z11_ := pw_cell_below hS Kg1_1.out; have z12_ := pw_cell_below hS Kg1_2.out; have z13_ := pw_cell_below hS Kg1_3.out; have z14_ := pw_cell_below hS Kg1_4.out; have z15_ := pw_cell_below hS Kg2_5.out; have z16_ := pw_cell_below hS Kg2_6.out; have z17_ := pw_cell_below hS Kg2_7.out; have z18_ := pw_cell_below hS Kg2_8.out; have z19_ := pw_cell_below hS Kg2_9.out; have z20_ := pw_cell_below hS Kg7_0.out; have z21_ := pw_cell_below hS Kg7_1.out; have z22_ := pw_cell_below hS Kg7_2.out; have z23_ := pw_cell_below hS Kg7_3.out; have z24_ := pw_cell_below hS Kg7_4.out; have z25_ := pw_cell_below hS Kg6_0.out; have z26_ := pw_cell_below hS Kg6_1.out; have z27_ := pw_cell_below hS Kg6_2.out; have z28_ := pw_cell_below hS Kg6_3.out; have z29_ := pw_cell_below hS Kg6_4.out; have z30_ := pw_cell_below hS Kg6_5.out; have z31_ := pw_cell_below hS Kg4_0.out; go_simp; with_reducible rfl))); (focus (simp only [Act.put, List.setIfInBounds_toArray, List.set_cons_zero, List.set_cons_succ, i64_w, i32_w]; rfl))))
  refine at_call HOK rfl rfl Tryz.func18 (by kernel_rfl) rfl #[.slice (some ⟨g3, 0, none⟩) 3 c3, .slice (some ⟨g2, 0, none⟩) 3 3, .string ⟨#[102]⟩] (by rfl) rfl (by (try simp only [List.map_toArray, List.map_cons, List.map_nil]); first | done | rfl) rfl ?_
  with_reducible refine (HGf.out _ hHeld).mono ?_
  rintro e w2 ⟨rfl, hb2⟩
  have hb2 := Aside0.mk hb2
  refine ⟨_, rfl, below_step hHeld hb2.out, fun hHeld => ⟨_, by simp only [Act.put, List.setIfInBounds_toArray, List.set_cons_zero, List.set_cons_succ, i64_w, i32_w]; rfl, ?_⟩⟩
  repeat (first | (refine at_off HOK hHeld rfl rfl (fun _ _ _ h => h) (by rfl) rfl (by simp only [Act.put, List.setIfInBounds_toArray, List.set_cons_zero, List.set_cons_succ, i64_w, i32_w]; rfl) ?_) | (refine at_evoff HOK hHeld rfl rfl (by rfl) rfl (by simp only [Act.put, List.setIfInBounds_toArray, List.set_cons_zero, List.set_cons_succ, i64_w, i32_w]; rfl) ?_) | (refine at_pure (v := ?_) (a' := ?_) HOK hHeld rfl rfl (fun _ _ _ h => h) (by rfl) ?_ rfl ?_ ?_; rotate_left 2; (focus (first | (rintro w' hS; go_simp; with_reducible rfl) | (rintro w' hS; have z0_ := pw_cell_below hS Kg3_0.out; have z1_ := pw_cell_below hS Kg3_1.out; have z2_ := pw_cell_below hS Kg3_2.out; have z3_ := pw_cell_below hS Kg3_3.out; have z4_ := pw_cell_below hS Kg3_4.out; have z5_ := pw_cell_below hS Kg3_5.out; have z6_ := pw_cell_below hS Kg3_6.out; have z7_ := pw_cell_below hS Kg3_7.out; have z8_ := pw_cell_below hS Kg3_8.out; have z9_ := pw_cell_below hS Kg3_9.out; have z10_ := pw_cell_below hS Kg1_0.out; have z11_ := pw_cell_below hS Kg1_1.out; have z12_ := pw_cell_below hS Kg1_2.out; have z13_ := pw_cell_below hS Kg1_3.out; have z14_ := pw_cell_below hS Kg1_4.out; have z15_ := pw_cell_below hS Kg2_5.out; have z16_ := pw_cell_below hS Kg2_6.out; have z17_ := pw_cell_below hS Kg2_7.out; have z18_ := pw_cell_below hS Kg2_8.out; have z19_ := pw_cell_below hS Kg2_9.out; have z20_ := pw_cell_below hS Kg7_0.out; have z21_ := pw_cell_below hS Kg7_1.out; have z22_ := pw_cell_below hS Kg7_2.out; have z23_ := pw_cell_below hS Kg7_3.out; have z24_ := pw_cell_below hS Kg7_4.out; have z25_ := pw_cell_below hS Kg6_0.out; have z26_ := pw_cell_below hS Kg6_1.out; have z27_ := pw_cell_below hS Kg6_2.out; have z28_ := pw_cell_below hS Kg6_3.out; have z29_ := pw_cell_below hS Kg6_4.out; have z30_ := pw_cell_below hS Kg6_5.out; have z31_ := pw_cell_below hS Kg4_0.out; go_simp; with_reducible rfl))); (focus (simp only [Act.put, List.setIfInBounds_toArray, List.set_cons_zero, List.set_cons_succ, i64_w, i32_w]; rfl))))
  refine at_call HOK rfl rfl Tryz.func18 (by kernel_rfl) rfl #[.slice (some ⟨g3, 0, none⟩) 3 c3, .slice (some ⟨g2, 0, none⟩) 3 3, .string ⟨#[120]⟩] (by rfl) rfl (by (try simp only [List.map_toArray, List.map_cons, List.map_nil]); first | done | rfl) rfl ?_
  with_reducible refine (HGx.out _ hHeld).mono ?_
  rintro e w3 ⟨rfl, hb3⟩
  have hb3 := Aside0.mk hb3
  refine ⟨_, rfl, below_step hHeld hb3.out, fun hHeld => ⟨_, by simp only [Act.put, List.setIfInBounds_toArray, List.set_cons_zero, List.set_cons_succ, i64_w, i32_w]; rfl, ?_⟩⟩
  repeat (first | (refine at_off HOK hHeld rfl rfl (fun _ _ _ h => h) (by rfl) rfl (by simp only [Act.put, List.setIfInBounds_toArray, List.set_cons_zero, List.set_cons_succ, i64_w, i32_w]; rfl) ?_) | (refine at_evoff HOK hHeld rfl rfl (by rfl) rfl (by simp only [Act.put, List.setIfInBounds_toArray, List.set_cons_zero, List.set_cons_succ, i64_w, i32_w]; rfl) ?_) | (refine at_pure (v := ?_) (a' := ?_) HOK hHeld rfl rfl (fun _ _ _ h => h) (by rfl) ?_ rfl ?_ ?_; rotate_left 2; (focus (first | (rintro w' hS; go_simp; with_reducible rfl) | (rintro w' hS; have z0_ := pw_cell_below hS Kg3_0.out; have z1_ := pw_cell_below hS Kg3_1.out; have z2_ := pw_cell_below hS Kg3_2.out; have z3_ := pw_cell_below hS Kg3_3.out; have z4_ := pw_cell_below hS Kg3_4.out; have z5_ := pw_cell_below hS Kg3_5.out; have z6_ := pw_cell_below hS Kg3_6.out; have z7_ := pw_cell_below hS Kg3_7.out; have z8_ := pw_cell_below hS Kg3_8.out; have z9_ := pw_cell_below hS Kg3_9.out; have z10_ := pw_cell_below hS Kg1_0.out; have z11_ := pw_cell_below hS Kg1_1.out; have z12_ := pw_cell_below hS Kg1_2.out; have z13_ := pw_cell_below hS Kg1_3.out; have z14_ := pw_cell_below hS Kg1_4.out; have z15_ := pw_cell_below hS Kg2_5.out; have z16_ := pw_cell_below hS Kg2_6.out; have z17_ := pw_cell_below hS Kg2_7.out; have z18_ := pw_cell_below hS Kg2_8.out; have z19_ := pw_cell_below hS Kg2_9.out; have z20_ := pw_cell_below hS Kg7_0.out; have z21_ := pw_cell_below hS Kg7_1.out; have z22_ := pw_cell_below hS Kg7_2.out; have z23_ := pw_cell_below hS Kg7_3.out; have z24_ := pw_cell_below hS Kg7_4.out; have z25_ := pw_cell_below hS Kg6_0.out; have z26_ := pw_cell_below hS Kg6_1.out; have z27_ := pw_cell_below hS Kg6_2.out; have z28_ := pw_cell_below hS Kg6_3.out; have z29_ := pw_cell_below hS Kg6_4.out; have z30_ := pw_cell_below hS Kg6_5.out; have z31_ := pw_cell_below hS Kg4_0.out; go_simp; with_reducible rfl))); (focus (simp only [Act.put, List.setIfInBounds_toArray, List.set_cons_zero, List.set_cons_succ, i64_w, i32_w]; rfl))))
  refine at_done rfl ?_ small9done
  go_wp2
  go_ret
  exact ⟨rfl, below_step hW7.out hHeld⟩
end Go.Proofs.YtlkmegeecmkkbaaGreatDoor.P

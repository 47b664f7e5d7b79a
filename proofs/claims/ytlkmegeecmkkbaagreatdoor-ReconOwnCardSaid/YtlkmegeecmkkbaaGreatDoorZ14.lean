/-
  Parts of the proof, one behind the other: GMergeP, Iter, GSort, Preconjoined, Preconvalue. Each is a contract of a function of the program, or a plain law; no condition of its own beyond what each theorem says.
-/
import Derived.Shelf.SlIter.Nil
import Derived.Shelf.SortM.Plain
import Derived.Shelf.SortM.SortNone
import Derived.Ground.GgzProg
import Derived.Ground.SlgmProg
import Derived.Test.YtlkmegeecmkkbaaGreatDoorProg
import Derived.Sort.OwnSorted
import Derived.Test.YtlkmegeecmkkbaaGreatDoorZ9
import Derived.Test.YtlkmegeecmkkbaaGreatDoorZ11
import Derived.Test.YtlkmegeecmkkbaaGreatDoorZ13
import Derived.Test.YtlkmegeecmkkbaaGreatDoorZ2
section
namespace Go.Proofs.YtlkmegeecmkkbaaGreatDoor.P
open Go.RowKit Go.Maps
set_option linter.unusedVariables false
set_option linter.unusedSimpArgs false
def pathL (e : S34) : List UInt8 := e.f0.data.toList
def lookE (l : List S34) (x : List UInt8) : Option S34 := l.find? (fun e => pathL e == x)
def nodupE (l : List S34) : Prop := (l.map pathL).Nodup
theorem keyLit (x : List UInt8) : WideAt.IsKeyLit (.string x) := trivial
theorem isMap_mapOf (l : List S34) : IsMap (mapOf l) := by
  suffices ∀ (l : List S34) (D : DataW S34), IsMap D → IsMap (l.foldl (fun m e => m.put (keyE e.f0) (.held e)) D) from this l _ isMap_empty
  intro l
  induction l with
  | nil => intro D h; exact h
  | cons e l ih => intro D h; exact ih _ (h.put _ _)
theorem lookE_snoc (l : List S34) (e : S34) (x : List UInt8) : lookE (l ++ [e]) x = (lookE l x).or (if pathL e = x then some e else none) := by
  unfold lookE
  rw [List.find?_append]
  congr 1
  by_cases h : pathL e = x
  · rw [if_pos h, List.find?_cons_of_pos (by simpa using h)]
  · rw [if_neg h, List.find?_cons_of_neg (by simpa using h)]; rfl
theorem lookE_mem {l : List S34} {x : List UInt8} {e : S34} (h : lookE l x = some e) : e ∈ l ∧ pathL e = x :=
  ⟨List.mem_of_find?_eq_some h, by simpa using List.find?_some h⟩
theorem lookE_none {l : List S34} {x : List UInt8} : lookE l x = none ↔ x ∉ l.map pathL := by
  unfold lookE
  rw [List.find?_eq_none]
  constructor
  · intro h hx
    obtain ⟨e, he, rfl⟩ := List.mem_map.1 hx
    exact h e he (by simp)
  · intro h e he hx
    exact h (List.mem_map.2 ⟨e, he, by simpa using hx⟩)
theorem lookE_of_mem {l : List S34} (hn : nodupE l) {e : S34} (he : e ∈ l) : lookE l (pathL e) = some e := by
  induction l with
  | nil => cases he
  | cons y l ih =>
    unfold nodupE at hn
    rw [List.map_cons, List.nodup_cons] at hn
    unfold lookE
    by_cases h : pathL y = pathL e
    · rw [List.find?_cons_of_pos (by simpa using h)]
      rcases List.mem_cons.1 he with rfl | he'
      · rfl
      · exact absurd (List.mem_map.2 ⟨e, he', h.symm⟩) hn.1
    · rw [List.find?_cons_of_neg (by simpa using h)]
      rcases List.mem_cons.1 he with rfl | he'
      · exact absurd rfl h
      · exact ih hn.2 he'
theorem rev_ind {α : Type} {P : List α → Prop} (h0 : P []) (h1 : ∀ l x, P l → P (l ++ [x])) (l : List α) : P l := by
  rw [← List.reverse_reverse l]
  generalize l.reverse = m
  induction m with
  | nil => exact h0
  | cons x m ih => rw [List.reverse_cons]; exact h1 _ _ ih
theorem lit_ne {x y : List UInt8} (h : x ≠ y) : (Lit.string x) ≠ (Lit.string y) := fun e => h (by injection e)
theorem has_mapOf (x : List UInt8) : ∀ l : List S34, has (mapOf l) (.string x) = (lookE l x).isSome := by
  refine rev_ind rfl ?_
  intro l e ih
  rw [mapOf_snoc, lookE_snoc]
  by_cases h : pathL e = x
  · subst h
    rw [if_pos rfl, show keyE e.f0 = .string (pathL e) from rfl, has_put_same (isMap_mapOf l) (keyLit _)]
    cases lookE l (pathL e) <;> rfl
  · rw [if_neg h, show keyE e.f0 = .string (pathL e) from rfl, has_put_other (lit_ne (fun e => h e.symm)), ih]
    cases lookE l x <;> rfl
def heldOr (o : Option S34) (z : DataW S34) : DataW S34 := match o with | some e => .held e | none => z
theorem at_mapOf (x : List UInt8) (z : DataW S34) : ∀ l : List S34, nodupE l → (mapOf l).atKey (.string x) z = heldOr (lookE l x) z := by
  refine rev_ind (fun _ => rfl) ?_
  intro l e ih hn
  unfold nodupE at hn
  rw [List.map_append, List.nodup_append] at hn
  rw [mapOf_snoc, lookE_snoc]
  by_cases h : pathL e = x
  · subst h
    have hno : lookE l (pathL e) = none := lookE_none.2 (fun hx => hn.2.2 _ hx _ (by simp) rfl)
    rw [if_pos rfl, show keyE e.f0 = .string (pathL e) from rfl, atKey_put_same (isMap_mapOf l) (keyLit _), hno]
    rfl
  · rw [if_neg h, show keyE e.f0 = .string (pathL e) from rfl, atKey_put_other (lit_ne (fun e => h e.symm)), ih hn.1]
    cases lookE l x <;> rfl
def joinE (a b : S34) : S34 := ⟨a.f0, a.f1, a.f2, ⟨max a.f3.f0 b.f3.f0, max a.f3.f1 b.f3.f1⟩⟩
def valE (a b : S34) : Bool := (a.f1 == b.f1) && (a.f2.toList == b.f2.toList)
def ordE (a b : S34) : Int := orderI (a.f3.f0, a.f3.f1) (b.f3.f0, b.f3.f1)
def comeE (a b : S34) : S34 × Bool := if ordE a b = 1 then (b, false) else if ordE a b = 2 then (a, false) else if valE a b = true then (joinE a b, false) else (a, true)
def mergedE (a b : List S34) (x : List UInt8) : Option S34 := match lookE a x, lookE b x with
  | some y, some z => some (comeE y z).1
  | some y, none => some y
  | none, o => o
def isConf (a b : List S34) (x : List UInt8) : Bool := match lookE a x, lookE b x with
  | some y, some z => (comeE y z).2
  | _, _ => false
def stepD (a b : List S34) (D : DataW S34) (x : List UInt8) : DataW S34 := match mergedE a b x with
  | some e => D.put (.string x) (.held e)
  | none => D
def mapM (a b : List S34) (ss : List (List UInt8)) : DataW S34 := ss.foldl (stepD a b) (mapOf a)
theorem mapM_nil (a b : List S34) : mapM a b [] = mapOf a := rfl
theorem mapM_snoc (a b : List S34) (ss : List (List UInt8)) (x : List UInt8) : mapM a b (ss ++ [x]) = stepD a b (mapM a b ss) x := by simp [mapM, List.foldl_append]
theorem isMap_mapM (a b : List S34) : ∀ ss, IsMap (mapM a b ss) := by
  refine rev_ind (isMap_mapOf a) ?_
  intro ss x ih
  rw [mapM_snoc]
  unfold stepD
  split
  · exact ih.put _ _
  · exact ih
theorem merged_some_of_b {a b : List S34} {x : List UInt8} (h : (lookE b x).isSome = true) : (mergedE a b x).isSome = true := by
  unfold mergedE
  cases ha : lookE a x <;> cases hb : lookE b x <;> simp_all
theorem merged_of_not_b {a b : List S34} {x : List UInt8} (h : (lookE b x).isSome = false) : mergedE a b x = lookE a x := by
  unfold mergedE
  cases ha : lookE a x <;> cases hb : lookE b x <;> simp_all
theorem has_mapM (a b : List S34) (x : List UInt8) : ∀ ss, (∀ y ∈ ss, (lookE b y).isSome = true) → has (mapM a b ss) (.string x) = ((lookE a x).isSome || decide (x ∈ ss)) := by
  refine rev_ind (fun _ => by rw [mapM_nil, has_mapOf]; simp) ?_
  intro ss y ih h
  rw [mapM_snoc]
  have hy := merged_some_of_b (a := a) (h y (by simp))
  have ih := ih (fun z hz => h z (by simp [hz]))
  unfold stepD
  cases hm : mergedE a b y with
  | none => rw [hm] at hy; cases hy
  | some e =>
    show has ((mapM a b ss).put (.string y) (.held e)) (.string x) = _
    by_cases hxy : x = y
    · subst hxy
      rw [has_put_same (isMap_mapM a b ss) (keyLit _)]
      simp
    · rw [has_put_other (lit_ne hxy), ih]
      simp [hxy]
theorem at_mapM (a b : List S34) (hn : nodupE a) (x : List UInt8) (z : DataW S34) : ∀ ss, (∀ y ∈ ss, (lookE b y).isSome = true) → (mapM a b ss).atKey (.string x) z = if x ∈ ss then heldOr (mergedE a b x) z else heldOr (lookE a x) z := by
  refine rev_ind (fun _ => by rw [mapM_nil, at_mapOf x z a hn]; simp) ?_
  intro ss y ih h
  rw [mapM_snoc]
  have hy := merged_some_of_b (a := a) (h y (by simp))
  have ih := ih (fun z hz => h z (by simp [hz]))
  unfold stepD
  cases hm : mergedE a b y with
  | none => rw [hm] at hy; cases hy
  | some e =>
    show ((mapM a b ss).put (.string y) (.held e)).atKey (.string x) z = _
    by_cases hxy : x = y
    · subst hxy
      rw [atKey_put_same (isMap_mapM a b ss) (keyLit _), if_pos (by simp), hm]
      rfl
    · rw [atKey_put_other (lit_ne hxy), ih]
      simp [hxy]
theorem has_done {a b : List S34} {ss : List (List UInt8)} (hss : ∀ y, y ∈ ss ↔ (lookE b y).isSome = true) (x : List UInt8) : has (mapM a b ss) (.string x) = (mergedE a b x).isSome := by
  rw [has_mapM a b x ss (fun y hy => (hss y).1 hy)]
  unfold mergedE
  by_cases hx : x ∈ ss
  · have := (hss x).1 hx
    cases ha : lookE a x <;> cases hb : lookE b x <;> simp_all
  · have : (lookE b x).isSome = false := by simpa using fun h => hx ((hss x).2 h)
    cases ha : lookE a x <;> cases hb : lookE b x <;> simp_all
theorem atKey_done {a b : List S34} (hn : nodupE a) {ss : List (List UInt8)} (hss : ∀ y, y ∈ ss ↔ (lookE b y).isSome = true) (x : List UInt8) (z : DataW S34) : (mapM a b ss).atKey (.string x) z = heldOr (mergedE a b x) z := by
  rw [at_mapM a b hn x z ss (fun y hy => (hss y).1 hy)]
  by_cases hx : x ∈ ss
  · rw [if_pos hx]
  · rw [if_neg hx, merged_of_not_b (by simpa using fun h => hx ((hss x).2 h))]
def keysM (a b : List S34) : List (List UInt8) := (a.map pathL ++ (b.map pathL).filter (fun x => (lookE a x).isNone)).mergeSort leB
def BAof (x : List UInt8) : ByteArray := ⟨x.toArray⟩
theorem mem_keysM {a b : List S34} {x : List UInt8} : x ∈ keysM a b ↔ (mergedE a b x).isSome = true := by
  unfold keysM
  rw [List.mem_mergeSort, List.mem_append, List.mem_filter]
  unfold mergedE
  have h1 : x ∈ a.map pathL ↔ (lookE a x).isSome = true := by
    rw [← Decidable.not_iff_not, ← lookE_none]; cases lookE a x <;> simp
  have h2 : x ∈ b.map pathL ↔ (lookE b x).isSome = true := by
    rw [← Decidable.not_iff_not, ← lookE_none]; cases lookE b x <;> simp
  rw [h1, h2]
  cases ha : lookE a x <;> cases hb : lookE b x <;> simp_all
theorem keysM_nodup {a b : List S34} (ha : nodupE a) (hb : nodupE b) : (keysM a b).Nodup := by
  unfold keysM
  refine (List.Perm.nodup_iff (List.mergeSort_perm _ _)).2 (List.nodup_append.2 ⟨ha, hb.filter _, ?_⟩)
  intro x hx y hy e
  subst e
  have := (List.mem_filter.1 hy).2
  have h1 := (Decidable.not_iff_not.2 (lookE_none (l := a) (x := x))).2 (by simpa using hx)
  cases h : lookE a x <;> simp_all
def outM (a b : List S34) : List S34 := (keysM a b).filterMap (mergedE a b)
def confM (a b : List S34) : List (List UInt8) := (keysM a b).filter (isConf a b)
end Go.Proofs.YtlkmegeecmkkbaaGreatDoor.P
end
section
namespace Go.Proofs
open Go.RowKit Go.Maps Go.Sort Go.Shelf
def Tryz.keys49_ren : Go.Shelf.Ren := ⟨fun | 7 => 49 | 10 => 89 | n => n, fun | 23 => 69 | 26 => 9 | 3 => 34 | 28 => 75 | 0 => 0 | 27 => 74 | 33 => 90 | 4 => 4 | n => n, fun | n => n⟩
theorem Tryz.keys49 : Go.Proofs.SlLaysZ.n7 Tryz.prog Tryz.keys49_ren := {
  mixed := by kernel_rfl
  f7 := ⟨Tryz.f49.name, by decide, Tryz.func49.trans (congrArg some (by kernel_rfl))⟩
  f10 := ⟨Tryz.f89.name, by decide, Tryz.func89.trans (congrArg some (by kernel_rfl))⟩
  t0 := Tryz.underlying0
  a0 := Tryz.isAgg0
  z0 := Tryz.sizeOf0
  v0 := Tryz.zeroValue0
  t4 := Tryz.underlying4
  a4 := Tryz.isAgg4
  z4 := Tryz.sizeOf4
  v4 := Tryz.zeroValue4
  t23 := Tryz.underlying69
  a23 := Tryz.isAgg69
  z23 := Tryz.sizeOf69
  v23 := Tryz.zeroValue69
  t26 := Tryz.underlying9
  a26 := Tryz.isAgg9
  z26 := Tryz.sizeOf9
  v26 := Tryz.zeroValue9
  t27 := Tryz.underlying74
  a27 := Tryz.isAgg74
  z27 := Tryz.sizeOf74
  v27 := Tryz.zeroValue74
  t28 := Tryz.underlying75
  a28 := Tryz.isAgg75
  z28 := Tryz.sizeOf75
  v28 := Tryz.zeroValue75
  t33 := Tryz.underlying90
  a33 := Tryz.isAgg90
  z33 := Tryz.sizeOf90
  v33 := Tryz.zeroValue90 }
def Tryz.sorted48_ren : Go.Shelf.Ren := ⟨fun | 6 => 48 | 8 => 88 | 9 => 51 | 11 => 125 | 13 => 94 | 12 => 93 | 23 => 136 | 24 => 137 | 14 => 127 | 15 => 128 | 16 => 129 | 17 => 130 | 18 => 131 | 19 => 132 | 20 => 133 | 21 => 134 | 22 => 135 | 25 => 148 | 26 => 149 | 27 => 150 | 28 => 151 | 29 => 152 | 30 => 153 | 31 => 160 | n => n, fun | 26 => 9 | 28 => 75 | 24 => 25 | 0 => 0 | 3 => 3 | 37 => 114 | 48 => 145 | 50 => 147 | 4 => 4 | 40 => 139 | 39 => 138 | 45 => 92 | 5 => 5 | 9 => 9 | 51 => 152 | 55 => 156 | 57 => 162 | 58 => 163 | 33 => 90 | n => n, fun | n => n⟩
theorem Tryz.sorted48 : Go.Proofs.SlLaysZ.n6 Tryz.prog Tryz.sorted48_ren := {
  mixed := by kernel_rfl
  f6 := ⟨Tryz.f48.name, by decide, Tryz.func48.trans (congrArg some (by kernel_rfl))⟩
  f8 := ⟨Tryz.f88.name, by decide, Tryz.func88.trans (congrArg some (by kernel_rfl))⟩
  f11 := ⟨Tryz.f125.name, by decide, Tryz.func125.trans (congrArg some (by kernel_rfl))⟩
  t0 := Tryz.underlying0
  a0 := Tryz.isAgg0
  z0 := Tryz.sizeOf0
  v0 := Tryz.zeroValue0
  t24 := Tryz.underlying25
  a24 := Tryz.isAgg25
  z24 := Tryz.sizeOf25
  v24 := Tryz.zeroValue25
  t26 := Tryz.underlying9
  a26 := Tryz.isAgg9
  z26 := Tryz.sizeOf9
  v26 := Tryz.zeroValue9
  t28 := Tryz.underlying75
  a28 := Tryz.isAgg75
  z28 := Tryz.sizeOf75
  v28 := Tryz.zeroValue75
  i26 := by kernel_rfl }
def Tryz.sort51_ren : Go.Shelf.Ren := ⟨fun | 6 => 51 | 8 => 94 | 9 => 93 | 19 => 136 | 20 => 137 | 21 => 127 | 22 => 128 | 23 => 129 | 24 => 130 | 25 => 131 | 26 => 132 | 27 => 133 | 28 => 134 | 29 => 135 | 36 => 148 | 31 => 149 | 32 => 150 | 37 => 151 | 38 => 152 | 39 => 153 | 41 => 160 | n => n, fun | 27 => 25 | 29 => 9 | 3 => 3 | 32 => 114 | 26 => 25 | 0 => 0 | 44 => 145 | 46 => 147 | 4 => 4 | 36 => 139 | 35 => 138 | 41 => 92 | 5 => 5 | 9 => 9 | 53 => 152 | 57 => 156 | 63 => 162 | 64 => 163 | n => n, fun | n => n⟩
theorem Tryz.sort51 : Go.Proofs.SlLaysM.n6 Tryz.prog Tryz.sort51_ren := {
  mixed := by kernel_rfl
  f6 := ⟨Tryz.f51.name, by decide, Tryz.func51.trans (congrArg some (by kernel_rfl))⟩
  f8 := Tryz.func94.trans (congrArg some (by kernel_rfl))
  f9 := ⟨Tryz.f93.name, by decide, Tryz.func93.trans (congrArg some (by kernel_rfl))⟩
  f19 := Tryz.func136.trans (congrArg some (by kernel_rfl))
  f20 := Tryz.func137.trans (congrArg some (by kernel_rfl))
  f21 := ⟨Tryz.f127.name, by decide, Tryz.func127.trans (congrArg some (by kernel_rfl))⟩
  f22 := ⟨Tryz.f128.name, by decide, Tryz.func128.trans (congrArg some (by kernel_rfl))⟩
  f23 := ⟨Tryz.f129.name, by decide, Tryz.func129.trans (congrArg some (by kernel_rfl))⟩
  f24 := ⟨Tryz.f130.name, by decide, Tryz.func130.trans (congrArg some (by kernel_rfl))⟩
  f25 := ⟨Tryz.f131.name, by decide, Tryz.func131.trans (congrArg some (by kernel_rfl))⟩
  f26 := ⟨Tryz.f132.name, by decide, Tryz.func132.trans (congrArg some (by kernel_rfl))⟩
  f27 := ⟨Tryz.f133.name, by decide, Tryz.func133.trans (congrArg some (by kernel_rfl))⟩
  f28 := ⟨Tryz.f134.name, by decide, Tryz.func134.trans (congrArg some (by kernel_rfl))⟩
  f29 := ⟨Tryz.f135.name, by decide, Tryz.func135.trans (congrArg some (by kernel_rfl))⟩
  f31 := Tryz.func149.trans (congrArg some (by kernel_rfl))
  f32 := Tryz.func150.trans (congrArg some (by kernel_rfl))
  f36 := ⟨Tryz.f148.name, by decide, Tryz.func148.trans (congrArg some (by kernel_rfl))⟩
  f37 := ⟨Tryz.f151.name, by decide, Tryz.func151.trans (congrArg some (by kernel_rfl))⟩
  f38 := ⟨Tryz.f152.name, by decide, Tryz.func152.trans (congrArg some (by kernel_rfl))⟩
  f39 := ⟨Tryz.f153.name, by decide, Tryz.func153.trans (congrArg some (by kernel_rfl))⟩
  f41 := ⟨Tryz.f160.name, by decide, Tryz.func160.trans (congrArg some (by kernel_rfl))⟩
  t0 := Tryz.underlying0
  a0 := Tryz.isAgg0
  z0 := Tryz.sizeOf0
  v0 := Tryz.zeroValue0
  t3 := Tryz.underlying3
  a3 := Tryz.isAgg3
  z3 := Tryz.sizeOf3
  v3 := Tryz.zeroValue3
  t4 := Tryz.underlying4
  a4 := Tryz.isAgg4
  z4 := Tryz.sizeOf4
  v4 := Tryz.zeroValue4
  t5 := Tryz.underlying5
  a5 := Tryz.isAgg5
  z5 := Tryz.sizeOf5
  v5 := Tryz.zeroValue5
  t9 := Tryz.underlying9
  a9 := Tryz.isAgg9
  z9 := Tryz.sizeOf9
  v9 := Tryz.zeroValue9
  t26 := Tryz.underlying25
  a26 := Tryz.isAgg25
  z26 := Tryz.sizeOf25
  v26 := Tryz.zeroValue25
  t27 := Tryz.underlying25
  a27 := Tryz.isAgg25
  z27 := Tryz.sizeOf25
  v27 := Tryz.zeroValue25
  t29 := Tryz.underlying9
  a29 := Tryz.isAgg9
  z29 := Tryz.sizeOf9
  v29 := Tryz.zeroValue9
  t32 := Tryz.underlying114
  a32 := Tryz.isAgg114
  z32 := Tryz.sizeOf114
  v32 := Tryz.zeroValue114
  t35 := Tryz.underlying138
  a35 := Tryz.isAgg138
  z35 := Tryz.sizeOf138
  v35 := Tryz.zeroValue138
  t36 := Tryz.underlying139
  a36 := Tryz.isAgg139
  z36 := Tryz.sizeOf139
  v36 := Tryz.zeroValue139
  t41 := Tryz.underlying92
  a41 := Tryz.isAgg92
  z41 := Tryz.sizeOf92
  v41 := Tryz.zeroValue92
  t44 := Tryz.underlying145
  a44 := Tryz.isAgg145
  z44 := Tryz.sizeOf145
  v44 := Tryz.zeroValue145
  t46 := Tryz.underlying147
  a46 := Tryz.isAgg147
  z46 := Tryz.sizeOf147
  v46 := Tryz.zeroValue147
  t53 := Tryz.underlying152
  a53 := Tryz.isAgg152
  z53 := Tryz.sizeOf152
  v53 := Tryz.zeroValue152
  t57 := Tryz.underlying156
  a57 := Tryz.isAgg156
  z57 := Tryz.sizeOf156
  v57 := Tryz.zeroValue156
  t63 := Tryz.underlying162
  a63 := Tryz.isAgg162
  z63 := Tryz.sizeOf162
  v63 := Tryz.zeroValue162
  t64 := Tryz.underlying163
  a64 := Tryz.isAgg163
  z64 := Tryz.sizeOf163
  v64 := Tryz.zeroValue163 }
theorem Tryz.sorts48 (m : Nat) : AnyZ.SortsIn Tryz.prog Tryz.sorted48_ren Fence.wide m :=
  ⟨fun blk off cap ss W hH hblk hsz => callsIn_wide.2 (AnyM.slices_Sort_string Tryz.sort51 blk off cap ss W hH hblk hsz),
   fun p cap W => callsIn_wide.2 (AnyM.slices_Sort_string_none Tryz.sort51 p cap W)⟩
theorem Tryz.maps_Keys_49 (mb : Option Nat) (W : World) : CallsIn Fence.wide 5 Tryz.prog 49 #[.map mb] W fun e w' => e = .returned (.func (.func 89) #[] #[.pointer (some ⟨W.heap.size, 0, none⟩)]) ∧ w' = W.alloc (.cells #[.map mb] 69) :=
  AnyZ.keys_in Tryz.keys49 Fence.wide 5 trivial rfl mb W
set_option maxHeartbeats 1000000 in
theorem Tryz.slices_Sorted_keys_48_49 {H : Type} (b nn : Nat) (D0 : DataW H) (R : Value → Option (DataW H × List MemPlace)) (w : World) (hown : w.ownsMap Tryz.prog 9 R b nn D0) (hmax : Maps.size D0 ≤ maxLen) (hbytes : Maps.size D0 * 16 ≤ 140737488355328) :
    CallsIn Fence.wide 5 Tryz.prog 48 #[.func (.func 89) #[] #[.pointer (some ⟨w.heap.size, 0, none⟩)]] (w.alloc (.cells #[.map (some b)] 69)) fun e w' => ∃ (v : Value) (ss : List (List UInt8)), e = .returned v ∧ ss.Perm (strKeys D0) ∧
      w'.ownsRow (w.alloc (.cells #[.map (some b)] 69)).heap.size 9 1 v ss.length ((ss.mergeSort (fun x y => decide (x ≤ y))).map encStr) ∧ (v = .slice none 0 0 ↔ ss = []) ∧ Below (w.alloc (.cells #[.map (some b)] 69)).heap.size (w.alloc (.cells #[.map (some b)] 69)) w' := by
  have hbl := hown.lt
  have hseq : SeqGives Fence.wide 2 Tryz.prog 89 #[.pointer (some ⟨w.heap.size, 0, none⟩)] encStr (fun ss => ss.Perm (strKeys D0)) (Maps.size D0) (w.alloc (.cells #[.map (some b)] 69)) :=
    AnyZ.keys_gives (ρ := Tryz.keys49_ren) { Tryz.keys49 with } Fence.wide _ trivial rfl (by omega) w.heap.size b nn D0 _ (by simp) (by simp) (by
      obtain ⟨es, clock, hb, Ft, hs, hD⟩ := hown
      exact ⟨es, clock, (Below.heap_alloc _ _ b hbl).trans hb, Ft, hs, hD⟩)
  exact AnyZ.sorted_in Tryz.sorted48 Fence.wide 5 trivial trivial trivial trivial rfl (by omega) (Tryz.sorts48 _) (enters_of Tryz.func51 (by kernel_rfl) rfl) 89 #[.pointer (some ⟨w.heap.size, 0, none⟩)] trivial (enters_of Tryz.func89 (by kernel_rfl) rfl) _ _ hmax hbytes _ hseq
end Go.Proofs
end
section
namespace Go.Proofs.YtlkmegeecmkkbaaGreatDoor.P
open Go.RowKit Go.Maps Go.Sort Go.Proofs.YtlkmegeecmkkbaaGreatDoorW.PrintWords Go.Proofs.YtlkmegeecmkkbaaGreatDoorW.PrintLast Go.Proofs.YtlkmegeecmkkbaaGreatDoorW.PrintMore
set_option linter.unusedVariables false
set_option linter.unusedSimpArgs false
theorem encs_BAof (ss : List (List UInt8)) : encs Value.string (ss.map BAof) = ss.map encStr := by
  simp [encs, BAof, encStr, Function.comp_def]
theorem sort_R {w : World} {base : Nat} {ok : Nat → Prop} {v : Value} (ss : List (List UInt8)) (h : Kd.R Kd.string 9 w base ok v (ss.map BAof)) (hsz : ss.length < 4611686018427387904) :
    Calls Tryz.prog 51 #[v] w fun e w' => e = .returned (.tuple #[]) ∧ Kd.R Kd.string 9 w' base ok v ((ss.mergeSort leB).map BAof) ∧ w.grownBy w' v.ownBlock ∧ w.heap.size ≤ w'.heap.size := by
  have hrow := Kd.own_of_R h
  rw [encs_BAof, List.length_map] at hrow
  have hok := h.1
  rcases hrow.2 with ⟨rfl, hz⟩ | ⟨gb, cap, cur, rfl, hbase, hgb, r1, r2, r3, r4⟩
  · have hss : ss = [] := List.eq_nil_of_length_eq_zero hz
    subst hss
    refine (AnyM.slices_Sort_string_none Tryz.sort51 none 0 w).mono ?_
    rintro e w' ⟨rfl, rfl⟩
    exact ⟨rfl, by simpa using h, ⟨rfl, rfl, rfl, Nat.le_refl _, fun _ _ _ => rfl⟩, Nat.le_refl _⟩
  · have hH : Holds encStr w gb 0 ss.toArray := holds_of_block hgb (by simpa using r4)
    have hgl : gb < w.heap.size := (Array.getElem?_eq_some_iff.1 hgb).1
    refine (AnyM.slices_Sort_string Tryz.sort51 gb 0 cap ss w hH hgl hsz).mono ?_
    rintro e w' ⟨rfl, nn, os, rfl⟩
    have hs := ownsRow_sorted (n := nn) (os := os) (ts := ss.mergeSort leB) (by simp) hbase hgb r1 r2 r3
    have hg := grownBy_sorted (w := w) (g := gb) (n := nn) (os := os) (ss.mergeSort leB).toArray
    exact ⟨rfl, Kd.R_of_own (by rw [encs_BAof, List.length_map, List.length_mergeSort]; simpa using hs) (by simpa using hok), by simpa [Value.ownBlock] using hg, hg.size⟩
end Go.Proofs.YtlkmegeecmkkbaaGreatDoor.P
end
section
namespace Go.Proofs.YtlkmegeecmkkbaaGreatDoor.P
open Go.RowKit Go.Proofs.YtlkmegeecmkkbaaGreatDoorW.PrintWords Go.Proofs.YtlkmegeecmkkbaaGreatDoorW.PrintLast Go.Proofs.YtlkmegeecmkkbaaGreatDoorW.PrintMore
attribute [local go_sem] max2_int min2_int max_two min_two max_three min_three max_four min_four   -- for this text's walks alone
attribute [local go_sem] str_leq str_gtr str_geq
set_option linter.unusedVariables false
set_option linter.unusedSimpArgs false
def recon_joined.f (a0_0 : ByteArray) (a0_1 : Bool) (a0_2 : ByteArray) (a0_3 : Int) (a0_4 : Int) (a1_0 : ByteArray) (a1_1 : Bool) (a1_2 : ByteArray) (a1_3 : Int) (a1_4 : Int) : Option (ByteArray × Bool × ByteArray × Int × Int) := (clock_Of.f a0_3 a0_4).bind fun t764 => ((clock_Of.f a1_3 a1_4).bind fun t765 => ((clock_Join.f t764 t765).bind fun t766 => ((clock_Pair.f t766).bind fun bt767 => (some (a0_0, a0_1, a0_2, bt767.1, bt767.2)))))
def recon_joined.T1 : Bool × List (List Nat × List Nat) := (true, [([], []), ([0], [0]), ([1], [1]), ([], []), ([3], [3]), ([4, 2], [4]), ([2, 5, 5], [2, 5]), ([6, 6], [6]), ([0, 1, 2, 3, 4, 5, 6, 7], []), ([8, 7, 7, 0, 1, 2, 3, 4, 5, 6, 7], [7, 8])])
def recon_joined.B1 : List Nat := [0, 1, 3, 0, 8, 31, 63, 127, 255, 511]
theorem recon_joined.tab1 : rtab .any (opsOf Tryz.f64 1) = recon_joined.T1 := by kernel_rfl
theorem recon_joined.bits1 : waitsOk recon_joined.T1.2 recon_joined.B1 = true := by kernel_rfl
set_option maxHeartbeats 8000000 in
set_option maxRecDepth 100000 in
theorem recon_joined.calls (a0_0 : ByteArray) (a0_1 : Bool) (a0_2 : ByteArray) (a0_3 : Int) (a0_4 : Int) (a1_0 : ByteArray) (a1_1 : Bool) (a1_2 : ByteArray) (a1_3 : Int) (a1_4 : Int) (r1 : ByteArray) (r2 : Bool) (r3 : ByteArray) (r4 : Int) (r5 : Int) (w : World) (h : recon_joined.f a0_0 a0_1 a0_2 a0_3 a0_4 a1_0 a1_1 a1_2 a1_3 a1_4 = some (r1, r2, r3, r4, r5)) :
    Calls Tryz.prog 64 #[.agg #[.string a0_0, .bool a0_1, .string a0_2, .int .i64 a0_3, .int .i64 a0_4], .agg #[.string a1_0, .bool a1_1, .string a1_2, .int .i64 a1_3, .int .i64 a1_4]] w fun e w' => e = .returned (.agg #[.string r1, .bool r2, .string r3, .int .i64 r4, .int .i64 r5]) ∧ Below w.heap.size w w' := by
  have hu34 := Tryz.underlying34
  have hu32 := Tryz.underlying32
  have HB := Aside0.mk (Below.refl w.heap.size w)
  have H : ((clock_Of.f a0_3 a0_4).bind fun t764 => ((clock_Of.f a1_3 a1_4).bind fun t765 => ((clock_Join.f t764 t765).bind fun t766 => ((clock_Pair.f t766).bind fun bt767 => (some (a0_0, a0_1, a0_2, bt767.1, bt767.2)))))) = some (r1, r2, r3, r4, r5) := h
  clear h
  replace H := Option.bind_eq_some_iff.mp H
  obtain ⟨t764, A30, H⟩ := H
  replace H : ((clock_Of.f a1_3 a1_4).bind fun t765 => ((clock_Join.f t764 t765).bind fun t766 => ((clock_Pair.f t766).bind fun bt767 => (some (a0_0, a0_1, a0_2, bt767.1, bt767.2))))) = some (r1, r2, r3, r4, r5) := H
  have A3 := Aside0.mk A30
  clear A30
  replace H := Option.bind_eq_some_iff.mp H
  obtain ⟨t765, A40, H⟩ := H
  replace H : ((clock_Join.f t764 t765).bind fun t766 => ((clock_Pair.f t766).bind fun bt767 => (some (a0_0, a0_1, a0_2, bt767.1, bt767.2)))) = some (r1, r2, r3, r4, r5) := H
  have A4 := Aside0.mk A40
  clear A40
  replace H := Option.bind_eq_some_iff.mp H
  obtain ⟨t766, A50, H⟩ := H
  replace H : ((clock_Pair.f t766).bind fun bt767 => (some (a0_0, a0_1, a0_2, bt767.1, bt767.2))) = some (r1, r2, r3, r4, r5) := H
  have A5 := Aside0.mk A50
  clear A50
  replace H := Option.bind_eq_some_iff.mp H
  obtain ⟨⟨t767, t768⟩, A60, H⟩ := H
  replace H : (some (a0_0, a0_1, a0_2, t767, t768)) = some (r1, r2, r3, r4, r5) := H
  have A6 := Aside0.mk A60
  clear A60
  simp only [Option.some.injEq, Prod.mk.injEq] at H
  obtain ⟨rfl, rfl, rfl, rfl, rfl⟩ := H
  go_enter Tryz.func64, Tryz.ntmps64
  try go_wp2_with (first | ((with_reducible refine gate_dst (N := 2) rfl ?_); refine box_event ?hg (N := 2) ?hd (cs := #[.string a0_0, .bool a0_1, .string a0_2, .int .i64 a0_3, .int .i64 a0_4]) (t := 34) ?hr ?_; (case hd => rfl); (case hg => rfl); (case hr => first | (go_simp; done) | (go_simp; rfl)); intro gb761 hg w7 hbox hb; have n0_ := Aside0.mk (below_step (by repeat (first | (with_reducible first | exact HB.out | apply below_alloc | apply pw_below_drewN | apply below_drew1) | exact HB.out)) hb); have n1_ := Aside0.mk (hbox); have n2_ := Aside0.mk ((by rw [hg]; exact (below_size (by repeat (first | (with_reducible first | exact HB.out | apply below_alloc | apply pw_below_drewN | apply below_drew1) | exact HB.out))) : w.heap.size ≤ gb761)); have n3_ := Aside0.mk ((by rw [hg]; exact (below_size (by repeat (first | (with_reducible first | exact HB.out | apply below_alloc | apply pw_below_drewN | apply below_drew1) | exact HB.out))) : w.heap.size ≤ gb761)); clear HB; have HB := n0_; have BK761 := n1_; have GW761 := n2_; have GE761 := n3_; clear n0_ n1_ n2_ n3_; clear hb hbox hg) | ((with_reducible refine gate_dst (N := 3) rfl ?_); refine box_event ?hg (N := 3) ?hd (cs := #[.string a1_0, .bool a1_1, .string a1_2, .int .i64 a1_3, .int .i64 a1_4]) (t := 34) ?hr ?_; (case hd => rfl); (case hg => rfl); (case hr => first | (go_simp; done) | (go_simp; rfl)); intro gb762 hg w8 hbox hb; have n0_ := Aside0.mk (blk_below (g := gb761) (o := .cells #[.string a0_0, .bool a0_1, .string a0_2, .int .i64 a0_3, .int .i64 a0_4] 34 (0, 0)) (by (with_reducible repeat (first | refine blk_drewN ?_ _ | refine blk_drew ?_ | refine blk_alloc ?_ _)); exact BK761.out) hb); have n1_ := Aside0.mk (below_step (by repeat (first | (with_reducible first | exact HB.out | apply below_alloc | apply pw_below_drewN | apply below_drew1 | refine below_set ?_ GE761.out) | exact HB.out)) hb); have n2_ := Aside0.mk (hbox); have n3_ := Aside0.mk ((by rw [hg]; exact (below_size (by repeat (first | (with_reducible first | exact HB.out | apply below_alloc | apply pw_below_drewN | apply below_drew1 | refine below_set ?_ GE761.out) | exact HB.out))) : w.heap.size ≤ gb762)); have n4_ := Aside0.mk ((by rw [hg]; exact (below_size (by repeat (first | (with_reducible first | exact HB.out | apply below_alloc | apply pw_below_drewN | apply below_drew1 | refine below_set ?_ GE761.out) | exact HB.out))) : w.heap.size ≤ gb762)); have n5_ := Aside0.mk ((by rw [hg]; exact Nat.ne_of_lt (blk_lt (g := gb761) (o := .cells #[.string a0_0, .bool a0_1, .string a0_2, .int .i64 a0_3, .int .i64 a0_4] 34 (0, 0)) (by (with_reducible repeat (first | refine blk_drewN ?_ _ | refine blk_drew ?_ | refine blk_alloc ?_ _)); exact BK761.out)) : gb761 ≠ gb762)); have n6_ := Aside0.mk ((by rw [hg]; exact Nat.ne_of_gt (blk_lt (g := gb761) (o := .cells #[.string a0_0, .bool a0_1, .string a0_2, .int .i64 a0_3, .int .i64 a0_4] 34 (0, 0)) (by (with_reducible repeat (first | refine blk_drewN ?_ _ | refine blk_drew ?_ | refine blk_alloc ?_ _)); exact BK761.out)) : gb762 ≠ gb761)); clear BK761; clear HB; have BK761 := n0_; have HB := n1_; have BK762 := n2_; have GW762 := n3_; have GE762 := n4_; have NB761_762 := n5_; have NB762_761 := n6_; clear n0_ n1_ n2_ n3_ n4_ n5_ n6_; clear hb hbox hg) | ((with_reducible refine gate_dst (N := 4) rfl ?_); refine box_event ?hg (N := 4) ?hd (cs := #[.string (⟨#[]⟩ : ByteArray), .bool false, .string (⟨#[]⟩ : ByteArray), .int .i64 0, .int .i64 0]) (t := 34) ?hr ?_; (case hd => rfl); (case hg => rfl); (case hr => first | (go_simp; done) | (go_simp; rfl)); intro gb763 hg w9 hbox hb; have n0_ := Aside0.mk (blk_below (g := gb761) (o := .cells #[.string a0_0, .bool a0_1, .string a0_2, .int .i64 a0_3, .int .i64 a0_4] 34 (0, 0)) (by (with_reducible repeat (first | refine blk_drewN ?_ _ | refine blk_drew ?_ | refine blk_alloc ?_ _)); exact BK761.out) hb); have n1_ := Aside0.mk (blk_below (g := gb762) (o := .cells #[.string a1_0, .bool a1_1, .string a1_2, .int .i64 a1_3, .int .i64 a1_4] 34 (0, 0)) (by (with_reducible repeat (first | refine blk_drewN ?_ _ | refine blk_drew ?_ | refine blk_alloc ?_ _)); exact BK762.out) hb); have n2_ := Aside0.mk (below_step (by repeat (first | (with_reducible first | exact HB.out | apply below_alloc | apply pw_below_drewN | apply below_drew1 | refine below_set ?_ GE761.out | refine below_set ?_ GE762.out) | exact HB.out)) hb); have n3_ := Aside0.mk (hbox); have n4_ := Aside0.mk ((by rw [hg]; exact (below_size (by repeat (first | (with_reducible first | exact HB.out | apply below_alloc | apply pw_below_drewN | apply below_drew1 | refine below_set ?_ GE761.out | refine below_set ?_ GE762.out) | exact HB.out))) : w.heap.size ≤ gb763)); have n5_ := Aside0.mk ((by rw [hg]; exact (below_size (by repeat (first | (with_reducible first | exact HB.out | apply below_alloc | apply pw_below_drewN | apply below_drew1 | refine below_set ?_ GE761.out | refine below_set ?_ GE762.out) | exact HB.out))) : w.heap.size ≤ gb763)); have n6_ := Aside0.mk ((by rw [hg]; exact Nat.ne_of_lt (blk_lt (g := gb761) (o := .cells #[.string a0_0, .bool a0_1, .string a0_2, .int .i64 a0_3, .int .i64 a0_4] 34 (0, 0)) (by (with_reducible repeat (first | refine blk_drewN ?_ _ | refine blk_drew ?_ | refine blk_alloc ?_ _)); exact BK761.out)) : gb761 ≠ gb763)); have n7_ := Aside0.mk ((by rw [hg]; exact Nat.ne_of_gt (blk_lt (g := gb761) (o := .cells #[.string a0_0, .bool a0_1, .string a0_2, .int .i64 a0_3, .int .i64 a0_4] 34 (0, 0)) (by (with_reducible repeat (first | refine blk_drewN ?_ _ | refine blk_drew ?_ | refine blk_alloc ?_ _)); exact BK761.out)) : gb763 ≠ gb761)); have n8_ := Aside0.mk ((by rw [hg]; exact Nat.ne_of_lt (blk_lt (g := gb762) (o := .cells #[.string a1_0, .bool a1_1, .string a1_2, .int .i64 a1_3, .int .i64 a1_4] 34 (0, 0)) (by (with_reducible repeat (first | refine blk_drewN ?_ _ | refine blk_drew ?_ | refine blk_alloc ?_ _)); exact BK762.out)) : gb762 ≠ gb763)); have n9_ := Aside0.mk ((by rw [hg]; exact Nat.ne_of_gt (blk_lt (g := gb762) (o := .cells #[.string a1_0, .bool a1_1, .string a1_2, .int .i64 a1_3, .int .i64 a1_4] 34 (0, 0)) (by (with_reducible repeat (first | refine blk_drewN ?_ _ | refine blk_drew ?_ | refine blk_alloc ?_ _)); exact BK762.out)) : gb763 ≠ gb762)); clear BK761; clear BK762; clear HB; have BK761 := n0_; have BK762 := n1_; have HB := n2_; have BK763 := n3_; have GW763 := n4_; have GE763 := n5_; have NB761_763 := n6_; have NB763_761 := n7_; have NB762_763 := n8_; have NB763_762 := n9_; clear n0_ n1_ n2_ n3_ n4_ n5_ n6_ n7_ n8_ n9_; clear hb hbox hg))
  have n0_ := Aside0.mk (blk_drew BK761.out)
  have n1_ := Aside0.mk (blk_drew BK762.out)
  have n2_ := Aside0.mk (blk_drew BK763.out)
  have n3_ := Aside0.mk (below_drew1 HB.out)
  clear BK761
  clear BK762
  clear BK763
  clear HB
  have BK761 := n0_
  have BK762 := n1_
  have BK763 := n2_
  have HB := n3_
  clear n0_ n1_ n2_ n3_
  refine start_ (n := 10) (S := fun w' => w'.cell? ⟨gb761, 0, none⟩ = some (.string a0_0) ∧ w'.cell? ⟨gb761, 1, none⟩ = some (.bool a0_1) ∧ w'.cell? ⟨gb761, 2, none⟩ = some (.string a0_2) ∧ w'.cell? ⟨gb761, 3, none⟩ = some (.int .i64 a0_3) ∧ w'.cell? ⟨gb761, 4, none⟩ = some (.int .i64 a0_4) ∧ w'.cell? ⟨gb762, 0, none⟩ = some (.string a1_0) ∧ w'.cell? ⟨gb762, 1, none⟩ = some (.bool a1_1) ∧ w'.cell? ⟨gb762, 2, none⟩ = some (.string a1_2) ∧ w'.cell? ⟨gb762, 3, none⟩ = some (.int .i64 a1_3) ∧ w'.cell? ⟨gb762, 4, none⟩ = some (.int .i64 a1_4)) (ds := [9]) #[false, false, false, false, false, false, false, false, false, false] (by kernel_rfl) rfl rfl ⟨(blk_cell BK761.out 0).trans rfl, (blk_cell BK761.out 1).trans rfl, (blk_cell BK761.out 2).trans rfl, (blk_cell BK761.out 3).trans rfl, (blk_cell BK761.out 4).trans rfl, (blk_cell BK762.out 0).trans rfl, (blk_cell BK762.out 1).trans rfl, (blk_cell BK762.out 2).trans rfl, (blk_cell BK762.out 3).trans rfl, (blk_cell BK762.out 4).trans rfl⟩ (fun hHeld => ?_); refine with_tabW recon_joined.tab1 recon_joined.bits1 (fun HT_ HW_ => ?_)
  generalize w9.drew = w10 at BK761 BK762 BK763 HB hHeld ⊢
  refine pure_ (i := 0) (N := some 5) (v := ?_) (a' := ?_) #[true, false, false, false, false, false, false, false, false, false] rfl rfl (any_of HT_.out (by kernel_rfl)) (fun _ _ _ h => h) (Or.inl ⟨by rfl, ?_⟩) ?_ ?_
  rotate_left
  · intro w'
    go_simp
    with_reducible rfl
  rotate_left
  · simp only [Act.put, List.setIfInBounds_toArray, List.set_cons_zero, List.set_cons_succ, i64_w, i32_w]
    rfl
  refine pure_ (i := 3) (N := some 8) (v := ?_) (a' := ?_) #[true, false, false, true, false, false, false, false, false, false] rfl rfl (any_of HT_.out (by kernel_rfl)) (fun _ _ _ h => h) (Or.inl ⟨by rfl, ?_⟩) ?_ ?_
  rotate_left
  · intro w'
    go_simp
    with_reducible rfl
  rotate_left
  · simp only [Act.put, List.setIfInBounds_toArray, List.set_cons_zero, List.set_cons_succ, i64_w, i32_w]
    rfl
  refine take_ (i := 1) (N := some 6) (v := ?_) (a' := ?_) #[true, true, false, true, false, false, false, false, false, false] rfl rfl (take_ofW HT_.out HW_.out (by kernel_rfl)) (fun _ _ _ h => h) (Or.inl ⟨by rfl, ?_⟩) hHeld ?_ ?_
  rotate_left
  · rintro w' ⟨s0, s1, s2, s3, s4, s5, s6, s7, s8, s9⟩
    go_simp
    with_reducible rfl
  rotate_left
  · simp only [Act.put, List.setIfInBounds_toArray, List.set_cons_zero, List.set_cons_succ, i64_w, i32_w]
    rfl
  refine take_ (i := 4) (N := some 9) (v := ?_) (a' := ?_) #[true, true, false, true, true, false, false, false, false, false] rfl rfl (take_ofW HT_.out HW_.out (by kernel_rfl)) (fun _ _ _ h => h) (Or.inl ⟨by rfl, ?_⟩) hHeld ?_ ?_
  rotate_left
  · rintro w' ⟨s0, s1, s2, s3, s4, s5, s6, s7, s8, s9⟩
    go_simp
    with_reducible rfl
  rotate_left
  · simp only [Act.put, List.setIfInBounds_toArray, List.set_cons_zero, List.set_cons_succ, i64_w, i32_w]
    rfl
  refine one_ (i := 2) (N := some 7) #[true, true, true, true, true, false, false, false, false, false] rfl rfl (one_of HT_.out (by kernel_rfl)) (by decide) (fun K hK => ?_)
  refine goes_ Tryz.func67 (by kernel_rfl) rfl #[.agg #[.int .i64 a0_3, .int .i64 a0_4]] (by rfl) rfl rfl (by (try simp only [List.map_toArray, List.map_cons, List.map_nil]); first | done | rfl | (simp only [List.length_drop, List.length_take]; rfl)) ?_
  with_reducible refine (clock_Of.calls a0_3 a0_4 t764 _ A3.out).mono ?_
  rintro e w11 ⟨rfl, hb⟩
  refine ⟨_, rfl, ?_⟩
  have n0_ := Aside0.mk (blk_below (g := gb761) (o := .cells #[.string a0_0, .bool a0_1, .string a0_2, .int .i64 a0_3, .int .i64 a0_4] 34 (0, 0)) (by (with_reducible repeat (first | refine blk_drewN ?_ _ | refine blk_drew ?_ | refine blk_alloc ?_ _)); exact BK761.out) hb)
  have n1_ := Aside0.mk (blk_below (g := gb762) (o := .cells #[.string a1_0, .bool a1_1, .string a1_2, .int .i64 a1_3, .int .i64 a1_4] 34 (0, 0)) (by (with_reducible repeat (first | refine blk_drewN ?_ _ | refine blk_drew ?_ | refine blk_alloc ?_ _)); exact BK762.out) hb)
  have n2_ := Aside0.mk (blk_below (g := gb763) (o := .cells #[.string (⟨#[]⟩ : ByteArray), .bool false, .string (⟨#[]⟩ : ByteArray), .int .i64 0, .int .i64 0] 34 (0, 0)) (by (with_reducible repeat (first | refine blk_drewN ?_ _ | refine blk_drew ?_ | refine blk_alloc ?_ _)); exact BK763.out) hb)
  have n3_ := Aside0.mk (below_step (by repeat (first | (with_reducible first | exact HB.out | apply below_alloc | apply pw_below_drewN | apply below_drew1 | refine below_set ?_ GE761.out | refine below_set ?_ GE762.out | refine below_set ?_ GE763.out) | exact HB.out)) hb)
  clear BK761
  clear BK762
  clear BK763
  clear HB
  have BK761 := n0_
  have BK762 := n1_
  have BK763 := n2_
  have HB := n3_
  clear n0_ n1_ n2_ n3_
  (try clear hb)
  (try clear hb2)
  (try clear hk)
  (try clear hi)
  refine hK.out _ _ ⟨(blk_cell BK761.out 0).trans rfl, (blk_cell BK761.out 1).trans rfl, (blk_cell BK761.out 2).trans rfl, (blk_cell BK761.out 3).trans rfl, (blk_cell BK761.out 4).trans rfl, (blk_cell BK762.out 0).trans rfl, (blk_cell BK762.out 1).trans rfl, (blk_cell BK762.out 2).trans rfl, (blk_cell BK762.out 3).trans rfl, (blk_cell BK762.out 4).trans rfl⟩ (fun hHeld => ?_)
  clear hK K
  refine norm_ (a' := ?_) ?_ ?_
  rotate_left
  · show Act.put _ (some 7) _ = _
    simp only [Act.put, List.setIfInBounds_toArray, List.set_cons_zero, List.set_cons_succ, i64_w, i32_w]
    rfl
  refine one_ (i := 5) (N := some 10) #[true, true, true, true, true, true, false, false, false, false] rfl rfl (one_of HT_.out (by kernel_rfl)) (by decide) (fun K hK => ?_)
  refine goes_ Tryz.func67 (by kernel_rfl) rfl #[.agg #[.int .i64 a1_3, .int .i64 a1_4]] (by rfl) rfl rfl (by (try simp only [List.map_toArray, List.map_cons, List.map_nil]); first | done | rfl | (simp only [List.length_drop, List.length_take]; rfl)) ?_
  with_reducible refine (clock_Of.calls a1_3 a1_4 t765 _ A4.out).mono ?_
  rintro e w12 ⟨rfl, hb⟩
  refine ⟨_, rfl, ?_⟩
  have n0_ := Aside0.mk (blk_below (g := gb761) (o := .cells #[.string a0_0, .bool a0_1, .string a0_2, .int .i64 a0_3, .int .i64 a0_4] 34 (0, 0)) (by (with_reducible repeat (first | refine blk_drewN ?_ _ | refine blk_drew ?_ | refine blk_alloc ?_ _)); exact BK761.out) hb)
  have n1_ := Aside0.mk (blk_below (g := gb762) (o := .cells #[.string a1_0, .bool a1_1, .string a1_2, .int .i64 a1_3, .int .i64 a1_4] 34 (0, 0)) (by (with_reducible repeat (first | refine blk_drewN ?_ _ | refine blk_drew ?_ | refine blk_alloc ?_ _)); exact BK762.out) hb)
  have n2_ := Aside0.mk (blk_below (g := gb763) (o := .cells #[.string (⟨#[]⟩ : ByteArray), .bool false, .string (⟨#[]⟩ : ByteArray), .int .i64 0, .int .i64 0] 34 (0, 0)) (by (with_reducible repeat (first | refine blk_drewN ?_ _ | refine blk_drew ?_ | refine blk_alloc ?_ _)); exact BK763.out) hb)
  have n3_ := Aside0.mk (below_step (by repeat (first | (with_reducible first | exact HB.out | apply below_alloc | apply pw_below_drewN | apply below_drew1 | refine below_set ?_ GE761.out | refine below_set ?_ GE762.out | refine below_set ?_ GE763.out) | exact HB.out)) hb)
  clear BK761
  clear BK762
  clear BK763
  clear HB
  have BK761 := n0_
  have BK762 := n1_
  have BK763 := n2_
  have HB := n3_
  clear n0_ n1_ n2_ n3_
  (try clear hb)
  (try clear hb2)
  (try clear hk)
  (try clear hi)
  refine hK.out _ _ ⟨(blk_cell BK761.out 0).trans rfl, (blk_cell BK761.out 1).trans rfl, (blk_cell BK761.out 2).trans rfl, (blk_cell BK761.out 3).trans rfl, (blk_cell BK761.out 4).trans rfl, (blk_cell BK762.out 0).trans rfl, (blk_cell BK762.out 1).trans rfl, (blk_cell BK762.out 2).trans rfl, (blk_cell BK762.out 3).trans rfl, (blk_cell BK762.out 4).trans rfl⟩ (fun hHeld => ?_)
  clear hK K
  refine norm_ (a' := ?_) ?_ ?_
  rotate_left
  · show Act.put _ (some 10) _ = _
    simp only [Act.put, List.setIfInBounds_toArray, List.set_cons_zero, List.set_cons_succ, i64_w, i32_w]
    rfl
  refine one_ (i := 6) (N := some 11) #[true, true, true, true, true, true, true, false, false, false] rfl rfl (one_of HT_.out (by kernel_rfl)) (by decide) (fun K hK => ?_)
  refine goes_ Tryz.func108 (by kernel_rfl) rfl #[cpx t764, cpx t765] (by rfl) rfl rfl (by (try simp only [List.map_toArray, List.map_cons, List.map_nil]); first | done | rfl | (simp only [List.length_drop, List.length_take]; rfl)) ?_
  with_reducible refine (clock_Join.calls t764 t765 t766 _ A5.out).mono ?_
  rintro e w13 ⟨rfl, hb⟩
  refine ⟨_, rfl, ?_⟩
  have n0_ := Aside0.mk (blk_below (g := gb761) (o := .cells #[.string a0_0, .bool a0_1, .string a0_2, .int .i64 a0_3, .int .i64 a0_4] 34 (0, 0)) (by (with_reducible repeat (first | refine blk_drewN ?_ _ | refine blk_drew ?_ | refine blk_alloc ?_ _)); exact BK761.out) hb)
  have n1_ := Aside0.mk (blk_below (g := gb762) (o := .cells #[.string a1_0, .bool a1_1, .string a1_2, .int .i64 a1_3, .int .i64 a1_4] 34 (0, 0)) (by (with_reducible repeat (first | refine blk_drewN ?_ _ | refine blk_drew ?_ | refine blk_alloc ?_ _)); exact BK762.out) hb)
  have n2_ := Aside0.mk (blk_below (g := gb763) (o := .cells #[.string (⟨#[]⟩ : ByteArray), .bool false, .string (⟨#[]⟩ : ByteArray), .int .i64 0, .int .i64 0] 34 (0, 0)) (by (with_reducible repeat (first | refine blk_drewN ?_ _ | refine blk_drew ?_ | refine blk_alloc ?_ _)); exact BK763.out) hb)
  have n3_ := Aside0.mk (below_step (by repeat (first | (with_reducible first | exact HB.out | apply below_alloc | apply pw_below_drewN | apply below_drew1 | refine below_set ?_ GE761.out | refine below_set ?_ GE762.out | refine below_set ?_ GE763.out) | exact HB.out)) hb)
  clear BK761
  clear BK762
  clear BK763
  clear HB
  have BK761 := n0_
  have BK762 := n1_
  have BK763 := n2_
  have HB := n3_
  clear n0_ n1_ n2_ n3_
  (try clear hb)
  (try clear hb2)
  (try clear hk)
  (try clear hi)
  refine hK.out _ _ ⟨(blk_cell BK761.out 0).trans rfl, (blk_cell BK761.out 1).trans rfl, (blk_cell BK761.out 2).trans rfl, (blk_cell BK761.out 3).trans rfl, (blk_cell BK761.out 4).trans rfl, (blk_cell BK762.out 0).trans rfl, (blk_cell BK762.out 1).trans rfl, (blk_cell BK762.out 2).trans rfl, (blk_cell BK762.out 3).trans rfl, (blk_cell BK762.out 4).trans rfl⟩ (fun hHeld => ?_)
  clear hK K
  refine norm_ (a' := ?_) ?_ ?_
  rotate_left
  · show Act.put _ (some 11) _ = _
    simp only [Act.put, List.setIfInBounds_toArray, List.set_cons_zero, List.set_cons_succ, i64_w, i32_w]
    rfl
  refine one_ (i := 7) (N := some 12) #[true, true, true, true, true, true, true, true, false, false] rfl rfl (one_of HT_.out (by kernel_rfl)) (by decide) (fun K hK => ?_)
  refine goes_ Tryz.func65 (by kernel_rfl) rfl #[cpx t766] (by rfl) rfl rfl (by (try simp only [List.map_toArray, List.map_cons, List.map_nil]); first | done | rfl | (simp only [List.length_drop, List.length_take]; rfl)) ?_
  with_reducible refine (clock_Pair.calls t766 t767 t768 _ A6.out).mono ?_
  rintro e w14 ⟨rfl, hb⟩
  refine ⟨_, rfl, ?_⟩
  have n0_ := Aside0.mk (blk_below (g := gb761) (o := .cells #[.string a0_0, .bool a0_1, .string a0_2, .int .i64 a0_3, .int .i64 a0_4] 34 (0, 0)) (by (with_reducible repeat (first | refine blk_drewN ?_ _ | refine blk_drew ?_ | refine blk_alloc ?_ _)); exact BK761.out) hb)
  have n1_ := Aside0.mk (blk_below (g := gb762) (o := .cells #[.string a1_0, .bool a1_1, .string a1_2, .int .i64 a1_3, .int .i64 a1_4] 34 (0, 0)) (by (with_reducible repeat (first | refine blk_drewN ?_ _ | refine blk_drew ?_ | refine blk_alloc ?_ _)); exact BK762.out) hb)
  have n2_ := Aside0.mk (blk_below (g := gb763) (o := .cells #[.string (⟨#[]⟩ : ByteArray), .bool false, .string (⟨#[]⟩ : ByteArray), .int .i64 0, .int .i64 0] 34 (0, 0)) (by (with_reducible repeat (first | refine blk_drewN ?_ _ | refine blk_drew ?_ | refine blk_alloc ?_ _)); exact BK763.out) hb)
  have n3_ := Aside0.mk (below_step (by repeat (first | (with_reducible first | exact HB.out | apply below_alloc | apply pw_below_drewN | apply below_drew1 | refine below_set ?_ GE761.out | refine below_set ?_ GE762.out | refine below_set ?_ GE763.out) | exact HB.out)) hb)
  clear BK761
  clear BK762
  clear BK763
  clear HB
  have BK761 := n0_
  have BK762 := n1_
  have BK763 := n2_
  have HB := n3_
  clear n0_ n1_ n2_ n3_
  (try clear hb)
  (try clear hb2)
  (try clear hk)
  (try clear hi)
  refine hK.out _ _ ⟨(blk_cell BK761.out 0).trans rfl, (blk_cell BK761.out 1).trans rfl, (blk_cell BK761.out 2).trans rfl, (blk_cell BK761.out 3).trans rfl, (blk_cell BK761.out 4).trans rfl, (blk_cell BK762.out 0).trans rfl, (blk_cell BK762.out 1).trans rfl, (blk_cell BK762.out 2).trans rfl, (blk_cell BK762.out 3).trans rfl, (blk_cell BK762.out 4).trans rfl⟩ (fun hHeld => ?_)
  clear hK K
  refine norm_ (a' := ?_) ?_ ?_
  rotate_left
  · show Act.put _ (some 12) _ = _
    simp only [Act.put, List.setIfInBounds_toArray, List.set_cons_zero, List.set_cons_succ, i64_w, i32_w]
    rfl
  refine pure_ (i := 8) (N := some 13) (v := ?_) (a' := ?_) #[true, true, true, true, true, true, true, true, true, false] rfl rfl (any_of HT_.out (by kernel_rfl)) (fun _ _ _ h => h) (Or.inl ⟨by rfl, ?_⟩) ?_ ?_
  rotate_left
  · intro w'
    go_simp
    with_reducible rfl
  rotate_left
  · simp only [Act.put, List.setIfInBounds_toArray, List.set_cons_zero, List.set_cons_succ, i64_w, i32_w]
    rfl
  refine last_ (i := 9) (N := none) #[true, true, true, true, true, true, true, true, true, true] rfl rfl (one_of HT_.out (by kernel_rfl)) (by decide) (fun K hK => ?_)
  have hs15 : w14.cell? ⟨gb761, 3, none⟩ = some (.int .i64 a0_3) := (blk_cell BK761.out 3).trans rfl
  have hfs15 := blk_frozen BK761.out 3
  have hns15_1 := NB762_761.out
  have hns15_2 := NB763_761.out
  have hms15_1 := NB761_762.out
  have hms15_2 := NB761_763.out
  have hs16 : w14.cell? ⟨gb761, 4, none⟩ = some (.int .i64 a0_4) := (blk_cell BK761.out 4).trans rfl
  have hfs16 := blk_frozen BK761.out 4
  have hns16_1 := NB762_761.out
  have hns16_2 := NB763_761.out
  have hms16_1 := NB761_762.out
  have hms16_2 := NB761_763.out
  refine skip_ (w1 := ?_) (by rfl) rfl ?_ ?_
  rotate_left
  · go_simp
    rfl
  refine hK.out _ _ ?_
  clear hK K
  refine done_ (done_of HT_.out (by kernel_rfl)) ?_
  have hnb17 := NB761_762.out
  have hnc17 := NB762_761.out
  have hnb18 := NB761_763.out
  have hnc18 := NB763_761.out
  have hcz19_0 : w14.cell? ⟨gb761, 0, none⟩ = some (.string a0_0) := (blk_cell BK761.out 0).trans rfl
  have hcz19_1 : w14.cell? ⟨gb761, 1, none⟩ = some (.bool a0_1) := (blk_cell BK761.out 1).trans rfl
  have hcz19_2 : w14.cell? ⟨gb761, 2, none⟩ = some (.string a0_2) := (blk_cell BK761.out 2).trans rfl
  have hcz19_3 : w14.cell? ⟨gb761, 3, none⟩ = some (.int .i64 a0_3) := (blk_cell BK761.out 3).trans rfl
  have hcz19_4 : w14.cell? ⟨gb761, 4, none⟩ = some (.int .i64 a0_4) := (blk_cell BK761.out 4).trans rfl
  have hfz19_0 := blk_frozen BK761.out 0
  have hfz19_1 := blk_frozen BK761.out 1
  have hfz19_2 := blk_frozen BK761.out 2
  have hfz19_3 := blk_frozen BK761.out 3
  have hfz19_4 := blk_frozen BK761.out 4
  have hnb20 := NB763_762.out
  have hnc20 := NB762_763.out
  have hcz21_0 : w14.cell? ⟨gb763, 0, none⟩ = some (.string (⟨#[]⟩ : ByteArray)) := (blk_cell BK763.out 0).trans rfl
  have hcz21_1 : w14.cell? ⟨gb763, 1, none⟩ = some (.bool false) := (blk_cell BK763.out 1).trans rfl
  have hcz21_2 : w14.cell? ⟨gb763, 2, none⟩ = some (.string (⟨#[]⟩ : ByteArray)) := (blk_cell BK763.out 2).trans rfl
  have hcz21_3 : w14.cell? ⟨gb763, 3, none⟩ = some (.int .i64 0) := (blk_cell BK763.out 3).trans rfl
  have hcz21_4 : w14.cell? ⟨gb763, 4, none⟩ = some (.int .i64 0) := (blk_cell BK763.out 4).trans rfl
  have hfz21_0 := blk_frozen BK763.out 0
  have hfz21_1 := blk_frozen BK763.out 1
  have hfz21_2 := blk_frozen BK763.out 2
  have hfz21_3 := blk_frozen BK763.out 3
  have hfz21_4 := blk_frozen BK763.out 4
  try go_wp2
  refine bodyPost_ret (results_cell_row rfl _ _ gb763 34 #[.string a0_0, .bool a0_1, .string a0_2, .int .i64 t767, .int .i64 t768] (0, 0) _ rfl (by (with_reducible repeat (first | refine blk_drewN ?_ _ | refine blk_drew ?_ | refine blk_alloc ?_ _)); refine blk_put (cs := #[.string a0_0, .bool a0_1, .string a0_2, .int .i64 t767, .int .i64 0]) ?_ 4 _ rfl; (with_reducible repeat (first | refine blk_drewN ?_ _ | refine blk_drew ?_ | refine blk_alloc ?_ _)); refine blk_put (cs := #[.string a0_0, .bool a0_1, .string a0_2, .int .i64 0, .int .i64 0]) ?_ 3 _ rfl; (with_reducible repeat (first | refine blk_drewN ?_ _ | refine blk_drew ?_ | refine blk_alloc ?_ _)); refine blk_put (cs := #[.string a0_0, .bool a0_1, .string (⟨#[]⟩ : ByteArray), .int .i64 0, .int .i64 0]) ?_ 2 _ rfl; (with_reducible repeat (first | refine blk_drewN ?_ _ | refine blk_drew ?_ | refine blk_alloc ?_ _)); refine blk_put (cs := #[.string a0_0, .bool false, .string (⟨#[]⟩ : ByteArray), .int .i64 0, .int .i64 0]) ?_ 1 _ rfl; (with_reducible repeat (first | refine blk_drewN ?_ _ | refine blk_drew ?_ | refine blk_alloc ?_ _)); refine blk_put (cs := #[.string (⟨#[]⟩ : ByteArray), .bool false, .string (⟨#[]⟩ : ByteArray), .int .i64 0, .int .i64 0]) ?_ 0 _ rfl; (with_reducible repeat (first | refine blk_drewN ?_ _ | refine blk_drew ?_ | refine blk_alloc ?_ _)); refine blk_far ?_ NB763_761.out _; (with_reducible repeat (first | refine blk_drewN ?_ _ | refine blk_drew ?_ | refine blk_alloc ?_ _)); refine blk_far ?_ NB763_761.out _; (with_reducible repeat (first | refine blk_drewN ?_ _ | refine blk_drew ?_ | refine blk_alloc ?_ _)); exact BK763.out) Tryz.underlying34 rfl (by kernel_rfl)) rfl ?_
  exact ⟨by first | rfl | (simp [errW_none, errW_some] <;> rfl) | (simp [*, errW_none, errW_some] <;> rfl), by repeat (first | (with_reducible first | exact HB.out | apply below_alloc | apply pw_below_drewN | apply below_drew1 | refine below_set ?_ GE761.out | refine below_set ?_ GE762.out | refine below_set ?_ GE763.out) | exact HB.out)⟩
end Go.Proofs.YtlkmegeecmkkbaaGreatDoor.P
end
section
namespace Go.Proofs.YtlkmegeecmkkbaaGreatDoor.P
open Go.RowKit Go.Proofs.YtlkmegeecmkkbaaGreatDoorW.PrintWords Go.Proofs.YtlkmegeecmkkbaaGreatDoorW.PrintLast Go.Proofs.YtlkmegeecmkkbaaGreatDoorW.PrintMore
attribute [local go_sem] max2_int min2_int max_two min_two max_three min_three max_four min_four   -- for this text's walks alone
attribute [local go_sem] str_leq str_gtr str_geq
set_option linter.unusedVariables false
set_option linter.unusedSimpArgs false
def recon_value.f (a0_0 : ByteArray) (a0_1 : Bool) (a0_2 : ByteArray) (a0_3 : Int) (a0_4 : Int) (a1_0 : ByteArray) (a1_1 : Bool) (a1_2 : ByteArray) (a1_3 : Int) (a1_4 : Int) : Option (Bool) := if (a0_1 == a1_1) = true then (some (a0_2.toList == a1_2.toList)) else (some false)
set_option maxHeartbeats 8000000 in
set_option maxRecDepth 100000 in
theorem recon_value.calls (a0_0 : ByteArray) (a0_1 : Bool) (a0_2 : ByteArray) (a0_3 : Int) (a0_4 : Int) (a1_0 : ByteArray) (a1_1 : Bool) (a1_2 : ByteArray) (a1_3 : Int) (a1_4 : Int) (r : Bool) (w : World) (h : recon_value.f a0_0 a0_1 a0_2 a0_3 a0_4 a1_0 a1_1 a1_2 a1_3 a1_4 = some r) :
    Calls Tryz.prog 87 #[.agg #[.string a0_0, .bool a0_1, .string a0_2, .int .i64 a0_3, .int .i64 a0_4], .agg #[.string a1_0, .bool a1_1, .string a1_2, .int .i64 a1_3, .int .i64 a1_4]] w fun e w' => e = .returned (.bool r) ∧ Below w.heap.size w w' := by
  have hu34 := Tryz.underlying34
  have HB := Aside0.mk (Below.refl w.heap.size w)
  have H : (if (a0_1 == a1_1) = true then (some (a0_2.toList == a1_2.toList)) else (some false)) = some r := h
  clear h
  by_cases c3 : (a0_1 == a1_1) = true
  · rw [if_pos c3] at H
    have c3b0 : (a0_1 == a1_1) = true := c3
    (try (have c3b1 : decide (a0_1 = a1_1) = true := by simpa using c3))
    (try (have c3b2 : (a0_1 == a1_1) = true := by simpa using c3))
    clear c3
    obtain rfl := Option.some.inj H
    go_enter Tryz.func87, Tryz.ntmps87
    go_wp2_with (first | ((with_reducible refine gate_dst (N := 2) rfl ?_); refine box_event ?hg (N := 2) ?hd (cs := #[.string a0_0, .bool a0_1, .string a0_2, .int .i64 a0_3, .int .i64 a0_4]) (t := 34) ?hr ?_; (case hd => rfl); (case hg => rfl); (case hr => first | (go_simp; done) | (go_simp; rfl)); intro gb769 hg w4 hbox hb; have n0_ := Aside0.mk (below_step (by repeat (first | (with_reducible first | exact HB.out | apply below_alloc | apply pw_below_drewN | apply below_drew1) | exact HB.out)) hb); have n1_ := Aside0.mk (hbox); have n2_ := Aside0.mk ((by rw [hg]; exact (below_size (by repeat (first | (with_reducible first | exact HB.out | apply below_alloc | apply pw_below_drewN | apply below_drew1) | exact HB.out))) : w.heap.size ≤ gb769)); have n3_ := Aside0.mk ((by rw [hg]; exact (below_size (by repeat (first | (with_reducible first | exact HB.out | apply below_alloc | apply pw_below_drewN | apply below_drew1) | exact HB.out))) : w.heap.size ≤ gb769)); clear HB; have HB := n0_; have BK769 := n1_; have GW769 := n2_; have GE769 := n3_; clear n0_ n1_ n2_ n3_; clear hb hbox hg) | ((with_reducible refine gate_dst (N := 3) rfl ?_); refine box_event ?hg (N := 3) ?hd (cs := #[.string a1_0, .bool a1_1, .string a1_2, .int .i64 a1_3, .int .i64 a1_4]) (t := 34) ?hr ?_; (case hd => rfl); (case hg => rfl); (case hr => first | (go_simp; done) | (go_simp; rfl)); intro gb770 hg w5 hbox hb; have n0_ := Aside0.mk (blk_below (g := gb769) (o := .cells #[.string a0_0, .bool a0_1, .string a0_2, .int .i64 a0_3, .int .i64 a0_4] 34 (0, 0)) (by (with_reducible repeat (first | refine blk_drewN ?_ _ | refine blk_drew ?_ | refine blk_alloc ?_ _)); exact BK769.out) hb); have n1_ := Aside0.mk (below_step (by repeat (first | (with_reducible first | exact HB.out | apply below_alloc | apply pw_below_drewN | apply below_drew1 | refine below_set ?_ GE769.out) | exact HB.out)) hb); have n2_ := Aside0.mk (hbox); have n3_ := Aside0.mk ((by rw [hg]; exact (below_size (by repeat (first | (with_reducible first | exact HB.out | apply below_alloc | apply pw_below_drewN | apply below_drew1 | refine below_set ?_ GE769.out) | exact HB.out))) : w.heap.size ≤ gb770)); have n4_ := Aside0.mk ((by rw [hg]; exact (below_size (by repeat (first | (with_reducible first | exact HB.out | apply below_alloc | apply pw_below_drewN | apply below_drew1 | refine below_set ?_ GE769.out) | exact HB.out))) : w.heap.size ≤ gb770)); have n5_ := Aside0.mk ((by rw [hg]; exact Nat.ne_of_lt (blk_lt (g := gb769) (o := .cells #[.string a0_0, .bool a0_1, .string a0_2, .int .i64 a0_3, .int .i64 a0_4] 34 (0, 0)) (by (with_reducible repeat (first | refine blk_drewN ?_ _ | refine blk_drew ?_ | refine blk_alloc ?_ _)); exact BK769.out)) : gb769 ≠ gb770)); have n6_ := Aside0.mk ((by rw [hg]; exact Nat.ne_of_gt (blk_lt (g := gb769) (o := .cells #[.string a0_0, .bool a0_1, .string a0_2, .int .i64 a0_3, .int .i64 a0_4] 34 (0, 0)) (by (with_reducible repeat (first | refine blk_drewN ?_ _ | refine blk_drew ?_ | refine blk_alloc ?_ _)); exact BK769.out)) : gb770 ≠ gb769)); clear BK769; clear HB; have BK769 := n0_; have HB := n1_; have BK770 := n2_; have GW770 := n3_; have GE770 := n4_; have NB769_770 := n5_; have NB770_769 := n6_; clear n0_ n1_ n2_ n3_ n4_ n5_ n6_; clear hb hbox hg; have hnb6 := NB769_770.out; have hnc6 := NB770_769.out; have hcz7_0 : w5.cell? ⟨gb769, 0, none⟩ = some (.string a0_0) := (blk_cell BK769.out 0).trans rfl; have hcz7_1 : w5.cell? ⟨gb769, 1, none⟩ = some (.bool a0_1) := (blk_cell BK769.out 1).trans rfl; have hcz7_2 : w5.cell? ⟨gb769, 2, none⟩ = some (.string a0_2) := (blk_cell BK769.out 2).trans rfl; have hcz7_3 : w5.cell? ⟨gb769, 3, none⟩ = some (.int .i64 a0_3) := (blk_cell BK769.out 3).trans rfl; have hcz7_4 : w5.cell? ⟨gb769, 4, none⟩ = some (.int .i64 a0_4) := (blk_cell BK769.out 4).trans rfl; have hfz7_0 := blk_frozen BK769.out 0; have hfz7_1 := blk_frozen BK769.out 1; have hfz7_2 := blk_frozen BK769.out 2; have hfz7_3 := blk_frozen BK769.out 3; have hfz7_4 := blk_frozen BK769.out 4; have hcz8_0 : w5.cell? ⟨gb770, 0, none⟩ = some (.string a1_0) := (blk_cell BK770.out 0).trans rfl; have hcz8_1 : w5.cell? ⟨gb770, 1, none⟩ = some (.bool a1_1) := (blk_cell BK770.out 1).trans rfl; have hcz8_2 : w5.cell? ⟨gb770, 2, none⟩ = some (.string a1_2) := (blk_cell BK770.out 2).trans rfl; have hcz8_3 : w5.cell? ⟨gb770, 3, none⟩ = some (.int .i64 a1_3) := (blk_cell BK770.out 3).trans rfl; have hcz8_4 : w5.cell? ⟨gb770, 4, none⟩ = some (.int .i64 a1_4) := (blk_cell BK770.out 4).trans rfl; have hfz8_0 := blk_frozen BK770.out 0; have hfz8_1 := blk_frozen BK770.out 1; have hfz8_2 := blk_frozen BK770.out 2; have hfz8_3 := blk_frozen BK770.out 3; have hfz8_4 := blk_frozen BK770.out 4))
    go_ret
    exact ⟨by first | rfl | (simp [errW_none, errW_some] <;> rfl) | (simp [*, errW_none, errW_some] <;> rfl), by repeat (first | (with_reducible first | exact HB.out | apply below_alloc | apply pw_below_drewN | apply below_drew1 | refine below_set ?_ GE769.out | refine below_set ?_ GE770.out) | exact HB.out)⟩
  · rw [if_neg c3] at H
    have c3b0 : (a0_1 == a1_1) = false := by simpa using c3
    (try (have c3b1 : decide (a0_1 = a1_1) = false := by simpa using c3))
    (try (have c3b2 : (a0_1 == a1_1) = false := by simpa using c3))
    (try (have c3b3 : ¬ (a0_1 = a1_1) := by simpa using c3))
    clear c3
    obtain rfl := Option.some.inj H
    go_enter Tryz.func87, Tryz.ntmps87
    go_wp2_with (first | ((with_reducible refine gate_dst (N := 2) rfl ?_); refine box_event ?hg (N := 2) ?hd (cs := #[.string a0_0, .bool a0_1, .string a0_2, .int .i64 a0_3, .int .i64 a0_4]) (t := 34) ?hr ?_; (case hd => rfl); (case hg => rfl); (case hr => first | (go_simp; done) | (go_simp; rfl)); intro gb769 hg w9 hbox hb; have n0_ := Aside0.mk (below_step (by repeat (first | (with_reducible first | exact HB.out | apply below_alloc | apply pw_below_drewN | apply below_drew1) | exact HB.out)) hb); have n1_ := Aside0.mk (hbox); have n2_ := Aside0.mk ((by rw [hg]; exact (below_size (by repeat (first | (with_reducible first | exact HB.out | apply below_alloc | apply pw_below_drewN | apply below_drew1) | exact HB.out))) : w.heap.size ≤ gb769)); have n3_ := Aside0.mk ((by rw [hg]; exact (below_size (by repeat (first | (with_reducible first | exact HB.out | apply below_alloc | apply pw_below_drewN | apply below_drew1) | exact HB.out))) : w.heap.size ≤ gb769)); clear HB; have HB := n0_; have BK769 := n1_; have GW769 := n2_; have GE769 := n3_; clear n0_ n1_ n2_ n3_; clear hb hbox hg) | ((with_reducible refine gate_dst (N := 3) rfl ?_); refine box_event ?hg (N := 3) ?hd (cs := #[.string a1_0, .bool a1_1, .string a1_2, .int .i64 a1_3, .int .i64 a1_4]) (t := 34) ?hr ?_; (case hd => rfl); (case hg => rfl); (case hr => first | (go_simp; done) | (go_simp; rfl)); intro gb770 hg w10 hbox hb; have n0_ := Aside0.mk (blk_below (g := gb769) (o := .cells #[.string a0_0, .bool a0_1, .string a0_2, .int .i64 a0_3, .int .i64 a0_4] 34 (0, 0)) (by (with_reducible repeat (first | refine blk_drewN ?_ _ | refine blk_drew ?_ | refine blk_alloc ?_ _)); exact BK769.out) hb); have n1_ := Aside0.mk (below_step (by repeat (first | (with_reducible first | exact HB.out | apply below_alloc | apply pw_below_drewN | apply below_drew1 | refine below_set ?_ GE769.out) | exact HB.out)) hb); have n2_ := Aside0.mk (hbox); have n3_ := Aside0.mk ((by rw [hg]; exact (below_size (by repeat (first | (with_reducible first | exact HB.out | apply below_alloc | apply pw_below_drewN | apply below_drew1 | refine below_set ?_ GE769.out) | exact HB.out))) : w.heap.size ≤ gb770)); have n4_ := Aside0.mk ((by rw [hg]; exact (below_size (by repeat (first | (with_reducible first | exact HB.out | apply below_alloc | apply pw_below_drewN | apply below_drew1 | refine below_set ?_ GE769.out) | exact HB.out))) : w.heap.size ≤ gb770)); have n5_ := Aside0.mk ((by rw [hg]; exact Nat.ne_of_lt (blk_lt (g := gb769) (o := .cells #[.string a0_0, .bool a0_1, .string a0_2, .int .i64 a0_3, .int .i64 a0_4] 34 (0, 0)) (by (with_reducible repeat (first | refine blk_drewN ?_ _ | refine blk_drew ?_ | refine blk_alloc ?_ _)); exact BK769.out)) : gb769 ≠ gb770)); have n6_ := Aside0.mk ((by rw [hg]; exact Nat.ne_of_gt (blk_lt (g := gb769) (o := .cells #[.string a0_0, .bool a0_1, .string a0_2, .int .i64 a0_3, .int .i64 a0_4] 34 (0, 0)) (by (with_reducible repeat (first | refine blk_drewN ?_ _ | refine blk_drew ?_ | refine blk_alloc ?_ _)); exact BK769.out)) : gb770 ≠ gb769)); clear BK769; clear HB; have BK769 := n0_; have HB := n1_; have BK770 := n2_; have GW770 := n3_; have GE770 := n4_; have NB769_770 := n5_; have NB770_769 := n6_; clear n0_ n1_ n2_ n3_ n4_ n5_ n6_; clear hb hbox hg; have hnb11 := NB769_770.out; have hnc11 := NB770_769.out; have hcz12_0 : w10.cell? ⟨gb769, 0, none⟩ = some (.string a0_0) := (blk_cell BK769.out 0).trans rfl; have hcz12_1 : w10.cell? ⟨gb769, 1, none⟩ = some (.bool a0_1) := (blk_cell BK769.out 1).trans rfl; have hcz12_2 : w10.cell? ⟨gb769, 2, none⟩ = some (.string a0_2) := (blk_cell BK769.out 2).trans rfl; have hcz12_3 : w10.cell? ⟨gb769, 3, none⟩ = some (.int .i64 a0_3) := (blk_cell BK769.out 3).trans rfl; have hcz12_4 : w10.cell? ⟨gb769, 4, none⟩ = some (.int .i64 a0_4) := (blk_cell BK769.out 4).trans rfl; have hfz12_0 := blk_frozen BK769.out 0; have hfz12_1 := blk_frozen BK769.out 1; have hfz12_2 := blk_frozen BK769.out 2; have hfz12_3 := blk_frozen BK769.out 3; have hfz12_4 := blk_frozen BK769.out 4; have hcz13_0 : w10.cell? ⟨gb770, 0, none⟩ = some (.string a1_0) := (blk_cell BK770.out 0).trans rfl; have hcz13_1 : w10.cell? ⟨gb770, 1, none⟩ = some (.bool a1_1) := (blk_cell BK770.out 1).trans rfl; have hcz13_2 : w10.cell? ⟨gb770, 2, none⟩ = some (.string a1_2) := (blk_cell BK770.out 2).trans rfl; have hcz13_3 : w10.cell? ⟨gb770, 3, none⟩ = some (.int .i64 a1_3) := (blk_cell BK770.out 3).trans rfl; have hcz13_4 : w10.cell? ⟨gb770, 4, none⟩ = some (.int .i64 a1_4) := (blk_cell BK770.out 4).trans rfl; have hfz13_0 := blk_frozen BK770.out 0; have hfz13_1 := blk_frozen BK770.out 1; have hfz13_2 := blk_frozen BK770.out 2; have hfz13_3 := blk_frozen BK770.out 3; have hfz13_4 := blk_frozen BK770.out 4))
    go_ret
    exact ⟨by first | rfl | (simp [errW_none, errW_some] <;> rfl) | (simp [*, errW_none, errW_some] <;> rfl), by repeat (first | (with_reducible first | exact HB.out | apply below_alloc | apply pw_below_drewN | apply below_drew1 | refine below_set ?_ GE769.out | refine below_set ?_ GE770.out) | exact HB.out)⟩
end Go.Proofs.YtlkmegeecmkkbaaGreatDoor.P
end

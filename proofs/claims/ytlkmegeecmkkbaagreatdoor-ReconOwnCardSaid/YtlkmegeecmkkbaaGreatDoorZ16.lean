/-
  Parts of the proof, one behind the other: GMapW, GMergeQ, GExt, GTwo, PscanFind, GClone, PscanCopy, PslicesIndexstringstring, PslicesContainsstringstring. Each is a contract of a function of the program, or a plain law; no condition of its own beyond what each theorem says.
-/
import Derived.Test.YtlkmegeecmkkbaaGreatDoorZ14
import Derived.Test.YtlkmegeecmkkbaaGreatDoorZ15
import Derived.Test.YtlkmegeecmkkbaaGreatDoorZ2
import Derived.Test.YtlkmegeecmkkbaaGreatDoorZ10
import Derived.Test.YtlkmegeecmkkbaaGreatDoorZ8
import Derived.Test.YtlkmegeecmkkbaaGreatDoorZ5
section
namespace Go.Proofs.YtlkmegeecmkkbaaGreatDoor.P
open Go Go.RowKit Go.Maps Go.Proofs.YtlkmegeecmkkbaaGreatDoorW.PrintWords Go.Proofs.YtlkmegeecmkkbaaGreatDoorW.PrintLast Go.Proofs.YtlkmegeecmkkbaaGreatDoorW.PrintMore
set_option linter.unusedVariables false
set_option linter.unusedSimpArgs false
def zeroE : S34 := ⟨⟨#[]⟩, false, ⟨#[]⟩, ⟨0, 0⟩⟩
theorem zero_Entry (w : World) : (zeroValue 34).run Tryz.prog w = .ok (.agg #[.string ⟨#[]⟩, .bool false, .string ⟨#[]⟩, .int .i64 0, .int .i64 0]) w := by kernel_rfl
section
variable {P : Program} (w : World) {ops : Array Oper} {rest : List Oper} {o : Oper} {a : Act} {Q : Exit → Act → World → Prop}
theorem wpList_look_some (hg : o.guard = none) (m x : Operand) (hop : o.op = Op.lookup 69 m x true) (b n : Nat) (D : DataW S34) (hm : a.eval m = .map (some b)) (hown : w.ownsMap Tryz.prog 9 entR b n D)
    (s : ByteArray) (hs : s.size < 4294967281) (hx : a.eval x = .string s) (e : S34) (hat : ∀ z, D.atKey (keyE s) z = .held e) (hhas : Maps.has D (keyE s) = true)
    (hK : wpList Tryz.prog ops Q rest (a.put o.dst (.tuple #[.agg #[.string e.f0, .bool e.f1, .string e.f2, .int .i64 e.f3.f0, .int .i64 e.f3.f1], .bool true])) w) :
    wpList Tryz.prog ops Q (o :: rest) a w := by
  refine wpList_lookup_own_ok w hg m x 69 hop 9 34 keyed_str und_map entR (zero_Entry w) (.held zeroE) [] (entR_mk zeroE) b n D hm hown (.string s) (keyE s) hx (keyE_mk hs) ?_
  intro v ps hv
  obtain ⟨e', rfl, h2⟩ := entR_inv hv
  rw [hat] at h2
  injection h2 with h2 _
  injection h2 with h2
  subst h2
  rw [hhas]
  exact hK
theorem wpList_look_none (hg : o.guard = none) (m x : Operand) (hop : o.op = Op.lookup 69 m x true) (b n : Nat) (D : DataW S34) (hm : a.eval m = .map (some b)) (hown : w.ownsMap Tryz.prog 9 entR b n D)
    (s : ByteArray) (hs : s.size < 4294967281) (hx : a.eval x = .string s) (hhas : Maps.has D (keyE s) = false)
    (hK : wpList Tryz.prog ops Q rest (a.put o.dst (.tuple #[.agg #[.string ⟨#[]⟩, .bool false, .string ⟨#[]⟩, .int .i64 0, .int .i64 0], .bool false])) w) :
    wpList Tryz.prog ops Q (o :: rest) a w := by
  refine wpList_lookup_own_ok w hg m x 69 hop 9 34 keyed_str und_map entR (zero_Entry w) (.held zeroE) [] (entR_mk zeroE) b n D hm hown (.string s) (keyE s) hx (keyE_mk hs) ?_
  intro v ps hv
  obtain ⟨e', rfl, h2⟩ := entR_inv hv
  rw [atKey_of_not_has hhas] at h2
  injection h2 with h2 _
  injection h2 with h2
  subst h2
  rw [hhas]
  exact hK
theorem wpList_look_plain (hg : o.guard = none) (m x : Operand) (hop : o.op = Op.lookup 69 m x false) (b n : Nat) (D : DataW S34) (hm : a.eval m = .map (some b)) (hown : w.ownsMap Tryz.prog 9 entR b n D)
    (s : ByteArray) (hs : s.size < 4294967281) (hx : a.eval x = .string s) (e : S34) (hat : ∀ z, D.atKey (keyE s) z = .held e)
    (hK : wpList Tryz.prog ops Q rest (a.put o.dst (.agg #[.string e.f0, .bool e.f1, .string e.f2, .int .i64 e.f3.f0, .int .i64 e.f3.f1])) w) :
    wpList Tryz.prog ops Q (o :: rest) a w := by
  refine wpList_plain hg fun K' hK' => ?_
  obtain ⟨v, ps, hrun, hv⟩ := hown.lookup keyed_str und_map (zero_Entry w) (entR_mk zeroE) (keyE_mk hs)
  obtain ⟨e', rfl, h2⟩ := entR_inv hv
  rw [hat] at h2
  injection h2 with h2 _
  injection h2 with h2
  subst h2
  unfold Oper.wp
  simp [execOp, hop, hm, hx, hrun, Result.andThen]
  exact hK' _ _ hK
theorem wpList_next_ent (hg : o.guard = none) (it : Operand) (hop : o.op = Op.next it false) (b r n : Nat) (l : List S34) (hn : nodupE l) (left : Lit → Bool) (cnt : Nat)
    (hit : a.eval it = .pointer (some ⟨r, 0, none⟩)) (h : w.ranges Tryz.prog 9 entR b r n (mapOf l) left cnt)
    (hDone : (∀ kl, left kl = false) → wpList Tryz.prog ops Q rest (a.put o.dst (.tuple #[.bool false])) w)
    (hMore : ∀ (c : S34) (w' : World) (cnt' : Nat), lookE l (pathL c) = some c → left (keyE c.f0) = true → w'.ranges Tryz.prog 9 entR b r n (mapOf l) (fun z => left z && !z.sameKey (keyE c.f0)) cnt' → cnt' < cnt →
      w.grownBy w' (some r) → w'.heap.size = w.heap.size → (Instr.entry (.pointer (some ⟨r, 0, none⟩))).run Tryz.prog w' = .ok (.tuple #[.string c.f0, .agg #[.string c.f0, .bool c.f1, .string c.f2, .int .i64 c.f3.f0, .int .i64 c.f3.f1]]) w' →
      wpList Tryz.prog ops Q rest (a.put o.dst (.tuple #[.bool true, .string c.f0, .agg #[.string c.f0, .bool c.f1, .string c.f2, .int .i64 c.f3.f0, .int .i64 c.f3.f1]])) w') :
    wpList Tryz.prog ops Q (o :: rest) a w := by
  refine wpList_next_ranges w hg it hop 9 keyed_str entR Go.Proofs.encStr entV (fun key kl h => by obtain ⟨x, hx, _⟩ := Maps.keyOf_str Tryz.underlying9 h; exact ⟨x, hx⟩) (fun v y h => by obtain ⟨e, he, _⟩ := entR_inv h; exact ⟨e, he⟩) b r n (mapOf l) left cnt hit h (fun _ hl => hDone hl) ?_
  intro x c kl y w' cnt' hkx hlk hv hat hrg hlt hg1 hs1 hen
  obtain ⟨x', ex, rfl, _⟩ := Maps.keyOf_str Tryz.underlying9 hkx
  obtain rfl := encStr_inj ex
  rw [entR_mk] at hv
  obtain rfl := Option.some.inj hv
  have hlo := look_of_at hn hat
  have hp := (lookE_mem hlo).2
  subst hp
  have hc : (⟨(pathL c).toArray⟩ : ByteArray) = c.f0 := BAof_path
  have hen' : (Instr.entry (.pointer (some ⟨r, 0, none⟩))).run Tryz.prog w' = .ok (.tuple #[.string c.f0, entV c]) w' := by rw [← hc]; simpa [encStr] using hen
  have := hMore c w' cnt' hlo hlk hrg hlt hg1 hs1 hen'
  rw [← hc] at this
  simpa [encStr, entV, hc] using this
end
theorem R_str_kept {w w' : World} {base B : Nat} {v : Value} {xs : List ByteArray} (h : Kd.R Kd.string 9 w base (fun _ => True) v xs) (hB : ∀ cells t z, w.heap[B]? ≠ some (.cells cells t z)) (hg : w.grownBy w' (some B)) : Kd.R Kd.string 9 w' base (fun _ => True) v xs := by
  have ho := Kd.own_of_R h
  refine Kd.R_of_own (own_move ho (fun k hk => ?_)) (fun _ _ => trivial)
  obtain ⟨cells, hc⟩ := own_typed ho k hk
  refine hg.block k (Array.getElem?_eq_some_iff.1 hc).1 (fun e => ?_)
  cases Option.some.inj e
  exact hB _ _ _ hc
theorem R_ne_nc {w : World} {base B : Nat} {ok : Nat → Prop} {v : Value} {xs : List ByteArray} (h : Kd.R Kd.string 9 w base ok v xs) (hB : ∀ cells t z, w.heap[B]? ≠ some (.cells cells t z)) : some B ≠ v.ownBlock := fun e => by
  obtain ⟨cells, hc⟩ := own_typed (Kd.own_of_R h) B e.symm
  exact hB _ _ _ hc
theorem notcells_map {w : World} {b n : Nat} {D : DataW S34} (h : w.ownsMap Tryz.prog 9 entR b n D) : ∀ cells t z, w.heap[b]? ≠ some (.cells cells t z) := by
  obtain ⟨es, clock, hb, _⟩ := h
  intro cells t z e
  rw [hb] at e
  cases e
theorem notcells_iter {w : World} {b r n : Nat} {D : DataW S34} {left : Lit → Bool} {cnt : Nat} (h : w.ranges Tryz.prog 9 entR b r n D left cnt) : ∀ cells t z, w.heap[r]? ≠ some (.cells cells t z) := by
  obtain ⟨es, clock, since, seen, c0, hb, F, hs, hD, hr, _⟩ := h
  intro cells t z e
  rw [hr] at e
  cases e
end Go.Proofs.YtlkmegeecmkkbaaGreatDoor.P
end
section
namespace Go.Proofs.YtlkmegeecmkkbaaGreatDoor.P
open Go Go.RowKit Go.Maps Go.Proofs.YtlkmegeecmkkbaaGreatDoorW.PrintWords Go.Proofs.YtlkmegeecmkkbaaGreatDoorW.PrintLast Go.Proofs.YtlkmegeecmkkbaaGreatDoorW.PrintMore
set_option linter.unusedVariables false
set_option linter.unusedSimpArgs false
theorem keys_of_map {a b : List S34} (ha : nodupE a) (hb : nodupE b) {w : World} {B n : Nat} {D : DataW S34} (ho : w.ownsMap Tryz.prog 9 entR B n D) (hh : ∀ x, Maps.has D (.string x) = (mergedE a b x).isSome)
    {ks : List (List UInt8)} (hp : ks.Perm (strKeys D)) : ks.mergeSort leB = keysM a b ∧ ks.length = (keysM a b).length := by
  have hc : Collected D (fun _ => false) (keysM a b) := ⟨keysM_nodup ha hb, fun x => by rw [mem_keysM, hh]; simp⟩
  have h1 := hc.perm ho keyed_str Tryz.underlying9 (fun _ => rfl)
  have h2 := hp.trans h1.symm
  exact ⟨by rw [mergeSort_of_perm h2, mergeSort_sorted (keysM_sorted a b)], h2.length_eq⟩
theorem come_path {a b : S34} (h : pathL a = pathL b) : pathL (comeE a b).1 = pathL a := by
  unfold comeE
  split
  · exact h.symm
  · split
    · rfl
    · split
      · rfl
      · rfl
theorem merged_path {a b : List S34} {x : List UInt8} {e : S34} (h : mergedE a b x = some e) : pathL e = x := by
  unfold mergedE at h
  cases ha : lookE a x with
  | none => rw [ha] at h; exact (lookE_mem h).2
  | some y =>
    cases hb : lookE b x with
    | none => rw [ha, hb] at h; obtain rfl := Option.some.inj h; exact (lookE_mem ha).2
    | some z =>
      rw [ha, hb] at h
      obtain rfl := Option.some.inj h
      rw [come_path ((lookE_mem ha).2.trans (lookE_mem hb).2.symm)]
      exact (lookE_mem ha).2
theorem key_short {a b : List S34} (ha : shortE a = true) (hb : shortE b = true) {x : List UInt8} (h : (mergedE a b x).isSome = true) : (BAof x).size < 4294967281 := by
  have key : ∀ {l : List S34} {e : S34}, shortE l = true → lookE l x = some e → (BAof x).size < 4294967281 := fun {l e} hl he => by
    have := shortE_of_mem hl (lookE_mem he).1
    rw [← (lookE_mem he).2, show BAof (pathL e) = e.f0 from BAof_path]
    exact this
  unfold mergedE at h
  cases hla : lookE a x with
  | some y => exact key ha hla
  | none =>
    rw [hla] at h
    cases hlb : lookE b x with
    | some z => exact key hb hlb
    | none => rw [hlb] at h; cases h
theorem keysM_length (a b : List S34) : (keysM a b).length ≤ a.length + b.length := by
  unfold keysM
  rw [List.length_mergeSort, List.length_append, List.length_map]
  have := List.length_filter_le (fun x => (lookE a x).isNone) (b.map pathL)
  rw [List.length_map] at this
  omega
theorem outM_length (a b : List S34) : (outM a b).length ≤ a.length + b.length := Nat.le_trans (List.length_filterMap_le _ _) (keysM_length a b)
theorem outM_short {a b : List S34} (ha : shortE a = true) (hb : shortE b = true) : shortE (outM a b) = true := by
  unfold shortE
  rw [List.all_eq_true]
  intro e he
  obtain ⟨x, hx, hm⟩ := List.mem_filterMap.1 he
  have := key_short ha hb (mem_keysM.1 hx)
  rw [← merged_path hm, show BAof (pathL e) = e.f0 from BAof_path] at this
  simpa using this
theorem take_filterMap_succ (a b : List S34) (K : List (List UInt8)) (i : Nat) (h : i < K.length) {e : S34} (hm : mergedE a b K[i] = some e) : (K.take (i + 1)).filterMap (mergedE a b) = (K.take i).filterMap (mergedE a b) ++ [e] := by
  rw [List.take_succ_eq_append_getElem h, List.filterMap_append]
  simp [hm]
theorem R_ne_nc' {α : Type} {d : Kd α} {e base B : Nat} {ok : Nat → Prop} {w : World} {v : Value} {xs : List α} (h : Kd.R d e w base ok v xs) (hB : ∀ cells t z, w.heap[B]? ≠ some (.cells cells t z)) : some B ≠ v.ownBlock := fun e => by
  obtain ⟨cells, hc⟩ := Kd.R_typed h B e.symm
  exact hB _ _ _ hc
end Go.Proofs.YtlkmegeecmkkbaaGreatDoor.P
end
section
namespace Go.Proofs.YtlkmegeecmkkbaaGreatDoor.P
open Go Go.RowKit Go.Maps
set_option linter.unusedVariables false
set_option linter.unusedSimpArgs false
def risingE (l : List S34) : Prop := l.Pairwise (fun a b => pathL a < pathL b)
theorem mem_look {l : List S34} (h : risingE l) {e : S34} : e ∈ l ↔ lookE l (pathL e) = some e := ⟨lookE_of_mem (nodup_of_rising h), fun h => (lookE_mem h).1⟩
theorem ext_rising {l l' : List S34} (h : risingE l) (h' : risingE l') (hl : ∀ x, lookE l x = lookE l' x) : l = l' := by
  have hp : l.Perm l' := by
    have n1 : l.Nodup := h.imp (fun {a b} hab e => by rw [e] at hab; exact List.lt_irrefl _ hab)
    have n2 : l'.Nodup := h'.imp (fun {a b} hab e => by rw [e] at hab; exact List.lt_irrefl _ hab)
    exact (List.perm_ext_iff_of_nodup n1 n2).2 (fun e => by rw [mem_look h, mem_look h', hl])
  exact List.Perm.eq_of_pairwise (le := fun a b => pathL a < pathL b) (fun a b _ _ h1 h2 => absurd (List.lt_trans h1 h2) (List.lt_irrefl _)) h h' hp
theorem keysM_rising {a b : List S34} (ha : nodupE a) (hb : nodupE b) : (keysM a b).Pairwise (fun x y => x < y) := by
  have h1 := keysM_sorted a b
  have h2 : (keysM a b).Pairwise (fun x y => x ≠ y) := keysM_nodup ha hb
  refine (h1.and h2).imp ?_
  rintro x y ⟨hle, hne⟩
  simp only [leB, decide_eq_true_eq] at hle
  rcases List.le_iff_lt_or_eq.1 hle with h | h
  · exact h
  · exact absurd h hne
theorem outM_rising {a b : List S34} (ha : nodupE a) (hb : nodupE b) : risingE (outM a b) := by
  unfold risingE outM
  rw [List.pairwise_filterMap]
  refine (keysM_rising ha hb).imp ?_
  intro x y hxy e he e' he'
  rw [merged_path he, merged_path he']
  exact hxy
theorem outM_look {a b : List S34} (ha : nodupE a) (hb : nodupE b) (x : List UInt8) : lookE (outM a b) x = mergedE a b x := by
  have hn := nodup_of_rising (outM_rising ha hb)
  cases hm : mergedE a b x with
  | some e =>
    have hk : x ∈ keysM a b := mem_keysM.2 (by rw [hm]; rfl)
    have hmem : e ∈ outM a b := List.mem_filterMap.2 ⟨x, hk, hm⟩
    have := lookE_of_mem hn hmem
    rwa [merged_path hm] at this
  | none =>
    rw [lookE_none]
    intro hx
    obtain ⟨e, he, rfl⟩ := List.mem_map.1 hx
    obtain ⟨y, hy, hm'⟩ := List.mem_filterMap.1 he
    rw [merged_path hm'] at hm
    rw [hm] at hm'
    cases hm'
end Go.Proofs.YtlkmegeecmkkbaaGreatDoor.P
end
section
namespace Go.Proofs.YtlkmegeecmkkbaaGreatDoor.P
open Go Go.RowKit Go.Maps
set_option linter.unusedVariables false
set_option linter.unusedSimpArgs false
set_option linter.unnecessarySimpa false
def outL : List S34 → List S34 → List S34
  | [], b => b
  | a, [] => a
  | x :: a, y :: b => if pathL x < pathL y then x :: outL a (y :: b) else if pathL y < pathL x then y :: outL (x :: a) b else (comeE x y).1 :: outL a b
termination_by a b => a.length + b.length
def confL : List S34 → List S34 → List (List UInt8)
  | [], b => []
  | a, [] => []
  | x :: a, y :: b => if pathL x < pathL y then confL a (y :: b) else if pathL y < pathL x then confL (x :: a) b else if (comeE x y).2 = true then pathL x :: confL a b else confL a b
termination_by a b => a.length + b.length
theorem lookE_cons (e : S34) (l : List S34) (x : List UInt8) : lookE (e :: l) x = if pathL e = x then some e else lookE l x := by
  unfold lookE
  by_cases h : pathL e = x
  · rw [if_pos h, List.find?_cons_of_pos (by simpa using h)]
  · rw [if_neg h, List.find?_cons_of_neg (by simpa using h)]
theorem look_above {l : List S34} {p : List UInt8} (h : ∀ e ∈ l, p < pathL e) : lookE l p = none := by
  rw [lookE_none]
  intro hx
  obtain ⟨e, he, hp⟩ := List.mem_map.1 hx
  have := h e he
  rw [hp] at this
  exact List.lt_irrefl _ this
theorem lt_tri {p q : List UInt8} (h1 : ¬ p < q) (h2 : ¬ q < p) : p = q := List.le_antisymm (List.not_lt.1 h2) (List.not_lt.1 h1)
theorem outL_above (p : List UInt8) (a b : List S34) : (∀ e ∈ a, p < pathL e) → (∀ e ∈ b, p < pathL e) → ∀ e ∈ outL a b, p < pathL e := by
  induction a, b using outL.induct with
  | case1 b => intro _ hb; simpa [outL] using hb
  | case2 a h => intro ha _; cases a <;> simpa [outL] using ha
  | case3 x a y b h ih =>
    intro ha hb e he
    rw [outL, if_pos h] at he
    rcases List.mem_cons.1 he with rfl | he
    · exact ha _ (by simp)
    · exact ih (fun e he => ha e (by simp [he])) hb e he
  | case4 x a y b h h' ih =>
    intro ha hb e he
    rw [outL, if_neg h, if_pos h'] at he
    rcases List.mem_cons.1 he with rfl | he
    · exact hb _ (by simp)
    · exact ih ha (fun e he => hb e (by simp [he])) e he
  | case5 x a y b h h' ih =>
    intro ha hb e he
    rw [outL, if_neg h, if_neg h'] at he
    rcases List.mem_cons.1 he with rfl | he
    · rw [come_path (lt_tri h h')]; exact ha _ (by simp)
    · exact ih (fun e he => ha e (by simp [he])) (fun e he => hb e (by simp [he])) e he
theorem outL_rising (a b : List S34) : risingE a → risingE b → risingE (outL a b) := by
  induction a, b using outL.induct with
  | case1 b => intro _ hb; simpa [outL] using hb
  | case2 a h => intro ha _; cases a <;> simpa [outL] using ha
  | case3 x a y b h ih =>
    intro ha hb
    rw [outL, if_pos h]
    have ha' := List.pairwise_cons.1 ha
    have hb' := List.pairwise_cons.1 hb
    refine List.pairwise_cons.2 ⟨?_, ih ha'.2 hb⟩
    exact outL_above _ _ _ ha'.1 (fun e he => by
      rcases List.mem_cons.1 he with rfl | he
      · exact h
      · exact List.lt_trans h (hb'.1 e he))
  | case4 x a y b h h' ih =>
    intro ha hb
    rw [outL, if_neg h, if_pos h']
    have ha' := List.pairwise_cons.1 ha
    have hb' := List.pairwise_cons.1 hb
    refine List.pairwise_cons.2 ⟨?_, ih ha hb'.2⟩
    exact outL_above _ _ _ (fun e he => by
      rcases List.mem_cons.1 he with rfl | he
      · exact h'
      · exact List.lt_trans h' (ha'.1 e he)) hb'.1
  | case5 x a y b h h' ih =>
    intro ha hb
    rw [outL, if_neg h, if_neg h']
    have ha' := List.pairwise_cons.1 ha
    have hb' := List.pairwise_cons.1 hb
    have e := lt_tri h h'
    refine List.pairwise_cons.2 ⟨?_, ih ha'.2 hb'.2⟩
    rw [come_path e]
    exact outL_above _ _ _ ha'.1 (by rw [e]; exact hb'.1)
theorem outL_look (x : List UInt8) (a b : List S34) : risingE a → risingE b → lookE (outL a b) x = mergedE a b x := by
  induction a, b using outL.induct with
  | case1 b => intro _ hb; simp [outL, mergedE, lookE]
  | case2 a h =>
    intro ha _
    cases a with
    | nil => simp [outL, mergedE, lookE]
    | cons e a => simp only [outL]; unfold mergedE; cases hl : lookE (e :: a) x <;> simp [lookE]
  | case3 y a z b h ih =>
    intro ha hb
    have ha' := List.pairwise_cons.1 ha
    have hb' := List.pairwise_cons.1 hb
    rw [outL, if_pos h, lookE_cons, ih ha'.2 hb]
    by_cases e : pathL y = x
    · rw [if_pos e]
      unfold mergedE
      rw [lookE_cons, if_pos e, look_above (l := z :: b) (p := x) (by
        rw [← e]
        intro w hw
        rcases List.mem_cons.1 hw with rfl | hw
        · exact h
        · exact List.lt_trans h (hb'.1 w hw))]
    · rw [if_neg e]
      unfold mergedE
      rw [lookE_cons y a, if_neg e]
  | case4 y a z b h h' ih =>
    intro ha hb
    have ha' := List.pairwise_cons.1 ha
    have hb' := List.pairwise_cons.1 hb
    rw [outL, if_neg h, if_pos h', lookE_cons, ih ha hb'.2]
    by_cases e : pathL z = x
    · rw [if_pos e]
      unfold mergedE
      rw [lookE_cons z b, if_pos e, look_above (l := y :: a) (p := x) (by
        rw [← e]
        intro w hw
        rcases List.mem_cons.1 hw with rfl | hw
        · exact h'
        · exact List.lt_trans h' (ha'.1 w hw))]
    · rw [if_neg e]
      unfold mergedE
      rw [lookE_cons z b, if_neg e]
  | case5 y a z b h h' ih =>
    intro ha hb
    have ha' := List.pairwise_cons.1 ha
    have hb' := List.pairwise_cons.1 hb
    have e0 := lt_tri h h'
    rw [outL, if_neg h, if_neg h', lookE_cons, ih ha'.2 hb'.2, come_path e0]
    by_cases e : pathL y = x
    · rw [if_pos e]
      unfold mergedE
      rw [lookE_cons y a, if_pos e, lookE_cons z b, if_pos (e0 ▸ e)]
    · rw [if_neg e]
      unfold mergedE
      rw [lookE_cons y a, if_neg e, lookE_cons z b, if_neg (fun e' => e (e0.trans e'))]
theorem outL_eq {a b : List S34} (ha : risingE a) (hb : risingE b) : outL a b = outM a b :=
  ext_rising (outL_rising a b ha hb) (outM_rising (nodup_of_rising ha) (nodup_of_rising hb)) (fun x => by rw [outL_look x a b ha hb, outM_look (nodup_of_rising ha) (nodup_of_rising hb)])
theorem confL_above (p : List UInt8) (a b : List S34) : (∀ e ∈ a, p < pathL e) → (∀ e ∈ b, p < pathL e) → ∀ x ∈ confL a b, p < x := by
  induction a, b using confL.induct with
  | case1 b => intro _ hb x hx; simp [confL] at hx
  | case2 a h => intro ha _ x hx; cases a <;> simp [confL] at hx
  | case3 x a y b h ih =>
    intro ha hb e he
    rw [confL, if_pos h] at he
    exact ih (fun e he => ha e (by simp [he])) hb e he
  | case4 x a y b h h' ih =>
    intro ha hb e he
    rw [confL, if_neg h, if_pos h'] at he
    exact ih ha (fun e he => hb e (by simp [he])) e he
  | case5 x a y b h h' hc ih =>
    intro ha hb e he
    rw [confL, if_neg h, if_neg h', if_pos hc] at he
    rcases List.mem_cons.1 he with rfl | he
    · exact ha _ (by simp)
    · exact ih (fun e he => ha e (by simp [he])) (fun e he => hb e (by simp [he])) e he
  | case6 x a y b h h' hc ih =>
    intro ha hb e he
    rw [confL, if_neg h, if_neg h', if_neg hc] at he
    exact ih (fun e he => ha e (by simp [he])) (fun e he => hb e (by simp [he])) e he
theorem confL_rising (a b : List S34) : risingE a → risingE b → (confL a b).Pairwise (fun x y => x < y) := by
  induction a, b using confL.induct with
  | case1 b => intro _ _; simp [confL]
  | case2 a h => intro _ _; cases a <;> simp [confL]
  | case3 x a y b h ih =>
    intro ha hb
    rw [confL, if_pos h]
    exact ih (List.pairwise_cons.1 ha).2 hb
  | case4 x a y b h h' ih =>
    intro ha hb
    rw [confL, if_neg h, if_pos h']
    exact ih ha (List.pairwise_cons.1 hb).2
  | case5 x a y b h h' hc ih =>
    intro ha hb
    rw [confL, if_neg h, if_neg h', if_pos hc]
    have ha' := List.pairwise_cons.1 ha
    have hb' := List.pairwise_cons.1 hb
    exact List.pairwise_cons.2 ⟨confL_above _ _ _ ha'.1 (by rw [lt_tri h h']; exact hb'.1), ih ha'.2 hb'.2⟩
  | case6 x a y b h h' hc ih =>
    intro ha hb
    rw [confL, if_neg h, if_neg h', if_neg hc]
    exact ih (List.pairwise_cons.1 ha).2 (List.pairwise_cons.1 hb).2
theorem isConf_none_l {a b : List S34} {x : List UInt8} (h : lookE a x = none) : isConf a b x = false := by unfold isConf; rw [h]
theorem isConf_none_r {a b : List S34} {x : List UInt8} (h : lookE b x = none) : isConf a b x = false := by unfold isConf; rw [h]; cases lookE a x <;> rfl
theorem above_cons {p : List UInt8} {y : S34} {b : List S34} (h : p < pathL y) (hb : risingE (y :: b)) : ∀ e ∈ y :: b, p < pathL e := fun e he => by
  rcases List.mem_cons.1 he with rfl | he
  · exact h
  · exact List.lt_trans h ((List.pairwise_cons.1 hb).1 e he)
theorem confL_mem (x : List UInt8) (a b : List S34) : risingE a → risingE b → (x ∈ confL a b ↔ isConf a b x = true) := by
  induction a, b using confL.induct with
  | case1 b => intro _ _; simp [confL, isConf, lookE]
  | case2 a h => intro _ _; rw [isConf_none_r (by rfl)]; cases a <;> simp [confL]
  | case3 y a z b h ih =>
    intro ha hb
    have ha' := List.pairwise_cons.1 ha
    rw [confL, if_pos h, ih ha'.2 hb]
    by_cases e : pathL y = x
    · have hn : lookE (z :: b) x = none := look_above (by rw [← e]; exact above_cons h hb)
      rw [isConf_none_r hn, isConf_none_r hn]
    · unfold isConf; rw [lookE_cons y a, if_neg e]
  | case4 y a z b h h' ih =>
    intro ha hb
    have hb' := List.pairwise_cons.1 hb
    rw [confL, if_neg h, if_pos h', ih ha hb'.2]
    by_cases e : pathL z = x
    · have hn : lookE (y :: a) x = none := look_above (by rw [← e]; exact above_cons h' ha)
      rw [isConf_none_l hn, isConf_none_l hn]
    · unfold isConf; rw [lookE_cons z b, if_neg e]
  | case5 y a z b h h' hc ih =>
    intro ha hb
    have ha' := List.pairwise_cons.1 ha
    have hb' := List.pairwise_cons.1 hb
    have e0 := lt_tri h h'
    rw [confL, if_neg h, if_neg h', if_pos hc, List.mem_cons, ih ha'.2 hb'.2]
    by_cases e : pathL y = x
    · unfold isConf; rw [lookE_cons y a, if_pos e, lookE_cons z b, if_pos (e0 ▸ e)]
      simp [hc, e.symm]
    · unfold isConf; rw [lookE_cons y a, if_neg e, lookE_cons z b, if_neg (fun e' => e (e0.trans e'))]
      have hxy : ¬ x = pathL y := fun e' => e e'.symm
      exact ⟨fun h => h.resolve_left hxy, Or.inr⟩
  | case6 y a z b h h' hc ih =>
    intro ha hb
    have ha' := List.pairwise_cons.1 ha
    have hb' := List.pairwise_cons.1 hb
    have e0 := lt_tri h h'
    rw [confL, if_neg h, if_neg h', if_neg hc, ih ha'.2 hb'.2]
    by_cases e : pathL y = x
    · have h1 : lookE a x = none := look_above (by rw [← e]; exact ha'.1)
      rw [isConf_none_l h1]
      unfold isConf; rw [lookE_cons y a, if_pos e, lookE_cons z b, if_pos (e0 ▸ e)]
      simp [hc]
    · unfold isConf; rw [lookE_cons y a, if_neg e, lookE_cons z b, if_neg (fun e' => e (e0.trans e'))]
theorem confL_eq {a b : List S34} (ha : risingE a) (hb : risingE b) : confL a b = confM a b := by
  have hm : (confM a b).Pairwise (fun x y => x < y) := (keysM_rising (nodup_of_rising ha) (nodup_of_rising hb)).filter _
  have hl := confL_rising a b ha hb
  have n1 : (confL a b).Nodup := hl.imp (fun {x y} h e => by rw [e] at h; exact List.lt_irrefl _ h)
  have n2 : (confM a b).Nodup := hm.imp (fun {x y} h e => by rw [e] at h; exact List.lt_irrefl _ h)
  have hp : (confL a b).Perm (confM a b) := (List.perm_ext_iff_of_nodup n1 n2).2 (fun x => by
    rw [confL_mem x a b ha hb]
    unfold confM
    rw [List.mem_filter, mem_keysM]
    constructor
    · intro h
      refine ⟨?_, h⟩
      unfold isConf at h
      unfold mergedE
      cases hla : lookE a x <;> cases hlb : lookE b x <;> simp_all
    · exact fun h => h.2)
  exact List.Perm.eq_of_pairwise (le := fun a b => a < b) (fun a b _ _ h1 h2 => absurd (List.lt_trans h1 h2) (List.lt_irrefl _)) hl hm hp
end Go.Proofs.YtlkmegeecmkkbaaGreatDoor.P
end
section
namespace Go.Proofs.YtlkmegeecmkkbaaGreatDoor.P
open Go.RowKit Go.Proofs.YtlkmegeecmkkbaaGreatDoorW.PrintWords Go.Proofs.YtlkmegeecmkkbaaGreatDoorW.PrintLast Go.Proofs.YtlkmegeecmkkbaaGreatDoorW.PrintMore
attribute [local go_sem] max2_int min2_int max_two min_two max_three min_three max_four min_four   -- for this text's walks alone
attribute [local go_sem] str_leq str_gtr str_geq
set_option linter.unusedVariables false
set_option linter.unusedSimpArgs false
def scan_Find.f (l0 : List (S34)) (a1 : ByteArray) : Option (Int) := (scan_Right.f l0).bind fun t107 => (if t107 = true then ((scan_find.f l0 a1).bind fun t108 => (some t108)) else (some (-1)))
set_option maxHeartbeats 8000000 in
set_option maxRecDepth 100000 in
theorem scan_Find.calls (A0 : Option Addr) (c0 : Nat) (l0 : List (S34)) (a1 : ByteArray) (r : Int) (w : World) (hr0 : Kd.C k34 w A0 l0.length l0) (hc0 : l0.length ≤ c0) (h : scan_Find.f l0 a1 = some r) :
    Calls Tryz.prog 28 #[.slice A0 l0.length c0, .string a1] w fun e w' => e = .returned (.int .i64 r) ∧ Below w.heap.size w w' := by
  have HR0 := Aside0.mk hr0
  have HC0 := Aside0.mk hc0
  clear hr0 hc0
  have HB := Aside0.mk (Below.refl w.heap.size w)
  have H : ((scan_Right.f l0).bind fun t107 => (if t107 = true then ((scan_find.f l0 a1).bind fun t108 => (some t108)) else (some (-1)))) = some r := h
  clear h
  replace H := Option.bind_eq_some_iff.mp H
  obtain ⟨t107, A30, H⟩ := H
  replace H : (if t107 = true then ((scan_find.f l0 a1).bind fun t108 => (some t108)) else (some (-1))) = some r := H
  have A3 := Aside0.mk A30
  clear A30
  by_cases c4 : t107 = true
  · subst c4
    have H1 : ((scan_find.f l0 a1).bind fun t108 => (some t108)) = some r := by rw [if_pos rfl] at H; exact H
    clear H
    have H := H1
    clear H1
    replace H := Option.bind_eq_some_iff.mp H
    obtain ⟨t108, A50, H⟩ := H
    replace H : (some t108) = some r := H
    have A5 := Aside0.mk A50
    clear A50
    obtain rfl := Option.some.inj H
    go_enter Tryz.func28, Tryz.ntmps28
    go_wp2_with (first | ((with_reducible refine gate_callee (f := 26) rfl ?_); refine goesL_ (some 6) rfl rfl Tryz.func26 (by kernel_rfl) rfl #[.slice A0 l0.length c0] rfl (by (try simp only [List.map_toArray, List.map_cons, List.map_nil]); first | done | rfl | (simp only [List.length_drop, List.length_take]; rfl)) ?_; (with_reducible refine (scan_Right.calls _ _ l0 true _ ?side1 ?side2 A3.out).mono ?_); (case side1 => repeat (first | exact HR0.out | (with_reducible refine Kd.C_alloc ?_ _) | (with_reducible refine Kd.C_drewN ?_ _) | (with_reducible refine Kd.C_drew ?_))); (case side2 => exact HC0.out); rintro e w6 ⟨rfl, hb⟩; refine ⟨_, rfl, ?_⟩; have n0_ := Aside0.mk (below_step (by repeat (first | (with_reducible first | exact HB.out | apply below_alloc | apply pw_below_drewN | apply below_drew1) | exact HB.out)) hb); clear HB; have HB := n0_; clear n0_; (try clear hb); (try clear hb2); (try clear hk); (try clear hi)) | ((with_reducible refine gate_callee (f := 73) rfl ?_); refine goesL_ (some 10) rfl rfl Tryz.func73 (by kernel_rfl) rfl #[.slice A0 l0.length c0, .string a1] rfl (by (try simp only [List.map_toArray, List.map_cons, List.map_nil]); first | done | rfl | (simp only [List.length_drop, List.length_take]; rfl)) ?_; (with_reducible refine (scan_find.calls _ _ l0 a1 t108 _ ?side1 ?side2 A5.out).mono ?_); (case side1 => repeat (first | exact (Kd.C_below HR0.out HB.out) | (with_reducible refine Kd.C_alloc ?_ _) | (with_reducible refine Kd.C_drewN ?_ _) | (with_reducible refine Kd.C_drew ?_))); (case side2 => exact HC0.out); rintro e w7 ⟨rfl, hb⟩; refine ⟨_, rfl, ?_⟩; have n0_ := Aside0.mk (below_step (by repeat (first | (with_reducible first | exact HB.out | apply below_alloc | apply pw_below_drewN | apply below_drew1) | exact HB.out)) hb); clear HB; have HB := n0_; clear n0_; (try clear hb); (try clear hb2); (try clear hk); (try clear hi)))
    go_ret
    exact ⟨by first | rfl | (simp [errW_none, errW_some] <;> rfl) | (simp [*, errW_none, errW_some] <;> rfl), by repeat (first | (with_reducible first | exact HB.out | apply below_alloc | apply pw_below_drewN | apply below_drew1) | exact HB.out)⟩
  · replace c4 := Bool.eq_false_iff.mpr c4
    subst c4
    have H1 : (some (-1)) = some r := by rw [if_neg (show ¬ (false = true) by decide)] at H; exact H
    clear H
    have H := H1
    clear H1
    obtain rfl := Option.some.inj H
    go_enter Tryz.func28, Tryz.ntmps28
    go_wp2_with (first | ((with_reducible refine gate_callee (f := 26) rfl ?_); refine goesL_ (some 6) rfl rfl Tryz.func26 (by kernel_rfl) rfl #[.slice A0 l0.length c0] rfl (by (try simp only [List.map_toArray, List.map_cons, List.map_nil]); first | done | rfl | (simp only [List.length_drop, List.length_take]; rfl)) ?_; (with_reducible refine (scan_Right.calls _ _ l0 false _ ?side1 ?side2 A3.out).mono ?_); (case side1 => repeat (first | exact HR0.out | (with_reducible refine Kd.C_alloc ?_ _) | (with_reducible refine Kd.C_drewN ?_ _) | (with_reducible refine Kd.C_drew ?_))); (case side2 => exact HC0.out); rintro e w8 ⟨rfl, hb⟩; refine ⟨_, rfl, ?_⟩; have n0_ := Aside0.mk (below_step (by repeat (first | (with_reducible first | exact HB.out | apply below_alloc | apply pw_below_drewN | apply below_drew1) | exact HB.out)) hb); clear HB; have HB := n0_; clear n0_; (try clear hb); (try clear hb2); (try clear hk); (try clear hi)))
    go_ret
    exact ⟨by first | rfl | (simp [errW_none, errW_some] <;> rfl) | (simp [*, errW_none, errW_some] <;> rfl), by repeat (first | (with_reducible first | exact HB.out | apply below_alloc | apply pw_below_drewN | apply below_drew1) | exact HB.out)⟩
end Go.Proofs.YtlkmegeecmkkbaaGreatDoor.P
end
section
namespace Go.Proofs.YtlkmegeecmkkbaaGreatDoor.P
open Go.RowKit Go.Proofs.YtlkmegeecmkkbaaGreatDoorW.PrintWords Go.Proofs.YtlkmegeecmkkbaaGreatDoorW.PrintLast Go.Proofs.YtlkmegeecmkkbaaGreatDoorW.PrintMore
set_option linter.unusedVariables false
set_option linter.unusedSimpArgs false
set_option maxRecDepth 100000
theorem eqIn_slice {P : Program} {t e : TypeId} (ht : P.underlying t = some (.slice e)) (d : Nat) (a : Option Addr) (n c : Nat) (W : World) : (Op.equalIn (d + 1) t (.slice a n c) (.slice none 0 0)).run P W = .ok a.isNone W := by
  cases a <;> simp [Op.equalIn, run_underlying ht]
theorem eql_slice {P : Program} {t e : TypeId} (ht : P.underlying t = some (.slice e)) (a : Option Addr) (n c : Nat) (W : World) : (binOp .eql t (.slice a n c) (.slice none 0 0)).run P W = .ok (.bool a.isNone) W := by
  simp only [binOp]
  simp [Op.equal, Op.maxDepth, eqIn_slice ht 9999]
def clone_Entry.f (l0 : List S34) : Option (List S34) := if l0.length * 56 ≤ 140737488351232 then some l0 else none
set_option maxHeartbeats 2000000 in
theorem clone_Entry.calls (A0 : Option Addr) (c0 : Nat) (l0 : List S34) (r : List S34) (w : World) (hr0 : Kd.C k34 w A0 l0.length l0) (hc0 : l0.length ≤ c0) (h : clone_Entry.f l0 = some r) :
    Calls Tryz.prog 107 #[.slice A0 l0.length c0] w fun e w' => ∃ v0_ : Value, e = .returned (v0_) ∧ Kd.R k34 34 w' w.heap.size (fun _ => True) v0_ r ∧ Below w.heap.size w w' := by
  unfold clone_Entry.f at h
  split at h
  case isFalse => cases h
  rename_i hm
  obtain rfl := Option.some.inj h
  clear h
  have HR0 := Aside0.mk hr0
  clear hr0
  have HB := Aside0.mk (Below.refl w.heap.size w)
  cases A0 with
  | none =>
    have hl : l0 = [] := by
      rcases Nat.eq_zero_or_pos l0.length with h0 | h0
      · exact List.eq_nil_of_length_eq_zero h0
      · obtain ⟨ad, e, _⟩ := HR0.out.2.2 h0
        cases e
    subst hl
    have he := fun W => eql_slice Tryz.underlying22 none 0 c0 W
    simp only [Option.isNone_none] at he
    simp only [List.length_nil]
    go_enter Tryz.func107, Tryz.ntmps107
    go_wp2
    go_ret
    exact ⟨_, rfl, Kd.R_nil _ _ _ _ _, HB.out⟩
  | some ad =>
    have he := fun n W => eql_slice Tryz.underlying22 (some ad) n c0 W
    simp only [Option.isNone_some] at he
    go_enter Tryz.func107, Tryz.ntmps107
    go_wp2_with (first
      | ((with_reducible refine gate_dst (N := 5) rfl ?_); refine Kd.R_lit k34 _ 34 ?hg (N := 5) ?hd (xs := ([] : List (S34))) (inner := []) (ok := fun _ => True) (okp := fun _ => True) ?hr ?hp (fun _ hk => hk) trivial (Below.refl _ _) (Nat.le_refl _) (by simp) ?_; (case hd => rfl); (case hg => rfl); (case hr => first | (go_simp; done) | (go_simp; rfl)); (case hp => exact (Reps.none _ _)); intro v1 w1 ho1 hb1 hg_ hnew_; clear hg_ hnew_; have HO := Aside0.mk ho1; have HB1 := Aside0.mk hb1; clear ho1 hb1)
      | ((with_reducible refine gate_builtin (b := .append) (xs := #[.tmp 5, .tmp 6]) rfl ?_); at_builtin; refine Kd.R_append_rows k34 (w0 := w) w.heap.size rfl (.tmp 5) (.tmp 6) 22 34 (.agg #[(.string ⟨#[]⟩), (.bool false), (.string ⟨#[]⟩), (.int .i64 0), (.int .i64 0)]) 56 rfl Tryz.underlying22 info34 rfl (by decide) (by omega) v1 [] l0 _ _ _ (fun _ => True) (fun _ => False) rfl rfl (by exact HO.out) (Kd.C_below HR0.out HB1.out) (fun _ _ h => h) (fun _ h => h.elim) (fun _ _ => trivial) HB1.out HB1.out.size (by simp; omega) ?_; intro v2 w2 ho2 hb2 hg_ hat_; clear hg_ hat_; have HO2 := Aside0.mk ho2; have HB2 := Aside0.mk hb2; clear ho2 hb2; obtain ⟨Ao, co, eo⟩ := Kd.R_slice HO2.out; subst eo))
    go_ret
    exact ⟨_, rfl, HO2.out, HB2.out⟩
end Go.Proofs.YtlkmegeecmkkbaaGreatDoor.P
end
section
namespace Go.Proofs.YtlkmegeecmkkbaaGreatDoor.P
open Go.RowKit Go.Proofs.YtlkmegeecmkkbaaGreatDoorW.PrintWords Go.Proofs.YtlkmegeecmkkbaaGreatDoorW.PrintLast Go.Proofs.YtlkmegeecmkkbaaGreatDoorW.PrintMore
attribute [local go_sem] max2_int min2_int max_two min_two max_three min_three max_four min_four   -- for this text's walks alone
attribute [local go_sem] str_leq str_gtr str_geq
set_option linter.unusedVariables false
set_option linter.unusedSimpArgs false
def scan_Copy.f (l0 : List (S34)) : Option ((List (S34))) := (clone_Entry.f l0).bind fun t820 => (some t820)
set_option maxHeartbeats 8000000 in
set_option maxRecDepth 100000 in
theorem scan_Copy.calls (A0 : Option Addr) (c0 : Nat) (l0 : List (S34)) (r : List (S34)) (w : World) (hr0 : Kd.C k34 w A0 l0.length l0) (hc0 : l0.length ≤ c0) (h : scan_Copy.f l0 = some r) :
    Calls Tryz.prog 63 #[.slice A0 l0.length c0] w fun e w' => ∃ v0_ : Value, e = .returned (v0_) ∧ Kd.R k34 34 w' w.heap.size (fun _ => True) v0_ r ∧ Below w.heap.size w w' := by
  have HR0 := Aside0.mk hr0
  have HC0 := Aside0.mk hc0
  clear hr0 hc0
  have HB := Aside0.mk (Below.refl w.heap.size w)
  have H : ((clone_Entry.f l0).bind fun t820 => (some t820)) = some r := h
  clear h
  replace H := Option.bind_eq_some_iff.mp H
  obtain ⟨t820, A20, H⟩ := H
  replace H : (some t820) = some r := H
  have A2 := Aside0.mk A20
  clear A20
  obtain rfl := Option.some.inj H
  go_enter Tryz.func63, Tryz.ntmps63
  go_wp2_with (first | ((with_reducible refine gate_callee (f := 107) rfl ?_); refine goesL_ (some 4) rfl rfl Tryz.func107 (by kernel_rfl) rfl #[.slice A0 l0.length c0] rfl (by (try simp only [List.map_toArray, List.map_cons, List.map_nil]); first | done | rfl | (simp only [List.length_drop, List.length_take]; rfl)) ?_; (with_reducible refine (clone_Entry.calls _ _ l0 t820 _ ?side1 ?side2 A2.out).mono ?_); (case side1 => repeat (first | exact HR0.out | (with_reducible refine Kd.C_alloc ?_ _) | (with_reducible refine Kd.C_drewN ?_ _) | (with_reducible refine Kd.C_drew ?_))); (case side2 => exact HC0.out); rintro e w3 ⟨v821, rfl, ho0, hb⟩; refine ⟨_, rfl, ?_⟩; have n0_ := Aside0.mk (Kd.R_lower ho0 (below_size (by repeat (first | (with_reducible first | exact HB.out | apply below_alloc | apply pw_below_drewN | apply below_drew1) | exact HB.out)))); have n1_ := Aside0.mk (below_step (by repeat (first | (with_reducible first | exact HB.out | apply below_alloc | apply pw_below_drewN | apply below_drew1) | exact HB.out)) hb); clear HB; have HO822 := n0_; have HB := n1_; clear n0_ n1_; (try clear hb); (try clear hb2); (try clear hk); (try clear hi); (try clear ho0)))
  go_ret
  exact ⟨_, by first | rfl | (simp [errW_none, errW_some] <;> rfl) | (simp [*, errW_none, errW_some] <;> rfl), by (with_reducible repeat (first | apply Kd.R_alloc | apply Kd.R_drewN | apply Kd.R_drew)); exact HO822.out, by repeat (first | (with_reducible first | exact HB.out | apply below_alloc | apply pw_below_drewN | apply below_drew1) | exact HB.out)⟩
end Go.Proofs.YtlkmegeecmkkbaaGreatDoor.P
end
section
namespace Go.Proofs.YtlkmegeecmkkbaaGreatDoor.P
open Go.RowKit Go.Proofs.YtlkmegeecmkkbaaGreatDoorW.PrintWords Go.Proofs.YtlkmegeecmkkbaaGreatDoorW.PrintLast Go.Proofs.YtlkmegeecmkkbaaGreatDoorW.PrintMore
attribute [local go_sem] max2_int min2_int max_two min_two max_three min_three max_four min_four   -- for this text's walks alone
attribute [local go_sem] str_leq str_gtr str_geq
set_option linter.unusedVariables false
set_option linter.unusedSimpArgs false
def slices_Index_string_string.l0 : Nat → List ByteArray → ByteArray → Int → Int → Option (Int)
  | 0, _, _, _, _ => none
  | k + 1, x0, x1, x7, x8 => if x8 < x7 then (if 0 ≤ x8 then (if x8 < (x0.length : Int) then (if x1.toList = (rdOf ByteArray.empty x0 x8).toList then (some x8) else (slices_Index_string_string.l0 k x0 x1 x7 (wrap64 (x8 + 1)))) else (none)) else (none)) else (some (-1))
def slices_Index_string_string.f (k : Nat) (l0 : List ByteArray) (a1 : ByteArray) : Option (Int) := slices_Index_string_string.l0 k l0 a1 (l0.length : Int) 0
set_option maxHeartbeats 8000000 in
set_option maxRecDepth 100000 in
theorem slices_Index_string_string.calls (k : Nat) (A0 : Option Addr) (c0 : Nat) (l0 : List ByteArray) (a1 : ByteArray) (r : Int) (w : World) (hr0 : Kd.C Kd.string w A0 l0.length l0) (hc0 : l0.length ≤ c0) (h : slices_Index_string_string.f k l0 a1 = some r) :
    Calls Tryz.prog 106 #[.slice A0 l0.length c0, .string a1] w fun e w' => e = .returned (.int .i64 r) ∧ Drawn0 w w' := by
  have HR0 := Aside0.mk hr0
  have HC0 := Aside0.mk hc0
  clear hr0 hc0
  have H : (slices_Index_string_string.l0 k l0 a1 (l0.length : Int) 0) = some r := h
  clear h
  have H' := Aside0.mk H
  clear H
  go_enter Tryz.func106, Tryz.ntmps106
  go_wp2
  go_loopg [8] k (fun kq v8 w' => ∃ (x8_1 : Int), v8 = .int .i64 x8_1 ∧ Aside0 (slices_Index_string_string.l0 kq l0 a1 (l0.length : Int) x8_1 = some r) ∧ Aside0 (kq ≤ k) ∧ Drawn0 w w')
  case atStart => exact ⟨(0), (by first | rfl | (simp; done) | (simp [*]; done)), H', ⟨Nat.le_refl _⟩, by repeat (first | exact Drawn0.refl _ | apply Drawn0.step)⟩
  case round =>
    clear H'
    try clear c1
    try clear p2
    obtain ⟨x8_1, rfl, HA, HK1, ⟨m1, rfl⟩⟩ := hrel
    cases gk with
    | zero => exact absurd HA.out (by simp [slices_Index_string_string.l0])
    | succ k1 =>
      have H := HA.out
      clear HA
      simp only [slices_Index_string_string.l0] at H
      by_cases c3 : x8_1 < (l0.length : Int)
      · rw [if_pos c3] at H
        have c3b0 : decide (x8_1 < (l0.length : Int)) = true := decide_eq_true c3
        clear c3
        by_cases c4 : 0 ≤ x8_1
        · rw [if_pos c4] at H
          have c4b0 : decide (0 ≤ x8_1) = true := decide_eq_true c4
          clear c4
          by_cases c5 : x8_1 < (l0.length : Int)
          · rw [if_pos c5] at H
            have c5b0 : decide (x8_1 < (l0.length : Int)) = true := decide_eq_true c5
            clear c5
            by_cases c6 : a1.toList = (rdOf ByteArray.empty l0 x8_1).toList
            · rw [if_pos c6] at H
              have c6b0 : (a1.toList == (rdOf ByteArray.empty l0 x8_1).toList) = true := beq_iff_eq.mpr c6
              have c6b1 : (a1.toList != (rdOf ByteArray.empty l0 x8_1).toList) = false := bne_eq_false_iff_eq.mpr c6
              clear c6
              obtain rfl := Option.some.inj H
              have p823 : 0 ≤ (x8_1 : Int) := of_decide_eq_true (by first | (with_reducible assumption) | assumption)
              have q823 : x8_1 < (l0.length : Int) := of_decide_eq_true (by first | (with_reducible assumption) | assumption)
              obtain ⟨ad823, e823, hx823_0⟩ := Kd.at_string HR0.out x8_1 p823 q823
              cases e823
              replace p823 := eq_true p823
              replace q823 := eq_true q823
              go_wp2
              go_ret
              exact ⟨by first | rfl | (simp; done) | (simp [*]; done), by repeat (first | exact Drawn0.refl _ | apply Drawn0.step)⟩
            · rw [if_neg c6] at H
              have c6b0 : (a1.toList == (rdOf ByteArray.empty l0 x8_1).toList) = false := beq_eq_false_iff_ne.mpr c6
              have c6b1 : (a1.toList != (rdOf ByteArray.empty l0 x8_1).toList) = true := bne_iff_ne.mpr c6
              have H' := Aside0.mk H
              clear H
              have p823 : 0 ≤ (x8_1 : Int) := of_decide_eq_true (by first | (with_reducible assumption) | assumption)
              have q823 : x8_1 < (l0.length : Int) := of_decide_eq_true (by first | (with_reducible assumption) | assumption)
              obtain ⟨ad823, e823, hx823_0⟩ := Kd.at_string HR0.out x8_1 p823 q823
              cases e823
              replace p823 := eq_true p823
              replace q823 := eq_true q823
              go_wp2
              go_roundg k1
              case measure => have := HK1.out; omega
              case rel => exact ⟨(wrap64 (x8_1 + 1)), (by first | rfl | (simp; done) | (simp [*]; done)), H', ⟨by have := HK1.out; omega⟩, by repeat (first | exact Drawn0.refl _ | apply Drawn0.step)⟩
          · rw [if_neg c5] at H
            exact absurd H (by simp)
        · rw [if_neg c4] at H
          exact absurd H (by simp)
      · rw [if_neg c3] at H
        have c3b0 : decide (x8_1 < (l0.length : Int)) = false := decide_eq_false c3
        clear c3
        obtain rfl := Option.some.inj H
        go_wp2
        go_ret
        exact ⟨by first | rfl | (simp; done) | (simp [*]; done), by repeat (first | exact Drawn0.refl _ | apply Drawn0.step)⟩
end Go.Proofs.YtlkmegeecmkkbaaGreatDoor.P
end
section
namespace Go.Proofs.YtlkmegeecmkkbaaGreatDoor.P
open Go.RowKit Go.Proofs.YtlkmegeecmkkbaaGreatDoorW.PrintWords Go.Proofs.YtlkmegeecmkkbaaGreatDoorW.PrintLast Go.Proofs.YtlkmegeecmkkbaaGreatDoorW.PrintMore
attribute [local go_sem] max2_int min2_int max_two min_two max_three min_three max_four min_four   -- for this text's walks alone
attribute [local go_sem] str_leq str_gtr str_geq
set_option linter.unusedVariables false
set_option linter.unusedSimpArgs false
def slices_Contains_string_string.f (k : Nat) (l0 : List ByteArray) (a1 : ByteArray) : Option (Bool) := (slices_Index_string_string.f k l0 a1).bind fun t824 => (some (decide (t824 ≥ 0)))
set_option maxHeartbeats 8000000 in
set_option maxRecDepth 100000 in
theorem slices_Contains_string_string.calls (k : Nat) (A0 : Option Addr) (c0 : Nat) (l0 : List ByteArray) (a1 : ByteArray) (r : Bool) (w : World) (hr0 : Kd.C Kd.string w A0 l0.length l0) (hc0 : l0.length ≤ c0) (h : slices_Contains_string_string.f k l0 a1 = some r) :
    Calls Tryz.prog 62 #[.slice A0 l0.length c0, .string a1] w fun e w' => e = .returned (.bool r) ∧ Drawn0 w w' := by
  have HR0 := Aside0.mk hr0
  have HC0 := Aside0.mk hc0
  clear hr0 hc0
  have H : ((slices_Index_string_string.f k l0 a1).bind fun t824 => (some (decide (t824 ≥ 0)))) = some r := h
  clear h
  replace H := Option.bind_eq_some_iff.mp H
  obtain ⟨t824, A30, H⟩ := H
  replace H : (some (decide (t824 ≥ 0))) = some r := H
  have A3 := Aside0.mk A30
  clear A30
  obtain rfl := Option.some.inj H
  go_enter Tryz.func62, Tryz.ntmps62
  go_wp2_with (first | ((with_reducible refine gate_callee (f := 106) rfl ?_); refine goesL_ (some 7) rfl rfl Tryz.func106 (by kernel_rfl) rfl #[.slice A0 l0.length c0, .string a1] rfl (by (try simp only [List.map_toArray, List.map_cons, List.map_nil]); first | done | rfl | (simp only [List.length_drop, List.length_take]; rfl)) ?_; (with_reducible refine (slices_Index_string_string.calls k _ _ l0 a1 t824 _ ?side1 ?side2 A3.out).mono ?_); (case side1 => repeat (first | exact HR0.out | (with_reducible refine Kd.C_alloc ?_ _) | (with_reducible refine Kd.C_drewN ?_ _) | (with_reducible refine Kd.C_drew ?_))); (case side2 => exact HC0.out); rintro e w' ⟨rfl, ⟨nd, rfl⟩⟩; refine ⟨_, rfl, ?_⟩))
  go_ret
  exact ⟨by first | rfl | (simp; done) | (simp [*]; done), by repeat (first | exact Drawn0.refl _ | apply Drawn0.step)⟩
end Go.Proofs.YtlkmegeecmkkbaaGreatDoor.P
end

/- A table of codes in memory; what a row of rows keeps while one of them grows. -/
import Derived.Test.YtgbfkfmjbacemaaCnF
namespace Go.Proofs.Ytgbfkfmjbacemaa.Cn
open Go.RowKit Go.Proofs.YtgbfkfmjbacemaaW.PrintWords Go.Proofs.YtgbfkfmjbacemaaW.PrintLast Go.Proofs.YtgbfkfmjbacemaaW.PrintMore Go.Proofs.Ytgbfkfmjbacemaa.PCanonReads Go.Proofs.Ytgbfkfmjbacemaa.Lb
set_option linter.unusedVariables false
set_option linter.unusedSimpArgs false

/-- the cells of a Table. -/
def tbl (v0 v1 : Value) (ls : List Nat) (vs : List Value) (long : Int) : List Value := v0 :: v1 :: ((fl ls 16).map (fun x => Value.int .u32 x) ++ (vs ++ [Value.int .i64 long]))
section
variable {v0 v1 : Value} {ls : List Nat} {vs : List Value} {long : Int}
theorem tbl_size (h : vs.length = 16) : (tbl v0 v1 ls vs long).length = 35 := by simp [tbl, fl, h]
theorem tbl_first (j : Nat) (hj : j < 16) : (tbl v0 v1 ls vs long)[2 + j]? = some (.int .u32 (CN.first ls j : Int)) := by
  unfold tbl
  rw [show 2 + j = j + 1 + 1 by omega, List.getElem?_cons_succ, List.getElem?_cons_succ, List.getElem?_append_left (by simp [fl]; omega)]
  simp [fl, hj]
theorem tbl_row (j : Nat) (hj : j < 16) (h : vs.length = 16) : (tbl v0 v1 ls vs long)[18 + j]? = vs[j]? := by
  unfold tbl
  rw [show 18 + j = (16 + j) + 1 + 1 by omega, List.getElem?_cons_succ, List.getElem?_cons_succ, List.getElem?_append_right (by simp [fl]), List.getElem?_append_left (by simp [fl]; omega)]
  congr 1
  simp [fl]
theorem tbl_long (h : vs.length = 16) : (tbl v0 v1 ls vs long)[34]? = some (.int .i64 long) := by
  unfold tbl
  rw [show 34 = 32 + 1 + 1 by omega, List.getElem?_cons_succ, List.getElem?_cons_succ, List.getElem?_append_right (by simp [fl]), List.getElem?_append_right (by simp [fl, h])]
  simp [fl, h]
theorem tbl_set_row (j : Nat) (hj : j < 16) (h : vs.length = 16) (v : Value) : (tbl v0 v1 ls vs long).toArray.setIfInBounds (18 + j) v = (tbl v0 v1 ls (vs.set j v) long).toArray := by
  rw [List.setIfInBounds_toArray]
  congr 1
  unfold tbl
  rw [show 18 + j = (16 + j) + 1 + 1 by omega, List.set_cons_succ, List.set_cons_succ, List.set_append_right _ _ (by simp [fl]), List.set_append_left _ _ (by simp [fl]; omega)]
  congr 5
  simp [fl]
theorem tbl_set_long (h : vs.length = 16) (x : Int) : (tbl v0 v1 ls vs long).toArray.setIfInBounds 34 (.int .i64 x) = (tbl v0 v1 ls vs x).toArray := by
  rw [List.setIfInBounds_toArray]
  congr 1
  unfold tbl
  rw [show 34 = 32 + 1 + 1 by omega, List.set_cons_succ, List.set_cons_succ, List.set_append_right _ _ (by simp [fl]), List.set_append_right _ _ (by simp [fl, h])]
  simp [fl, h]
end

/-- the symbols below k of a length, in order; none of 0. -/
def sy (ls : List Nat) (k j : Nat) : List Nat := if j = 0 then [] else (List.range k).filter fun s => ls.getD s 0 == j
theorem sy_zero (ls : List Nat) (j : Nat) : sy ls 0 j = [] := by unfold sy; split <;> rfl
theorem sy_succ (ls : List Nat) (k j : Nat) (hk : k < ls.length) (hL : ls[k] ≠ 0) : sy ls (k + 1) j = if j = ls[k] then sy ls k j ++ [k] else sy ls k j := by
  have hd : ls.getD k 0 = ls[k] := by rw [List.getD_eq_getElem?_getD, List.getElem?_eq_getElem hk, Option.getD_some]
  unfold sy
  by_cases h0 : j = 0
  · subst h0
    rw [if_pos rfl, if_neg (by omega), if_pos rfl]
  · rw [if_neg h0, if_neg h0, List.range_succ, List.filter_append, List.filter_cons, hd]
    by_cases e : j = ls[k]
    · rw [if_pos e, if_pos (by simpa using e.symm)]; simp
    · rw [if_neg e, if_neg (by simpa using fun h => e h.symm)]; simp
theorem sy_same (ls : List Nat) (k j : Nat) (hk : k < ls.length) (hL : ls[k] = 0) : sy ls (k + 1) j = sy ls k j := by
  have hd : ls.getD k 0 = 0 := by rw [List.getD_eq_getElem?_getD, List.getElem?_eq_getElem hk, Option.getD_some, hL]
  unfold sy
  by_cases h0 : j = 0
  · rw [if_pos h0, if_pos h0]
  · rw [if_neg h0, if_neg h0, List.range_succ, List.filter_append, List.filter_cons, hd, if_neg (by simpa using fun h => h0 h.symm)]; simp
theorem sy_all (ls : List Nat) (j : Nat) (h : j ≠ 0) : sy ls ls.length j = CN.symsOf ls j := by unfold sy CN.symsOf; rw [if_neg h]
theorem sy_le (ls : List Nat) (k j : Nat) : (sy ls k j).length ≤ k := by
  unfold sy
  split
  · simp
  · exact Nat.le_trans (List.length_filter_le _ _) (by simp)
/-- the longest below k. -/
def lg (ls : List Nat) (k : Nat) : Nat := (ls.take k).foldl max 0
theorem lg_succ (ls : List Nat) (k : Nat) (hk : k < ls.length) : lg ls (k + 1) = max (lg ls k) ls[k] := by
  unfold lg
  rw [List.take_succ_eq_append_getElem hk, List.foldl_append]
  rfl

/-- the rows of a table that is being made: each its own, apart from each other and from the lengths' row. -/
def Rows16 (W : World) (B : Nat) (v0 : Value) (ls : List Nat) (k : Nat) (vs : List Value) : Prop :=
  vs.length = 16 ∧ (∀ j, j < 16 → Kd.R (Kd.int .i64) 3 W B (fun _ => True) (vs.getD j (.slice none 0 0)) (ints (sy ls k j))) ∧
  (∀ i j, i < 16 → j < 16 → i ≠ j → NeRow (vs.getD i (.slice none 0 0)) (vs.getD j (.slice none 0 0))) ∧ (∀ i, i < 16 → NeRow (vs.getD i (.slice none 0 0)) v0) ∧
  Kd.R (Kd.int .i64) 3 W B (fun _ => True) v0 (ints ls)
theorem Rows16.grown {W W1 : World} {B : Nat} {v0 : Value} {ls : List Nat} {k : Nat} {vs : List Value} (h : Rows16 W B v0 ls k vs)
    (hk : ∀ (g : Nat) (cs : Array Value), W.heap[g]? = some (Obj.cells cs 3 (0, 0)) → W1.heap[g]? = W.heap[g]?) : Rows16 W1 B v0 ls k vs := by
  have move : ∀ (v : Value) (xs : List Int), Kd.R (Kd.int .i64) 3 W B (fun _ => True) v xs → Kd.R (Kd.int .i64) 3 W1 B (fun _ => True) v xs := by
    intro v xs hr
    have ho := Kd.own_of_R hr
    exact Kd.R_of_own (own_move ho (fun q hq => by
      obtain ⟨cs, hc⟩ := own_typed ho q hq
      exact hk q cs hc)) (fun _ _ => trivial)
  exact ⟨h.1, fun j hj => move _ _ (h.2.1 j hj), h.2.2.1, h.2.2.2.1, move _ _ h.2.2.2.2⟩
theorem Rows16.start {W : World} {B : Nat} {v0 : Value} {ls : List Nat} (h0 : Kd.R (Kd.int .i64) 3 W B (fun _ => True) v0 (ints ls)) :
    Rows16 W B v0 ls 0 (List.replicate 16 (.slice none 0 0)) := by
  have e : ∀ j, j < 16 → (List.replicate 16 (Value.slice none 0 0)).getD j (.slice none 0 0) = .slice none 0 0 := by
    intro j hj
    rw [List.getD_eq_getElem?_getD, List.getElem?_replicate, if_pos hj, Option.getD_some]
  refine ⟨rfl, fun j hj => ?_, fun i j hi hj _ => ?_, fun i hi => ?_, h0⟩
  · rw [e j hj, sy_zero]; exact Kd.R_nil _ _ _ _ _
  · rw [e i hi]; exact ne_nil _
  · rw [e i hi]; exact ne_nil _
theorem Rows16.same {W : World} {B : Nat} {v0 : Value} {ls : List Nat} {k : Nat} {vs : List Value} (h : Rows16 W B v0 ls k vs) (hk : k < ls.length) (hL : ls[k] = 0) : Rows16 W B v0 ls (k + 1) vs :=
  ⟨h.1, fun j hj => by rw [sy_same ls k j hk hL]; exact h.2.1 j hj, h.2.2.1, h.2.2.2.1, h.2.2.2.2⟩
theorem Rows16.step {W W1 : World} {B : Nat} {v0 v1 : Value} {ls : List Nat} {k : Nat} {vs : List Value} (h : Rows16 W B v0 ls k vs) (hk : k < ls.length) (hL : ls[k] ≠ 0) (hL15 : ls[k] < 16)
    (hr : Kd.R (Kd.int .i64) 3 W1 B (fun _ => True) v1 (ints (sy ls k ls[k]) ++ [(k : Int)])) (hg : W.grownBy W1 (vs.getD ls[k] (.slice none 0 0)).ownBlock)
    (hat : v1.ownBlock = (vs.getD ls[k] (.slice none 0 0)).ownBlock ∨ ∃ b, v1.ownBlock = some b ∧ W.heap.size ≤ b) : Rows16 W1 B v0 ls (k + 1) (vs.set ls[k] v1) := by
  have hset : ∀ j, j < 16 → (vs.set ls[k] v1).getD j (.slice none 0 0) = if j = ls[k] then v1 else vs.getD j (.slice none 0 0) := by
    intro j hj
    rw [List.getD_eq_getElem?_getD, List.getElem?_set, h.1]
    by_cases e : j = ls[k]
    · rw [if_pos e.symm, if_pos (by omega), if_pos e, Option.getD_some]
    · rw [if_neg (fun q => e q.symm), if_neg e, List.getD_eq_getElem?_getD]
  have ne1 : ∀ j, j < 16 → j ≠ ls[k] → NeRow v1 (vs.getD j (.slice none 0 0)) := fun j hj hne =>
    ne_append (h.2.2.1 ls[k] j hL15 hj (fun e => hne e.symm)) hat (Kd.own_of_R (h.2.1 j hj))
  have ne0 : NeRow v1 v0 := ne_append (h.2.2.2.1 ls[k] hL15) hat (Kd.own_of_R h.2.2.2.2)
  have other : ∀ (v : Value) (xs : List Int), NeRow (vs.getD ls[k] (.slice none 0 0)) v → Kd.R (Kd.int .i64) 3 W B (fun _ => True) v xs → Kd.R (Kd.int .i64) 3 W1 B (fun _ => True) v xs := by
    intro v xs hne hv
    have ho := Kd.own_of_R hv
    exact Kd.R_of_own (own_other ho hg (ne_other hne)) (fun _ _ => trivial)
  refine ⟨by rw [List.length_set]; exact h.1, fun j hj => ?_, fun i j hi hj hij => ?_, fun i hi => ?_, other _ _ (h.2.2.2.1 ls[k] hL15) h.2.2.2.2⟩
  · rw [hset j hj, sy_succ ls k j hk hL]
    by_cases e : j = ls[k]
    · rw [if_pos e, if_pos e, e]
      simpa [ints] using hr
    · rw [if_neg e, if_neg e]
      exact other _ _ (h.2.2.1 ls[k] j hL15 hj (fun q => e q.symm)) (h.2.1 j hj)
  · rw [hset i hi, hset j hj]
    by_cases e : i = ls[k]
    · rw [if_pos e, if_neg (by omega)]
      exact ne1 j hj (by omega)
    · rw [if_neg e]
      by_cases e2 : j = ls[k]
      · rw [if_pos e2]; exact ne_symm (ne1 i hi e)
      · rw [if_neg e2]; exact h.2.2.1 i j hi hj hij
  · rw [hset i hi]
    by_cases e : i = ls[k]
    · rw [if_pos e]; exact ne0
    · rw [if_neg e]; exact h.2.2.2.1 i hi

/-- a table of codes, made. -/
def IsT (w : World) (g : Nat) (ls : List Nat) : Prop := ∃ (A0 A1 : Option Addr) (c0 c1 : Nat) (vs : List Value),
  w.heap[g]? = some (.cells (tbl (.slice A0 ls.length c0) (.slice A1 ls.length c1) ls vs (lg ls ls.length : Int)).toArray 58 (0, 0)) ∧
  Kd.C (Kd.int .i64) w A0 ls.length (ints ls) ∧ Kd.C (Kd.int .u32) w A1 ls.length (codes ls) ∧ vs.length = 16 ∧
  ∀ j, j < 16 → ∃ A c, vs[j]? = some (.slice A (sy ls ls.length j).length c) ∧ (sy ls ls.length j).length ≤ c ∧ Kd.C (Kd.int .i64) w A (sy ls ls.length j).length (ints (sy ls ls.length j))
theorem IsT.below {w w1 : World} {g : Nat} {ls : List Nat} (h : IsT w g ls) (hb : Below w.heap.size w w1) : IsT w1 g ls := by
  obtain ⟨A0, A1, c0, c1, vs, h1, h2, h3, h4, h5⟩ := h
  refine ⟨A0, A1, c0, c1, vs, blk_below h1 hb, Kd.C_below h2 hb, Kd.C_below h3 hb, h4, fun j hj => ?_⟩
  obtain ⟨A, c, e, hl, hc⟩ := h5 j hj
  exact ⟨A, c, e, hl, Kd.C_below hc hb⟩
end Go.Proofs.Ytgbfkfmjbacemaa.Cn

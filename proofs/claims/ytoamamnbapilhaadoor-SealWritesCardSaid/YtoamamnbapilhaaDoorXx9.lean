import Derived.Test.YtoamamnbapilhaaDoorXx0
import Derived.Test.YtoamamnbapilhaaDoorXx3
import Derived.Test.YtoamamnbapilhaaDoorXx4
import Derived.Test.YtoamamnbapilhaaDoorXx5
import Derived.Test.YtoamamnbapilhaaDoorXx6
import Derived.Test.YtoamamnbapilhaaDoorXx7
import Derived.Test.YtoamamnbapilhaaDoorXx8
namespace Go.Proofs.YtoamamnbapilhaaDoor.X
open Go.RowKit Go.Proofs.YtoamamnbapilhaaDoorW.PrintWords Go.Proofs.YtoamamnbapilhaaDoorW.PrintLast Go.Proofs.YtoamamnbapilhaaDoorW.PrintMore
attribute [local go_sem] max2_int min2_int max_two min_two max_three min_three max_four min_four
set_option linter.unusedVariables false
set_option linter.unusedSimpArgs false
def footlockerlaw24_alive.f (k : Nat)  : Option (Bool) := if 13 ≤ 281474976710656 then ((some (List.replicate 13 0 : List Int)).bind fun y276 => ((seal_Sums.f k (([y276, y276] : List (List Int))) 1 1 5 13).bind fun t282 => ((seal_Write.f k 1 1 5 13 0 t282 y276).bind fun bt286 => ((seal_Parse.f k bt286.1).bind fun bt290 => ((seal_Write.f k 1 1 5 13 0 t282 ([] : List Int)).bind fun bt303 => ((seal_Parse.f k ([] : List Int)).bind fun bt307 => (if (bt286.1.length : Int) = 45 then (if 44 ≤ (bt286.1.length : Int) then ((seal_Parse.f k (bt286.1.take 44)).bind fun bt325 => ((seal_Head.f 1 1 5 13).bind fun t338 => (if t338 = 32 then (if bt286.2 = 0 then ((footlockerlaw24_as.f bt290.1 bt290.2.1 bt290.2.2.1 bt290.2.2.2.1 bt290.2.2.2.2.1 bt290.2.2.2.2.2.1).bind fun bt339 => ((footlockerlaw24_as.f 1 1 5 13 0 t282).bind fun bt347 => ((footlockerlaw24_same.f k bt339.1 bt339.2.1 bt339.2.2.1 bt339.2.2.2.1 bt339.2.2.2.2.1 bt339.2.2.2.2.2 bt347.1 bt347.2.1 bt347.2.2.1 bt347.2.2.2.1 bt347.2.2.2.2.1 bt347.2.2.2.2.2).bind fun t355 => (if t355 = true then ((footlockerref01_Same.f k bt290.2.2.2.2.2.2.1 y276).bind fun t356 => (if t356 = true then (if bt290.2.2.2.2.2.2.2 = 0 then (if bt303.2 = 1 then (if bt307.2.2.2.2.2.2.2 = 44 then (if bt325.2.2.2.2.2.2.2 = 20 then ((seal_Head.f 0 0 0 0).bind fun t357 => (some (t357 == 0))) else (none)) else (none)) else (none)) else (none)) else (none))) else (none))))) else (none)) else (none)))) else (none)) else (none)))))))) else (none)
theorem footlockerlaw24_alive.mono : ∀ k, LeO (footlockerlaw24_alive.f k ) (footlockerlaw24_alive.f (k + 1) ) := by
 intro  k
 unfold footlockerlaw24_alive.f
 repeat' first
   | (with_reducible exact footlockerlaw24_same.mono _ _ _ _ _ _ _ _ _ _ _ _ _)
   | (with_reducible exact footlockerref01_Same.mono _ _ _)
   | (with_reducible exact seal_Parse.mono _ _)
   | (with_reducible exact seal_Sums.mono _ _ _ _ _ _)
   | (with_reducible exact seal_Write.mono _ _ _ _ _ _ _ _)
   | (with_reducible exact LeO.refl _)
   | (with_reducible exact LeO.none _)
   | (with_reducible refine LeO.ite ?_ ?_)
   | (with_reducible refine LeO.bind ?_ (fun _ => ?_))
   | exact footlockerlaw24_same.mono _ _ _ _ _ _ _ _ _ _ _ _ _
   | exact footlockerref01_Same.mono _ _ _
   | exact seal_Parse.mono _ _
   | exact seal_Sums.mono _ _ _ _ _ _
   | exact seal_Write.mono _ _ _ _ _ _ _ _
   | exact LeO.none _
   | refine LeO.ite ?_ ?_
   | refine LeO.bind ?_ (fun _ => ?_)
def footlockerlaw24_alive.T3 : Bool × List (List Nat × List Nat) := (true, [([], []), ([], []), ([], []), ([1, 2], [1, 2]), ([], []), ([3, 4], [3, 4]), ([0, 5], [0, 5]), ([], []), ([7, 6, 5, 0, 1, 2, 3, 4, 5, 6, 7], [6, 7])])
def footlockerlaw24_alive.B3 : List Nat := [0, 0, 0, 6, 0, 30, 63, 0, 255]
theorem footlockerlaw24_alive.tab3 : rtab .any (opsOf Tryd.f7 3) = footlockerlaw24_alive.T3 := by kernel_rfl
theorem footlockerlaw24_alive.bits3 : waitsOk footlockerlaw24_alive.T3.2 footlockerlaw24_alive.B3 = true := by kernel_rfl
def footlockerlaw24_alive.T11 : Bool × List (List Nat × List Nat) := (true, [([], []), ([0], [0]), ([1], [1]), ([2, 1], [2]), ([3], [3]), ([4, 3], [3, 4]), ([3, 5], [3, 5]), ([6, 3], [6]), ([7], [7]), ([8, 7, 7], [7, 8]), ([7], [7]), ([10, 9, 7], [7, 10]), ([9, 11, 11, 7], [7, 9, 11]), ([7, 12], [7, 12]), ([13, 12], [13]), ([14], [14]), ([14], [14]), ([15, 16, 14, 14], [14, 15, 16]), ([14, 17], [14, 17]), ([18, 17], [18]), ([19], [19]), ([20, 19], [19, 20]), ([19, 21], [19, 21]), ([22, 19], [22]), ([23], [23]), ([24, 23], [23, 24]), ([23, 25], [23, 25]), ([26, 23], [26]), ([27], [27]), ([28, 27], [27, 28]), ([27, 29], [27, 29]), ([30, 27], [30]), ([31], [31]), ([32, 31], [31, 32]), ([31, 33], [31, 33]), ([34, 31], [34]), ([35], [35]), ([36, 35, 35], [35, 36]), ([37, 35], [35, 37]), ([35, 38], [35, 38]), ([39, 37, 0, 1, 2, 3, 4, 5, 6, 7, 8, 9, 10, 11, 12, 13, 14, 15, 16, 17, 18, 19, 20, 21, 22, 23, 24, 25, 26, 27, 28, 29, 30, 31, 32, 33, 34, 35, 36, 37, 38, 39], [39])])
def footlockerlaw24_alive.B11 : List Nat := [0, 1, 3, 7, 15, 31, 63, 127, 255, 511, 255, 2047, 4095, 8191, 16383, 32767, 32767, 131071, 262143, 524287, 1048575, 2097151, 4194303, 8388607, 16777215, 33554431, 67108863, 134217727, 268435455, 536870911, 1073741823, 2147483647, 4294967295, 8589934591, 17179869183, 34359738367, 68719476735, 137438953471, 274877906943, 549755813887, 1099511627775]
theorem footlockerlaw24_alive.tab11 : rtab .any (opsOf Tryd.f7 11) = footlockerlaw24_alive.T11 := by kernel_rfl
theorem footlockerlaw24_alive.bits11 : waitsOk footlockerlaw24_alive.T11.2 footlockerlaw24_alive.B11 = true := by kernel_rfl
set_option maxHeartbeats 8000000 in
set_option maxRecDepth 100000 in
theorem footlockerlaw24_alive.calls (k : Nat)  (r : Bool) (w : World) (hG : Glob w) (h : footlockerlaw24_alive.f k  = some r) :
  Calls Tryd.prog 7 #[] w fun e w' => e = .returned (.bool r) ∧ Below w.heap.size w w' := by
 have hu23 := Tryd.underlying23
 have hu26 := Tryd.underlying26
 have HB := kzA (Below.refl w.heap.size w)
 have H : (if 13 ≤ 281474976710656 then ((some (List.replicate 13 0 : List Int)).bind fun y276 => ((seal_Sums.f k (([y276, y276] : List (List Int))) 1 1 5 13).bind fun t282 => ((seal_Write.f k 1 1 5 13 0 t282 y276).bind fun bt286 => ((seal_Parse.f k bt286.1).bind fun bt290 => ((seal_Write.f k 1 1 5 13 0 t282 ([] : List Int)).bind fun bt303 => ((seal_Parse.f k ([] : List Int)).bind fun bt307 => (if (bt286.1.length : Int) = 45 then (if 44 ≤ (bt286.1.length : Int) then ((seal_Parse.f k (bt286.1.take 44)).bind fun bt325 => ((seal_Head.f 1 1 5 13).bind fun t338 => (if t338 = 32 then (if bt286.2 = 0 then ((footlockerlaw24_as.f bt290.1 bt290.2.1 bt290.2.2.1 bt290.2.2.2.1 bt290.2.2.2.2.1 bt290.2.2.2.2.2.1).bind fun bt339 => ((footlockerlaw24_as.f 1 1 5 13 0 t282).bind fun bt347 => ((footlockerlaw24_same.f k bt339.1 bt339.2.1 bt339.2.2.1 bt339.2.2.2.1 bt339.2.2.2.2.1 bt339.2.2.2.2.2 bt347.1 bt347.2.1 bt347.2.2.1 bt347.2.2.2.1 bt347.2.2.2.2.1 bt347.2.2.2.2.2).bind fun t355 => (if t355 = true then ((footlockerref01_Same.f k bt290.2.2.2.2.2.2.1 y276).bind fun t356 => (if t356 = true then (if bt290.2.2.2.2.2.2.2 = 0 then (if bt303.2 = 1 then (if bt307.2.2.2.2.2.2.2 = 44 then (if bt325.2.2.2.2.2.2.2 = 20 then ((seal_Head.f 0 0 0 0).bind fun t357 => (some (t357 == 0))) else (none)) else (none)) else (none)) else (none)) else (none))) else (none))))) else (none)) else (none)))) else (none)) else (none)))))))) else (none)) = some r := h
 clear h
 by_cases c1 : 13 ≤ 281474976710656
 ·rw [if_pos c1] at H
  have c1b0 := eq_true c1
  have c1b1 : decide (13 ≤ 281474976710656) = true := decide_eq_true c1
  clear c1
  obtain ⟨y276, hy276⟩ : ∃ y_ : List Int, y_ = (List.replicate 13 0) := ⟨_, rfl⟩
  replace H : ((seal_Sums.f k (([y276, y276] : List (List Int))) 1 1 5 13).bind fun t282 => ((seal_Write.f k 1 1 5 13 0 t282 y276).bind fun bt286 => ((seal_Parse.f k bt286.1).bind fun bt290 => ((seal_Write.f k 1 1 5 13 0 t282 ([] : List Int)).bind fun bt303 => ((seal_Parse.f k ([] : List Int)).bind fun bt307 => (if (bt286.1.length : Int) = 45 then (if 44 ≤ (bt286.1.length : Int) then ((seal_Parse.f k (bt286.1.take 44)).bind fun bt325 => ((seal_Head.f 1 1 5 13).bind fun t338 => (if t338 = 32 then (if bt286.2 = 0 then ((footlockerlaw24_as.f bt290.1 bt290.2.1 bt290.2.2.1 bt290.2.2.2.1 bt290.2.2.2.2.1 bt290.2.2.2.2.2.1).bind fun bt339 => ((footlockerlaw24_as.f 1 1 5 13 0 t282).bind fun bt347 => ((footlockerlaw24_same.f k bt339.1 bt339.2.1 bt339.2.2.1 bt339.2.2.2.1 bt339.2.2.2.2.1 bt339.2.2.2.2.2 bt347.1 bt347.2.1 bt347.2.2.1 bt347.2.2.2.1 bt347.2.2.2.2.1 bt347.2.2.2.2.2).bind fun t355 => (if t355 = true then ((footlockerref01_Same.f k bt290.2.2.2.2.2.2.1 y276).bind fun t356 => (if t356 = true then (if bt290.2.2.2.2.2.2.2 = 0 then (if bt303.2 = 1 then (if bt307.2.2.2.2.2.2.2 = 44 then (if bt325.2.2.2.2.2.2.2 = 20 then ((seal_Head.f 0 0 0 0).bind fun t357 => (some (t357 == 0))) else (none)) else (none)) else (none)) else (none)) else (none))) else (none))))) else (none)) else (none)))) else (none)) else (none))))))) = some r := by first | (rw [hy276]; with_reducible exact H) | (have H2_ := (Option.bind_some _ _).symm.trans H; rw [hy276]; with_reducible exact H2_) | (have H2_ := (Option.bind_some _ _).symm.trans H; with_reducible exact H2_) | with_reducible exact H | (rw [hy276]; exact H) | exact H
  have Ny276 := kzA hy276
  clear hy276
  obtain ⟨y279, hy279⟩ : ∃ y_ : List (List Int), y_ = (([y276, y276] : List (List Int))) := ⟨_, rfl⟩
  replace H : ((seal_Sums.f k y279 1 1 5 13).bind fun t282 => ((seal_Write.f k 1 1 5 13 0 t282 y276).bind fun bt286 => ((seal_Parse.f k bt286.1).bind fun bt290 => ((seal_Write.f k 1 1 5 13 0 t282 ([] : List Int)).bind fun bt303 => ((seal_Parse.f k ([] : List Int)).bind fun bt307 => (if (bt286.1.length : Int) = 45 then (if 44 ≤ (bt286.1.length : Int) then ((seal_Parse.f k (bt286.1.take 44)).bind fun bt325 => ((seal_Head.f 1 1 5 13).bind fun t338 => (if t338 = 32 then (if bt286.2 = 0 then ((footlockerlaw24_as.f bt290.1 bt290.2.1 bt290.2.2.1 bt290.2.2.2.1 bt290.2.2.2.2.1 bt290.2.2.2.2.2.1).bind fun bt339 => ((footlockerlaw24_as.f 1 1 5 13 0 t282).bind fun bt347 => ((footlockerlaw24_same.f k bt339.1 bt339.2.1 bt339.2.2.1 bt339.2.2.2.1 bt339.2.2.2.2.1 bt339.2.2.2.2.2 bt347.1 bt347.2.1 bt347.2.2.1 bt347.2.2.2.1 bt347.2.2.2.2.1 bt347.2.2.2.2.2).bind fun t355 => (if t355 = true then ((footlockerref01_Same.f k bt290.2.2.2.2.2.2.1 y276).bind fun t356 => (if t356 = true then (if bt290.2.2.2.2.2.2.2 = 0 then (if bt303.2 = 1 then (if bt307.2.2.2.2.2.2.2 = 44 then (if bt325.2.2.2.2.2.2.2 = 20 then ((seal_Head.f 0 0 0 0).bind fun t357 => (some (t357 == 0))) else (none)) else (none)) else (none)) else (none)) else (none))) else (none))))) else (none)) else (none)))) else (none)) else (none))))))) = some r := by first | (rw [hy279]; with_reducible exact H) | (have H2_ := (Option.bind_some _ _).symm.trans H; rw [hy279]; with_reducible exact H2_) | (have H2_ := (Option.bind_some _ _).symm.trans H; with_reducible exact H2_) | with_reducible exact H | (rw [hy279]; exact H) | exact H
  have Ny279 := kzA hy279
  clear hy279
  replace H := Option.bind_eq_some_iff.mp H
  obtain ⟨t282, A20, H⟩ := H
  replace H : ((seal_Write.f k 1 1 5 13 0 t282 y276).bind fun bt286 => ((seal_Parse.f k bt286.1).bind fun bt290 => ((seal_Write.f k 1 1 5 13 0 t282 ([] : List Int)).bind fun bt303 => ((seal_Parse.f k ([] : List Int)).bind fun bt307 => (if (bt286.1.length : Int) = 45 then (if 44 ≤ (bt286.1.length : Int) then ((seal_Parse.f k (bt286.1.take 44)).bind fun bt325 => ((seal_Head.f 1 1 5 13).bind fun t338 => (if t338 = 32 then (if bt286.2 = 0 then ((footlockerlaw24_as.f bt290.1 bt290.2.1 bt290.2.2.1 bt290.2.2.2.1 bt290.2.2.2.2.1 bt290.2.2.2.2.2.1).bind fun bt339 => ((footlockerlaw24_as.f 1 1 5 13 0 t282).bind fun bt347 => ((footlockerlaw24_same.f k bt339.1 bt339.2.1 bt339.2.2.1 bt339.2.2.2.1 bt339.2.2.2.2.1 bt339.2.2.2.2.2 bt347.1 bt347.2.1 bt347.2.2.1 bt347.2.2.2.1 bt347.2.2.2.2.1 bt347.2.2.2.2.2).bind fun t355 => (if t355 = true then ((footlockerref01_Same.f k bt290.2.2.2.2.2.2.1 y276).bind fun t356 => (if t356 = true then (if bt290.2.2.2.2.2.2.2 = 0 then (if bt303.2 = 1 then (if bt307.2.2.2.2.2.2.2 = 44 then (if bt325.2.2.2.2.2.2.2 = 20 then ((seal_Head.f 0 0 0 0).bind fun t357 => (some (t357 == 0))) else (none)) else (none)) else (none)) else (none)) else (none))) else (none))))) else (none)) else (none)))) else (none)) else (none)))))) = some r := H
  have A2 := kzA A20
  clear A20
  replace H := Option.bind_eq_some_iff.mp H
  obtain ⟨⟨t286, t289⟩, A30, H⟩ := H
  replace H : ((seal_Parse.f k t286).bind fun bt290 => ((seal_Write.f k 1 1 5 13 0 t282 ([] : List Int)).bind fun bt303 => ((seal_Parse.f k ([] : List Int)).bind fun bt307 => (if (t286.length : Int) = 45 then (if 44 ≤ (t286.length : Int) then ((seal_Parse.f k (t286.take 44)).bind fun bt325 => ((seal_Head.f 1 1 5 13).bind fun t338 => (if t338 = 32 then (if t289 = 0 then ((footlockerlaw24_as.f bt290.1 bt290.2.1 bt290.2.2.1 bt290.2.2.2.1 bt290.2.2.2.2.1 bt290.2.2.2.2.2.1).bind fun bt339 => ((footlockerlaw24_as.f 1 1 5 13 0 t282).bind fun bt347 => ((footlockerlaw24_same.f k bt339.1 bt339.2.1 bt339.2.2.1 bt339.2.2.2.1 bt339.2.2.2.2.1 bt339.2.2.2.2.2 bt347.1 bt347.2.1 bt347.2.2.1 bt347.2.2.2.1 bt347.2.2.2.2.1 bt347.2.2.2.2.2).bind fun t355 => (if t355 = true then ((footlockerref01_Same.f k bt290.2.2.2.2.2.2.1 y276).bind fun t356 => (if t356 = true then (if bt290.2.2.2.2.2.2.2 = 0 then (if bt303.2 = 1 then (if bt307.2.2.2.2.2.2.2 = 44 then (if bt325.2.2.2.2.2.2.2 = 20 then ((seal_Head.f 0 0 0 0).bind fun t357 => (some (t357 == 0))) else (none)) else (none)) else (none)) else (none)) else (none))) else (none))))) else (none)) else (none)))) else (none)) else (none))))) = some r := H
  have A3 := kzA A30
  clear A30
  replace H := Option.bind_eq_some_iff.mp H
  obtain ⟨⟨t290, t291, t292, t293, t294, t295, t298, t301⟩, A40, H⟩ := H
  replace H : ((seal_Write.f k 1 1 5 13 0 t282 ([] : List Int)).bind fun bt303 => ((seal_Parse.f k ([] : List Int)).bind fun bt307 => (if (t286.length : Int) = 45 then (if 44 ≤ (t286.length : Int) then ((seal_Parse.f k (t286.take 44)).bind fun bt325 => ((seal_Head.f 1 1 5 13).bind fun t338 => (if t338 = 32 then (if t289 = 0 then ((footlockerlaw24_as.f t290 t291 t292 t293 t294 t295).bind fun bt339 => ((footlockerlaw24_as.f 1 1 5 13 0 t282).bind fun bt347 => ((footlockerlaw24_same.f k bt339.1 bt339.2.1 bt339.2.2.1 bt339.2.2.2.1 bt339.2.2.2.2.1 bt339.2.2.2.2.2 bt347.1 bt347.2.1 bt347.2.2.1 bt347.2.2.2.1 bt347.2.2.2.2.1 bt347.2.2.2.2.2).bind fun t355 => (if t355 = true then ((footlockerref01_Same.f k t298 y276).bind fun t356 => (if t356 = true then (if t301 = 0 then (if bt303.2 = 1 then (if bt307.2.2.2.2.2.2.2 = 44 then (if bt325.2.2.2.2.2.2.2 = 20 then ((seal_Head.f 0 0 0 0).bind fun t357 => (some (t357 == 0))) else (none)) else (none)) else (none)) else (none)) else (none))) else (none))))) else (none)) else (none)))) else (none)) else (none)))) = some r := H
  have A4 := kzA A40
  clear A40
  replace H := Option.bind_eq_some_iff.mp H
  obtain ⟨⟨t303, t306⟩, A50, H⟩ := H
  replace H : ((seal_Parse.f k ([] : List Int)).bind fun bt307 => (if (t286.length : Int) = 45 then (if 44 ≤ (t286.length : Int) then ((seal_Parse.f k (t286.take 44)).bind fun bt325 => ((seal_Head.f 1 1 5 13).bind fun t338 => (if t338 = 32 then (if t289 = 0 then ((footlockerlaw24_as.f t290 t291 t292 t293 t294 t295).bind fun bt339 => ((footlockerlaw24_as.f 1 1 5 13 0 t282).bind fun bt347 => ((footlockerlaw24_same.f k bt339.1 bt339.2.1 bt339.2.2.1 bt339.2.2.2.1 bt339.2.2.2.2.1 bt339.2.2.2.2.2 bt347.1 bt347.2.1 bt347.2.2.1 bt347.2.2.2.1 bt347.2.2.2.2.1 bt347.2.2.2.2.2).bind fun t355 => (if t355 = true then ((footlockerref01_Same.f k t298 y276).bind fun t356 => (if t356 = true then (if t301 = 0 then (if t306 = 1 then (if bt307.2.2.2.2.2.2.2 = 44 then (if bt325.2.2.2.2.2.2.2 = 20 then ((seal_Head.f 0 0 0 0).bind fun t357 => (some (t357 == 0))) else (none)) else (none)) else (none)) else (none)) else (none))) else (none))))) else (none)) else (none)))) else (none)) else (none))) = some r := H
  have A5 := kzA A50
  clear A50
  replace H := Option.bind_eq_some_iff.mp H
  obtain ⟨⟨t307, t308, t309, t310, t311, t312, t315, t318⟩, A60, H⟩ := H
  replace H : (if (t286.length : Int) = 45 then (if 44 ≤ (t286.length : Int) then ((seal_Parse.f k (t286.take 44)).bind fun bt325 => ((seal_Head.f 1 1 5 13).bind fun t338 => (if t338 = 32 then (if t289 = 0 then ((footlockerlaw24_as.f t290 t291 t292 t293 t294 t295).bind fun bt339 => ((footlockerlaw24_as.f 1 1 5 13 0 t282).bind fun bt347 => ((footlockerlaw24_same.f k bt339.1 bt339.2.1 bt339.2.2.1 bt339.2.2.2.1 bt339.2.2.2.2.1 bt339.2.2.2.2.2 bt347.1 bt347.2.1 bt347.2.2.1 bt347.2.2.2.1 bt347.2.2.2.2.1 bt347.2.2.2.2.2).bind fun t355 => (if t355 = true then ((footlockerref01_Same.f k t298 y276).bind fun t356 => (if t356 = true then (if t301 = 0 then (if t306 = 1 then (if t318 = 44 then (if bt325.2.2.2.2.2.2.2 = 20 then ((seal_Head.f 0 0 0 0).bind fun t357 => (some (t357 == 0))) else (none)) else (none)) else (none)) else (none)) else (none))) else (none))))) else (none)) else (none)))) else (none)) else (none)) = some r := H
  have A6 := kzA A60
  clear A60
  by_cases c7 : (t286.length : Int) = 45
  ·rw [if_pos c7] at H
   have c7b0 : ((t286.length : Int) == 45) = true := beq_iff_eq.mpr c7
   have c7b1 : ((t286.length : Int) != 45) = false := bne_eq_false_iff_eq.mpr c7
   clear c7
   by_cases c8 : 44 ≤ (t286.length : Int)
   ·rw [if_pos c8] at H
    have c8b0 := eq_true c8
    have c8b1 : decide (44 ≤ (t286.length : Int)) = true := decide_eq_true c8
    clear c8
    obtain ⟨y320, hy320⟩ : ∃ y_ : List Int, y_ = (t286.take 44) := ⟨_, rfl⟩
    replace H : ((seal_Parse.f k y320).bind fun bt325 => ((seal_Head.f 1 1 5 13).bind fun t338 => (if t338 = 32 then (if t289 = 0 then ((footlockerlaw24_as.f t290 t291 t292 t293 t294 t295).bind fun bt339 => ((footlockerlaw24_as.f 1 1 5 13 0 t282).bind fun bt347 => ((footlockerlaw24_same.f k bt339.1 bt339.2.1 bt339.2.2.1 bt339.2.2.2.1 bt339.2.2.2.2.1 bt339.2.2.2.2.2 bt347.1 bt347.2.1 bt347.2.2.1 bt347.2.2.2.1 bt347.2.2.2.2.1 bt347.2.2.2.2.2).bind fun t355 => (if t355 = true then ((footlockerref01_Same.f k t298 y276).bind fun t356 => (if t356 = true then (if t301 = 0 then (if t306 = 1 then (if t318 = 44 then (if bt325.2.2.2.2.2.2.2 = 20 then ((seal_Head.f 0 0 0 0).bind fun t357 => (some (t357 == 0))) else (none)) else (none)) else (none)) else (none)) else (none))) else (none))))) else (none)) else (none)))) = some r := by first | (rw [hy320]; with_reducible exact H) | (have H2_ := (Option.bind_some _ _).symm.trans H; rw [hy320]; with_reducible exact H2_) | (have H2_ := (Option.bind_some _ _).symm.trans H; with_reducible exact H2_) | with_reducible exact H | (rw [hy320]; exact H) | exact H
    have Ny320 := kzA hy320
    clear hy320
    replace H := Option.bind_eq_some_iff.mp H
    obtain ⟨⟨t325, t326, t327, t328, t329, t330, t333, t336⟩, A90, H⟩ := H
    replace H : ((seal_Head.f 1 1 5 13).bind fun t338 => (if t338 = 32 then (if t289 = 0 then ((footlockerlaw24_as.f t290 t291 t292 t293 t294 t295).bind fun bt339 => ((footlockerlaw24_as.f 1 1 5 13 0 t282).bind fun bt347 => ((footlockerlaw24_same.f k bt339.1 bt339.2.1 bt339.2.2.1 bt339.2.2.2.1 bt339.2.2.2.2.1 bt339.2.2.2.2.2 bt347.1 bt347.2.1 bt347.2.2.1 bt347.2.2.2.1 bt347.2.2.2.2.1 bt347.2.2.2.2.2).bind fun t355 => (if t355 = true then ((footlockerref01_Same.f k t298 y276).bind fun t356 => (if t356 = true then (if t301 = 0 then (if t306 = 1 then (if t318 = 44 then (if t336 = 20 then ((seal_Head.f 0 0 0 0).bind fun t357 => (some (t357 == 0))) else (none)) else (none)) else (none)) else (none)) else (none))) else (none))))) else (none)) else (none))) = some r := H
    have A9 := kzA A90
    clear A90
    replace H := Option.bind_eq_some_iff.mp H
    obtain ⟨t338, A100, H⟩ := H
    replace H : (if t338 = 32 then (if t289 = 0 then ((footlockerlaw24_as.f t290 t291 t292 t293 t294 t295).bind fun bt339 => ((footlockerlaw24_as.f 1 1 5 13 0 t282).bind fun bt347 => ((footlockerlaw24_same.f k bt339.1 bt339.2.1 bt339.2.2.1 bt339.2.2.2.1 bt339.2.2.2.2.1 bt339.2.2.2.2.2 bt347.1 bt347.2.1 bt347.2.2.1 bt347.2.2.2.1 bt347.2.2.2.2.1 bt347.2.2.2.2.2).bind fun t355 => (if t355 = true then ((footlockerref01_Same.f k t298 y276).bind fun t356 => (if t356 = true then (if t301 = 0 then (if t306 = 1 then (if t318 = 44 then (if t336 = 20 then ((seal_Head.f 0 0 0 0).bind fun t357 => (some (t357 == 0))) else (none)) else (none)) else (none)) else (none)) else (none))) else (none))))) else (none)) else (none)) = some r := H
    have A10 := kzA A100
    clear A100
    by_cases c11 : t338 = 32
    ·rw [if_pos c11] at H
     have c11b0 : (t338 == 32) = true := beq_iff_eq.mpr c11
     have c11b1 : (t338 != 32) = false := bne_eq_false_iff_eq.mpr c11
     clear c11
     by_cases c12 : t289 = 0
     ·rw [if_pos c12] at H
      have c12b0 : (t289 == 0) = true := beq_iff_eq.mpr c12
      have c12b1 : (t289 != 0) = false := bne_eq_false_iff_eq.mpr c12
      clear c12
      replace H := Option.bind_eq_some_iff.mp H
      obtain ⟨⟨t339, t340, t341, t342, t343, t344⟩, A130, H⟩ := H
      replace H : ((footlockerlaw24_as.f 1 1 5 13 0 t282).bind fun bt347 => ((footlockerlaw24_same.f k t339 t340 t341 t342 t343 t344 bt347.1 bt347.2.1 bt347.2.2.1 bt347.2.2.2.1 bt347.2.2.2.2.1 bt347.2.2.2.2.2).bind fun t355 => (if t355 = true then ((footlockerref01_Same.f k t298 y276).bind fun t356 => (if t356 = true then (if t301 = 0 then (if t306 = 1 then (if t318 = 44 then (if t336 = 20 then ((seal_Head.f 0 0 0 0).bind fun t357 => (some (t357 == 0))) else (none)) else (none)) else (none)) else (none)) else (none))) else (none)))) = some r := H
      have A13 := kzA A130
      clear A130
      replace H := Option.bind_eq_some_iff.mp H
      obtain ⟨⟨t347, t348, t349, t350, t351, t352⟩, A140, H⟩ := H
      replace H : ((footlockerlaw24_same.f k t339 t340 t341 t342 t343 t344 t347 t348 t349 t350 t351 t352).bind fun t355 => (if t355 = true then ((footlockerref01_Same.f k t298 y276).bind fun t356 => (if t356 = true then (if t301 = 0 then (if t306 = 1 then (if t318 = 44 then (if t336 = 20 then ((seal_Head.f 0 0 0 0).bind fun t357 => (some (t357 == 0))) else (none)) else (none)) else (none)) else (none)) else (none))) else (none))) = some r := H
      have A14 := kzA A140
      clear A140
      replace H := Option.bind_eq_some_iff.mp H
      obtain ⟨t355, A150, H⟩ := H
      replace H : (if t355 = true then ((footlockerref01_Same.f k t298 y276).bind fun t356 => (if t356 = true then (if t301 = 0 then (if t306 = 1 then (if t318 = 44 then (if t336 = 20 then ((seal_Head.f 0 0 0 0).bind fun t357 => (some (t357 == 0))) else (none)) else (none)) else (none)) else (none)) else (none))) else (none)) = some r := H
      have A15 := kzA A150
      clear A150
      by_cases c16 : t355 = true
      ·subst c16
       have H1 : ((footlockerref01_Same.f k t298 y276).bind fun t356 => (if t356 = true then (if t301 = 0 then (if t306 = 1 then (if t318 = 44 then (if t336 = 20 then ((seal_Head.f 0 0 0 0).bind fun t357 => (some (t357 == 0))) else (none)) else (none)) else (none)) else (none)) else (none))) = some r := by rw [if_pos rfl] at H; exact H
       clear H
       have H := H1
       clear H1
       replace H := Option.bind_eq_some_iff.mp H
       obtain ⟨t356, A170, H⟩ := H
       replace H : (if t356 = true then (if t301 = 0 then (if t306 = 1 then (if t318 = 44 then (if t336 = 20 then ((seal_Head.f 0 0 0 0).bind fun t357 => (some (t357 == 0))) else (none)) else (none)) else (none)) else (none)) else (none)) = some r := H
       have A17 := kzA A170
       clear A170
       by_cases c18 : t356 = true
       ·subst c18
        have H1 : (if t301 = 0 then (if t306 = 1 then (if t318 = 44 then (if t336 = 20 then ((seal_Head.f 0 0 0 0).bind fun t357 => (some (t357 == 0))) else (none)) else (none)) else (none)) else (none)) = some r := by rw [if_pos rfl] at H; exact H
        clear H
        have H := H1
        clear H1
        by_cases c19 : t301 = 0
        ·rw [if_pos c19] at H
         have c19b0 : (t301 == 0) = true := beq_iff_eq.mpr c19
         have c19b1 : (t301 != 0) = false := bne_eq_false_iff_eq.mpr c19
         clear c19
         by_cases c20 : t306 = 1
         ·rw [if_pos c20] at H
          have c20b0 : (t306 == 1) = true := beq_iff_eq.mpr c20
          have c20b1 : (t306 != 1) = false := bne_eq_false_iff_eq.mpr c20
          clear c20
          by_cases c21 : t318 = 44
          ·rw [if_pos c21] at H
           have c21b0 : (t318 == 44) = true := beq_iff_eq.mpr c21
           have c21b1 : (t318 != 44) = false := bne_eq_false_iff_eq.mpr c21
           clear c21
           by_cases c22 : t336 = 20
           ·rw [if_pos c22] at H
            have c22b0 : (t336 == 20) = true := beq_iff_eq.mpr c22
            have c22b1 : (t336 != 20) = false := bne_eq_false_iff_eq.mpr c22
            clear c22
            replace H := Option.bind_eq_some_iff.mp H
            obtain ⟨t357, A230, H⟩ := H
            replace H : (some (t357 == 0)) = some r := H
            have A23 := kzA A230
            clear A230
            obtain rfl := Option.some.inj H
            go_enter Tryd.func7, Tryd.ntmps7
            try go_wp2_with (first | ((with_reducible refine kBA (N := 1) rfl ?_); refine kBD ?hg (N := 1) ?hd (cs := #[.int .i64 0, .int .i64 0, .int .i64 0, .int .i64 0]) (t := 23) ?hr ?_; (case hd => rfl); (case hg => rfl); (case hr => first | (go_simp; done) | (go_simp; rfl)); intro gb275 hg w24 hbox hb; have n0_ := kzA (kAK (by repeat (first | (with_reducible first | exact HB.out | apply kAB | apply kAA | apply kAC) | exact HB.out)) hb); have n1_ := kzA (hbox); have n2_ := kzA ((by rw [hg]; exact (kAJ (by repeat (first | (with_reducible first | exact HB.out | apply kAB | apply kAA | apply kAC) | exact HB.out))) : w.heap.size ≤ gb275)); have n3_ := kzA ((by rw [hg]; exact (kAJ (by repeat (first | (with_reducible first | exact HB.out | apply kAB | apply kAA | apply kAC) | exact HB.out))) : w.heap.size ≤ gb275)); clear HB; have HB := n0_; have BK275 := n1_; have GW275 := n2_; have GE275 := n3_; clear n0_ n1_ n2_ n3_; clear hb hbox hg; have hcz25_0 : w24.cell? ⟨gb275, 0, none⟩ = some (.int .i64 0) := (kAD BK275.out 0).trans rfl; have hcz25_1 : w24.cell? ⟨gb275, 1, none⟩ = some (.int .i64 0) := (kAD BK275.out 1).trans rfl; have hcz25_2 : w24.cell? ⟨gb275, 2, none⟩ = some (.int .i64 0) := (kAD BK275.out 2).trans rfl; have hcz25_3 : w24.cell? ⟨gb275, 3, none⟩ = some (.int .i64 0) := (kAD BK275.out 3).trans rfl; have hfz25_0 := kAE BK275.out 0; have hfz25_1 := kAE BK275.out 1; have hfz25_2 := kAE BK275.out 2; have hfz25_3 := kAE BK275.out 3) | ((with_reducible refine kBA (N := 18) rfl ?_); refine Kd.V_make (Kd.int .u8) _ 5 rfl (N := 18) rfl 27 _ _ rfl 13 rfl rfl Tryd.underlying27 (.int .u8 0) 1 info5 rfl (by decide) (by omega) 0 (ok := fun k_ => w24.heap.size ≤ k_) (okp := fun _ => False) rfl (fun _ hk => hk.elim) (by first | exact Nat.le_refl _ | simp) (by omega) (by omega) (Below.refl _ _) (Nat.le_refl _) ?_; intro v277 w26 ho27 hb hg_ hnew_; clear hg_ hnew_; (first | rw [← Ny276.out] at ho27 | (simp only [Int.reduceToNat] at ho27; rw [← Ny276.out] at ho27)); have n0_ := kzA (Kd.V_lower (Kd.kBV (ok' := fun k_ => k_ ≠ gb275) ho27 (fun k_ hk_ => (Kd.freshB BK275.out k_ hk_))) (kAJ (by repeat (first | (with_reducible first | exact HB.out | apply kAB | apply kAA | apply kAC | refine kAF ?_ GE275.out) | exact HB.out)))); have n1_ := kzA (kAL (g := gb275) (o := .cells #[.int .i64 1, .int .i64 1, .int .i64 5, .int .i64 13] 23 (0, 0)) (by (with_reducible repeat (first | refine kAH ?_ _ | refine kAI ?_ | refine kAG ?_ _)); refine kAU (cs := #[.int .i64 1, .int .i64 1, .int .i64 5, .int .i64 0]) ?_ 3 _ rfl; (with_reducible repeat (first | refine kAH ?_ _ | refine kAI ?_ | refine kAG ?_ _)); refine kAU (cs := #[.int .i64 1, .int .i64 1, .int .i64 0, .int .i64 0]) ?_ 2 _ rfl; (with_reducible repeat (first | refine kAH ?_ _ | refine kAI ?_ | refine kAG ?_ _)); refine kAU (cs := #[.int .i64 1, .int .i64 0, .int .i64 0, .int .i64 0]) ?_ 1 _ rfl; (with_reducible repeat (first | refine kAH ?_ _ | refine kAI ?_ | refine kAG ?_ _)); refine kAU (cs := #[.int .i64 0, .int .i64 0, .int .i64 0, .int .i64 0]) ?_ 0 _ rfl; (with_reducible repeat (first | refine kAH ?_ _ | refine kAI ?_ | refine kAG ?_ _)); exact BK275.out) hb); have n2_ := kzA (kAK (by repeat (first | (with_reducible first | exact HB.out | apply kAB | apply kAA | apply kAC | refine kAF ?_ GE275.out) | exact HB.out)) hb); clear BK275; clear HB; have HO278 := n0_; have BK275 := n1_; have HB := n2_; clear n0_ n1_ n2_; clear hb ho27))
            have n0_ := kzA (Kd.kAZ HO278.out)
            have n1_ := kzA (kAI BK275.out)
            have n2_ := kzA (kAC HB.out)
            clear HO278
            clear BK275
            clear HB
            have HO278 := n0_
            have BK275 := n1_
            have HB := n2_
            clear n0_ n1_ n2_
            obtain ⟨Ao29, co29, eo29⟩ := Kd.V_slice HO278.out
            (first | subst eo29 | (injection eo29 with f1_ f2_ f3_; have f4_ := f1_.symm; have f5_ := f3_.symm; clear f1_ f2_ f3_; subst f4_; subst f5_))
            refine start_ (n := 9) (S := fun w' => w'.cell? ⟨gb275, 0, none⟩ = some (.int .i64 1) ∧ w'.cell? ⟨gb275, 1, none⟩ = some (.int .i64 1) ∧ w'.cell? ⟨gb275, 2, none⟩ = some (.int .i64 5) ∧ w'.cell? ⟨gb275, 3, none⟩ = some (.int .i64 13)) (ds := []) #[false, false, false, false, false, false, false, false, false] (by kernel_rfl) rfl rfl ⟨(kAD BK275.out 0).trans rfl, (kAD BK275.out 1).trans rfl, (kAD BK275.out 2).trans rfl, (kAD BK275.out 3).trans rfl⟩ (fun hHeld => ?_); refine with_tabW footlockerlaw24_alive.tab3 footlockerlaw24_alive.bits3 (fun HT_ HW_ => ?_)
            generalize w26.drew = w28 at HO278 BK275 HB hHeld ⊢
            refine kBN (i := 1) (N := some 20) (v := ?_) (a' := ?_) #[false, true, false, false, false, false, false, false, false] rfl rfl (kBG HT_.out (by kernel_rfl)) (fun _ _ _ h => h) (Or.inl ⟨by rfl, ?_⟩) ?_ ?_
            rotate_left
            ·intro w'
             go_simp
             with_reducible rfl
            rotate_left
            ·simp only [Act.put, kzB, kzC, kzD, kAX, kAY]
             rfl
            refine kBN (i := 2) (N := some 21) (v := ?_) (a' := ?_) #[false, true, true, false, false, false, false, false, false] rfl rfl (kBG HT_.out (by kernel_rfl)) (fun _ _ _ h => h) (Or.inl ⟨by rfl, ?_⟩) ?_ ?_
            rotate_left
            ·intro w'
             go_simp
             with_reducible rfl
            rotate_left
            ·simp only [Act.put, kzB, kzC, kzD, kAX, kAY]
             rfl
            refine take_ (i := 0) (N := some 19) (v := ?_) (a' := ?_) #[true, true, true, false, false, false, false, false, false] rfl rfl (kBX HT_.out HW_.out (by kernel_rfl)) (fun _ _ _ h => h) (Or.inl ⟨by rfl, ?_⟩) hHeld ?_ ?_
            rotate_left
            ·rintro w' ⟨s0, s1, s2, s3⟩
             go_simp
             with_reducible rfl
            rotate_left
            ·simp only [Act.put, kzB, kzC, kzD, kAX, kAY]
             rfl
            refine take_ (i := 4) (N := some 23) (v := ?_) (a' := ?_) #[true, true, true, false, true, false, false, false, false] rfl rfl (kBX HT_.out HW_.out (by kernel_rfl)) (fun _ _ _ h => h) (Or.inl ⟨by rfl, ?_⟩) hHeld ?_ ?_
            rotate_left
            ·rintro w' ⟨s0, s1, s2, s3⟩
             go_simp
             with_reducible rfl
            rotate_left
            ·simp only [Act.put, kzB, kzC, kzD, kAX, kAY]
             rfl
            refine join_ (σ := Value × Value × Nat) 1 #[true, true, true, true, true, true, true, true, false] (fun s_ => [(22, s_.1), (24, s_.2.1), (3, .pointer (some ⟨s_.2.2, 0, none⟩)), (25, .agg #[.int .i64 1, .int .i64 1, .int .i64 5, .int .i64 13, .int .i64 0, s_.2.1])]) (fun s_ w' => (w'.cell? ⟨gb275, 0, none⟩ = some (.int .i64 1) ∧ w'.cell? ⟨gb275, 1, none⟩ = some (.int .i64 1) ∧ w'.cell? ⟨gb275, 2, none⟩ = some (.int .i64 5) ∧ w'.cell? ⟨gb275, 3, none⟩ = some (.int .i64 13)) ∧ (Kd.V (Kd.int .u8) 5 w' w.heap.size (fun k_ => some k_ ≠ (s_.1 : Value).ownBlock ∧ some k_ ≠ (s_.2.1 : Value).ownBlock ∧ k_ ≠ gb275 ∧ k_ ≠ s_.2.2) (.slice Ao29 y276.length co29) y276) ∧ (Kd.N (Kd.slice 5 (Kd.int .u8)) 27 w' w.heap.size (fun k_ => some k_ ≠ (s_.2.1 : Value).ownBlock ∧ k_ ≠ gb275 ∧ k_ ≠ s_.2.2) s_.1 y279) ∧ (Kd.N (Kd.slice 54 (Kd.int .u32)) 56 w' w.heap.size (fun k_ => some k_ ≠ (s_.1 : Value).ownBlock ∧ k_ ≠ gb275 ∧ k_ ≠ s_.2.2) s_.2.1 t282) ∧ (w'.heap[gb275]? = some (.cells #[.int .i64 1, .int .i64 1, .int .i64 5, .int .i64 13] 23 (0, 0))) ∧ (w'.heap[s_.2.2]? = some (.cells #[.int .i64 0, .int .i64 0, .int .i64 0, .int .i64 0, .int .i64 0, .slice none 0 0] 26 (0, 0))) ∧ (w.heap.size ≤ s_.2.2) ∧ (w.heap.size ≤ s_.2.2) ∧ (gb275 ≠ s_.2.2) ∧ (s_.2.2 ≠ gb275) ∧ (Below w.heap.size w w')) ?_ ?_
            rotate_left
            ·intro hCont
             refine two_ (i := 3) (j := 7) (Ni := some 22) (Nj := some 3) #[true, true, true, true, true, false, false, false, false] #[true, true, true, false, true, false, false, true, false] rfl rfl rfl rfl (two_of HT_.out (by kernel_rfl)) (by decide) (by decide) (fun K hK => ?_) (fun K hK => ?_)
             ·skip
              refine Kd.N_lit_step (Kd.slice 5 (Kd.int .u8)) _ 27 ?hg (N' := 22) ?hd (xs := ([y276, y276] : List (List Int))) (inner := [.slice Ao29 y276.length co29, .slice Ao29 y276.length co29]) (ok := (fun k_ => k_ ≠ gb275)) (okp := (fun k_ => k_ ≠ gb275)) ?hr ?hp (fun _ hk => hk) ((show ∀ k_, w28.heap.size ≤ k_ → (fun k_ => k_ ≠ gb275) k_ from fun k_ hk => Kd.freshB (g := gb275) (o := .cells #[.int .i64 1, .int .i64 1, .int .i64 5, .int .i64 13] 23 (0, 0)) (by (with_reducible repeat (first | refine kAH ?_ _ | refine kAI ?_ | refine kAG ?_ _)); exact BK275.out) k_ hk) _ (Nat.le_refl _)) (Below.refl _ _) (Nat.le_refl _) (by simp) ?_; (case hd => rfl); (case hg => rfl); (case hr => first | (go_simp; done) | (go_simp; rfl)); (case hp => exact (Reps.one (show Kd.FK (Kd.slice 5 (Kd.int .u8)) _ _ y276 [.slice Ao29 y276.length co29] from (Kd.kCJ (Kd.V_reads' (Kd.kBV (ok' := (fun k_ => k_ ≠ gb275)) (HO278.out) (fun k_ hk => hk))).2.1 (Kd.V_F (Kd.kBV (ok' := (fun k_ => k_ ≠ gb275)) (HO278.out) (fun k_ hk => hk))))) (Reps.one (show Kd.FK (Kd.slice 5 (Kd.int .u8)) _ _ y276 [.slice Ao29 y276.length co29] from (Kd.kCJ (Kd.V_reads' (Kd.kBV (ok' := (fun k_ => k_ ≠ gb275)) (HO278.out) (fun k_ hk => hk))).2.1 (Kd.V_F (Kd.kBV (ok' := (fun k_ => k_ ≠ gb275)) (HO278.out) (fun k_ hk => hk))))) (Reps.none _ _))))
              intro v280 w30 ho31 hb hg_ hnew_
              clear hg_ hnew_
              (first | rw [← Ny279.out] at ho31 | (simp only [Int.reduceToNat] at ho31; rw [← Ny279.out] at ho31))
              have n0_ := kzA (Kd.V_elder' (by (with_reducible repeat (first | apply Kd.kAT | apply Kd.kAS | apply Kd.kAZ)); exact HO278.out) (Kd.N_base ho31) hb)
              have n1_ := kzA (Kd.N_lower ho31 (kAJ (by repeat (first | (with_reducible first | exact HB.out | apply kAB | apply kAA | apply kAC | refine kAF ?_ GE275.out) | exact HB.out))))
              have n2_ := kzA (kAL (g := gb275) (o := .cells #[.int .i64 1, .int .i64 1, .int .i64 5, .int .i64 13] 23 (0, 0)) (by (with_reducible repeat (first | refine kAH ?_ _ | refine kAI ?_ | refine kAG ?_ _)); exact BK275.out) hb)
              have n3_ := kzA (kAK (by repeat (first | (with_reducible first | exact HB.out | apply kAB | apply kAA | apply kAC | refine kAF ?_ GE275.out) | exact HB.out)) hb)
              clear HO278
              clear BK275
              clear HB
              have HO278 := n0_
              have HO281 := n1_
              have BK275 := n2_
              have HB := n3_
              clear n0_ n1_ n2_ n3_
              clear hb ho31
              obtain ⟨Ao32, co32, eo32⟩ := Kd.N_slice HO281.out
              (first | subst eo32 | (injection eo32 with f1_ f2_ f3_; have f4_ := f1_.symm; have f5_ := f3_.symm; clear f1_ f2_ f3_; subst f4_; subst f5_))
              refine hK.out _ _ ⟨(kAD BK275.out 0).trans rfl, (kAD BK275.out 1).trans rfl, (kAD BK275.out 2).trans rfl, (kAD BK275.out 3).trans rfl⟩ (fun hHeld => ?_)
              clear hK K
              refine norm_ (a' := ?_) ?_ ?_
              rotate_left
              ·show Act.put _ (some 22) _ = _
               simp only [Act.put, kzB, kzC, kzD, kAX, kAY]
               rfl
              refine two_ (i := 5) (j := 7) (Ni := some 24) (Nj := some 3) #[true, true, true, true, true, true, false, false, false] #[true, true, true, true, true, false, false, true, false] rfl rfl rfl rfl (two_of HT_.out (by kernel_rfl)) (by decide) (by decide) (fun K hK => ?_) (fun K hK => ?_)
              ·skip
               refine goes_ Tryd.func15 (by kernel_rfl) rfl #[.slice Ao32 y279.length co32, .agg #[.int .i64 1, .int .i64 1, .int .i64 5, .int .i64 13]] (by rfl) rfl rfl (by (try simp only [List.map_toArray, List.map_cons, List.map_nil]); first | done | rfl | (simp only [List.length_drop, List.length_take]; rfl)) ?_
               with_reducible refine (seal_Sums.calls k _ _ y279 1 1 5 13 t282 _ ?side1 ?side2 ?side3 A2.out).mono ?_
               (case side1 => exact Glob.below hG (by repeat (first | (with_reducible first | exact HB.out | apply kAB | apply kAA | apply kAC | refine kAF ?_ GE275.out) | exact HB.out)))
               (case side2 => repeat (first | exact (Kd.N_reads' HO281.out).2.2 | (with_reducible refine Kd.kBH ?_ _) | (with_reducible refine Kd.kBF ?_ _) | (with_reducible refine Kd.kBM ?_)))
               (case side3 => exact (Kd.N_reads' HO281.out).2.1)
               rintro e w33 ⟨v283, rfl, ho0, hb⟩
               refine ⟨_, rfl, ?_⟩
               have n0_ := kzA (Kd.V_elder' (by (with_reducible repeat (first | apply Kd.kAT | apply Kd.kAS | apply Kd.kAZ)); exact HO278.out) (Kd.S_base ho0) hb)
               have n1_ := kzA (Kd.N_elder' (by (with_reducible repeat (first | apply Kd.kAW | apply Kd.kAV | apply Kd.kBC)); exact HO281.out) (Kd.S_base ho0) hb)
               have n2_ := kzA (Kd.N_lower (Kd.kBY (ok' := fun k_ => some k_ ≠ (.slice Ao32 y279.length co32 : Value).ownBlock ∧ k_ ≠ gb275) (Kd.S_N (Kd.S_bound ho0)) (fun k_ hk_ => ⟨(Kd.fresh' (Kd.N_lt (by (with_reducible repeat (first | apply Kd.kAW | apply Kd.kAV | apply Kd.kBC)); exact HO281.out)) k_ hk_.2.1), (Kd.freshB (g := gb275) (o := .cells #[.int .i64 1, .int .i64 1, .int .i64 5, .int .i64 13] 23 (0, 0)) (by (with_reducible repeat (first | refine kAH ?_ _ | refine kAI ?_ | refine kAG ?_ _)); exact BK275.out) k_ hk_.2.1)⟩)) (kAJ (by repeat (first | (with_reducible first | exact HB.out | apply kAB | apply kAA | apply kAC | refine kAF ?_ GE275.out) | exact HB.out))))
               have n3_ := kzA (kAL (g := gb275) (o := .cells #[.int .i64 1, .int .i64 1, .int .i64 5, .int .i64 13] 23 (0, 0)) (by (with_reducible repeat (first | refine kAH ?_ _ | refine kAI ?_ | refine kAG ?_ _)); exact BK275.out) hb)
               have n4_ := kzA (kAK (by repeat (first | (with_reducible first | exact HB.out | apply kAB | apply kAA | apply kAC | refine kAF ?_ GE275.out) | exact HB.out)) hb)
               clear HO278
               clear HO281
               clear BK275
               clear HB
               have HO278 := n0_
               have HO281 := n1_
               have HO284 := n2_
               have BK275 := n3_
               have HB := n4_
               clear n0_ n1_ n2_ n3_ n4_
               (try clear hb)
               (try clear hb2)
               (try clear hk)
               (try clear hi)
               (try clear ho0)
               obtain ⟨Ao34, co34, eo34⟩ := Kd.N_slice HO284.out
               (first | subst eo34 | (injection eo34 with f1_ f2_ f3_; have f4_ := f1_.symm; have f5_ := f3_.symm; clear f1_ f2_ f3_; subst f4_; subst f5_))
               refine hK.out _ _ ⟨(kAD BK275.out 0).trans rfl, (kAD BK275.out 1).trans rfl, (kAD BK275.out 2).trans rfl, (kAD BK275.out 3).trans rfl⟩ (fun hHeld => ?_)
               clear hK K
               refine norm_ (a' := ?_) ?_ ?_
               rotate_left
               ·show Act.put _ (some 24) _ = _
                simp only [Act.put, kzB, kzC, kzD, kAX, kAY]
                rfl
               refine kBN (i := 6) (N := some 25) (v := ?_) (a' := ?_) #[true, true, true, true, true, true, true, false, false] rfl rfl (kBG HT_.out (by kernel_rfl)) (fun _ _ _ h => h) (Or.inl ⟨by rfl, ?_⟩) ?_ ?_
               rotate_left
               ·intro w'
                go_simp
                with_reducible rfl
               rotate_left
               ·simp only [Act.put, kzB, kzC, kzD, kAX, kAY]
                rfl
               refine one_ (i := 7) (N := some 3) #[true, true, true, true, true, true, true, true, false] rfl rfl (one_of HT_.out (by kernel_rfl)) (by decide) (fun K hK => ?_)
               refine box_step ?hg (N := 3) ?hd (cs := #[.int .i64 0, .int .i64 0, .int .i64 0, .int .i64 0, .int .i64 0, .slice none 0 0]) (t := 26) ?hr ?_; (case hd => rfl); (case hg => rfl); (case hr => first | (go_simp; done) | (go_simp; rfl))
               intro gb285 hg w35 hbox hb
               have n0_ := kzA (Kd.kCD (Kd.V_elderB (by (with_reducible repeat (first | apply Kd.kAT | apply Kd.kAS | apply Kd.kAZ)); exact HO278.out) gb285 (Nat.le_of_eq hg.symm)) hb)
               have n1_ := kzA (Kd.kBR (Kd.N_elderB (by (with_reducible repeat (first | apply Kd.kAW | apply Kd.kAV | apply Kd.kBC)); exact HO281.out) gb285 (Nat.le_of_eq hg.symm)) hb)
               have n2_ := kzA (Kd.kBR (Kd.N_elderB (by (with_reducible repeat (first | apply Kd.kAW | apply Kd.kAV | apply Kd.kBC)); exact HO284.out) gb285 (Nat.le_of_eq hg.symm)) hb)
               have n3_ := kzA (kAL (g := gb275) (o := .cells #[.int .i64 1, .int .i64 1, .int .i64 5, .int .i64 13] 23 (0, 0)) (by (with_reducible repeat (first | refine kAH ?_ _ | refine kAI ?_ | refine kAG ?_ _)); exact BK275.out) hb)
               have n4_ := kzA (kAK (by repeat (first | (with_reducible first | exact HB.out | apply kAB | apply kAA | apply kAC | refine kAF ?_ GE275.out) | exact HB.out)) hb)
               have n5_ := kzA (hbox)
               have n6_ := kzA ((by rw [hg]; exact (kAJ (by repeat (first | (with_reducible first | exact HB.out | apply kAB | apply kAA | apply kAC | refine kAF ?_ GE275.out) | exact HB.out))) : w.heap.size ≤ gb285))
               have n7_ := kzA ((by rw [hg]; exact (kAJ (by repeat (first | (with_reducible first | exact HB.out | apply kAB | apply kAA | apply kAC | refine kAF ?_ GE275.out) | exact HB.out))) : w.heap.size ≤ gb285))
               have n8_ := kzA ((by rw [hg]; exact Nat.ne_of_lt (kCH (g := gb275) (o := .cells #[.int .i64 1, .int .i64 1, .int .i64 5, .int .i64 13] 23 (0, 0)) (by (with_reducible repeat (first | refine kAH ?_ _ | refine kAI ?_ | refine kAG ?_ _)); exact BK275.out)) : gb275 ≠ gb285))
               have n9_ := kzA ((by rw [hg]; exact Nat.ne_of_gt (kCH (g := gb275) (o := .cells #[.int .i64 1, .int .i64 1, .int .i64 5, .int .i64 13] 23 (0, 0)) (by (with_reducible repeat (first | refine kAH ?_ _ | refine kAI ?_ | refine kAG ?_ _)); exact BK275.out)) : gb285 ≠ gb275))
               clear HO278
               clear HO281
               clear HO284
               clear BK275
               clear HB
               have HO278 := n0_
               have HO281 := n1_
               have HO284 := n2_
               have BK275 := n3_
               have HB := n4_
               have BK285 := n5_
               have GW285 := n6_
               have GE285 := n7_
               have NB275_285 := n8_
               have NB285_275 := n9_
               clear n0_ n1_ n2_ n3_ n4_ n5_ n6_ n7_ n8_ n9_
               clear hb hbox hg
               refine hK.out _ _ ⟨(kAD BK275.out 0).trans rfl, (kAD BK275.out 1).trans rfl, (kAD BK275.out 2).trans rfl, (kAD BK275.out 3).trans rfl⟩ (fun hHeld => ?_)
               clear hK K
               refine norm_ (a' := ?_) ?_ ?_
               rotate_left
               ·show Act.put _ (some 3) _ = _
                simp only [Act.put, kzB, kzC, kzD, kAX, kAY]
                rfl
               exact norm_ (by simp only [putAll, Act.put, kzB, kzC, kzD]) (hCont (.slice Ao32 y279.length co32, .slice Ao34 t282.length co34, gb285) _ ⟨hHeld, (by (with_reducible repeat (first | apply Kd.kAT | apply Kd.kAS | apply Kd.kAZ)); exact Kd.kBV HO278.out (fun _ hk => ⟨hk.1.1.2, ⟨hk.1.2, ⟨hk.1.1.1, hk.2⟩⟩⟩)), (by (with_reducible repeat (first | apply Kd.kAW | apply Kd.kAV | apply Kd.kBC)); exact Kd.kBY HO281.out (fun _ hk => ⟨hk.1.2, ⟨hk.1.1, hk.2⟩⟩)), (by (with_reducible repeat (first | apply Kd.kAW | apply Kd.kAV | apply Kd.kBC)); exact Kd.kBY HO284.out (fun _ hk => ⟨hk.1.1, ⟨hk.1.2, hk.2⟩⟩)), (by (with_reducible repeat (first | refine kAH ?_ _ | refine kAI ?_ | refine kAG ?_ _)); exact BK275.out), (by (with_reducible repeat (first | refine kAH ?_ _ | refine kAI ?_ | refine kAG ?_ _)); exact BK285.out), GW285.out, GE285.out, NB275_285.out, NB285_275.out, (by repeat (first | (with_reducible first | exact HB.out | apply kAB | apply kAA | apply kAC | refine kAF ?_ GE275.out | refine kAF ?_ GE285.out) | exact HB.out))⟩)
              ·skip
               refine box_step ?hg (N := 3) ?hd (cs := #[.int .i64 0, .int .i64 0, .int .i64 0, .int .i64 0, .int .i64 0, .slice none 0 0]) (t := 26) ?hr ?_; (case hd => rfl); (case hg => rfl); (case hr => first | (go_simp; done) | (go_simp; rfl))
               intro gb285 hg w32 hbox hb
               have n0_ := kzA (Kd.kCD (Kd.V_elderB (by (with_reducible repeat (first | apply Kd.kAT | apply Kd.kAS | apply Kd.kAZ)); exact HO278.out) gb285 (Nat.le_of_eq hg.symm)) hb)
               have n1_ := kzA (Kd.kBR (Kd.N_elderB (by (with_reducible repeat (first | apply Kd.kAW | apply Kd.kAV | apply Kd.kBC)); exact HO281.out) gb285 (Nat.le_of_eq hg.symm)) hb)
               have n2_ := kzA (kAL (g := gb275) (o := .cells #[.int .i64 1, .int .i64 1, .int .i64 5, .int .i64 13] 23 (0, 0)) (by (with_reducible repeat (first | refine kAH ?_ _ | refine kAI ?_ | refine kAG ?_ _)); exact BK275.out) hb)
               have n3_ := kzA (kAK (by repeat (first | (with_reducible first | exact HB.out | apply kAB | apply kAA | apply kAC | refine kAF ?_ GE275.out) | exact HB.out)) hb)
               have n4_ := kzA (hbox)
               have n5_ := kzA ((by rw [hg]; exact (kAJ (by repeat (first | (with_reducible first | exact HB.out | apply kAB | apply kAA | apply kAC | refine kAF ?_ GE275.out) | exact HB.out))) : w.heap.size ≤ gb285))
               have n6_ := kzA ((by rw [hg]; exact (kAJ (by repeat (first | (with_reducible first | exact HB.out | apply kAB | apply kAA | apply kAC | refine kAF ?_ GE275.out) | exact HB.out))) : w.heap.size ≤ gb285))
               have n7_ := kzA ((by rw [hg]; exact Nat.ne_of_lt (kCH (g := gb275) (o := .cells #[.int .i64 1, .int .i64 1, .int .i64 5, .int .i64 13] 23 (0, 0)) (by (with_reducible repeat (first | refine kAH ?_ _ | refine kAI ?_ | refine kAG ?_ _)); exact BK275.out)) : gb275 ≠ gb285))
               have n8_ := kzA ((by rw [hg]; exact Nat.ne_of_gt (kCH (g := gb275) (o := .cells #[.int .i64 1, .int .i64 1, .int .i64 5, .int .i64 13] 23 (0, 0)) (by (with_reducible repeat (first | refine kAH ?_ _ | refine kAI ?_ | refine kAG ?_ _)); exact BK275.out)) : gb285 ≠ gb275))
               clear HO278
               clear HO281
               clear BK275
               clear HB
               have HO278 := n0_
               have HO281 := n1_
               have BK275 := n2_
               have HB := n3_
               have BK285 := n4_
               have GW285 := n5_
               have GE285 := n6_
               have NB275_285 := n7_
               have NB285_275 := n8_
               clear n0_ n1_ n2_ n3_ n4_ n5_ n6_ n7_ n8_
               clear hb hbox hg
               obtain ⟨Ao33, co33, eo33⟩ := Kd.N_slice HO281.out
               (first | subst eo33 | (injection eo33 with f1_ f2_ f3_; have f4_ := f1_.symm; have f5_ := f3_.symm; clear f1_ f2_ f3_; subst f4_; subst f5_))
               refine hK.out _ _ ⟨(kAD BK275.out 0).trans rfl, (kAD BK275.out 1).trans rfl, (kAD BK275.out 2).trans rfl, (kAD BK275.out 3).trans rfl⟩ (fun hHeld => ?_)
               clear hK K
               refine norm_ (a' := ?_) ?_ ?_
               rotate_left
               ·show Act.put _ (some 3) _ = _
                simp only [Act.put, kzB, kzC, kzD, kAX, kAY]
                rfl
               refine one_ (i := 5) (N := some 24) #[true, true, true, true, true, true, false, true, false] rfl rfl (one_of HT_.out (by kernel_rfl)) (by decide) (fun K hK => ?_)
               refine goes_ Tryd.func15 (by kernel_rfl) rfl #[.slice Ao33 y279.length co33, .agg #[.int .i64 1, .int .i64 1, .int .i64 5, .int .i64 13]] (by rfl) rfl rfl (by (try simp only [List.map_toArray, List.map_cons, List.map_nil]); first | done | rfl | (simp only [List.length_drop, List.length_take]; rfl)) ?_
               with_reducible refine (seal_Sums.calls k _ _ y279 1 1 5 13 t282 _ ?side1 ?side2 ?side3 A2.out).mono ?_
               (case side1 => exact Glob.below hG (by repeat (first | (with_reducible first | exact HB.out | apply kAB | apply kAA | apply kAC | refine kAF ?_ GE275.out | refine kAF ?_ GE285.out) | exact HB.out)))
               (case side2 => repeat (first | exact (Kd.N_reads' HO281.out).2.2 | (with_reducible refine Kd.kBH ?_ _) | (with_reducible refine Kd.kBF ?_ _) | (with_reducible refine Kd.kBM ?_)))
               (case side3 => exact (Kd.N_reads' HO281.out).2.1)
               rintro e w34 ⟨v283, rfl, ho0, hb⟩
               refine ⟨_, rfl, ?_⟩
               have n0_ := kzA (Kd.V_elder' (by (with_reducible repeat (first | apply Kd.kAT | apply Kd.kAS | apply Kd.kAZ)); exact HO278.out) (Kd.S_base ho0) hb)
               have n1_ := kzA (Kd.N_elder' (by (with_reducible repeat (first | apply Kd.kAW | apply Kd.kAV | apply Kd.kBC)); exact HO281.out) (Kd.S_base ho0) hb)
               have n2_ := kzA (Kd.N_lower (Kd.kBY (ok' := fun k_ => some k_ ≠ (.slice Ao33 y279.length co33 : Value).ownBlock ∧ k_ ≠ gb275 ∧ k_ ≠ gb285) (Kd.S_N (Kd.S_bound ho0)) (fun k_ hk_ => ⟨(Kd.fresh' (Kd.N_lt (by (with_reducible repeat (first | apply Kd.kAW | apply Kd.kAV | apply Kd.kBC)); exact HO281.out)) k_ hk_.2.1), (Kd.freshB (g := gb275) (o := .cells #[.int .i64 1, .int .i64 1, .int .i64 5, .int .i64 13] 23 (0, 0)) (by (with_reducible repeat (first | refine kAH ?_ _ | refine kAI ?_ | refine kAG ?_ _)); exact BK275.out) k_ hk_.2.1), (Kd.freshB (g := gb285) (o := .cells #[.int .i64 0, .int .i64 0, .int .i64 0, .int .i64 0, .int .i64 0, .slice none 0 0] 26 (0, 0)) (by (with_reducible repeat (first | refine kAH ?_ _ | refine kAI ?_ | refine kAG ?_ _)); exact BK285.out) k_ hk_.2.1)⟩)) (kAJ (by repeat (first | (with_reducible first | exact HB.out | apply kAB | apply kAA | apply kAC | refine kAF ?_ GE275.out | refine kAF ?_ GE285.out) | exact HB.out))))
               have n3_ := kzA (kAL (g := gb275) (o := .cells #[.int .i64 1, .int .i64 1, .int .i64 5, .int .i64 13] 23 (0, 0)) (by (with_reducible repeat (first | refine kAH ?_ _ | refine kAI ?_ | refine kAG ?_ _)); exact BK275.out) hb)
               have n4_ := kzA (kAL (g := gb285) (o := .cells #[.int .i64 0, .int .i64 0, .int .i64 0, .int .i64 0, .int .i64 0, .slice none 0 0] 26 (0, 0)) (by (with_reducible repeat (first | refine kAH ?_ _ | refine kAI ?_ | refine kAG ?_ _)); exact BK285.out) hb)
               have n5_ := kzA (kAK (by repeat (first | (with_reducible first | exact HB.out | apply kAB | apply kAA | apply kAC | refine kAF ?_ GE275.out | refine kAF ?_ GE285.out) | exact HB.out)) hb)
               clear HO278
               clear HO281
               clear BK275
               clear BK285
               clear HB
               have HO278 := n0_
               have HO281 := n1_
               have HO284 := n2_
               have BK275 := n3_
               have BK285 := n4_
               have HB := n5_
               clear n0_ n1_ n2_ n3_ n4_ n5_
               (try clear hb)
               (try clear hb2)
               (try clear hk)
               (try clear hi)
               (try clear ho0)
               obtain ⟨Ao35, co35, eo35⟩ := Kd.N_slice HO284.out
               (first | subst eo35 | (injection eo35 with f1_ f2_ f3_; have f4_ := f1_.symm; have f5_ := f3_.symm; clear f1_ f2_ f3_; subst f4_; subst f5_))
               refine hK.out _ _ ⟨(kAD BK275.out 0).trans rfl, (kAD BK275.out 1).trans rfl, (kAD BK275.out 2).trans rfl, (kAD BK275.out 3).trans rfl⟩ (fun hHeld => ?_)
               clear hK K
               refine norm_ (a' := ?_) ?_ ?_
               rotate_left
               ·show Act.put _ (some 24) _ = _
                simp only [Act.put, kzB, kzC, kzD, kAX, kAY]
                rfl
               refine kBN (i := 6) (N := some 25) (v := ?_) (a' := ?_) #[true, true, true, true, true, true, true, true, false] rfl rfl (kBG HT_.out (by kernel_rfl)) (fun _ _ _ h => h) (Or.inl ⟨by rfl, ?_⟩) ?_ ?_
               rotate_left
               ·intro w'
                go_simp
                with_reducible rfl
               rotate_left
               ·simp only [Act.put, kzB, kzC, kzD, kAX, kAY]
                rfl
               exact norm_ (by simp only [putAll, Act.put, kzB, kzC, kzD]) (hCont (.slice Ao33 y279.length co33, .slice Ao35 t282.length co35, gb285) _ ⟨hHeld, (by (with_reducible repeat (first | apply Kd.kAT | apply Kd.kAS | apply Kd.kAZ)); exact Kd.kBV HO278.out (fun _ hk => ⟨hk.1.1.2, ⟨hk.2, ⟨hk.1.1.1, hk.1.2⟩⟩⟩)), (by (with_reducible repeat (first | apply Kd.kAW | apply Kd.kAV | apply Kd.kBC)); exact Kd.kBY HO281.out (fun _ hk => ⟨hk.2, ⟨hk.1.1, hk.1.2⟩⟩)), (by (with_reducible repeat (first | apply Kd.kAW | apply Kd.kAV | apply Kd.kBC)); exact HO284.out), (by (with_reducible repeat (first | refine kAH ?_ _ | refine kAI ?_ | refine kAG ?_ _)); exact BK275.out), (by (with_reducible repeat (first | refine kAH ?_ _ | refine kAI ?_ | refine kAG ?_ _)); exact BK285.out), GW285.out, GE285.out, NB275_285.out, NB285_275.out, (by repeat (first | (with_reducible first | exact HB.out | apply kAB | apply kAA | apply kAC | refine kAF ?_ GE275.out | refine kAF ?_ GE285.out) | exact HB.out))⟩)
             ·skip
              refine box_step ?hg (N := 3) ?hd (cs := #[.int .i64 0, .int .i64 0, .int .i64 0, .int .i64 0, .int .i64 0, .slice none 0 0]) (t := 26) ?hr ?_; (case hd => rfl); (case hg => rfl); (case hr => first | (go_simp; done) | (go_simp; rfl))
              intro gb285 hg w29 hbox hb
              have n0_ := kzA (Kd.kCD (Kd.V_elderB (by (with_reducible repeat (first | apply Kd.kAT | apply Kd.kAS | apply Kd.kAZ)); exact HO278.out) gb285 (Nat.le_of_eq hg.symm)) hb)
              have n1_ := kzA (kAL (g := gb275) (o := .cells #[.int .i64 1, .int .i64 1, .int .i64 5, .int .i64 13] 23 (0, 0)) (by (with_reducible repeat (first | refine kAH ?_ _ | refine kAI ?_ | refine kAG ?_ _)); exact BK275.out) hb)
              have n2_ := kzA (kAK (by repeat (first | (with_reducible first | exact HB.out | apply kAB | apply kAA | apply kAC | refine kAF ?_ GE275.out) | exact HB.out)) hb)
              have n3_ := kzA (hbox)
              have n4_ := kzA ((by rw [hg]; exact (kAJ (by repeat (first | (with_reducible first | exact HB.out | apply kAB | apply kAA | apply kAC | refine kAF ?_ GE275.out) | exact HB.out))) : w.heap.size ≤ gb285))
              have n5_ := kzA ((by rw [hg]; exact (kAJ (by repeat (first | (with_reducible first | exact HB.out | apply kAB | apply kAA | apply kAC | refine kAF ?_ GE275.out) | exact HB.out))) : w.heap.size ≤ gb285))
              have n6_ := kzA ((by rw [hg]; exact Nat.ne_of_lt (kCH (g := gb275) (o := .cells #[.int .i64 1, .int .i64 1, .int .i64 5, .int .i64 13] 23 (0, 0)) (by (with_reducible repeat (first | refine kAH ?_ _ | refine kAI ?_ | refine kAG ?_ _)); exact BK275.out)) : gb275 ≠ gb285))
              have n7_ := kzA ((by rw [hg]; exact Nat.ne_of_gt (kCH (g := gb275) (o := .cells #[.int .i64 1, .int .i64 1, .int .i64 5, .int .i64 13] 23 (0, 0)) (by (with_reducible repeat (first | refine kAH ?_ _ | refine kAI ?_ | refine kAG ?_ _)); exact BK275.out)) : gb285 ≠ gb275))
              clear HO278
              clear BK275
              clear HB
              have HO278 := n0_
              have BK275 := n1_
              have HB := n2_
              have BK285 := n3_
              have GW285 := n4_
              have GE285 := n5_
              have NB275_285 := n6_
              have NB285_275 := n7_
              clear n0_ n1_ n2_ n3_ n4_ n5_ n6_ n7_
              clear hb hbox hg
              obtain ⟨Ao30, co30, eo30⟩ := Kd.V_slice HO278.out
              (first | subst eo30 | (injection eo30 with f1_ f2_ f3_; have f4_ := f1_.symm; have f5_ := f3_.symm; clear f1_ f2_ f3_; subst f4_; subst f5_))
              refine hK.out _ _ ⟨(kAD BK275.out 0).trans rfl, (kAD BK275.out 1).trans rfl, (kAD BK275.out 2).trans rfl, (kAD BK275.out 3).trans rfl⟩ (fun hHeld => ?_)
              clear hK K
              refine norm_ (a' := ?_) ?_ ?_
              rotate_left
              ·show Act.put _ (some 3) _ = _
               simp only [Act.put, kzB, kzC, kzD, kAX, kAY]
               rfl
              refine one_ (i := 3) (N := some 22) #[true, true, true, true, true, false, false, true, false] rfl rfl (one_of HT_.out (by kernel_rfl)) (by decide) (fun K hK => ?_)
              refine Kd.N_lit_step (Kd.slice 5 (Kd.int .u8)) _ 27 ?hg (N' := 22) ?hd (xs := ([y276, y276] : List (List Int))) (inner := [.slice Ao30 y276.length co30, .slice Ao30 y276.length co30]) (ok := (fun k_ => k_ ≠ gb275 ∧ k_ ≠ gb285)) (okp := (fun k_ => k_ ≠ gb275 ∧ k_ ≠ gb285)) ?hr ?hp (fun _ hk => hk) ((show ∀ k_, w29.heap.size ≤ k_ → (fun k_ => k_ ≠ gb275 ∧ k_ ≠ gb285) k_ from fun k_ hk => ⟨Kd.freshB (g := gb275) (o := .cells #[.int .i64 1, .int .i64 1, .int .i64 5, .int .i64 13] 23 (0, 0)) (by (with_reducible repeat (first | refine kAH ?_ _ | refine kAI ?_ | refine kAG ?_ _)); exact BK275.out) k_ hk, Kd.freshB (g := gb285) (o := .cells #[.int .i64 0, .int .i64 0, .int .i64 0, .int .i64 0, .int .i64 0, .slice none 0 0] 26 (0, 0)) (by (with_reducible repeat (first | refine kAH ?_ _ | refine kAI ?_ | refine kAG ?_ _)); exact BK285.out) k_ hk⟩) _ (Nat.le_refl _)) (Below.refl _ _) (Nat.le_refl _) (by simp) ?_; (case hd => rfl); (case hg => rfl); (case hr => first | (go_simp; done) | (go_simp; rfl)); (case hp => exact (Reps.one (show Kd.FK (Kd.slice 5 (Kd.int .u8)) _ _ y276 [.slice Ao30 y276.length co30] from (Kd.kCJ (Kd.V_reads' (Kd.kBV (ok' := (fun k_ => k_ ≠ gb275 ∧ k_ ≠ gb285)) (HO278.out) (fun k_ hk => ⟨hk.1, hk.2⟩))).2.1 (Kd.V_F (Kd.kBV (ok' := (fun k_ => k_ ≠ gb275 ∧ k_ ≠ gb285)) (HO278.out) (fun k_ hk => ⟨hk.1, hk.2⟩))))) (Reps.one (show Kd.FK (Kd.slice 5 (Kd.int .u8)) _ _ y276 [.slice Ao30 y276.length co30] from (Kd.kCJ (Kd.V_reads' (Kd.kBV (ok' := (fun k_ => k_ ≠ gb275 ∧ k_ ≠ gb285)) (HO278.out) (fun k_ hk => ⟨hk.1, hk.2⟩))).2.1 (Kd.V_F (Kd.kBV (ok' := (fun k_ => k_ ≠ gb275 ∧ k_ ≠ gb285)) (HO278.out) (fun k_ hk => ⟨hk.1, hk.2⟩))))) (Reps.none _ _))))
              intro v280 w31 ho32 hb hg_ hnew_
              clear hg_ hnew_
              (first | rw [← Ny279.out] at ho32 | (simp only [Int.reduceToNat] at ho32; rw [← Ny279.out] at ho32))
              have n0_ := kzA (Kd.V_elder' (by (with_reducible repeat (first | apply Kd.kAT | apply Kd.kAS | apply Kd.kAZ)); exact HO278.out) (Kd.N_base ho32) hb)
              have n1_ := kzA (Kd.N_lower ho32 (kAJ (by repeat (first | (with_reducible first | exact HB.out | apply kAB | apply kAA | apply kAC | refine kAF ?_ GE275.out | refine kAF ?_ GE285.out) | exact HB.out))))
              have n2_ := kzA (kAL (g := gb275) (o := .cells #[.int .i64 1, .int .i64 1, .int .i64 5, .int .i64 13] 23 (0, 0)) (by (with_reducible repeat (first | refine kAH ?_ _ | refine kAI ?_ | refine kAG ?_ _)); exact BK275.out) hb)
              have n3_ := kzA (kAL (g := gb285) (o := .cells #[.int .i64 0, .int .i64 0, .int .i64 0, .int .i64 0, .int .i64 0, .slice none 0 0] 26 (0, 0)) (by (with_reducible repeat (first | refine kAH ?_ _ | refine kAI ?_ | refine kAG ?_ _)); exact BK285.out) hb)
              have n4_ := kzA (kAK (by repeat (first | (with_reducible first | exact HB.out | apply kAB | apply kAA | apply kAC | refine kAF ?_ GE275.out | refine kAF ?_ GE285.out) | exact HB.out)) hb)
              clear HO278
              clear BK275
              clear BK285
              clear HB
              have HO278 := n0_
              have HO281 := n1_
              have BK275 := n2_
              have BK285 := n3_
              have HB := n4_
              clear n0_ n1_ n2_ n3_ n4_
              clear hb ho32
              obtain ⟨Ao33, co33, eo33⟩ := Kd.N_slice HO281.out
              (first | subst eo33 | (injection eo33 with f1_ f2_ f3_; have f4_ := f1_.symm; have f5_ := f3_.symm; clear f1_ f2_ f3_; subst f4_; subst f5_))
              refine hK.out _ _ ⟨(kAD BK275.out 0).trans rfl, (kAD BK275.out 1).trans rfl, (kAD BK275.out 2).trans rfl, (kAD BK275.out 3).trans rfl⟩ (fun hHeld => ?_)
              clear hK K
              refine norm_ (a' := ?_) ?_ ?_
              rotate_left
              ·show Act.put _ (some 22) _ = _
               simp only [Act.put, kzB, kzC, kzD, kAX, kAY]
               rfl
              refine one_ (i := 5) (N := some 24) #[true, true, true, true, true, true, false, true, false] rfl rfl (one_of HT_.out (by kernel_rfl)) (by decide) (fun K hK => ?_)
              refine goes_ Tryd.func15 (by kernel_rfl) rfl #[.slice Ao33 y279.length co33, .agg #[.int .i64 1, .int .i64 1, .int .i64 5, .int .i64 13]] (by rfl) rfl rfl (by (try simp only [List.map_toArray, List.map_cons, List.map_nil]); first | done | rfl | (simp only [List.length_drop, List.length_take]; rfl)) ?_
              with_reducible refine (seal_Sums.calls k _ _ y279 1 1 5 13 t282 _ ?side1 ?side2 ?side3 A2.out).mono ?_
              (case side1 => exact Glob.below hG (by repeat (first | (with_reducible first | exact HB.out | apply kAB | apply kAA | apply kAC | refine kAF ?_ GE275.out | refine kAF ?_ GE285.out) | exact HB.out)))
              (case side2 => repeat (first | exact (Kd.N_reads' HO281.out).2.2 | (with_reducible refine Kd.kBH ?_ _) | (with_reducible refine Kd.kBF ?_ _) | (with_reducible refine Kd.kBM ?_)))
              (case side3 => exact (Kd.N_reads' HO281.out).2.1)
              rintro e w34 ⟨v283, rfl, ho0, hb⟩
              refine ⟨_, rfl, ?_⟩
              have n0_ := kzA (Kd.V_elder' (by (with_reducible repeat (first | apply Kd.kAT | apply Kd.kAS | apply Kd.kAZ)); exact HO278.out) (Kd.S_base ho0) hb)
              have n1_ := kzA (Kd.N_elder' (by (with_reducible repeat (first | apply Kd.kAW | apply Kd.kAV | apply Kd.kBC)); exact HO281.out) (Kd.S_base ho0) hb)
              have n2_ := kzA (Kd.N_lower (Kd.kBY (ok' := fun k_ => some k_ ≠ (.slice Ao33 y279.length co33 : Value).ownBlock ∧ k_ ≠ gb275 ∧ k_ ≠ gb285) (Kd.S_N (Kd.S_bound ho0)) (fun k_ hk_ => ⟨(Kd.fresh' (Kd.N_lt (by (with_reducible repeat (first | apply Kd.kAW | apply Kd.kAV | apply Kd.kBC)); exact HO281.out)) k_ hk_.2.1), (Kd.freshB (g := gb275) (o := .cells #[.int .i64 1, .int .i64 1, .int .i64 5, .int .i64 13] 23 (0, 0)) (by (with_reducible repeat (first | refine kAH ?_ _ | refine kAI ?_ | refine kAG ?_ _)); exact BK275.out) k_ hk_.2.1), (Kd.freshB (g := gb285) (o := .cells #[.int .i64 0, .int .i64 0, .int .i64 0, .int .i64 0, .int .i64 0, .slice none 0 0] 26 (0, 0)) (by (with_reducible repeat (first | refine kAH ?_ _ | refine kAI ?_ | refine kAG ?_ _)); exact BK285.out) k_ hk_.2.1)⟩)) (kAJ (by repeat (first | (with_reducible first | exact HB.out | apply kAB | apply kAA | apply kAC | refine kAF ?_ GE275.out | refine kAF ?_ GE285.out) | exact HB.out))))
              have n3_ := kzA (kAL (g := gb275) (o := .cells #[.int .i64 1, .int .i64 1, .int .i64 5, .int .i64 13] 23 (0, 0)) (by (with_reducible repeat (first | refine kAH ?_ _ | refine kAI ?_ | refine kAG ?_ _)); exact BK275.out) hb)
              have n4_ := kzA (kAL (g := gb285) (o := .cells #[.int .i64 0, .int .i64 0, .int .i64 0, .int .i64 0, .int .i64 0, .slice none 0 0] 26 (0, 0)) (by (with_reducible repeat (first | refine kAH ?_ _ | refine kAI ?_ | refine kAG ?_ _)); exact BK285.out) hb)
              have n5_ := kzA (kAK (by repeat (first | (with_reducible first | exact HB.out | apply kAB | apply kAA | apply kAC | refine kAF ?_ GE275.out | refine kAF ?_ GE285.out) | exact HB.out)) hb)
              clear HO278
              clear HO281
              clear BK275
              clear BK285
              clear HB
              have HO278 := n0_
              have HO281 := n1_
              have HO284 := n2_
              have BK275 := n3_
              have BK285 := n4_
              have HB := n5_
              clear n0_ n1_ n2_ n3_ n4_ n5_
              (try clear hb)
              (try clear hb2)
              (try clear hk)
              (try clear hi)
              (try clear ho0)
              obtain ⟨Ao35, co35, eo35⟩ := Kd.N_slice HO284.out
              (first | subst eo35 | (injection eo35 with f1_ f2_ f3_; have f4_ := f1_.symm; have f5_ := f3_.symm; clear f1_ f2_ f3_; subst f4_; subst f5_))
              refine hK.out _ _ ⟨(kAD BK275.out 0).trans rfl, (kAD BK275.out 1).trans rfl, (kAD BK275.out 2).trans rfl, (kAD BK275.out 3).trans rfl⟩ (fun hHeld => ?_)
              clear hK K
              refine norm_ (a' := ?_) ?_ ?_
              rotate_left
              ·show Act.put _ (some 24) _ = _
               simp only [Act.put, kzB, kzC, kzD, kAX, kAY]
               rfl
              refine kBN (i := 6) (N := some 25) (v := ?_) (a' := ?_) #[true, true, true, true, true, true, true, true, false] rfl rfl (kBG HT_.out (by kernel_rfl)) (fun _ _ _ h => h) (Or.inl ⟨by rfl, ?_⟩) ?_ ?_
              rotate_left
              ·intro w'
               go_simp
               with_reducible rfl
              rotate_left
              ·simp only [Act.put, kzB, kzC, kzD, kAX, kAY]
               rfl
              exact norm_ (by simp only [putAll, Act.put, kzB, kzC, kzD]) (hCont (.slice Ao33 y279.length co33, .slice Ao35 t282.length co35, gb285) _ ⟨hHeld, (by (with_reducible repeat (first | apply Kd.kAT | apply Kd.kAS | apply Kd.kAZ)); exact Kd.kBV HO278.out (fun _ hk => ⟨hk.1.2, ⟨hk.2, ⟨hk.1.1.1, hk.1.1.2⟩⟩⟩)), (by (with_reducible repeat (first | apply Kd.kAW | apply Kd.kAV | apply Kd.kBC)); exact Kd.kBY HO281.out (fun _ hk => ⟨hk.2, ⟨hk.1.1, hk.1.2⟩⟩)), (by (with_reducible repeat (first | apply Kd.kAW | apply Kd.kAV | apply Kd.kBC)); exact HO284.out), (by (with_reducible repeat (first | refine kAH ?_ _ | refine kAI ?_ | refine kAG ?_ _)); exact BK275.out), (by (with_reducible repeat (first | refine kAH ?_ _ | refine kAI ?_ | refine kAG ?_ _)); exact BK285.out), GW285.out, GE285.out, NB275_285.out, NB285_275.out, (by repeat (first | (with_reducible first | exact HB.out | apply kAB | apply kAA | apply kAC | refine kAF ?_ GE275.out | refine kAF ?_ GE285.out) | exact HB.out))⟩)
            rintro ⟨v280, v283, gb285⟩ w36 ⟨hS_, h0_, h1_, h2_, h3_, h4_, h5_, h6_, h7_, h8_, h9_⟩
            have n0_ : Aside0 (Kd.V (Kd.int .u8) 5 w36 w.heap.size (fun k_ => some k_ ≠ (v280 : Value).ownBlock ∧ some k_ ≠ (v283 : Value).ownBlock ∧ k_ ≠ gb275 ∧ k_ ≠ gb285) (.slice Ao29 y276.length co29) y276) := ⟨h0_⟩
            have n1_ : Aside0 (Kd.N (Kd.slice 5 (Kd.int .u8)) 27 w36 w.heap.size (fun k_ => some k_ ≠ (v283 : Value).ownBlock ∧ k_ ≠ gb275 ∧ k_ ≠ gb285) v280 y279) := ⟨h1_⟩
            have n2_ : Aside0 (Kd.N (Kd.slice 54 (Kd.int .u32)) 56 w36 w.heap.size (fun k_ => some k_ ≠ (v280 : Value).ownBlock ∧ k_ ≠ gb275 ∧ k_ ≠ gb285) v283 t282) := ⟨h2_⟩
            have n3_ : Aside0 (w36.heap[gb275]? = some (.cells #[.int .i64 1, .int .i64 1, .int .i64 5, .int .i64 13] 23 (0, 0))) := ⟨h3_⟩
            have n4_ : Aside0 (w36.heap[gb285]? = some (.cells #[.int .i64 0, .int .i64 0, .int .i64 0, .int .i64 0, .int .i64 0, .slice none 0 0] 26 (0, 0))) := ⟨h4_⟩
            have n5_ : Aside0 (w.heap.size ≤ gb285) := ⟨h5_⟩
            have n6_ : Aside0 (w.heap.size ≤ gb285) := ⟨h6_⟩
            have n7_ : Aside0 (gb275 ≠ gb285) := ⟨h7_⟩
            have n8_ : Aside0 (gb285 ≠ gb275) := ⟨h8_⟩
            have n9_ : Aside0 (Below w.heap.size w w36) := ⟨h9_⟩
            clear HO278
            clear BK275
            clear HB
            clear h0_ h1_ h2_ h3_ h4_ h5_ h6_ h7_ h8_ h9_
            have HO278 := n0_
            have HO281 := n1_
            have HO284 := n2_
            have BK275 := n3_
            have BK285 := n4_
            have GW285 := n5_
            have GE285 := n6_
            have NB275_285 := n7_
            have NB285_275 := n8_
            have HB := n9_
            clear n0_ n1_ n2_ n3_ n4_ n5_ n6_ n7_ n8_ n9_
            have hHeld : w36.cell? ⟨gb275, 0, none⟩ = some (.int .i64 1) ∧ w36.cell? ⟨gb275, 1, none⟩ = some (.int .i64 1) ∧ w36.cell? ⟨gb275, 2, none⟩ = some (.int .i64 5) ∧ w36.cell? ⟨gb275, 3, none⟩ = some (.int .i64 13) := hS_
            obtain ⟨Ao37, co37, eo37⟩ := Kd.N_slice HO284.out
            (first | subst eo37 | (injection eo37 with f1_ f2_ f3_; have f4_ := f1_.symm; have f5_ := f3_.symm; clear f1_ f2_ f3_; subst f4_; subst f5_))
            refine norm_ (a' := ?_) ?_ ?_
            rotate_left
            ·simp only [putAll, Act.put, kzB, kzC, kzD]
             rfl
            refine one_ (i := 8) (N := none) #[true, true, true, true, true, true, true, true, true] rfl rfl (one_of HT_.out (by kernel_rfl)) (by decide) (fun K hK => ?_)
            have hs38 : w36.cell? ⟨gb285, 0, none⟩ = some (.int .i64 0) := (kAD BK285.out 0).trans rfl
            have hfs38 := kAE BK285.out 0
            have hns38_0 := NB275_285.out
            have hms38_0 := NB285_275.out
            have hs39 : w36.cell? ⟨gb285, 1, none⟩ = some (.int .i64 0) := (kAD BK285.out 1).trans rfl
            have hfs39 := kAE BK285.out 1
            have hns39_0 := NB275_285.out
            have hms39_0 := NB285_275.out
            have hs40 : w36.cell? ⟨gb285, 2, none⟩ = some (.int .i64 0) := (kAD BK285.out 2).trans rfl
            have hfs40 := kAE BK285.out 2
            have hns40_0 := NB275_285.out
            have hms40_0 := NB285_275.out
            have hs41 : w36.cell? ⟨gb285, 3, none⟩ = some (.int .i64 0) := (kAD BK285.out 3).trans rfl
            have hfs41 := kAE BK285.out 3
            have hns41_0 := NB275_285.out
            have hms41_0 := NB285_275.out
            have hs42 : w36.cell? ⟨gb285, 4, none⟩ = some (.int .i64 0) := (kAD BK285.out 4).trans rfl
            have hfs42 := kAE BK285.out 4
            have hns42_0 := NB275_285.out
            have hms42_0 := NB285_275.out
            have hs43 : w36.cell? ⟨gb285, 5, none⟩ = some (.slice none 0 0) := (kAD BK285.out 5).trans rfl
            have hfs43 := kAE BK285.out 5
            have hns43_0 := NB275_285.out
            have hms43_0 := NB285_275.out
            refine skip_ (w1 := ?_) (by rfl) rfl ?_ ?_
            rotate_left
            ·go_simp
             rfl
            refine hK.out _ _ ⟨((kBE (p := ⟨gb285, _, none⟩) NB275_285.out _).trans (((kBE (p := ⟨gb285, _, none⟩) NB275_285.out _).trans (((kBE (p := ⟨gb285, _, none⟩) NB275_285.out _).trans (((kBE (p := ⟨gb285, _, none⟩) NB275_285.out _).trans (((kBE (p := ⟨gb285, _, none⟩) NB275_285.out _).trans (((kBE (p := ⟨gb285, _, none⟩) NB275_285.out _).trans (hHeld.1)))))))))))), ((kBE (p := ⟨gb285, _, none⟩) NB275_285.out _).trans (((kBE (p := ⟨gb285, _, none⟩) NB275_285.out _).trans (((kBE (p := ⟨gb285, _, none⟩) NB275_285.out _).trans (((kBE (p := ⟨gb285, _, none⟩) NB275_285.out _).trans (((kBE (p := ⟨gb285, _, none⟩) NB275_285.out _).trans (((kBE (p := ⟨gb285, _, none⟩) NB275_285.out _).trans (hHeld.2.1)))))))))))), ((kBE (p := ⟨gb285, _, none⟩) NB275_285.out _).trans (((kBE (p := ⟨gb285, _, none⟩) NB275_285.out _).trans (((kBE (p := ⟨gb285, _, none⟩) NB275_285.out _).trans (((kBE (p := ⟨gb285, _, none⟩) NB275_285.out _).trans (((kBE (p := ⟨gb285, _, none⟩) NB275_285.out _).trans (((kBE (p := ⟨gb285, _, none⟩) NB275_285.out _).trans (hHeld.2.2.1)))))))))))), ((kBE (p := ⟨gb285, _, none⟩) NB275_285.out _).trans (((kBE (p := ⟨gb285, _, none⟩) NB275_285.out _).trans (((kBE (p := ⟨gb285, _, none⟩) NB275_285.out _).trans (((kBE (p := ⟨gb285, _, none⟩) NB275_285.out _).trans (((kBE (p := ⟨gb285, _, none⟩) NB275_285.out _).trans (((kBE (p := ⟨gb285, _, none⟩) NB275_285.out _).trans (hHeld.2.2.2))))))))))))⟩ (fun hHeld => ?_)
            clear hK K
            refine done_ (done_of HT_.out (by kernel_rfl)) ?_
            have n0_ : Aside0 (Kd.V (Kd.int .u8) 5 ((((((w36.setCell ⟨gb285, 0, none⟩ (.int .i64 1)).setCell ⟨gb285, 1, none⟩ (.int .i64 1)).setCell ⟨gb285, 2, none⟩ (.int .i64 5)).setCell ⟨gb285, 3, none⟩ (.int .i64 13)).setCell ⟨gb285, 4, none⟩ (.int .i64 0)).setCell ⟨gb285, 5, none⟩ (.slice Ao37 t282.length co37)) w.heap.size (fun k_ => some k_ ≠ (v280 : Value).ownBlock ∧ some k_ ≠ (.slice Ao37 t282.length co37 : Value).ownBlock ∧ k_ ≠ gb275 ∧ k_ ≠ gb285) (.slice Ao29 y276.length co29) y276) := ⟨by (with_reducible repeat (first | apply Kd.kAT | apply Kd.kAS | apply Kd.kAZ)); exact Kd.kBV (Kd.V_far (p := ⟨gb285, 5, none⟩) (Kd.V_far (p := ⟨gb285, 4, none⟩) (Kd.V_far (p := ⟨gb285, 3, none⟩) (Kd.V_far (p := ⟨gb285, 2, none⟩) (Kd.V_far (p := ⟨gb285, 1, none⟩) (Kd.V_far (p := ⟨gb285, 0, none⟩) (Kd.kBV HO278.out (fun k_ hk => (⟨hk, hk.2.2.2⟩ : _ ∧ k_ ≠ gb285))) (fun _ hk => hk.2) (.int .i64 1)) (fun _ hk => hk.2) (.int .i64 1)) (fun _ hk => hk.2) (.int .i64 5)) (fun _ hk => hk.2) (.int .i64 13)) (fun _ hk => hk.2) (.int .i64 0)) (fun _ hk => hk.2) (.slice Ao37 t282.length co37)) (fun _ hk => ⟨hk.1.1, ⟨hk.1.2.1, ⟨hk.1.2.2.1, hk.1.2.2.2⟩⟩⟩)⟩
            have n1_ : Aside0 (Kd.N (Kd.slice 5 (Kd.int .u8)) 27 ((((((w36.setCell ⟨gb285, 0, none⟩ (.int .i64 1)).setCell ⟨gb285, 1, none⟩ (.int .i64 1)).setCell ⟨gb285, 2, none⟩ (.int .i64 5)).setCell ⟨gb285, 3, none⟩ (.int .i64 13)).setCell ⟨gb285, 4, none⟩ (.int .i64 0)).setCell ⟨gb285, 5, none⟩ (.slice Ao37 t282.length co37)) w.heap.size (fun k_ => some k_ ≠ (.slice Ao37 t282.length co37 : Value).ownBlock ∧ k_ ≠ gb275 ∧ k_ ≠ gb285) v280 y279) := ⟨by (with_reducible repeat (first | apply Kd.kAW | apply Kd.kAV | apply Kd.kBC)); exact Kd.kBY (Kd.kBT (p := ⟨gb285, 5, none⟩) (Kd.kBT (p := ⟨gb285, 4, none⟩) (Kd.kBT (p := ⟨gb285, 3, none⟩) (Kd.kBT (p := ⟨gb285, 2, none⟩) (Kd.kBT (p := ⟨gb285, 1, none⟩) (Kd.kBT (p := ⟨gb285, 0, none⟩) (Kd.kBY HO281.out (fun k_ hk => (⟨hk, hk.2.2⟩ : _ ∧ k_ ≠ gb285))) (fun _ hk => hk.2) (.int .i64 1)) (fun _ hk => hk.2) (.int .i64 1)) (fun _ hk => hk.2) (.int .i64 5)) (fun _ hk => hk.2) (.int .i64 13)) (fun _ hk => hk.2) (.int .i64 0)) (fun _ hk => hk.2) (.slice Ao37 t282.length co37)) (fun _ hk => ⟨hk.1.1, ⟨hk.1.2.1, hk.1.2.2⟩⟩)⟩
            have n2_ : Aside0 (Kd.N (Kd.slice 54 (Kd.int .u32)) 56 ((((((w36.setCell ⟨gb285, 0, none⟩ (.int .i64 1)).setCell ⟨gb285, 1, none⟩ (.int .i64 1)).setCell ⟨gb285, 2, none⟩ (.int .i64 5)).setCell ⟨gb285, 3, none⟩ (.int .i64 13)).setCell ⟨gb285, 4, none⟩ (.int .i64 0)).setCell ⟨gb285, 5, none⟩ (.slice Ao37 t282.length co37)) w.heap.size (fun k_ => some k_ ≠ (v280 : Value).ownBlock ∧ k_ ≠ gb275 ∧ k_ ≠ gb285) (.slice Ao37 t282.length co37) t282) := ⟨by (with_reducible repeat (first | apply Kd.kAW | apply Kd.kAV | apply Kd.kBC)); exact Kd.kBY (Kd.kBT (p := ⟨gb285, 5, none⟩) (Kd.kBT (p := ⟨gb285, 4, none⟩) (Kd.kBT (p := ⟨gb285, 3, none⟩) (Kd.kBT (p := ⟨gb285, 2, none⟩) (Kd.kBT (p := ⟨gb285, 1, none⟩) (Kd.kBT (p := ⟨gb285, 0, none⟩) (Kd.kBY HO284.out (fun k_ hk => (⟨hk, hk.2.2⟩ : _ ∧ k_ ≠ gb285))) (fun _ hk => hk.2) (.int .i64 1)) (fun _ hk => hk.2) (.int .i64 1)) (fun _ hk => hk.2) (.int .i64 5)) (fun _ hk => hk.2) (.int .i64 13)) (fun _ hk => hk.2) (.int .i64 0)) (fun _ hk => hk.2) (.slice Ao37 t282.length co37)) (fun _ hk => ⟨hk.1.1, ⟨hk.1.2.1, hk.1.2.2⟩⟩)⟩
            have n3_ : Aside0 (((((((w36.setCell ⟨gb285, 0, none⟩ (.int .i64 1)).setCell ⟨gb285, 1, none⟩ (.int .i64 1)).setCell ⟨gb285, 2, none⟩ (.int .i64 5)).setCell ⟨gb285, 3, none⟩ (.int .i64 13)).setCell ⟨gb285, 4, none⟩ (.int .i64 0)).setCell ⟨gb285, 5, none⟩ (.slice Ao37 t282.length co37)).heap[gb275]? = some (.cells #[.int .i64 1, .int .i64 1, .int .i64 5, .int .i64 13] 23 (0, 0))) := ⟨by (with_reducible repeat (first | refine kAH ?_ _ | refine kAI ?_ | refine kAG ?_ _)); refine kBB ?_ NB275_285.out _; (with_reducible repeat (first | refine kAH ?_ _ | refine kAI ?_ | refine kAG ?_ _)); refine kBB ?_ NB275_285.out _; (with_reducible repeat (first | refine kAH ?_ _ | refine kAI ?_ | refine kAG ?_ _)); refine kBB ?_ NB275_285.out _; (with_reducible repeat (first | refine kAH ?_ _ | refine kAI ?_ | refine kAG ?_ _)); refine kBB ?_ NB275_285.out _; (with_reducible repeat (first | refine kAH ?_ _ | refine kAI ?_ | refine kAG ?_ _)); refine kBB ?_ NB275_285.out _; (with_reducible repeat (first | refine kAH ?_ _ | refine kAI ?_ | refine kAG ?_ _)); refine kBB ?_ NB275_285.out _; (with_reducible repeat (first | refine kAH ?_ _ | refine kAI ?_ | refine kAG ?_ _)); exact BK275.out⟩
            have n4_ : Aside0 (((((((w36.setCell ⟨gb285, 0, none⟩ (.int .i64 1)).setCell ⟨gb285, 1, none⟩ (.int .i64 1)).setCell ⟨gb285, 2, none⟩ (.int .i64 5)).setCell ⟨gb285, 3, none⟩ (.int .i64 13)).setCell ⟨gb285, 4, none⟩ (.int .i64 0)).setCell ⟨gb285, 5, none⟩ (.slice Ao37 t282.length co37)).heap[gb285]? = some (.cells #[.int .i64 1, .int .i64 1, .int .i64 5, .int .i64 13, .int .i64 0, .slice Ao37 t282.length co37] 26 (0, 0))) := ⟨by (with_reducible repeat (first | refine kAH ?_ _ | refine kAI ?_ | refine kAG ?_ _)); refine kAU (cs := #[.int .i64 1, .int .i64 1, .int .i64 5, .int .i64 13, .int .i64 0, .slice none 0 0]) ?_ 5 _ rfl; (with_reducible repeat (first | refine kAH ?_ _ | refine kAI ?_ | refine kAG ?_ _)); refine kAU (cs := #[.int .i64 1, .int .i64 1, .int .i64 5, .int .i64 13, .int .i64 0, .slice none 0 0]) ?_ 4 _ rfl; (with_reducible repeat (first | refine kAH ?_ _ | refine kAI ?_ | refine kAG ?_ _)); refine kAU (cs := #[.int .i64 1, .int .i64 1, .int .i64 5, .int .i64 0, .int .i64 0, .slice none 0 0]) ?_ 3 _ rfl; (with_reducible repeat (first | refine kAH ?_ _ | refine kAI ?_ | refine kAG ?_ _)); refine kAU (cs := #[.int .i64 1, .int .i64 1, .int .i64 0, .int .i64 0, .int .i64 0, .slice none 0 0]) ?_ 2 _ rfl; (with_reducible repeat (first | refine kAH ?_ _ | refine kAI ?_ | refine kAG ?_ _)); refine kAU (cs := #[.int .i64 1, .int .i64 0, .int .i64 0, .int .i64 0, .int .i64 0, .slice none 0 0]) ?_ 1 _ rfl; (with_reducible repeat (first | refine kAH ?_ _ | refine kAI ?_ | refine kAG ?_ _)); refine kAU (cs := #[.int .i64 0, .int .i64 0, .int .i64 0, .int .i64 0, .int .i64 0, .slice none 0 0]) ?_ 0 _ rfl; (with_reducible repeat (first | refine kAH ?_ _ | refine kAI ?_ | refine kAG ?_ _)); exact BK285.out⟩
            have n5_ : Aside0 (Below w.heap.size w ((((((w36.setCell ⟨gb285, 0, none⟩ (.int .i64 1)).setCell ⟨gb285, 1, none⟩ (.int .i64 1)).setCell ⟨gb285, 2, none⟩ (.int .i64 5)).setCell ⟨gb285, 3, none⟩ (.int .i64 13)).setCell ⟨gb285, 4, none⟩ (.int .i64 0)).setCell ⟨gb285, 5, none⟩ (.slice Ao37 t282.length co37))) := ⟨by repeat (first | (with_reducible first | exact HB.out | apply kAB | apply kAA | apply kAC | refine kAF ?_ GE275.out | refine kAF ?_ GE285.out) | exact HB.out)⟩
            (try clear HO278)
            (try clear HO281)
            (try clear HO284)
            (try clear BK275)
            (try clear BK285)
            (try clear HB)
            generalize ((((((w36.setCell ⟨gb285, 0, none⟩ (.int .i64 1)).setCell ⟨gb285, 1, none⟩ (.int .i64 1)).setCell ⟨gb285, 2, none⟩ (.int .i64 5)).setCell ⟨gb285, 3, none⟩ (.int .i64 13)).setCell ⟨gb285, 4, none⟩ (.int .i64 0)).setCell ⟨gb285, 5, none⟩ (.slice Ao37 t282.length co37)) = w44 at n0_ n1_ n2_ n3_ n4_ n5_ ⊢
            have HO278 := n0_
            have HO281 := n1_
            have HO284 := n2_
            have BK275 := n3_
            have BK285 := n4_
            have HB := n5_
            clear n0_ n1_ n2_ n3_ n4_ n5_
            have hnb45 := NB285_275.out
            have hnc45 := NB275_285.out
            have hcz46_0 : w44.cell? ⟨gb285, 0, none⟩ = some (.int .i64 1) := (kAD BK285.out 0).trans rfl
            have hcz46_1 : w44.cell? ⟨gb285, 1, none⟩ = some (.int .i64 1) := (kAD BK285.out 1).trans rfl
            have hcz46_2 : w44.cell? ⟨gb285, 2, none⟩ = some (.int .i64 5) := (kAD BK285.out 2).trans rfl
            have hcz46_3 : w44.cell? ⟨gb285, 3, none⟩ = some (.int .i64 13) := (kAD BK285.out 3).trans rfl
            have hcz46_4 : w44.cell? ⟨gb285, 4, none⟩ = some (.int .i64 0) := (kAD BK285.out 4).trans rfl
            have hcz46_5 : w44.cell? ⟨gb285, 5, none⟩ = some (.slice Ao37 t282.length co37) := (kAD BK285.out 5).trans rfl
            have hfz46_0 := kAE BK285.out 0
            have hfz46_1 := kAE BK285.out 1
            have hfz46_2 := kAE BK285.out 2
            have hfz46_3 := kAE BK285.out 3
            have hfz46_4 := kAE BK285.out 4
            have hfz46_5 := kAE BK285.out 5
            try go_wp2_with (first | ((with_reducible refine kAQ (f := 9) rfl ?_); refine kBI (some 29) rfl rfl Tryd.func9 (by kernel_rfl) rfl #[.agg #[.int .i64 1, .int .i64 1, .int .i64 5, .int .i64 13, .int .i64 0, .slice Ao37 t282.length co37], .slice Ao29 y276.length co29] rfl (by (try simp only [List.map_toArray, List.map_cons, List.map_nil]); first | done | rfl | (simp only [List.length_drop, List.length_take]; rfl)) ?_; (with_reducible refine (seal_Write.calls k 1 1 5 13 0 _ _ t282 (fun k_ => (some k_ ≠ (v280 : Value).ownBlock ∧ (some k_ ≠ (.slice Ao37 t282.length co37 : Value).ownBlock ∧ (k_ ≠ gb275 ∧ k_ ≠ gb285)))) _ _ y276 t286 t289 _ ?side1 ?side2 ?side3 ?side4 A3.out).mono ?_); (case side1 => exact Glob.below hG (by repeat (first | (with_reducible first | exact HB.out | apply kAB | apply kAA | apply kAC | refine kAF ?_ GE275.out | refine kAF ?_ GE285.out) | exact HB.out))); (case side2 => repeat (first | exact (Kd.N_reads' HO284.out).2.2 | (with_reducible refine Kd.kBH ?_ _) | (with_reducible refine Kd.kBF ?_ _) | (with_reducible refine Kd.kBM ?_))); (case side3 => exact (Kd.N_reads' HO284.out).2.1); (case side4 => exact HO278.out); rintro e w47 ⟨v287, rfl, ho0, hb⟩; refine ⟨_, rfl, ?_⟩; have n0_ := kzA (Kd.V_elder' (by (with_reducible repeat (first | apply Kd.kAT | apply Kd.kAS | apply Kd.kAZ)); exact HO278.out) (Kd.kBK ho0) hb); have n1_ := kzA (Kd.N_elder' (by (with_reducible repeat (first | apply Kd.kAW | apply Kd.kAV | apply Kd.kBC)); exact HO281.out) (Kd.kBK ho0) hb); have n2_ := kzA (Kd.N_elder' (by (with_reducible repeat (first | apply Kd.kAW | apply Kd.kAV | apply Kd.kBC)); exact HO284.out) (Kd.kBK ho0) hb); have n3_ := kzA (Kd.kBO (Kd.kBL (ok' := fun k_ => True) ho0 (fun _ hk_ => trivial)) (kAJ (by repeat (first | (with_reducible first | exact HB.out | apply kAB | apply kAA | apply kAC | refine kAF ?_ GE275.out | refine kAF ?_ GE285.out) | exact HB.out)))); have n4_ := kzA (kAL (g := gb275) (o := .cells #[.int .i64 1, .int .i64 1, .int .i64 5, .int .i64 13] 23 (0, 0)) (by (with_reducible repeat (first | refine kAH ?_ _ | refine kAI ?_ | refine kAG ?_ _)); exact BK275.out) hb); have n5_ := kzA (kAL (g := gb285) (o := .cells #[.int .i64 1, .int .i64 1, .int .i64 5, .int .i64 13, .int .i64 0, .slice Ao37 t282.length co37] 26 (0, 0)) (by (with_reducible repeat (first | refine kAH ?_ _ | refine kAI ?_ | refine kAG ?_ _)); exact BK285.out) hb); have n6_ := kzA (kAK (by repeat (first | (with_reducible first | exact HB.out | apply kAB | apply kAA | apply kAC | refine kAF ?_ GE275.out | refine kAF ?_ GE285.out) | exact HB.out)) hb); clear HO278; clear HO281; clear HO284; clear BK275; clear BK285; clear HB; have HO278 := n0_; have HO281 := n1_; have HO284 := n2_; have HO288 := n3_; have BK275 := n4_; have BK285 := n5_; have HB := n6_; clear n0_ n1_ n2_ n3_ n4_ n5_ n6_; (try clear hb); (try clear hb2); (try clear hk); (try clear hi); (try clear ho0); obtain ⟨Ao48, co48, eo48⟩ := Kd.kCK HO288.out; subst eo48) | ((with_reducible refine kAQ (f := 19) rfl ?_); refine kBI (some 34) rfl rfl Tryd.func19 (by kernel_rfl) rfl #[.slice Ao48 t286.length co48] rfl (by (try simp only [List.map_toArray, List.map_cons, List.map_nil]); first | done | rfl | (simp only [List.length_drop, List.length_take]; rfl)) ?_; (with_reducible refine (seal_Parse.calls k _ _ t286 t290 t291 t292 t293 t294 t295 t298 t301 _ ?side1 ?side2 ?side3 A4.out).mono ?_); (case side1 => exact Glob.below hG (by repeat (first | (with_reducible first | exact HB.out | apply kAB | apply kAA | apply kAC | refine kAF ?_ GE275.out | refine kAF ?_ GE285.out) | exact HB.out))); (case side2 => repeat (first | exact (Kd.R_reads' HO288.out).2.2 | (with_reducible refine Kd.kBH ?_ _) | (with_reducible refine Kd.kBF ?_ _) | (with_reducible refine Kd.kBM ?_))); (case side3 => exact (Kd.R_reads' HO288.out).2.1); rintro e w49 ⟨v296, v299, rfl, ho0, ho1, hb⟩; refine ⟨_, rfl, ?_⟩; have n0_ := kzA (Kd.kBV (Kd.V_told (Kd.V_told (Kd.V_old (by (with_reducible repeat (first | apply Kd.kAT | apply Kd.kAS | apply Kd.kAZ)); exact HO278.out) hb) (Kd.S_base ho0)) (Kd.kBK ho1)) (fun _ h_ => h_.1)); have n1_ := kzA (Kd.kBY (Kd.N_told (Kd.N_told (Kd.N_old (by (with_reducible repeat (first | apply Kd.kAW | apply Kd.kAV | apply Kd.kBC)); exact HO281.out) hb) (Kd.S_base ho0)) (Kd.kBK ho1)) (fun _ h_ => h_.1)); have n2_ := kzA (Kd.kBY (Kd.N_told (Kd.N_told (Kd.N_old (by (with_reducible repeat (first | apply Kd.kAW | apply Kd.kAV | apply Kd.kBC)); exact HO284.out) hb) (Kd.S_base ho0)) (Kd.kBK ho1)) (fun _ h_ => h_.1)); have n3_ := kzA (Kd.R_elder' (by (with_reducible repeat (first | apply Kd.kAP | apply Kd.kAO | apply Kd.kAR)); exact HO288.out) (Kd.kBK ho1) hb); have n4_ := kzA (Kd.N_lower (Kd.kBY (ok' := fun k_ => some k_ ≠ (v299 : Value).ownBlock ∧ some k_ ≠ (v280 : Value).ownBlock ∧ some k_ ≠ (.slice Ao37 t282.length co37 : Value).ownBlock ∧ some k_ ≠ (.slice Ao48 t286.length co48 : Value).ownBlock ∧ k_ ≠ gb275 ∧ k_ ≠ gb285) (Kd.S_N (Kd.S_bound (Kd.S_apart' ho0 (Kd.R_typed ho1) (by decide)))) (fun k_ hk_ => ⟨hk_.1.2, (Kd.fresh' (Kd.N_lt (by (with_reducible repeat (first | apply Kd.kAW | apply Kd.kAV | apply Kd.kBC)); exact HO281.out)) k_ hk_.2.1), (Kd.fresh' (Kd.N_lt (by (with_reducible repeat (first | apply Kd.kAW | apply Kd.kAV | apply Kd.kBC)); exact HO284.out)) k_ hk_.2.1), (Kd.fresh' (Kd.R_lt (by (with_reducible repeat (first | apply Kd.kAP | apply Kd.kAO | apply Kd.kAR)); exact HO288.out)) k_ hk_.2.1), (Kd.freshB (g := gb275) (o := .cells #[.int .i64 1, .int .i64 1, .int .i64 5, .int .i64 13] 23 (0, 0)) (by (with_reducible repeat (first | refine kAH ?_ _ | refine kAI ?_ | refine kAG ?_ _)); exact BK275.out) k_ hk_.2.1), (Kd.freshB (g := gb285) (o := .cells #[.int .i64 1, .int .i64 1, .int .i64 5, .int .i64 13, .int .i64 0, .slice Ao37 t282.length co37] 26 (0, 0)) (by (with_reducible repeat (first | refine kAH ?_ _ | refine kAI ?_ | refine kAG ?_ _)); exact BK285.out) k_ hk_.2.1)⟩)) (kAJ (by repeat (first | (with_reducible first | exact HB.out | apply kAB | apply kAA | apply kAC | refine kAF ?_ GE275.out | refine kAF ?_ GE285.out) | exact HB.out)))); have n5_ := kzA (Kd.kBO (Kd.R_new' ho1 (Kd.R_lt (by (with_reducible repeat (first | apply Kd.kAP | apply Kd.kAO | apply Kd.kAR)); exact HO288.out))) (kAJ (by repeat (first | (with_reducible first | exact HB.out | apply kAB | apply kAA | apply kAC | refine kAF ?_ GE275.out | refine kAF ?_ GE285.out) | exact HB.out)))); have n6_ := kzA (kAL (g := gb275) (o := .cells #[.int .i64 1, .int .i64 1, .int .i64 5, .int .i64 13] 23 (0, 0)) (by (with_reducible repeat (first | refine kAH ?_ _ | refine kAI ?_ | refine kAG ?_ _)); exact BK275.out) hb); have n7_ := kzA (kAL (g := gb285) (o := .cells #[.int .i64 1, .int .i64 1, .int .i64 5, .int .i64 13, .int .i64 0, .slice Ao37 t282.length co37] 26 (0, 0)) (by (with_reducible repeat (first | refine kAH ?_ _ | refine kAI ?_ | refine kAG ?_ _)); exact BK285.out) hb); have n8_ := kzA (kAK (by repeat (first | (with_reducible first | exact HB.out | apply kAB | apply kAA | apply kAC | refine kAF ?_ GE275.out | refine kAF ?_ GE285.out) | exact HB.out)) hb); clear HO278; clear HO281; clear HO284; clear HO288; clear BK275; clear BK285; clear HB; have HO278 := n0_; have HO281 := n1_; have HO284 := n2_; have HO288 := n3_; have HO297 := n4_; have HO300 := n5_; have BK275 := n6_; have BK285 := n7_; have HB := n8_; clear n0_ n1_ n2_ n3_ n4_ n5_ n6_ n7_ n8_; (try clear hb); (try clear hb2); (try clear hk); (try clear hi); (try clear ho0); (try clear ho1)) | ((with_reducible refine kBA (N := 6) rfl ?_); refine kBD ?hg (N := 6) ?hd (cs := #[.int .i64 0, .int .i64 0, .int .i64 0, .int .i64 0, .int .i64 0, .slice none 0 0]) (t := 26) ?hr ?_; (case hd => rfl); (case hg => rfl); (case hr => first | (go_simp; done) | (go_simp; rfl)); intro gb302 hg w50 hbox hb; have n0_ := kzA (Kd.kCD (Kd.V_elderB (by (with_reducible repeat (first | apply Kd.kAT | apply Kd.kAS | apply Kd.kAZ)); exact HO278.out) gb302 (Nat.le_of_eq hg.symm)) hb); have n1_ := kzA (Kd.kBR (Kd.N_elderB (by (with_reducible repeat (first | apply Kd.kAW | apply Kd.kAV | apply Kd.kBC)); exact HO281.out) gb302 (Nat.le_of_eq hg.symm)) hb); have n2_ := kzA (Kd.kBR (Kd.N_elderB (by (with_reducible repeat (first | apply Kd.kAW | apply Kd.kAV | apply Kd.kBC)); exact HO284.out) gb302 (Nat.le_of_eq hg.symm)) hb); have n3_ := kzA (Kd.kBJ (by (with_reducible repeat (first | apply Kd.kAP | apply Kd.kAO | apply Kd.kAR)); exact HO288.out) hb); have n4_ := kzA (Kd.kBR (Kd.N_elderB (by (with_reducible repeat (first | apply Kd.kAW | apply Kd.kAV | apply Kd.kBC)); exact HO297.out) gb302 (Nat.le_of_eq hg.symm)) hb); have n5_ := kzA (Kd.kBJ (by (with_reducible repeat (first | apply Kd.kAP | apply Kd.kAO | apply Kd.kAR)); exact HO300.out) hb); have n6_ := kzA (kAL (g := gb275) (o := .cells #[.int .i64 1, .int .i64 1, .int .i64 5, .int .i64 13] 23 (0, 0)) (by (with_reducible repeat (first | refine kAH ?_ _ | refine kAI ?_ | refine kAG ?_ _)); exact BK275.out) hb); have n7_ := kzA (kAL (g := gb285) (o := .cells #[.int .i64 1, .int .i64 1, .int .i64 5, .int .i64 13, .int .i64 0, .slice Ao37 t282.length co37] 26 (0, 0)) (by (with_reducible repeat (first | refine kAH ?_ _ | refine kAI ?_ | refine kAG ?_ _)); exact BK285.out) hb); have n8_ := kzA (kAK (by repeat (first | (with_reducible first | exact HB.out | apply kAB | apply kAA | apply kAC | refine kAF ?_ GE275.out | refine kAF ?_ GE285.out) | exact HB.out)) hb); have n9_ := kzA (hbox); have n10_ := kzA ((by rw [hg]; exact (kAJ (by repeat (first | (with_reducible first | exact HB.out | apply kAB | apply kAA | apply kAC | refine kAF ?_ GE275.out | refine kAF ?_ GE285.out) | exact HB.out))) : w.heap.size ≤ gb302)); have n11_ := kzA ((by rw [hg]; exact (kAJ (by repeat (first | (with_reducible first | exact HB.out | apply kAB | apply kAA | apply kAC | refine kAF ?_ GE275.out | refine kAF ?_ GE285.out) | exact HB.out))) : w.heap.size ≤ gb302)); have n12_ := kzA ((by rw [hg]; exact Nat.ne_of_lt (kCH (g := gb275) (o := .cells #[.int .i64 1, .int .i64 1, .int .i64 5, .int .i64 13] 23 (0, 0)) (by (with_reducible repeat (first | refine kAH ?_ _ | refine kAI ?_ | refine kAG ?_ _)); exact BK275.out)) : gb275 ≠ gb302)); have n13_ := kzA ((by rw [hg]; exact Nat.ne_of_gt (kCH (g := gb275) (o := .cells #[.int .i64 1, .int .i64 1, .int .i64 5, .int .i64 13] 23 (0, 0)) (by (with_reducible repeat (first | refine kAH ?_ _ | refine kAI ?_ | refine kAG ?_ _)); exact BK275.out)) : gb302 ≠ gb275)); have n14_ := kzA ((by rw [hg]; exact Nat.ne_of_lt (kCH (g := gb285) (o := .cells #[.int .i64 1, .int .i64 1, .int .i64 5, .int .i64 13, .int .i64 0, .slice Ao37 t282.length co37] 26 (0, 0)) (by (with_reducible repeat (first | refine kAH ?_ _ | refine kAI ?_ | refine kAG ?_ _)); exact BK285.out)) : gb285 ≠ gb302)); have n15_ := kzA ((by rw [hg]; exact Nat.ne_of_gt (kCH (g := gb285) (o := .cells #[.int .i64 1, .int .i64 1, .int .i64 5, .int .i64 13, .int .i64 0, .slice Ao37 t282.length co37] 26 (0, 0)) (by (with_reducible repeat (first | refine kAH ?_ _ | refine kAI ?_ | refine kAG ?_ _)); exact BK285.out)) : gb302 ≠ gb285)); clear HO278; clear HO281; clear HO284; clear HO288; clear HO297; clear HO300; clear BK275; clear BK285; clear HB; have HO278 := n0_; have HO281 := n1_; have HO284 := n2_; have HO288 := n3_; have HO297 := n4_; have HO300 := n5_; have BK275 := n6_; have BK285 := n7_; have HB := n8_; have BK302 := n9_; have GW302 := n10_; have GE302 := n11_; have NB275_302 := n12_; have NB302_275 := n13_; have NB285_302 := n14_; have NB302_285 := n15_; clear n0_ n1_ n2_ n3_ n4_ n5_ n6_ n7_ n8_ n9_ n10_ n11_ n12_ n13_ n14_ n15_; clear hb hbox hg; have hnb51 := NB302_275.out; have hnc51 := NB275_302.out; have hnb52 := NB302_285.out; have hnc52 := NB285_302.out; have hcz53_0 : w50.cell? ⟨gb302, 0, none⟩ = some (.int .i64 0) := (kAD BK302.out 0).trans rfl; have hcz53_1 : w50.cell? ⟨gb302, 1, none⟩ = some (.int .i64 0) := (kAD BK302.out 1).trans rfl; have hcz53_2 : w50.cell? ⟨gb302, 2, none⟩ = some (.int .i64 0) := (kAD BK302.out 2).trans rfl; have hcz53_3 : w50.cell? ⟨gb302, 3, none⟩ = some (.int .i64 0) := (kAD BK302.out 3).trans rfl; have hcz53_4 : w50.cell? ⟨gb302, 4, none⟩ = some (.int .i64 0) := (kAD BK302.out 4).trans rfl; have hcz53_5 : w50.cell? ⟨gb302, 5, none⟩ = some (.slice none 0 0) := (kAD BK302.out 5).trans rfl; have hfz53_0 := kAE BK302.out 0; have hfz53_1 := kAE BK302.out 1; have hfz53_2 := kAE BK302.out 2; have hfz53_3 := kAE BK302.out 3; have hfz53_4 := kAE BK302.out 4; have hfz53_5 := kAE BK302.out 5; obtain ⟨Ao54, co54, eo54⟩ := Kd.N_slice HO297.out; subst eo54) | ((with_reducible refine gate_store (t := 26) (p := 6) rfl ?_); refine store_event (t := 26) (p := 6) (v := ?vo_w55) (w1 := ((((((w50.setCell ⟨gb302, 0, none⟩ (.int .i64 t290)).setCell ⟨gb302, 1, none⟩ (.int .i64 t291)).setCell ⟨gb302, 2, none⟩ (.int .i64 t292)).setCell ⟨gb302, 3, none⟩ (.int .i64 t293)).setCell ⟨gb302, 4, none⟩ (.int .i64 t294)).setCell ⟨gb302, 5, none⟩ (.slice Ao54 t295.length co54))) ?hg ?ho ?hn ?hr ?_; (case ho => rfl); (case hg => rfl); (case hn => rfl); (case hr => first | (go_simp; done) | (go_simp; rfl)); intro w55 hw; have n0_ : Aside0 (Kd.V (Kd.int .u8) 5 w55 w.heap.size (fun k_ => some k_ ≠ (v280 : Value).ownBlock ∧ some k_ ≠ (.slice Ao37 t282.length co37 : Value).ownBlock ∧ some k_ ≠ (.slice Ao48 t286.length co48 : Value).ownBlock ∧ some k_ ≠ (.slice Ao54 t295.length co54 : Value).ownBlock ∧ some k_ ≠ (v299 : Value).ownBlock ∧ k_ ≠ gb275 ∧ k_ ≠ gb285 ∧ k_ ≠ gb302) (.slice Ao29 y276.length co29) y276) := ⟨(by rw [hw]; exact (by (with_reducible repeat (first | apply Kd.kAT | apply Kd.kAS | apply Kd.kAZ)); exact Kd.kBV (Kd.V_far (p := ⟨gb302, 5, none⟩) (Kd.V_far (p := ⟨gb302, 4, none⟩) (Kd.V_far (p := ⟨gb302, 3, none⟩) (Kd.V_far (p := ⟨gb302, 2, none⟩) (Kd.V_far (p := ⟨gb302, 1, none⟩) (Kd.V_far (p := ⟨gb302, 0, none⟩) (Kd.kBV HO278.out (fun k_ hk => (⟨hk, hk.2⟩ : _ ∧ k_ ≠ gb302))) (fun _ hk => hk.2) (.int .i64 t290)) (fun _ hk => hk.2) (.int .i64 t291)) (fun _ hk => hk.2) (.int .i64 t292)) (fun _ hk => hk.2) (.int .i64 t293)) (fun _ hk => hk.2) (.int .i64 t294)) (fun _ hk => hk.2) (.slice Ao54 t295.length co54)) (fun _ hk => ⟨hk.1.1.1.1.1.1, ⟨hk.1.1.1.1.1.2.1, ⟨hk.1.1.1.1.2, ⟨hk.1.1.1.2, ⟨hk.1.1.2, ⟨hk.1.1.1.1.1.2.2.1, ⟨hk.1.1.1.1.1.2.2.2, hk.1.2⟩⟩⟩⟩⟩⟩⟩)))⟩; have n1_ : Aside0 (Kd.N (Kd.slice 5 (Kd.int .u8)) 27 w55 w.heap.size (fun k_ => some k_ ≠ (.slice Ao37 t282.length co37 : Value).ownBlock ∧ some k_ ≠ (.slice Ao48 t286.length co48 : Value).ownBlock ∧ some k_ ≠ (.slice Ao54 t295.length co54 : Value).ownBlock ∧ some k_ ≠ (v299 : Value).ownBlock ∧ k_ ≠ gb275 ∧ k_ ≠ gb285 ∧ k_ ≠ gb302) v280 y279) := ⟨(by rw [hw]; exact (by (with_reducible repeat (first | apply Kd.kAW | apply Kd.kAV | apply Kd.kBC)); exact Kd.kBY (Kd.kBT (p := ⟨gb302, 5, none⟩) (Kd.kBT (p := ⟨gb302, 4, none⟩) (Kd.kBT (p := ⟨gb302, 3, none⟩) (Kd.kBT (p := ⟨gb302, 2, none⟩) (Kd.kBT (p := ⟨gb302, 1, none⟩) (Kd.kBT (p := ⟨gb302, 0, none⟩) (Kd.kBY HO281.out (fun k_ hk => (⟨hk, hk.2⟩ : _ ∧ k_ ≠ gb302))) (fun _ hk => hk.2) (.int .i64 t290)) (fun _ hk => hk.2) (.int .i64 t291)) (fun _ hk => hk.2) (.int .i64 t292)) (fun _ hk => hk.2) (.int .i64 t293)) (fun _ hk => hk.2) (.int .i64 t294)) (fun _ hk => hk.2) (.slice Ao54 t295.length co54)) (fun _ hk => ⟨hk.1.1.1.1.1.1, ⟨hk.1.1.1.1.2, ⟨hk.1.1.1.2, ⟨hk.1.1.2, ⟨hk.1.1.1.1.1.2.1, ⟨hk.1.1.1.1.1.2.2, hk.1.2⟩⟩⟩⟩⟩⟩)))⟩; have n2_ : Aside0 (Kd.N (Kd.slice 54 (Kd.int .u32)) 56 w55 w.heap.size (fun k_ => some k_ ≠ (v280 : Value).ownBlock ∧ some k_ ≠ (.slice Ao48 t286.length co48 : Value).ownBlock ∧ some k_ ≠ (.slice Ao54 t295.length co54 : Value).ownBlock ∧ some k_ ≠ (v299 : Value).ownBlock ∧ k_ ≠ gb275 ∧ k_ ≠ gb285 ∧ k_ ≠ gb302) (.slice Ao37 t282.length co37) t282) := ⟨(by rw [hw]; exact (by (with_reducible repeat (first | apply Kd.kAW | apply Kd.kAV | apply Kd.kBC)); exact Kd.kBY (Kd.kBT (p := ⟨gb302, 5, none⟩) (Kd.kBT (p := ⟨gb302, 4, none⟩) (Kd.kBT (p := ⟨gb302, 3, none⟩) (Kd.kBT (p := ⟨gb302, 2, none⟩) (Kd.kBT (p := ⟨gb302, 1, none⟩) (Kd.kBT (p := ⟨gb302, 0, none⟩) (Kd.kBY HO284.out (fun k_ hk => (⟨hk, hk.2⟩ : _ ∧ k_ ≠ gb302))) (fun _ hk => hk.2) (.int .i64 t290)) (fun _ hk => hk.2) (.int .i64 t291)) (fun _ hk => hk.2) (.int .i64 t292)) (fun _ hk => hk.2) (.int .i64 t293)) (fun _ hk => hk.2) (.int .i64 t294)) (fun _ hk => hk.2) (.slice Ao54 t295.length co54)) (fun _ hk => ⟨hk.1.1.1.1.1.1, ⟨hk.1.1.1.1.2, ⟨hk.1.1.1.2, ⟨hk.1.1.2, ⟨hk.1.1.1.1.1.2.1, ⟨hk.1.1.1.1.1.2.2, hk.1.2⟩⟩⟩⟩⟩⟩)))⟩; have n3_ : Aside0 (Kd.R (Kd.int .u8) 5 w55 w.heap.size (fun k_ => some k_ ≠ (v299 : Value).ownBlock) (.slice Ao48 t286.length co48) t286) := ⟨(by rw [hw]; exact (by (with_reducible repeat (first | apply Kd.kAP | apply Kd.kAO | apply Kd.kAR)); exact Kd.kBL (Kd.kBW (p := ⟨gb302, 5, none⟩) (Kd.kBW (p := ⟨gb302, 4, none⟩) (Kd.kBW (p := ⟨gb302, 3, none⟩) (Kd.kBW (p := ⟨gb302, 2, none⟩) (Kd.kBW (p := ⟨gb302, 1, none⟩) (Kd.kBW (p := ⟨gb302, 0, none⟩) (Kd.kBZ HO288.out BK302.out (by decide)) (fun _ hk => hk.2) (.int .i64 t290)) (fun _ hk => hk.2) (.int .i64 t291)) (fun _ hk => hk.2) (.int .i64 t292)) (fun _ hk => hk.2) (.int .i64 t293)) (fun _ hk => hk.2) (.int .i64 t294)) (fun _ hk => hk.2) (.slice Ao54 t295.length co54)) (fun _ hk => hk.1.2)))⟩; have n4_ : Aside0 (Kd.N (Kd.slice 54 (Kd.int .u32)) 56 w55 w.heap.size (fun k_ => some k_ ≠ (v280 : Value).ownBlock ∧ some k_ ≠ (.slice Ao37 t282.length co37 : Value).ownBlock ∧ some k_ ≠ (.slice Ao48 t286.length co48 : Value).ownBlock ∧ some k_ ≠ (v299 : Value).ownBlock ∧ k_ ≠ gb275 ∧ k_ ≠ gb285 ∧ k_ ≠ gb302) (.slice Ao54 t295.length co54) t295) := ⟨(by rw [hw]; exact (by (with_reducible repeat (first | apply Kd.kAW | apply Kd.kAV | apply Kd.kBC)); exact Kd.kBY (Kd.kBT (p := ⟨gb302, 5, none⟩) (Kd.kBT (p := ⟨gb302, 4, none⟩) (Kd.kBT (p := ⟨gb302, 3, none⟩) (Kd.kBT (p := ⟨gb302, 2, none⟩) (Kd.kBT (p := ⟨gb302, 1, none⟩) (Kd.kBT (p := ⟨gb302, 0, none⟩) (Kd.kBY HO297.out (fun k_ hk => (⟨hk, hk.2⟩ : _ ∧ k_ ≠ gb302))) (fun _ hk => hk.2) (.int .i64 t290)) (fun _ hk => hk.2) (.int .i64 t291)) (fun _ hk => hk.2) (.int .i64 t292)) (fun _ hk => hk.2) (.int .i64 t293)) (fun _ hk => hk.2) (.int .i64 t294)) (fun _ hk => hk.2) (.slice Ao54 t295.length co54)) (fun _ hk => ⟨hk.1.1.2.1, ⟨hk.1.1.2.2.1, ⟨hk.1.1.2.2.2.1, ⟨hk.1.1.1, ⟨hk.1.1.2.2.2.2.1, ⟨hk.1.1.2.2.2.2.2, hk.1.2⟩⟩⟩⟩⟩⟩)))⟩; have n5_ : Aside0 (Kd.R (Kd.int .u8) 5 w55 w.heap.size (fun k_ => some k_ ≠ (.slice Ao48 t286.length co48 : Value).ownBlock) v299 t298) := ⟨(by rw [hw]; exact (by (with_reducible repeat (first | apply Kd.kAP | apply Kd.kAO | apply Kd.kAR)); exact Kd.kBL (Kd.kBW (p := ⟨gb302, 5, none⟩) (Kd.kBW (p := ⟨gb302, 4, none⟩) (Kd.kBW (p := ⟨gb302, 3, none⟩) (Kd.kBW (p := ⟨gb302, 2, none⟩) (Kd.kBW (p := ⟨gb302, 1, none⟩) (Kd.kBW (p := ⟨gb302, 0, none⟩) (Kd.kBZ HO300.out BK302.out (by decide)) (fun _ hk => hk.2) (.int .i64 t290)) (fun _ hk => hk.2) (.int .i64 t291)) (fun _ hk => hk.2) (.int .i64 t292)) (fun _ hk => hk.2) (.int .i64 t293)) (fun _ hk => hk.2) (.int .i64 t294)) (fun _ hk => hk.2) (.slice Ao54 t295.length co54)) (fun _ hk => hk.1.2)))⟩; have n6_ : Aside0 (w55.heap[gb275]? = some (.cells #[.int .i64 1, .int .i64 1, .int .i64 5, .int .i64 13] 23 (0, 0))) := ⟨(by rw [hw]; exact (by (with_reducible repeat (first | refine kAH ?_ _ | refine kAI ?_ | refine kAG ?_ _)); refine kBB ?_ NB275_302.out _; (with_reducible repeat (first | refine kAH ?_ _ | refine kAI ?_ | refine kAG ?_ _)); refine kBB ?_ NB275_302.out _; (with_reducible repeat (first | refine kAH ?_ _ | refine kAI ?_ | refine kAG ?_ _)); refine kBB ?_ NB275_302.out _; (with_reducible repeat (first | refine kAH ?_ _ | refine kAI ?_ | refine kAG ?_ _)); refine kBB ?_ NB275_302.out _; (with_reducible repeat (first | refine kAH ?_ _ | refine kAI ?_ | refine kAG ?_ _)); refine kBB ?_ NB275_302.out _; (with_reducible repeat (first | refine kAH ?_ _ | refine kAI ?_ | refine kAG ?_ _)); refine kBB ?_ NB275_302.out _; (with_reducible repeat (first | refine kAH ?_ _ | refine kAI ?_ | refine kAG ?_ _)); exact BK275.out))⟩; have n7_ : Aside0 (w55.heap[gb285]? = some (.cells #[.int .i64 1, .int .i64 1, .int .i64 5, .int .i64 13, .int .i64 0, .slice Ao37 t282.length co37] 26 (0, 0))) := ⟨(by rw [hw]; exact (by (with_reducible repeat (first | refine kAH ?_ _ | refine kAI ?_ | refine kAG ?_ _)); refine kBB ?_ NB285_302.out _; (with_reducible repeat (first | refine kAH ?_ _ | refine kAI ?_ | refine kAG ?_ _)); refine kBB ?_ NB285_302.out _; (with_reducible repeat (first | refine kAH ?_ _ | refine kAI ?_ | refine kAG ?_ _)); refine kBB ?_ NB285_302.out _; (with_reducible repeat (first | refine kAH ?_ _ | refine kAI ?_ | refine kAG ?_ _)); refine kBB ?_ NB285_302.out _; (with_reducible repeat (first | refine kAH ?_ _ | refine kAI ?_ | refine kAG ?_ _)); refine kBB ?_ NB285_302.out _; (with_reducible repeat (first | refine kAH ?_ _ | refine kAI ?_ | refine kAG ?_ _)); refine kBB ?_ NB285_302.out _; (with_reducible repeat (first | refine kAH ?_ _ | refine kAI ?_ | refine kAG ?_ _)); exact BK285.out))⟩; have n8_ : Aside0 (w55.heap[gb302]? = some (.cells #[.int .i64 t290, .int .i64 t291, .int .i64 t292, .int .i64 t293, .int .i64 t294, .slice Ao54 t295.length co54] 26 (0, 0))) := ⟨(by rw [hw]; exact (by (with_reducible repeat (first | refine kAH ?_ _ | refine kAI ?_ | refine kAG ?_ _)); refine kAU (cs := #[.int .i64 t290, .int .i64 t291, .int .i64 t292, .int .i64 t293, .int .i64 t294, .slice none 0 0]) ?_ 5 _ rfl; (with_reducible repeat (first | refine kAH ?_ _ | refine kAI ?_ | refine kAG ?_ _)); refine kAU (cs := #[.int .i64 t290, .int .i64 t291, .int .i64 t292, .int .i64 t293, .int .i64 0, .slice none 0 0]) ?_ 4 _ rfl; (with_reducible repeat (first | refine kAH ?_ _ | refine kAI ?_ | refine kAG ?_ _)); refine kAU (cs := #[.int .i64 t290, .int .i64 t291, .int .i64 t292, .int .i64 0, .int .i64 0, .slice none 0 0]) ?_ 3 _ rfl; (with_reducible repeat (first | refine kAH ?_ _ | refine kAI ?_ | refine kAG ?_ _)); refine kAU (cs := #[.int .i64 t290, .int .i64 t291, .int .i64 0, .int .i64 0, .int .i64 0, .slice none 0 0]) ?_ 2 _ rfl; (with_reducible repeat (first | refine kAH ?_ _ | refine kAI ?_ | refine kAG ?_ _)); refine kAU (cs := #[.int .i64 t290, .int .i64 0, .int .i64 0, .int .i64 0, .int .i64 0, .slice none 0 0]) ?_ 1 _ rfl; (with_reducible repeat (first | refine kAH ?_ _ | refine kAI ?_ | refine kAG ?_ _)); refine kAU (cs := #[.int .i64 0, .int .i64 0, .int .i64 0, .int .i64 0, .int .i64 0, .slice none 0 0]) ?_ 0 _ rfl; (with_reducible repeat (first | refine kAH ?_ _ | refine kAI ?_ | refine kAG ?_ _)); exact BK302.out))⟩; have n9_ : Aside0 (Below w.heap.size w w55) := ⟨(by rw [hw]; exact (by repeat (first | (with_reducible first | exact HB.out | apply kAB | apply kAA | apply kAC | refine kAF ?_ GE275.out | refine kAF ?_ GE285.out | refine kAF ?_ GE302.out) | exact HB.out)))⟩; clear hw; clear HO278; clear HO281; clear HO284; clear HO288; clear HO297; clear HO300; clear BK275; clear BK285; clear BK302; clear HB; have HO278 := n0_; have HO281 := n1_; have HO284 := n2_; have HO288 := n3_; have HO297 := n4_; have HO300 := n5_; have BK275 := n6_; have BK285 := n7_; have BK302 := n8_; have HB := n9_; clear n0_ n1_ n2_ n3_ n4_ n5_ n6_ n7_ n8_ n9_; have hcz56_0 : w55.cell? ⟨gb285, 0, none⟩ = some (.int .i64 1) := (kAD BK285.out 0).trans rfl; have hcz56_1 : w55.cell? ⟨gb285, 1, none⟩ = some (.int .i64 1) := (kAD BK285.out 1).trans rfl; have hcz56_2 : w55.cell? ⟨gb285, 2, none⟩ = some (.int .i64 5) := (kAD BK285.out 2).trans rfl; have hcz56_3 : w55.cell? ⟨gb285, 3, none⟩ = some (.int .i64 13) := (kAD BK285.out 3).trans rfl; have hcz56_4 : w55.cell? ⟨gb285, 4, none⟩ = some (.int .i64 0) := (kAD BK285.out 4).trans rfl; have hcz56_5 : w55.cell? ⟨gb285, 5, none⟩ = some (.slice Ao37 t282.length co37) := (kAD BK285.out 5).trans rfl; have hfz56_0 := kAE BK285.out 0; have hfz56_1 := kAE BK285.out 1; have hfz56_2 := kAE BK285.out 2; have hfz56_3 := kAE BK285.out 3; have hfz56_4 := kAE BK285.out 4; have hfz56_5 := kAE BK285.out 5) | ((with_reducible refine kAQ (f := 9) rfl ?_); refine kBI (some 40) rfl rfl Tryd.func9 (by kernel_rfl) rfl #[.agg #[.int .i64 1, .int .i64 1, .int .i64 5, .int .i64 13, .int .i64 0, .slice Ao37 t282.length co37], .slice none 0 0] rfl (by (try simp only [List.map_toArray, List.map_cons, List.map_nil]); first | done | rfl | (simp only [List.length_drop, List.length_take]; rfl)) ?_; (refine (seal_Write.calls k 1 1 5 13 0 _ _ t282 (fun k_ => False) _ _ ([] : List Int) t303 t306 _ ?side1 ?side2 ?side3 ?side4 A5.out).mono ?_); (case side1 => exact Glob.below hG (by repeat (first | (with_reducible first | exact HB.out | apply kAB | apply kAA | apply kAC | refine kAF ?_ GE275.out | refine kAF ?_ GE285.out | refine kAF ?_ GE302.out) | exact HB.out))); (case side2 => repeat (first | exact (Kd.N_reads' HO284.out).2.2 | (with_reducible refine Kd.kBH ?_ _) | (with_reducible refine Kd.kBF ?_ _) | (with_reducible refine Kd.kBM ?_))); (case side3 => exact (Kd.N_reads' HO284.out).2.1); (case side4 => exact Kd.V_nil _ _ _ _ _); rintro e w57 ⟨v304, rfl, ho0, hb⟩; refine ⟨_, rfl, ?_⟩; have n0_ := kzA (Kd.V_elder' (by (with_reducible repeat (first | apply Kd.kAT | apply Kd.kAS | apply Kd.kAZ)); exact HO278.out) (Kd.kBK ho0) hb); have n1_ := kzA (Kd.N_elder' (by (with_reducible repeat (first | apply Kd.kAW | apply Kd.kAV | apply Kd.kBC)); exact HO281.out) (Kd.kBK ho0) hb); have n2_ := kzA (Kd.N_elder' (by (with_reducible repeat (first | apply Kd.kAW | apply Kd.kAV | apply Kd.kBC)); exact HO284.out) (Kd.kBK ho0) hb); have n3_ := kzA (Kd.R_elder' (by (with_reducible repeat (first | apply Kd.kAP | apply Kd.kAO | apply Kd.kAR)); exact HO288.out) (Kd.kBK ho0) hb); have n4_ := kzA (Kd.N_elder' (by (with_reducible repeat (first | apply Kd.kAW | apply Kd.kAV | apply Kd.kBC)); exact HO297.out) (Kd.kBK ho0) hb); have n5_ := kzA (Kd.R_elder' (by (with_reducible repeat (first | apply Kd.kAP | apply Kd.kAO | apply Kd.kAR)); exact HO300.out) (Kd.kBK ho0) hb); have n6_ := kzA (Kd.kBO (Kd.R_new' (Kd.R_new' (Kd.kBL (ok' := fun k_ => True) ho0 (fun _ hk_ => trivial)) (Kd.R_lt (by (with_reducible repeat (first | apply Kd.kAP | apply Kd.kAO | apply Kd.kAR)); exact HO288.out))) (Kd.R_lt (by (with_reducible repeat (first | apply Kd.kAP | apply Kd.kAO | apply Kd.kAR)); exact HO300.out))) (kAJ (by repeat (first | (with_reducible first | exact HB.out | apply kAB | apply kAA | apply kAC | refine kAF ?_ GE275.out | refine kAF ?_ GE285.out | refine kAF ?_ GE302.out) | exact HB.out)))); have n7_ := kzA (kAL (g := gb275) (o := .cells #[.int .i64 1, .int .i64 1, .int .i64 5, .int .i64 13] 23 (0, 0)) (by (with_reducible repeat (first | refine kAH ?_ _ | refine kAI ?_ | refine kAG ?_ _)); exact BK275.out) hb); have n8_ := kzA (kAL (g := gb285) (o := .cells #[.int .i64 1, .int .i64 1, .int .i64 5, .int .i64 13, .int .i64 0, .slice Ao37 t282.length co37] 26 (0, 0)) (by (with_reducible repeat (first | refine kAH ?_ _ | refine kAI ?_ | refine kAG ?_ _)); exact BK285.out) hb); have n9_ := kzA (kAL (g := gb302) (o := .cells #[.int .i64 t290, .int .i64 t291, .int .i64 t292, .int .i64 t293, .int .i64 t294, .slice Ao54 t295.length co54] 26 (0, 0)) (by (with_reducible repeat (first | refine kAH ?_ _ | refine kAI ?_ | refine kAG ?_ _)); exact BK302.out) hb); have n10_ := kzA (kAK (by repeat (first | (with_reducible first | exact HB.out | apply kAB | apply kAA | apply kAC | refine kAF ?_ GE275.out | refine kAF ?_ GE285.out | refine kAF ?_ GE302.out) | exact HB.out)) hb); clear HO278; clear HO281; clear HO284; clear HO288; clear HO297; clear HO300; clear BK275; clear BK285; clear BK302; clear HB; have HO278 := n0_; have HO281 := n1_; have HO284 := n2_; have HO288 := n3_; have HO297 := n4_; have HO300 := n5_; have HO305 := n6_; have BK275 := n7_; have BK285 := n8_; have BK302 := n9_; have HB := n10_; clear n0_ n1_ n2_ n3_ n4_ n5_ n6_ n7_ n8_ n9_ n10_; (try clear hb); (try clear hb2); (try clear hk); (try clear hi); (try clear ho0)) | ((with_reducible refine kAQ (f := 19) rfl ?_); refine kBI (some 44) rfl rfl Tryd.func19 (by kernel_rfl) rfl #[.slice none 0 0] rfl (by (try simp only [List.map_toArray, List.map_cons, List.map_nil]); first | done | rfl | (simp only [List.length_drop, List.length_take]; rfl)) ?_; (refine (seal_Parse.calls k _ _ ([] : List Int) t307 t308 t309 t310 t311 t312 t315 t318 _ ?side1 ?side2 ?side3 A6.out).mono ?_); (case side1 => exact Glob.below hG (by repeat (first | (with_reducible first | exact HB.out | apply kAB | apply kAA | apply kAC | refine kAF ?_ GE275.out | refine kAF ?_ GE285.out | refine kAF ?_ GE302.out) | exact HB.out))); (case side2 => exact Kd.C_nil _ _); (case side3 => exact Nat.le_refl _); rintro e w58 ⟨v313, v316, rfl, ho0, ho1, hb⟩; refine ⟨_, rfl, ?_⟩; have n0_ := kzA (Kd.kBV (Kd.V_told (Kd.V_told (Kd.V_old (by (with_reducible repeat (first | apply Kd.kAT | apply Kd.kAS | apply Kd.kAZ)); exact HO278.out) hb) (Kd.S_base ho0)) (Kd.kBK ho1)) (fun _ h_ => h_.1)); have n1_ := kzA (Kd.kBY (Kd.N_told (Kd.N_told (Kd.N_old (by (with_reducible repeat (first | apply Kd.kAW | apply Kd.kAV | apply Kd.kBC)); exact HO281.out) hb) (Kd.S_base ho0)) (Kd.kBK ho1)) (fun _ h_ => h_.1)); have n2_ := kzA (Kd.kBY (Kd.N_told (Kd.N_told (Kd.N_old (by (with_reducible repeat (first | apply Kd.kAW | apply Kd.kAV | apply Kd.kBC)); exact HO284.out) hb) (Kd.S_base ho0)) (Kd.kBK ho1)) (fun _ h_ => h_.1)); have n3_ := kzA (Kd.R_elder' (by (with_reducible repeat (first | apply Kd.kAP | apply Kd.kAO | apply Kd.kAR)); exact HO288.out) (Kd.kBK ho1) hb); have n4_ := kzA (Kd.kBY (Kd.N_told (Kd.N_told (Kd.N_old (by (with_reducible repeat (first | apply Kd.kAW | apply Kd.kAV | apply Kd.kBC)); exact HO297.out) hb) (Kd.S_base ho0)) (Kd.kBK ho1)) (fun _ h_ => h_.1)); have n5_ := kzA (Kd.R_elder' (by (with_reducible repeat (first | apply Kd.kAP | apply Kd.kAO | apply Kd.kAR)); exact HO300.out) (Kd.kBK ho1) hb); have n6_ := kzA (Kd.R_elder' (by (with_reducible repeat (first | apply Kd.kAP | apply Kd.kAO | apply Kd.kAR)); exact HO305.out) (Kd.kBK ho1) hb); have n7_ := kzA (Kd.N_lower (Kd.kBY (ok' := fun k_ => some k_ ≠ (v316 : Value).ownBlock ∧ some k_ ≠ (v280 : Value).ownBlock ∧ some k_ ≠ (.slice Ao37 t282.length co37 : Value).ownBlock ∧ some k_ ≠ (.slice Ao48 t286.length co48 : Value).ownBlock ∧ some k_ ≠ (.slice Ao54 t295.length co54 : Value).ownBlock ∧ some k_ ≠ (v299 : Value).ownBlock ∧ some k_ ≠ (v304 : Value).ownBlock ∧ k_ ≠ gb275 ∧ k_ ≠ gb285 ∧ k_ ≠ gb302) (Kd.S_N (Kd.S_bound (Kd.S_apart' ho0 (Kd.R_typed ho1) (by decide)))) (fun k_ hk_ => ⟨hk_.1.2, (Kd.fresh' (Kd.N_lt (by (with_reducible repeat (first | apply Kd.kAW | apply Kd.kAV | apply Kd.kBC)); exact HO281.out)) k_ hk_.2.1), (Kd.fresh' (Kd.N_lt (by (with_reducible repeat (first | apply Kd.kAW | apply Kd.kAV | apply Kd.kBC)); exact HO284.out)) k_ hk_.2.1), (Kd.fresh' (Kd.R_lt (by (with_reducible repeat (first | apply Kd.kAP | apply Kd.kAO | apply Kd.kAR)); exact HO288.out)) k_ hk_.2.1), (Kd.fresh' (Kd.N_lt (by (with_reducible repeat (first | apply Kd.kAW | apply Kd.kAV | apply Kd.kBC)); exact HO297.out)) k_ hk_.2.1), (Kd.fresh' (Kd.R_lt (by (with_reducible repeat (first | apply Kd.kAP | apply Kd.kAO | apply Kd.kAR)); exact HO300.out)) k_ hk_.2.1), (Kd.fresh' (Kd.R_lt (by (with_reducible repeat (first | apply Kd.kAP | apply Kd.kAO | apply Kd.kAR)); exact HO305.out)) k_ hk_.2.1), (Kd.freshB (g := gb275) (o := .cells #[.int .i64 1, .int .i64 1, .int .i64 5, .int .i64 13] 23 (0, 0)) (by (with_reducible repeat (first | refine kAH ?_ _ | refine kAI ?_ | refine kAG ?_ _)); exact BK275.out) k_ hk_.2.1), (Kd.freshB (g := gb285) (o := .cells #[.int .i64 1, .int .i64 1, .int .i64 5, .int .i64 13, .int .i64 0, .slice Ao37 t282.length co37] 26 (0, 0)) (by (with_reducible repeat (first | refine kAH ?_ _ | refine kAI ?_ | refine kAG ?_ _)); exact BK285.out) k_ hk_.2.1), (Kd.freshB (g := gb302) (o := .cells #[.int .i64 t290, .int .i64 t291, .int .i64 t292, .int .i64 t293, .int .i64 t294, .slice Ao54 t295.length co54] 26 (0, 0)) (by (with_reducible repeat (first | refine kAH ?_ _ | refine kAI ?_ | refine kAG ?_ _)); exact BK302.out) k_ hk_.2.1)⟩)) (kAJ (by repeat (first | (with_reducible first | exact HB.out | apply kAB | apply kAA | apply kAC | refine kAF ?_ GE275.out | refine kAF ?_ GE285.out | refine kAF ?_ GE302.out) | exact HB.out)))); have n8_ := kzA (Kd.kBO (Kd.R_new' (Kd.R_new' (Kd.R_new' ho1 (Kd.R_lt (by (with_reducible repeat (first | apply Kd.kAP | apply Kd.kAO | apply Kd.kAR)); exact HO288.out))) (Kd.R_lt (by (with_reducible repeat (first | apply Kd.kAP | apply Kd.kAO | apply Kd.kAR)); exact HO300.out))) (Kd.R_lt (by (with_reducible repeat (first | apply Kd.kAP | apply Kd.kAO | apply Kd.kAR)); exact HO305.out))) (kAJ (by repeat (first | (with_reducible first | exact HB.out | apply kAB | apply kAA | apply kAC | refine kAF ?_ GE275.out | refine kAF ?_ GE285.out | refine kAF ?_ GE302.out) | exact HB.out)))); have n9_ := kzA (kAL (g := gb275) (o := .cells #[.int .i64 1, .int .i64 1, .int .i64 5, .int .i64 13] 23 (0, 0)) (by (with_reducible repeat (first | refine kAH ?_ _ | refine kAI ?_ | refine kAG ?_ _)); exact BK275.out) hb); have n10_ := kzA (kAL (g := gb285) (o := .cells #[.int .i64 1, .int .i64 1, .int .i64 5, .int .i64 13, .int .i64 0, .slice Ao37 t282.length co37] 26 (0, 0)) (by (with_reducible repeat (first | refine kAH ?_ _ | refine kAI ?_ | refine kAG ?_ _)); exact BK285.out) hb); have n11_ := kzA (kAL (g := gb302) (o := .cells #[.int .i64 t290, .int .i64 t291, .int .i64 t292, .int .i64 t293, .int .i64 t294, .slice Ao54 t295.length co54] 26 (0, 0)) (by (with_reducible repeat (first | refine kAH ?_ _ | refine kAI ?_ | refine kAG ?_ _)); exact BK302.out) hb); have n12_ := kzA (kAK (by repeat (first | (with_reducible first | exact HB.out | apply kAB | apply kAA | apply kAC | refine kAF ?_ GE275.out | refine kAF ?_ GE285.out | refine kAF ?_ GE302.out) | exact HB.out)) hb); clear HO278; clear HO281; clear HO284; clear HO288; clear HO297; clear HO300; clear HO305; clear BK275; clear BK285; clear BK302; clear HB; have HO278 := n0_; have HO281 := n1_; have HO284 := n2_; have HO288 := n3_; have HO297 := n4_; have HO300 := n5_; have HO305 := n6_; have HO314 := n7_; have HO317 := n8_; have BK275 := n9_; have BK285 := n10_; have BK302 := n11_; have HB := n12_; clear n0_ n1_ n2_ n3_ n4_ n5_ n6_ n7_ n8_ n9_ n10_ n11_ n12_; (try clear hb); (try clear hb2); (try clear hk); (try clear hi); (try clear ho0); (try clear ho1)) | ((with_reducible refine kBA (N := 11) rfl ?_); refine kBD ?hg (N := 11) ?hd (cs := #[.int .i64 0, .int .i64 0, .int .i64 0, .int .i64 0, .int .i64 0, .slice none 0 0]) (t := 26) ?hr ?_; (case hd => rfl); (case hg => rfl); (case hr => first | (go_simp; done) | (go_simp; rfl)); intro gb319 hg w59 hbox hb; have n0_ := kzA (Kd.kCD (Kd.V_elderB (by (with_reducible repeat (first | apply Kd.kAT | apply Kd.kAS | apply Kd.kAZ)); exact HO278.out) gb319 (Nat.le_of_eq hg.symm)) hb); have n1_ := kzA (Kd.kBR (Kd.N_elderB (by (with_reducible repeat (first | apply Kd.kAW | apply Kd.kAV | apply Kd.kBC)); exact HO281.out) gb319 (Nat.le_of_eq hg.symm)) hb); have n2_ := kzA (Kd.kBR (Kd.N_elderB (by (with_reducible repeat (first | apply Kd.kAW | apply Kd.kAV | apply Kd.kBC)); exact HO284.out) gb319 (Nat.le_of_eq hg.symm)) hb); have n3_ := kzA (Kd.kBJ (by (with_reducible repeat (first | apply Kd.kAP | apply Kd.kAO | apply Kd.kAR)); exact HO288.out) hb); have n4_ := kzA (Kd.kBR (Kd.N_elderB (by (with_reducible repeat (first | apply Kd.kAW | apply Kd.kAV | apply Kd.kBC)); exact HO297.out) gb319 (Nat.le_of_eq hg.symm)) hb); have n5_ := kzA (Kd.kBJ (by (with_reducible repeat (first | apply Kd.kAP | apply Kd.kAO | apply Kd.kAR)); exact HO300.out) hb); have n6_ := kzA (Kd.kBJ (by (with_reducible repeat (first | apply Kd.kAP | apply Kd.kAO | apply Kd.kAR)); exact HO305.out) hb); have n7_ := kzA (Kd.kBR (Kd.N_elderB (by (with_reducible repeat (first | apply Kd.kAW | apply Kd.kAV | apply Kd.kBC)); exact HO314.out) gb319 (Nat.le_of_eq hg.symm)) hb); have n8_ := kzA (Kd.kBJ (by (with_reducible repeat (first | apply Kd.kAP | apply Kd.kAO | apply Kd.kAR)); exact HO317.out) hb); have n9_ := kzA (kAL (g := gb275) (o := .cells #[.int .i64 1, .int .i64 1, .int .i64 5, .int .i64 13] 23 (0, 0)) (by (with_reducible repeat (first | refine kAH ?_ _ | refine kAI ?_ | refine kAG ?_ _)); exact BK275.out) hb); have n10_ := kzA (kAL (g := gb285) (o := .cells #[.int .i64 1, .int .i64 1, .int .i64 5, .int .i64 13, .int .i64 0, .slice Ao37 t282.length co37] 26 (0, 0)) (by (with_reducible repeat (first | refine kAH ?_ _ | refine kAI ?_ | refine kAG ?_ _)); exact BK285.out) hb); have n11_ := kzA (kAL (g := gb302) (o := .cells #[.int .i64 t290, .int .i64 t291, .int .i64 t292, .int .i64 t293, .int .i64 t294, .slice Ao54 t295.length co54] 26 (0, 0)) (by (with_reducible repeat (first | refine kAH ?_ _ | refine kAI ?_ | refine kAG ?_ _)); exact BK302.out) hb); have n12_ := kzA (kAK (by repeat (first | (with_reducible first | exact HB.out | apply kAB | apply kAA | apply kAC | refine kAF ?_ GE275.out | refine kAF ?_ GE285.out | refine kAF ?_ GE302.out) | exact HB.out)) hb); have n13_ := kzA (hbox); have n14_ := kzA ((by rw [hg]; exact (kAJ (by repeat (first | (with_reducible first | exact HB.out | apply kAB | apply kAA | apply kAC | refine kAF ?_ GE275.out | refine kAF ?_ GE285.out | refine kAF ?_ GE302.out) | exact HB.out))) : w.heap.size ≤ gb319)); have n15_ := kzA ((by rw [hg]; exact (kAJ (by repeat (first | (with_reducible first | exact HB.out | apply kAB | apply kAA | apply kAC | refine kAF ?_ GE275.out | refine kAF ?_ GE285.out | refine kAF ?_ GE302.out) | exact HB.out))) : w.heap.size ≤ gb319)); have n16_ := kzA ((by rw [hg]; exact Nat.ne_of_lt (kCH (g := gb275) (o := .cells #[.int .i64 1, .int .i64 1, .int .i64 5, .int .i64 13] 23 (0, 0)) (by (with_reducible repeat (first | refine kAH ?_ _ | refine kAI ?_ | refine kAG ?_ _)); exact BK275.out)) : gb275 ≠ gb319)); have n17_ := kzA ((by rw [hg]; exact Nat.ne_of_gt (kCH (g := gb275) (o := .cells #[.int .i64 1, .int .i64 1, .int .i64 5, .int .i64 13] 23 (0, 0)) (by (with_reducible repeat (first | refine kAH ?_ _ | refine kAI ?_ | refine kAG ?_ _)); exact BK275.out)) : gb319 ≠ gb275)); have n18_ := kzA ((by rw [hg]; exact Nat.ne_of_lt (kCH (g := gb285) (o := .cells #[.int .i64 1, .int .i64 1, .int .i64 5, .int .i64 13, .int .i64 0, .slice Ao37 t282.length co37] 26 (0, 0)) (by (with_reducible repeat (first | refine kAH ?_ _ | refine kAI ?_ | refine kAG ?_ _)); exact BK285.out)) : gb285 ≠ gb319)); have n19_ := kzA ((by rw [hg]; exact Nat.ne_of_gt (kCH (g := gb285) (o := .cells #[.int .i64 1, .int .i64 1, .int .i64 5, .int .i64 13, .int .i64 0, .slice Ao37 t282.length co37] 26 (0, 0)) (by (with_reducible repeat (first | refine kAH ?_ _ | refine kAI ?_ | refine kAG ?_ _)); exact BK285.out)) : gb319 ≠ gb285)); have n20_ := kzA ((by rw [hg]; exact Nat.ne_of_lt (kCH (g := gb302) (o := .cells #[.int .i64 t290, .int .i64 t291, .int .i64 t292, .int .i64 t293, .int .i64 t294, .slice Ao54 t295.length co54] 26 (0, 0)) (by (with_reducible repeat (first | refine kAH ?_ _ | refine kAI ?_ | refine kAG ?_ _)); exact BK302.out)) : gb302 ≠ gb319)); have n21_ := kzA ((by rw [hg]; exact Nat.ne_of_gt (kCH (g := gb302) (o := .cells #[.int .i64 t290, .int .i64 t291, .int .i64 t292, .int .i64 t293, .int .i64 t294, .slice Ao54 t295.length co54] 26 (0, 0)) (by (with_reducible repeat (first | refine kAH ?_ _ | refine kAI ?_ | refine kAG ?_ _)); exact BK302.out)) : gb319 ≠ gb302)); clear HO278; clear HO281; clear HO284; clear HO288; clear HO297; clear HO300; clear HO305; clear HO314; clear HO317; clear BK275; clear BK285; clear BK302; clear HB; have HO278 := n0_; have HO281 := n1_; have HO284 := n2_; have HO288 := n3_; have HO297 := n4_; have HO300 := n5_; have HO305 := n6_; have HO314 := n7_; have HO317 := n8_; have BK275 := n9_; have BK285 := n10_; have BK302 := n11_; have HB := n12_; have BK319 := n13_; have GW319 := n14_; have GE319 := n15_; have NB275_319 := n16_; have NB319_275 := n17_; have NB285_319 := n18_; have NB319_285 := n19_; have NB302_319 := n20_; have NB319_302 := n21_; clear n0_ n1_ n2_ n3_ n4_ n5_ n6_ n7_ n8_ n9_ n10_ n11_ n12_ n13_ n14_ n15_ n16_ n17_ n18_ n19_ n20_ n21_; clear hb hbox hg; have hnb60 := NB319_275.out; have hnc60 := NB275_319.out; have hnb61 := NB319_285.out; have hnc61 := NB285_319.out; have hnb62 := NB319_302.out; have hnc62 := NB302_319.out; have hcz63_0 : w59.cell? ⟨gb319, 0, none⟩ = some (.int .i64 0) := (kAD BK319.out 0).trans rfl; have hcz63_1 : w59.cell? ⟨gb319, 1, none⟩ = some (.int .i64 0) := (kAD BK319.out 1).trans rfl; have hcz63_2 : w59.cell? ⟨gb319, 2, none⟩ = some (.int .i64 0) := (kAD BK319.out 2).trans rfl; have hcz63_3 : w59.cell? ⟨gb319, 3, none⟩ = some (.int .i64 0) := (kAD BK319.out 3).trans rfl; have hcz63_4 : w59.cell? ⟨gb319, 4, none⟩ = some (.int .i64 0) := (kAD BK319.out 4).trans rfl; have hcz63_5 : w59.cell? ⟨gb319, 5, none⟩ = some (.slice none 0 0) := (kAD BK319.out 5).trans rfl; have hfz63_0 := kAE BK319.out 0; have hfz63_1 := kAE BK319.out 1; have hfz63_2 := kAE BK319.out 2; have hfz63_3 := kAE BK319.out 3; have hfz63_4 := kAE BK319.out 4; have hfz63_5 := kAE BK319.out 5; obtain ⟨Ao64, co64, eo64⟩ := Kd.N_slice HO314.out; subst eo64) | ((with_reducible refine gate_store (t := 26) (p := 11) rfl ?_); refine store_event (t := 26) (p := 11) (v := ?vo_w65) (w1 := ((((((w59.setCell ⟨gb319, 0, none⟩ (.int .i64 t307)).setCell ⟨gb319, 1, none⟩ (.int .i64 t308)).setCell ⟨gb319, 2, none⟩ (.int .i64 t309)).setCell ⟨gb319, 3, none⟩ (.int .i64 t310)).setCell ⟨gb319, 4, none⟩ (.int .i64 t311)).setCell ⟨gb319, 5, none⟩ (.slice Ao64 t312.length co64))) ?hg ?ho ?hn ?hr ?_; (case ho => rfl); (case hg => rfl); (case hn => rfl); (case hr => first | (go_simp; done) | (go_simp; rfl)); intro w65 hw; have n0_ : Aside0 (Kd.V (Kd.int .u8) 5 w65 w.heap.size (fun k_ => some k_ ≠ (v280 : Value).ownBlock ∧ some k_ ≠ (.slice Ao37 t282.length co37 : Value).ownBlock ∧ some k_ ≠ (.slice Ao48 t286.length co48 : Value).ownBlock ∧ some k_ ≠ (.slice Ao54 t295.length co54 : Value).ownBlock ∧ some k_ ≠ (v299 : Value).ownBlock ∧ some k_ ≠ (v304 : Value).ownBlock ∧ some k_ ≠ (.slice Ao64 t312.length co64 : Value).ownBlock ∧ some k_ ≠ (v316 : Value).ownBlock ∧ k_ ≠ gb275 ∧ k_ ≠ gb285 ∧ k_ ≠ gb302 ∧ k_ ≠ gb319) (.slice Ao29 y276.length co29) y276) := ⟨(by rw [hw]; exact (by (with_reducible repeat (first | apply Kd.kAT | apply Kd.kAS | apply Kd.kAZ)); exact Kd.kBV (Kd.V_far (p := ⟨gb319, 5, none⟩) (Kd.V_far (p := ⟨gb319, 4, none⟩) (Kd.V_far (p := ⟨gb319, 3, none⟩) (Kd.V_far (p := ⟨gb319, 2, none⟩) (Kd.V_far (p := ⟨gb319, 1, none⟩) (Kd.V_far (p := ⟨gb319, 0, none⟩) (Kd.kBV HO278.out (fun k_ hk => (⟨hk, hk.2⟩ : _ ∧ k_ ≠ gb319))) (fun _ hk => hk.2) (.int .i64 t307)) (fun _ hk => hk.2) (.int .i64 t308)) (fun _ hk => hk.2) (.int .i64 t309)) (fun _ hk => hk.2) (.int .i64 t310)) (fun _ hk => hk.2) (.int .i64 t311)) (fun _ hk => hk.2) (.slice Ao64 t312.length co64)) (fun _ hk => ⟨hk.1.1.1.1.1.1, ⟨hk.1.1.1.1.1.2.1, ⟨hk.1.1.1.1.1.2.2.1, ⟨hk.1.1.1.1.1.2.2.2.1, ⟨hk.1.1.1.1.1.2.2.2.2.1, ⟨hk.1.1.1.1.2, ⟨hk.1.1.1.2, ⟨hk.1.1.2, ⟨hk.1.1.1.1.1.2.2.2.2.2.1, ⟨hk.1.1.1.1.1.2.2.2.2.2.2.1, ⟨hk.1.1.1.1.1.2.2.2.2.2.2.2, hk.1.2⟩⟩⟩⟩⟩⟩⟩⟩⟩⟩⟩)))⟩; have n1_ : Aside0 (Kd.N (Kd.slice 5 (Kd.int .u8)) 27 w65 w.heap.size (fun k_ => some k_ ≠ (.slice Ao37 t282.length co37 : Value).ownBlock ∧ some k_ ≠ (.slice Ao48 t286.length co48 : Value).ownBlock ∧ some k_ ≠ (.slice Ao54 t295.length co54 : Value).ownBlock ∧ some k_ ≠ (v299 : Value).ownBlock ∧ some k_ ≠ (v304 : Value).ownBlock ∧ some k_ ≠ (.slice Ao64 t312.length co64 : Value).ownBlock ∧ some k_ ≠ (v316 : Value).ownBlock ∧ k_ ≠ gb275 ∧ k_ ≠ gb285 ∧ k_ ≠ gb302 ∧ k_ ≠ gb319) v280 y279) := ⟨(by rw [hw]; exact (by (with_reducible repeat (first | apply Kd.kAW | apply Kd.kAV | apply Kd.kBC)); exact Kd.kBY (Kd.kBT (p := ⟨gb319, 5, none⟩) (Kd.kBT (p := ⟨gb319, 4, none⟩) (Kd.kBT (p := ⟨gb319, 3, none⟩) (Kd.kBT (p := ⟨gb319, 2, none⟩) (Kd.kBT (p := ⟨gb319, 1, none⟩) (Kd.kBT (p := ⟨gb319, 0, none⟩) (Kd.kBY HO281.out (fun k_ hk => (⟨hk, hk.2⟩ : _ ∧ k_ ≠ gb319))) (fun _ hk => hk.2) (.int .i64 t307)) (fun _ hk => hk.2) (.int .i64 t308)) (fun _ hk => hk.2) (.int .i64 t309)) (fun _ hk => hk.2) (.int .i64 t310)) (fun _ hk => hk.2) (.int .i64 t311)) (fun _ hk => hk.2) (.slice Ao64 t312.length co64)) (fun _ hk => ⟨hk.1.1.1.1.1.1, ⟨hk.1.1.1.1.1.2.1, ⟨hk.1.1.1.1.1.2.2.1, ⟨hk.1.1.1.1.1.2.2.2.1, ⟨hk.1.1.1.1.2, ⟨hk.1.1.1.2, ⟨hk.1.1.2, ⟨hk.1.1.1.1.1.2.2.2.2.1, ⟨hk.1.1.1.1.1.2.2.2.2.2.1, ⟨hk.1.1.1.1.1.2.2.2.2.2.2, hk.1.2⟩⟩⟩⟩⟩⟩⟩⟩⟩⟩)))⟩; have n2_ : Aside0 (Kd.N (Kd.slice 54 (Kd.int .u32)) 56 w65 w.heap.size (fun k_ => some k_ ≠ (v280 : Value).ownBlock ∧ some k_ ≠ (.slice Ao48 t286.length co48 : Value).ownBlock ∧ some k_ ≠ (.slice Ao54 t295.length co54 : Value).ownBlock ∧ some k_ ≠ (v299 : Value).ownBlock ∧ some k_ ≠ (v304 : Value).ownBlock ∧ some k_ ≠ (.slice Ao64 t312.length co64 : Value).ownBlock ∧ some k_ ≠ (v316 : Value).ownBlock ∧ k_ ≠ gb275 ∧ k_ ≠ gb285 ∧ k_ ≠ gb302 ∧ k_ ≠ gb319) (.slice Ao37 t282.length co37) t282) := ⟨(by rw [hw]; exact (by (with_reducible repeat (first | apply Kd.kAW | apply Kd.kAV | apply Kd.kBC)); exact Kd.kBY (Kd.kBT (p := ⟨gb319, 5, none⟩) (Kd.kBT (p := ⟨gb319, 4, none⟩) (Kd.kBT (p := ⟨gb319, 3, none⟩) (Kd.kBT (p := ⟨gb319, 2, none⟩) (Kd.kBT (p := ⟨gb319, 1, none⟩) (Kd.kBT (p := ⟨gb319, 0, none⟩) (Kd.kBY HO284.out (fun k_ hk => (⟨hk, hk.2⟩ : _ ∧ k_ ≠ gb319))) (fun _ hk => hk.2) (.int .i64 t307)) (fun _ hk => hk.2) (.int .i64 t308)) (fun _ hk => hk.2) (.int .i64 t309)) (fun _ hk => hk.2) (.int .i64 t310)) (fun _ hk => hk.2) (.int .i64 t311)) (fun _ hk => hk.2) (.slice Ao64 t312.length co64)) (fun _ hk => ⟨hk.1.1.1.1.1.1, ⟨hk.1.1.1.1.1.2.1, ⟨hk.1.1.1.1.1.2.2.1, ⟨hk.1.1.1.1.1.2.2.2.1, ⟨hk.1.1.1.1.2, ⟨hk.1.1.1.2, ⟨hk.1.1.2, ⟨hk.1.1.1.1.1.2.2.2.2.1, ⟨hk.1.1.1.1.1.2.2.2.2.2.1, ⟨hk.1.1.1.1.1.2.2.2.2.2.2, hk.1.2⟩⟩⟩⟩⟩⟩⟩⟩⟩⟩)))⟩; have n3_ : Aside0 (Kd.R (Kd.int .u8) 5 w65 w.heap.size (fun k_ => some k_ ≠ (v299 : Value).ownBlock ∧ some k_ ≠ (v304 : Value).ownBlock ∧ some k_ ≠ (v316 : Value).ownBlock) (.slice Ao48 t286.length co48) t286) := ⟨(by rw [hw]; exact (by (with_reducible repeat (first | apply Kd.kAP | apply Kd.kAO | apply Kd.kAR)); exact Kd.kBL (Kd.kBW (p := ⟨gb319, 5, none⟩) (Kd.kBW (p := ⟨gb319, 4, none⟩) (Kd.kBW (p := ⟨gb319, 3, none⟩) (Kd.kBW (p := ⟨gb319, 2, none⟩) (Kd.kBW (p := ⟨gb319, 1, none⟩) (Kd.kBW (p := ⟨gb319, 0, none⟩) (Kd.kBZ HO288.out BK319.out (by decide)) (fun _ hk => hk.2) (.int .i64 t307)) (fun _ hk => hk.2) (.int .i64 t308)) (fun _ hk => hk.2) (.int .i64 t309)) (fun _ hk => hk.2) (.int .i64 t310)) (fun _ hk => hk.2) (.int .i64 t311)) (fun _ hk => hk.2) (.slice Ao64 t312.length co64)) (fun _ hk => ⟨hk.1.1.1, ⟨hk.1.1.2, hk.1.2⟩⟩)))⟩; have n4_ : Aside0 (Kd.N (Kd.slice 54 (Kd.int .u32)) 56 w65 w.heap.size (fun k_ => some k_ ≠ (v280 : Value).ownBlock ∧ some k_ ≠ (.slice Ao37 t282.length co37 : Value).ownBlock ∧ some k_ ≠ (.slice Ao48 t286.length co48 : Value).ownBlock ∧ some k_ ≠ (v299 : Value).ownBlock ∧ some k_ ≠ (v304 : Value).ownBlock ∧ some k_ ≠ (.slice Ao64 t312.length co64 : Value).ownBlock ∧ some k_ ≠ (v316 : Value).ownBlock ∧ k_ ≠ gb275 ∧ k_ ≠ gb285 ∧ k_ ≠ gb302 ∧ k_ ≠ gb319) (.slice Ao54 t295.length co54) t295) := ⟨(by rw [hw]; exact (by (with_reducible repeat (first | apply Kd.kAW | apply Kd.kAV | apply Kd.kBC)); exact Kd.kBY (Kd.kBT (p := ⟨gb319, 5, none⟩) (Kd.kBT (p := ⟨gb319, 4, none⟩) (Kd.kBT (p := ⟨gb319, 3, none⟩) (Kd.kBT (p := ⟨gb319, 2, none⟩) (Kd.kBT (p := ⟨gb319, 1, none⟩) (Kd.kBT (p := ⟨gb319, 0, none⟩) (Kd.kBY HO297.out (fun k_ hk => (⟨hk, hk.2⟩ : _ ∧ k_ ≠ gb319))) (fun _ hk => hk.2) (.int .i64 t307)) (fun _ hk => hk.2) (.int .i64 t308)) (fun _ hk => hk.2) (.int .i64 t309)) (fun _ hk => hk.2) (.int .i64 t310)) (fun _ hk => hk.2) (.int .i64 t311)) (fun _ hk => hk.2) (.slice Ao64 t312.length co64)) (fun _ hk => ⟨hk.1.1.1.1.1.1, ⟨hk.1.1.1.1.1.2.1, ⟨hk.1.1.1.1.1.2.2.1, ⟨hk.1.1.1.1.1.2.2.2.1, ⟨hk.1.1.1.1.2, ⟨hk.1.1.1.2, ⟨hk.1.1.2, ⟨hk.1.1.1.1.1.2.2.2.2.1, ⟨hk.1.1.1.1.1.2.2.2.2.2.1, ⟨hk.1.1.1.1.1.2.2.2.2.2.2, hk.1.2⟩⟩⟩⟩⟩⟩⟩⟩⟩⟩)))⟩; have n5_ : Aside0 (Kd.R (Kd.int .u8) 5 w65 w.heap.size (fun k_ => some k_ ≠ (.slice Ao48 t286.length co48 : Value).ownBlock ∧ some k_ ≠ (v304 : Value).ownBlock ∧ some k_ ≠ (v316 : Value).ownBlock) v299 t298) := ⟨(by rw [hw]; exact (by (with_reducible repeat (first | apply Kd.kAP | apply Kd.kAO | apply Kd.kAR)); exact Kd.kBL (Kd.kBW (p := ⟨gb319, 5, none⟩) (Kd.kBW (p := ⟨gb319, 4, none⟩) (Kd.kBW (p := ⟨gb319, 3, none⟩) (Kd.kBW (p := ⟨gb319, 2, none⟩) (Kd.kBW (p := ⟨gb319, 1, none⟩) (Kd.kBW (p := ⟨gb319, 0, none⟩) (Kd.kBZ HO300.out BK319.out (by decide)) (fun _ hk => hk.2) (.int .i64 t307)) (fun _ hk => hk.2) (.int .i64 t308)) (fun _ hk => hk.2) (.int .i64 t309)) (fun _ hk => hk.2) (.int .i64 t310)) (fun _ hk => hk.2) (.int .i64 t311)) (fun _ hk => hk.2) (.slice Ao64 t312.length co64)) (fun _ hk => ⟨hk.1.1.1, ⟨hk.1.1.2, hk.1.2⟩⟩)))⟩; have n6_ : Aside0 (Kd.R (Kd.int .u8) 5 w65 w.heap.size (fun k_ => some k_ ≠ (.slice Ao48 t286.length co48 : Value).ownBlock ∧ some k_ ≠ (v299 : Value).ownBlock ∧ some k_ ≠ (v316 : Value).ownBlock) v304 t303) := ⟨(by rw [hw]; exact (by (with_reducible repeat (first | apply Kd.kAP | apply Kd.kAO | apply Kd.kAR)); exact Kd.kBL (Kd.kBW (p := ⟨gb319, 5, none⟩) (Kd.kBW (p := ⟨gb319, 4, none⟩) (Kd.kBW (p := ⟨gb319, 3, none⟩) (Kd.kBW (p := ⟨gb319, 2, none⟩) (Kd.kBW (p := ⟨gb319, 1, none⟩) (Kd.kBW (p := ⟨gb319, 0, none⟩) (Kd.kBZ HO305.out BK319.out (by decide)) (fun _ hk => hk.2) (.int .i64 t307)) (fun _ hk => hk.2) (.int .i64 t308)) (fun _ hk => hk.2) (.int .i64 t309)) (fun _ hk => hk.2) (.int .i64 t310)) (fun _ hk => hk.2) (.int .i64 t311)) (fun _ hk => hk.2) (.slice Ao64 t312.length co64)) (fun _ hk => ⟨hk.1.1.1.2, ⟨hk.1.1.2, hk.1.2⟩⟩)))⟩; have n7_ : Aside0 (Kd.N (Kd.slice 54 (Kd.int .u32)) 56 w65 w.heap.size (fun k_ => some k_ ≠ (v280 : Value).ownBlock ∧ some k_ ≠ (.slice Ao37 t282.length co37 : Value).ownBlock ∧ some k_ ≠ (.slice Ao48 t286.length co48 : Value).ownBlock ∧ some k_ ≠ (.slice Ao54 t295.length co54 : Value).ownBlock ∧ some k_ ≠ (v299 : Value).ownBlock ∧ some k_ ≠ (v304 : Value).ownBlock ∧ some k_ ≠ (v316 : Value).ownBlock ∧ k_ ≠ gb275 ∧ k_ ≠ gb285 ∧ k_ ≠ gb302 ∧ k_ ≠ gb319) (.slice Ao64 t312.length co64) t312) := ⟨(by rw [hw]; exact (by (with_reducible repeat (first | apply Kd.kAW | apply Kd.kAV | apply Kd.kBC)); exact Kd.kBY (Kd.kBT (p := ⟨gb319, 5, none⟩) (Kd.kBT (p := ⟨gb319, 4, none⟩) (Kd.kBT (p := ⟨gb319, 3, none⟩) (Kd.kBT (p := ⟨gb319, 2, none⟩) (Kd.kBT (p := ⟨gb319, 1, none⟩) (Kd.kBT (p := ⟨gb319, 0, none⟩) (Kd.kBY HO314.out (fun k_ hk => (⟨hk, hk.2⟩ : _ ∧ k_ ≠ gb319))) (fun _ hk => hk.2) (.int .i64 t307)) (fun _ hk => hk.2) (.int .i64 t308)) (fun _ hk => hk.2) (.int .i64 t309)) (fun _ hk => hk.2) (.int .i64 t310)) (fun _ hk => hk.2) (.int .i64 t311)) (fun _ hk => hk.2) (.slice Ao64 t312.length co64)) (fun _ hk => ⟨hk.1.1.2.1, ⟨hk.1.1.2.2.1, ⟨hk.1.1.2.2.2.1, ⟨hk.1.1.2.2.2.2.1, ⟨hk.1.1.2.2.2.2.2.1, ⟨hk.1.1.2.2.2.2.2.2.1, ⟨hk.1.1.1, ⟨hk.1.1.2.2.2.2.2.2.2.1, ⟨hk.1.1.2.2.2.2.2.2.2.2.1, ⟨hk.1.1.2.2.2.2.2.2.2.2.2, hk.1.2⟩⟩⟩⟩⟩⟩⟩⟩⟩⟩)))⟩; have n8_ : Aside0 (Kd.R (Kd.int .u8) 5 w65 w.heap.size (fun k_ => some k_ ≠ (.slice Ao48 t286.length co48 : Value).ownBlock ∧ some k_ ≠ (v299 : Value).ownBlock ∧ some k_ ≠ (v304 : Value).ownBlock) v316 t315) := ⟨(by rw [hw]; exact (by (with_reducible repeat (first | apply Kd.kAP | apply Kd.kAO | apply Kd.kAR)); exact Kd.kBL (Kd.kBW (p := ⟨gb319, 5, none⟩) (Kd.kBW (p := ⟨gb319, 4, none⟩) (Kd.kBW (p := ⟨gb319, 3, none⟩) (Kd.kBW (p := ⟨gb319, 2, none⟩) (Kd.kBW (p := ⟨gb319, 1, none⟩) (Kd.kBW (p := ⟨gb319, 0, none⟩) (Kd.kBZ HO317.out BK319.out (by decide)) (fun _ hk => hk.2) (.int .i64 t307)) (fun _ hk => hk.2) (.int .i64 t308)) (fun _ hk => hk.2) (.int .i64 t309)) (fun _ hk => hk.2) (.int .i64 t310)) (fun _ hk => hk.2) (.int .i64 t311)) (fun _ hk => hk.2) (.slice Ao64 t312.length co64)) (fun _ hk => ⟨hk.1.1.1.2, ⟨hk.1.1.2, hk.1.2⟩⟩)))⟩; have n9_ : Aside0 (w65.heap[gb275]? = some (.cells #[.int .i64 1, .int .i64 1, .int .i64 5, .int .i64 13] 23 (0, 0))) := ⟨(by rw [hw]; exact (by (with_reducible repeat (first | refine kAH ?_ _ | refine kAI ?_ | refine kAG ?_ _)); refine kBB ?_ NB275_319.out _; (with_reducible repeat (first | refine kAH ?_ _ | refine kAI ?_ | refine kAG ?_ _)); refine kBB ?_ NB275_319.out _; (with_reducible repeat (first | refine kAH ?_ _ | refine kAI ?_ | refine kAG ?_ _)); refine kBB ?_ NB275_319.out _; (with_reducible repeat (first | refine kAH ?_ _ | refine kAI ?_ | refine kAG ?_ _)); refine kBB ?_ NB275_319.out _; (with_reducible repeat (first | refine kAH ?_ _ | refine kAI ?_ | refine kAG ?_ _)); refine kBB ?_ NB275_319.out _; (with_reducible repeat (first | refine kAH ?_ _ | refine kAI ?_ | refine kAG ?_ _)); refine kBB ?_ NB275_319.out _; (with_reducible repeat (first | refine kAH ?_ _ | refine kAI ?_ | refine kAG ?_ _)); exact BK275.out))⟩; have n10_ : Aside0 (w65.heap[gb285]? = some (.cells #[.int .i64 1, .int .i64 1, .int .i64 5, .int .i64 13, .int .i64 0, .slice Ao37 t282.length co37] 26 (0, 0))) := ⟨(by rw [hw]; exact (by (with_reducible repeat (first | refine kAH ?_ _ | refine kAI ?_ | refine kAG ?_ _)); refine kBB ?_ NB285_319.out _; (with_reducible repeat (first | refine kAH ?_ _ | refine kAI ?_ | refine kAG ?_ _)); refine kBB ?_ NB285_319.out _; (with_reducible repeat (first | refine kAH ?_ _ | refine kAI ?_ | refine kAG ?_ _)); refine kBB ?_ NB285_319.out _; (with_reducible repeat (first | refine kAH ?_ _ | refine kAI ?_ | refine kAG ?_ _)); refine kBB ?_ NB285_319.out _; (with_reducible repeat (first | refine kAH ?_ _ | refine kAI ?_ | refine kAG ?_ _)); refine kBB ?_ NB285_319.out _; (with_reducible repeat (first | refine kAH ?_ _ | refine kAI ?_ | refine kAG ?_ _)); refine kBB ?_ NB285_319.out _; (with_reducible repeat (first | refine kAH ?_ _ | refine kAI ?_ | refine kAG ?_ _)); exact BK285.out))⟩; have n11_ : Aside0 (w65.heap[gb302]? = some (.cells #[.int .i64 t290, .int .i64 t291, .int .i64 t292, .int .i64 t293, .int .i64 t294, .slice Ao54 t295.length co54] 26 (0, 0))) := ⟨(by rw [hw]; exact (by (with_reducible repeat (first | refine kAH ?_ _ | refine kAI ?_ | refine kAG ?_ _)); refine kBB ?_ NB302_319.out _; (with_reducible repeat (first | refine kAH ?_ _ | refine kAI ?_ | refine kAG ?_ _)); refine kBB ?_ NB302_319.out _; (with_reducible repeat (first | refine kAH ?_ _ | refine kAI ?_ | refine kAG ?_ _)); refine kBB ?_ NB302_319.out _; (with_reducible repeat (first | refine kAH ?_ _ | refine kAI ?_ | refine kAG ?_ _)); refine kBB ?_ NB302_319.out _; (with_reducible repeat (first | refine kAH ?_ _ | refine kAI ?_ | refine kAG ?_ _)); refine kBB ?_ NB302_319.out _; (with_reducible repeat (first | refine kAH ?_ _ | refine kAI ?_ | refine kAG ?_ _)); refine kBB ?_ NB302_319.out _; (with_reducible repeat (first | refine kAH ?_ _ | refine kAI ?_ | refine kAG ?_ _)); exact BK302.out))⟩; have n12_ : Aside0 (w65.heap[gb319]? = some (.cells #[.int .i64 t307, .int .i64 t308, .int .i64 t309, .int .i64 t310, .int .i64 t311, .slice Ao64 t312.length co64] 26 (0, 0))) := ⟨(by rw [hw]; exact (by (with_reducible repeat (first | refine kAH ?_ _ | refine kAI ?_ | refine kAG ?_ _)); refine kAU (cs := #[.int .i64 t307, .int .i64 t308, .int .i64 t309, .int .i64 t310, .int .i64 t311, .slice none 0 0]) ?_ 5 _ rfl; (with_reducible repeat (first | refine kAH ?_ _ | refine kAI ?_ | refine kAG ?_ _)); refine kAU (cs := #[.int .i64 t307, .int .i64 t308, .int .i64 t309, .int .i64 t310, .int .i64 0, .slice none 0 0]) ?_ 4 _ rfl; (with_reducible repeat (first | refine kAH ?_ _ | refine kAI ?_ | refine kAG ?_ _)); refine kAU (cs := #[.int .i64 t307, .int .i64 t308, .int .i64 t309, .int .i64 0, .int .i64 0, .slice none 0 0]) ?_ 3 _ rfl; (with_reducible repeat (first | refine kAH ?_ _ | refine kAI ?_ | refine kAG ?_ _)); refine kAU (cs := #[.int .i64 t307, .int .i64 t308, .int .i64 0, .int .i64 0, .int .i64 0, .slice none 0 0]) ?_ 2 _ rfl; (with_reducible repeat (first | refine kAH ?_ _ | refine kAI ?_ | refine kAG ?_ _)); refine kAU (cs := #[.int .i64 t307, .int .i64 0, .int .i64 0, .int .i64 0, .int .i64 0, .slice none 0 0]) ?_ 1 _ rfl; (with_reducible repeat (first | refine kAH ?_ _ | refine kAI ?_ | refine kAG ?_ _)); refine kAU (cs := #[.int .i64 0, .int .i64 0, .int .i64 0, .int .i64 0, .int .i64 0, .slice none 0 0]) ?_ 0 _ rfl; (with_reducible repeat (first | refine kAH ?_ _ | refine kAI ?_ | refine kAG ?_ _)); exact BK319.out))⟩; have n13_ : Aside0 (Below w.heap.size w w65) := ⟨(by rw [hw]; exact (by repeat (first | (with_reducible first | exact HB.out | apply kAB | apply kAA | apply kAC | refine kAF ?_ GE275.out | refine kAF ?_ GE285.out | refine kAF ?_ GE302.out | refine kAF ?_ GE319.out) | exact HB.out)))⟩; clear hw; clear HO278; clear HO281; clear HO284; clear HO288; clear HO297; clear HO300; clear HO305; clear HO314; clear HO317; clear BK275; clear BK285; clear BK302; clear BK319; clear HB; have HO278 := n0_; have HO281 := n1_; have HO284 := n2_; have HO288 := n3_; have HO297 := n4_; have HO300 := n5_; have HO305 := n6_; have HO314 := n7_; have HO317 := n8_; have BK275 := n9_; have BK285 := n10_; have BK302 := n11_; have BK319 := n12_; have HB := n13_; clear n0_ n1_ n2_ n3_ n4_ n5_ n6_ n7_ n8_ n9_ n10_ n11_ n12_ n13_; have q66 : (44 : Int) ≤ ((t286.length : Int) : Int) := of_decide_eq_true (by first | (with_reducible assumption) | assumption); obtain ⟨i066, hi066, _, hsz66, _⟩ := info_parts info5; have hroom66 : t286.length ≤ co48 := (Kd.R_reads' HO288.out).2.1; have hC66 : Kd.F (Kd.int .u8) _ _ Ao48 t286.length t286 := (Kd.V_at (base := w.heap.size) (Kd.R_V (Kd.kBZ (Kd.kBZ (Kd.kBZ (Kd.kBZ (Kd.R_apart' (Kd.R_apart' (Kd.R_apart' (Kd.R_apart' (HO288.out) (Kd.N_typed HO281.out) (by decide)) (Kd.N_typed HO284.out) (by decide)) (Kd.N_typed HO297.out) (by decide)) (Kd.N_typed HO314.out) (by decide)) BK275.out (by decide)) BK285.out (by decide)) BK302.out (by decide)) BK319.out (by decide)))).2.2; have hcut66 := cut_to (P := Tryd.prog) 27 5 .i64 Tryd.underlying27 hi066 Ao48 t286.length co48 44 (by omega) q66 hroom66; have hr66 := Kd.F_take (m := 44) hC66 (by omega); have hy66 : y320.length = (44 : Int).toNat := (by rw [Ny320.out, List.length_take]; omega); rw [← Ny320.out] at hr66; rw [← hy66] at hcut66; have HO324 := kzA (show Kd.V (Kd.int .u8) 5 _ w.heap.size _ (.slice Ao48 y320.length co48) y320 from Kd.V_mk (by omega) hr66); have HC324 := kzA (show y320.length ≤ co48 from by omega); clear hr66 hC66 hroom66 hi066 hsz66; have KY66 := kzA hy66; clear hy66; replace q66 := eq_true q66) | ((with_reducible refine kAQ (f := 19) rfl ?_); refine kBI (some 54) rfl rfl Tryd.func19 (by kernel_rfl) rfl #[.slice Ao48 y320.length co48] rfl (by (try simp only [List.map_toArray, List.map_cons, List.map_nil]); first | done | rfl | (simp only [List.length_drop, List.length_take]; rfl)) ?_; (with_reducible refine (seal_Parse.calls k _ _ y320 t325 t326 t327 t328 t329 t330 t333 t336 _ ?side1 ?side2 ?side3 A9.out).mono ?_); (case side1 => exact Glob.below hG (by repeat (first | (with_reducible first | exact HB.out | apply kAB | apply kAA | apply kAC | refine kAF ?_ GE275.out | refine kAF ?_ GE285.out | refine kAF ?_ GE302.out | refine kAF ?_ GE319.out) | exact HB.out))); (case side2 => repeat (first | exact (Kd.V_reads' HO324.out).2.2 | (with_reducible refine Kd.kBH ?_ _) | (with_reducible refine Kd.kBF ?_ _) | (with_reducible refine Kd.kBM ?_))); (case side3 => exact (Kd.V_reads' HO324.out).2.1); rintro e w67 ⟨v331, v334, rfl, ho0, ho1, hb⟩; refine ⟨_, rfl, ?_⟩; have n0_ := kzA (Kd.kBV (Kd.V_told (Kd.V_told (Kd.V_old (by (with_reducible repeat (first | apply Kd.kAT | apply Kd.kAS | apply Kd.kAZ)); exact HO278.out) hb) (Kd.S_base ho0)) (Kd.kBK ho1)) (fun _ h_ => h_.1)); have n1_ := kzA (Kd.kBY (Kd.N_told (Kd.N_told (Kd.N_old (by (with_reducible repeat (first | apply Kd.kAW | apply Kd.kAV | apply Kd.kBC)); exact HO281.out) hb) (Kd.S_base ho0)) (Kd.kBK ho1)) (fun _ h_ => h_.1)); have n2_ := kzA (Kd.kBY (Kd.N_told (Kd.N_told (Kd.N_old (by (with_reducible repeat (first | apply Kd.kAW | apply Kd.kAV | apply Kd.kBC)); exact HO284.out) hb) (Kd.S_base ho0)) (Kd.kBK ho1)) (fun _ h_ => h_.1)); have n3_ := kzA (Kd.R_elder' (by (with_reducible repeat (first | apply Kd.kAP | apply Kd.kAO | apply Kd.kAR)); exact HO288.out) (Kd.kBK ho1) hb); have n4_ := kzA (Kd.kBY (Kd.N_told (Kd.N_told (Kd.N_old (by (with_reducible repeat (first | apply Kd.kAW | apply Kd.kAV | apply Kd.kBC)); exact HO297.out) hb) (Kd.S_base ho0)) (Kd.kBK ho1)) (fun _ h_ => h_.1)); have n5_ := kzA (Kd.R_elder' (by (with_reducible repeat (first | apply Kd.kAP | apply Kd.kAO | apply Kd.kAR)); exact HO300.out) (Kd.kBK ho1) hb); have n6_ := kzA (Kd.R_elder' (by (with_reducible repeat (first | apply Kd.kAP | apply Kd.kAO | apply Kd.kAR)); exact HO305.out) (Kd.kBK ho1) hb); have n7_ := kzA (Kd.kBY (Kd.N_told (Kd.N_told (Kd.N_old (by (with_reducible repeat (first | apply Kd.kAW | apply Kd.kAV | apply Kd.kBC)); exact HO314.out) hb) (Kd.S_base ho0)) (Kd.kBK ho1)) (fun _ h_ => h_.1)); have n8_ := kzA (Kd.R_elder' (by (with_reducible repeat (first | apply Kd.kAP | apply Kd.kAO | apply Kd.kAR)); exact HO317.out) (Kd.kBK ho1) hb); have n9_ := kzA (Kd.kBV (Kd.V_told (Kd.V_told (Kd.V_old (by (with_reducible repeat (first | apply Kd.kAT | apply Kd.kAS | apply Kd.kAZ)); exact HO324.out) hb) (Kd.S_base ho0)) (Kd.kBK ho1)) (fun _ h_ => h_.1)); have n10_ := kzA (Kd.N_lower (Kd.kBY (ok' := fun k_ => some k_ ≠ (v334 : Value).ownBlock ∧ some k_ ≠ (v280 : Value).ownBlock ∧ some k_ ≠ (.slice Ao37 t282.length co37 : Value).ownBlock ∧ some k_ ≠ (.slice Ao48 t286.length co48 : Value).ownBlock ∧ some k_ ≠ (.slice Ao54 t295.length co54 : Value).ownBlock ∧ some k_ ≠ (v299 : Value).ownBlock ∧ some k_ ≠ (v304 : Value).ownBlock ∧ some k_ ≠ (.slice Ao64 t312.length co64 : Value).ownBlock ∧ some k_ ≠ (v316 : Value).ownBlock ∧ k_ ≠ gb275 ∧ k_ ≠ gb285 ∧ k_ ≠ gb302 ∧ k_ ≠ gb319) (Kd.S_N (Kd.S_bound (Kd.S_apart' ho0 (Kd.R_typed ho1) (by decide)))) (fun k_ hk_ => ⟨hk_.1.2, (Kd.fresh' (Kd.N_lt (by (with_reducible repeat (first | apply Kd.kAW | apply Kd.kAV | apply Kd.kBC)); exact HO281.out)) k_ hk_.2.1), (Kd.fresh' (Kd.N_lt (by (with_reducible repeat (first | apply Kd.kAW | apply Kd.kAV | apply Kd.kBC)); exact HO284.out)) k_ hk_.2.1), (Kd.fresh' (Kd.R_lt (by (with_reducible repeat (first | apply Kd.kAP | apply Kd.kAO | apply Kd.kAR)); exact HO288.out)) k_ hk_.2.1), (Kd.fresh' (Kd.N_lt (by (with_reducible repeat (first | apply Kd.kAW | apply Kd.kAV | apply Kd.kBC)); exact HO297.out)) k_ hk_.2.1), (Kd.fresh' (Kd.R_lt (by (with_reducible repeat (first | apply Kd.kAP | apply Kd.kAO | apply Kd.kAR)); exact HO300.out)) k_ hk_.2.1), (Kd.fresh' (Kd.R_lt (by (with_reducible repeat (first | apply Kd.kAP | apply Kd.kAO | apply Kd.kAR)); exact HO305.out)) k_ hk_.2.1), (Kd.fresh' (Kd.N_lt (by (with_reducible repeat (first | apply Kd.kAW | apply Kd.kAV | apply Kd.kBC)); exact HO314.out)) k_ hk_.2.1), (Kd.fresh' (Kd.R_lt (by (with_reducible repeat (first | apply Kd.kAP | apply Kd.kAO | apply Kd.kAR)); exact HO317.out)) k_ hk_.2.1), (Kd.freshB (g := gb275) (o := .cells #[.int .i64 1, .int .i64 1, .int .i64 5, .int .i64 13] 23 (0, 0)) (by (with_reducible repeat (first | refine kAH ?_ _ | refine kAI ?_ | refine kAG ?_ _)); exact BK275.out) k_ hk_.2.1), (Kd.freshB (g := gb285) (o := .cells #[.int .i64 1, .int .i64 1, .int .i64 5, .int .i64 13, .int .i64 0, .slice Ao37 t282.length co37] 26 (0, 0)) (by (with_reducible repeat (first | refine kAH ?_ _ | refine kAI ?_ | refine kAG ?_ _)); exact BK285.out) k_ hk_.2.1), (Kd.freshB (g := gb302) (o := .cells #[.int .i64 t290, .int .i64 t291, .int .i64 t292, .int .i64 t293, .int .i64 t294, .slice Ao54 t295.length co54] 26 (0, 0)) (by (with_reducible repeat (first | refine kAH ?_ _ | refine kAI ?_ | refine kAG ?_ _)); exact BK302.out) k_ hk_.2.1), (Kd.freshB (g := gb319) (o := .cells #[.int .i64 t307, .int .i64 t308, .int .i64 t309, .int .i64 t310, .int .i64 t311, .slice Ao64 t312.length co64] 26 (0, 0)) (by (with_reducible repeat (first | refine kAH ?_ _ | refine kAI ?_ | refine kAG ?_ _)); exact BK319.out) k_ hk_.2.1)⟩)) (kAJ (by repeat (first | (with_reducible first | exact HB.out | apply kAB | apply kAA | apply kAC | refine kAF ?_ GE275.out | refine kAF ?_ GE285.out | refine kAF ?_ GE302.out | refine kAF ?_ GE319.out) | exact HB.out)))); have n11_ := kzA (Kd.kBO (Kd.R_new' (Kd.R_new' (Kd.R_new' (Kd.R_new' ho1 (Kd.R_lt (by (with_reducible repeat (first | apply Kd.kAP | apply Kd.kAO | apply Kd.kAR)); exact HO288.out))) (Kd.R_lt (by (with_reducible repeat (first | apply Kd.kAP | apply Kd.kAO | apply Kd.kAR)); exact HO300.out))) (Kd.R_lt (by (with_reducible repeat (first | apply Kd.kAP | apply Kd.kAO | apply Kd.kAR)); exact HO305.out))) (Kd.R_lt (by (with_reducible repeat (first | apply Kd.kAP | apply Kd.kAO | apply Kd.kAR)); exact HO317.out))) (kAJ (by repeat (first | (with_reducible first | exact HB.out | apply kAB | apply kAA | apply kAC | refine kAF ?_ GE275.out | refine kAF ?_ GE285.out | refine kAF ?_ GE302.out | refine kAF ?_ GE319.out) | exact HB.out)))); have n12_ := kzA (kAL (g := gb275) (o := .cells #[.int .i64 1, .int .i64 1, .int .i64 5, .int .i64 13] 23 (0, 0)) (by (with_reducible repeat (first | refine kAH ?_ _ | refine kAI ?_ | refine kAG ?_ _)); exact BK275.out) hb); have n13_ := kzA (kAL (g := gb285) (o := .cells #[.int .i64 1, .int .i64 1, .int .i64 5, .int .i64 13, .int .i64 0, .slice Ao37 t282.length co37] 26 (0, 0)) (by (with_reducible repeat (first | refine kAH ?_ _ | refine kAI ?_ | refine kAG ?_ _)); exact BK285.out) hb); have n14_ := kzA (kAL (g := gb302) (o := .cells #[.int .i64 t290, .int .i64 t291, .int .i64 t292, .int .i64 t293, .int .i64 t294, .slice Ao54 t295.length co54] 26 (0, 0)) (by (with_reducible repeat (first | refine kAH ?_ _ | refine kAI ?_ | refine kAG ?_ _)); exact BK302.out) hb); have n15_ := kzA (kAL (g := gb319) (o := .cells #[.int .i64 t307, .int .i64 t308, .int .i64 t309, .int .i64 t310, .int .i64 t311, .slice Ao64 t312.length co64] 26 (0, 0)) (by (with_reducible repeat (first | refine kAH ?_ _ | refine kAI ?_ | refine kAG ?_ _)); exact BK319.out) hb); have n16_ := kzA (kAK (by repeat (first | (with_reducible first | exact HB.out | apply kAB | apply kAA | apply kAC | refine kAF ?_ GE275.out | refine kAF ?_ GE285.out | refine kAF ?_ GE302.out | refine kAF ?_ GE319.out) | exact HB.out)) hb); clear HO278; clear HO281; clear HO284; clear HO288; clear HO297; clear HO300; clear HO305; clear HO314; clear HO317; clear HO324; clear BK275; clear BK285; clear BK302; clear BK319; clear HB; have HO278 := n0_; have HO281 := n1_; have HO284 := n2_; have HO288 := n3_; have HO297 := n4_; have HO300 := n5_; have HO305 := n6_; have HO314 := n7_; have HO317 := n8_; have HO324 := n9_; have HO332 := n10_; have HO335 := n11_; have BK275 := n12_; have BK285 := n13_; have BK302 := n14_; have BK319 := n15_; have HB := n16_; clear n0_ n1_ n2_ n3_ n4_ n5_ n6_ n7_ n8_ n9_ n10_ n11_ n12_ n13_ n14_ n15_ n16_; (try clear hb); (try clear hb2); (try clear hk); (try clear hi); (try clear ho0); (try clear ho1)) | ((with_reducible refine kBA (N := 14) rfl ?_); refine kBD ?hg (N := 14) ?hd (cs := #[.int .i64 0, .int .i64 0, .int .i64 0, .int .i64 0, .int .i64 0, .slice none 0 0]) (t := 26) ?hr ?_; (case hd => rfl); (case hg => rfl); (case hr => first | (go_simp; done) | (go_simp; rfl)); intro gb337 hg w68 hbox hb; have n0_ := kzA (Kd.kCD (Kd.V_elderB (by (with_reducible repeat (first | apply Kd.kAT | apply Kd.kAS | apply Kd.kAZ)); exact HO278.out) gb337 (Nat.le_of_eq hg.symm)) hb); have n1_ := kzA (Kd.kBR (Kd.N_elderB (by (with_reducible repeat (first | apply Kd.kAW | apply Kd.kAV | apply Kd.kBC)); exact HO281.out) gb337 (Nat.le_of_eq hg.symm)) hb); have n2_ := kzA (Kd.kBR (Kd.N_elderB (by (with_reducible repeat (first | apply Kd.kAW | apply Kd.kAV | apply Kd.kBC)); exact HO284.out) gb337 (Nat.le_of_eq hg.symm)) hb); have n3_ := kzA (Kd.kBJ (by (with_reducible repeat (first | apply Kd.kAP | apply Kd.kAO | apply Kd.kAR)); exact HO288.out) hb); have n4_ := kzA (Kd.kBR (Kd.N_elderB (by (with_reducible repeat (first | apply Kd.kAW | apply Kd.kAV | apply Kd.kBC)); exact HO297.out) gb337 (Nat.le_of_eq hg.symm)) hb); have n5_ := kzA (Kd.kBJ (by (with_reducible repeat (first | apply Kd.kAP | apply Kd.kAO | apply Kd.kAR)); exact HO300.out) hb); have n6_ := kzA (Kd.kBJ (by (with_reducible repeat (first | apply Kd.kAP | apply Kd.kAO | apply Kd.kAR)); exact HO305.out) hb); have n7_ := kzA (Kd.kBR (Kd.N_elderB (by (with_reducible repeat (first | apply Kd.kAW | apply Kd.kAV | apply Kd.kBC)); exact HO314.out) gb337 (Nat.le_of_eq hg.symm)) hb); have n8_ := kzA (Kd.kBJ (by (with_reducible repeat (first | apply Kd.kAP | apply Kd.kAO | apply Kd.kAR)); exact HO317.out) hb); have n9_ := kzA (Kd.kCD (Kd.V_elderB (by (with_reducible repeat (first | apply Kd.kAT | apply Kd.kAS | apply Kd.kAZ)); exact HO324.out) gb337 (Nat.le_of_eq hg.symm)) hb); have n10_ := kzA (Kd.kBR (Kd.N_elderB (by (with_reducible repeat (first | apply Kd.kAW | apply Kd.kAV | apply Kd.kBC)); exact HO332.out) gb337 (Nat.le_of_eq hg.symm)) hb); have n11_ := kzA (Kd.kBJ (by (with_reducible repeat (first | apply Kd.kAP | apply Kd.kAO | apply Kd.kAR)); exact HO335.out) hb); have n12_ := kzA (kAL (g := gb275) (o := .cells #[.int .i64 1, .int .i64 1, .int .i64 5, .int .i64 13] 23 (0, 0)) (by (with_reducible repeat (first | refine kAH ?_ _ | refine kAI ?_ | refine kAG ?_ _)); exact BK275.out) hb); have n13_ := kzA (kAL (g := gb285) (o := .cells #[.int .i64 1, .int .i64 1, .int .i64 5, .int .i64 13, .int .i64 0, .slice Ao37 t282.length co37] 26 (0, 0)) (by (with_reducible repeat (first | refine kAH ?_ _ | refine kAI ?_ | refine kAG ?_ _)); exact BK285.out) hb); have n14_ := kzA (kAL (g := gb302) (o := .cells #[.int .i64 t290, .int .i64 t291, .int .i64 t292, .int .i64 t293, .int .i64 t294, .slice Ao54 t295.length co54] 26 (0, 0)) (by (with_reducible repeat (first | refine kAH ?_ _ | refine kAI ?_ | refine kAG ?_ _)); exact BK302.out) hb); have n15_ := kzA (kAL (g := gb319) (o := .cells #[.int .i64 t307, .int .i64 t308, .int .i64 t309, .int .i64 t310, .int .i64 t311, .slice Ao64 t312.length co64] 26 (0, 0)) (by (with_reducible repeat (first | refine kAH ?_ _ | refine kAI ?_ | refine kAG ?_ _)); exact BK319.out) hb); have n16_ := kzA (kAK (by repeat (first | (with_reducible first | exact HB.out | apply kAB | apply kAA | apply kAC | refine kAF ?_ GE275.out | refine kAF ?_ GE285.out | refine kAF ?_ GE302.out | refine kAF ?_ GE319.out) | exact HB.out)) hb); have n17_ := kzA (hbox); have n18_ := kzA ((by rw [hg]; exact (kAJ (by repeat (first | (with_reducible first | exact HB.out | apply kAB | apply kAA | apply kAC | refine kAF ?_ GE275.out | refine kAF ?_ GE285.out | refine kAF ?_ GE302.out | refine kAF ?_ GE319.out) | exact HB.out))) : w.heap.size ≤ gb337)); have n19_ := kzA ((by rw [hg]; exact (kAJ (by repeat (first | (with_reducible first | exact HB.out | apply kAB | apply kAA | apply kAC | refine kAF ?_ GE275.out | refine kAF ?_ GE285.out | refine kAF ?_ GE302.out | refine kAF ?_ GE319.out) | exact HB.out))) : w.heap.size ≤ gb337)); have n20_ := kzA ((by rw [hg]; exact Nat.ne_of_lt (kCH (g := gb275) (o := .cells #[.int .i64 1, .int .i64 1, .int .i64 5, .int .i64 13] 23 (0, 0)) (by (with_reducible repeat (first | refine kAH ?_ _ | refine kAI ?_ | refine kAG ?_ _)); exact BK275.out)) : gb275 ≠ gb337)); have n21_ := kzA ((by rw [hg]; exact Nat.ne_of_gt (kCH (g := gb275) (o := .cells #[.int .i64 1, .int .i64 1, .int .i64 5, .int .i64 13] 23 (0, 0)) (by (with_reducible repeat (first | refine kAH ?_ _ | refine kAI ?_ | refine kAG ?_ _)); exact BK275.out)) : gb337 ≠ gb275)); have n22_ := kzA ((by rw [hg]; exact Nat.ne_of_lt (kCH (g := gb285) (o := .cells #[.int .i64 1, .int .i64 1, .int .i64 5, .int .i64 13, .int .i64 0, .slice Ao37 t282.length co37] 26 (0, 0)) (by (with_reducible repeat (first | refine kAH ?_ _ | refine kAI ?_ | refine kAG ?_ _)); exact BK285.out)) : gb285 ≠ gb337)); have n23_ := kzA ((by rw [hg]; exact Nat.ne_of_gt (kCH (g := gb285) (o := .cells #[.int .i64 1, .int .i64 1, .int .i64 5, .int .i64 13, .int .i64 0, .slice Ao37 t282.length co37] 26 (0, 0)) (by (with_reducible repeat (first | refine kAH ?_ _ | refine kAI ?_ | refine kAG ?_ _)); exact BK285.out)) : gb337 ≠ gb285)); have n24_ := kzA ((by rw [hg]; exact Nat.ne_of_lt (kCH (g := gb302) (o := .cells #[.int .i64 t290, .int .i64 t291, .int .i64 t292, .int .i64 t293, .int .i64 t294, .slice Ao54 t295.length co54] 26 (0, 0)) (by (with_reducible repeat (first | refine kAH ?_ _ | refine kAI ?_ | refine kAG ?_ _)); exact BK302.out)) : gb302 ≠ gb337)); have n25_ := kzA ((by rw [hg]; exact Nat.ne_of_gt (kCH (g := gb302) (o := .cells #[.int .i64 t290, .int .i64 t291, .int .i64 t292, .int .i64 t293, .int .i64 t294, .slice Ao54 t295.length co54] 26 (0, 0)) (by (with_reducible repeat (first | refine kAH ?_ _ | refine kAI ?_ | refine kAG ?_ _)); exact BK302.out)) : gb337 ≠ gb302)); have n26_ := kzA ((by rw [hg]; exact Nat.ne_of_lt (kCH (g := gb319) (o := .cells #[.int .i64 t307, .int .i64 t308, .int .i64 t309, .int .i64 t310, .int .i64 t311, .slice Ao64 t312.length co64] 26 (0, 0)) (by (with_reducible repeat (first | refine kAH ?_ _ | refine kAI ?_ | refine kAG ?_ _)); exact BK319.out)) : gb319 ≠ gb337)); have n27_ := kzA ((by rw [hg]; exact Nat.ne_of_gt (kCH (g := gb319) (o := .cells #[.int .i64 t307, .int .i64 t308, .int .i64 t309, .int .i64 t310, .int .i64 t311, .slice Ao64 t312.length co64] 26 (0, 0)) (by (with_reducible repeat (first | refine kAH ?_ _ | refine kAI ?_ | refine kAG ?_ _)); exact BK319.out)) : gb337 ≠ gb319)); clear HO278; clear HO281; clear HO284; clear HO288; clear HO297; clear HO300; clear HO305; clear HO314; clear HO317; clear HO324; clear HO332; clear HO335; clear BK275; clear BK285; clear BK302; clear BK319; clear HB; have HO278 := n0_; have HO281 := n1_; have HO284 := n2_; have HO288 := n3_; have HO297 := n4_; have HO300 := n5_; have HO305 := n6_; have HO314 := n7_; have HO317 := n8_; have HO324 := n9_; have HO332 := n10_; have HO335 := n11_; have BK275 := n12_; have BK285 := n13_; have BK302 := n14_; have BK319 := n15_; have HB := n16_; have BK337 := n17_; have GW337 := n18_; have GE337 := n19_; have NB275_337 := n20_; have NB337_275 := n21_; have NB285_337 := n22_; have NB337_285 := n23_; have NB302_337 := n24_; have NB337_302 := n25_; have NB319_337 := n26_; have NB337_319 := n27_; clear n0_ n1_ n2_ n3_ n4_ n5_ n6_ n7_ n8_ n9_ n10_ n11_ n12_ n13_ n14_ n15_ n16_ n17_ n18_ n19_ n20_ n21_ n22_ n23_ n24_ n25_ n26_ n27_; clear hb hbox hg; have hnb69 := NB337_275.out; have hnc69 := NB275_337.out; have hnb70 := NB337_285.out; have hnc70 := NB285_337.out; have hnb71 := NB337_302.out; have hnc71 := NB302_337.out; have hnb72 := NB337_319.out; have hnc72 := NB319_337.out; have hcz73_0 : w68.cell? ⟨gb337, 0, none⟩ = some (.int .i64 0) := (kAD BK337.out 0).trans rfl; have hcz73_1 : w68.cell? ⟨gb337, 1, none⟩ = some (.int .i64 0) := (kAD BK337.out 1).trans rfl; have hcz73_2 : w68.cell? ⟨gb337, 2, none⟩ = some (.int .i64 0) := (kAD BK337.out 2).trans rfl; have hcz73_3 : w68.cell? ⟨gb337, 3, none⟩ = some (.int .i64 0) := (kAD BK337.out 3).trans rfl; have hcz73_4 : w68.cell? ⟨gb337, 4, none⟩ = some (.int .i64 0) := (kAD BK337.out 4).trans rfl; have hcz73_5 : w68.cell? ⟨gb337, 5, none⟩ = some (.slice none 0 0) := (kAD BK337.out 5).trans rfl; have hfz73_0 := kAE BK337.out 0; have hfz73_1 := kAE BK337.out 1; have hfz73_2 := kAE BK337.out 2; have hfz73_3 := kAE BK337.out 3; have hfz73_4 := kAE BK337.out 4; have hfz73_5 := kAE BK337.out 5; obtain ⟨Ao74, co74, eo74⟩ := Kd.N_slice HO332.out; subst eo74))
            have n0_ : Aside0 (Kd.V (Kd.int .u8) 5 ((((((w68.setCell ⟨gb337, 0, none⟩ (.int .i64 t325)).setCell ⟨gb337, 1, none⟩ (.int .i64 t326)).setCell ⟨gb337, 2, none⟩ (.int .i64 t327)).setCell ⟨gb337, 3, none⟩ (.int .i64 t328)).setCell ⟨gb337, 4, none⟩ (.int .i64 t329)).setCell ⟨gb337, 5, none⟩ (.slice Ao74 t330.length co74)) w.heap.size (fun k_ => some k_ ≠ (v280 : Value).ownBlock ∧ some k_ ≠ (.slice Ao37 t282.length co37 : Value).ownBlock ∧ some k_ ≠ (.slice Ao48 t286.length co48 : Value).ownBlock ∧ some k_ ≠ (.slice Ao54 t295.length co54 : Value).ownBlock ∧ some k_ ≠ (v299 : Value).ownBlock ∧ some k_ ≠ (v304 : Value).ownBlock ∧ some k_ ≠ (.slice Ao64 t312.length co64 : Value).ownBlock ∧ some k_ ≠ (v316 : Value).ownBlock ∧ some k_ ≠ (.slice Ao74 t330.length co74 : Value).ownBlock ∧ some k_ ≠ (v334 : Value).ownBlock ∧ k_ ≠ gb275 ∧ k_ ≠ gb285 ∧ k_ ≠ gb302 ∧ k_ ≠ gb319 ∧ k_ ≠ gb337) (.slice Ao29 y276.length co29) y276) := ⟨by (with_reducible repeat (first | apply Kd.kAT | apply Kd.kAS | apply Kd.kAZ)); exact Kd.kBV (Kd.V_far (p := ⟨gb337, 5, none⟩) (Kd.V_far (p := ⟨gb337, 4, none⟩) (Kd.V_far (p := ⟨gb337, 3, none⟩) (Kd.V_far (p := ⟨gb337, 2, none⟩) (Kd.V_far (p := ⟨gb337, 1, none⟩) (Kd.V_far (p := ⟨gb337, 0, none⟩) (Kd.kBV HO278.out (fun k_ hk => (⟨hk, hk.2⟩ : _ ∧ k_ ≠ gb337))) (fun _ hk => hk.2) (.int .i64 t325)) (fun _ hk => hk.2) (.int .i64 t326)) (fun _ hk => hk.2) (.int .i64 t327)) (fun _ hk => hk.2) (.int .i64 t328)) (fun _ hk => hk.2) (.int .i64 t329)) (fun _ hk => hk.2) (.slice Ao74 t330.length co74)) (fun _ hk => ⟨hk.1.1.1.1.1, ⟨hk.1.1.1.1.2.1, ⟨hk.1.1.1.1.2.2.1, ⟨hk.1.1.1.1.2.2.2.1, ⟨hk.1.1.1.1.2.2.2.2.1, ⟨hk.1.1.1.1.2.2.2.2.2.1, ⟨hk.1.1.1.1.2.2.2.2.2.2.1, ⟨hk.1.1.1.1.2.2.2.2.2.2.2.1, ⟨hk.1.1.1.2, ⟨hk.1.1.2, ⟨hk.1.1.1.1.2.2.2.2.2.2.2.2.1, ⟨hk.1.1.1.1.2.2.2.2.2.2.2.2.2.1, ⟨hk.1.1.1.1.2.2.2.2.2.2.2.2.2.2.1, ⟨hk.1.1.1.1.2.2.2.2.2.2.2.2.2.2.2, hk.1.2⟩⟩⟩⟩⟩⟩⟩⟩⟩⟩⟩⟩⟩⟩)⟩
            have n1_ : Aside0 (Kd.N (Kd.slice 5 (Kd.int .u8)) 27 ((((((w68.setCell ⟨gb337, 0, none⟩ (.int .i64 t325)).setCell ⟨gb337, 1, none⟩ (.int .i64 t326)).setCell ⟨gb337, 2, none⟩ (.int .i64 t327)).setCell ⟨gb337, 3, none⟩ (.int .i64 t328)).setCell ⟨gb337, 4, none⟩ (.int .i64 t329)).setCell ⟨gb337, 5, none⟩ (.slice Ao74 t330.length co74)) w.heap.size (fun k_ => some k_ ≠ (.slice Ao37 t282.length co37 : Value).ownBlock ∧ some k_ ≠ (.slice Ao48 t286.length co48 : Value).ownBlock ∧ some k_ ≠ (.slice Ao54 t295.length co54 : Value).ownBlock ∧ some k_ ≠ (v299 : Value).ownBlock ∧ some k_ ≠ (v304 : Value).ownBlock ∧ some k_ ≠ (.slice Ao64 t312.length co64 : Value).ownBlock ∧ some k_ ≠ (v316 : Value).ownBlock ∧ some k_ ≠ (.slice Ao74 t330.length co74 : Value).ownBlock ∧ some k_ ≠ (v334 : Value).ownBlock ∧ k_ ≠ gb275 ∧ k_ ≠ gb285 ∧ k_ ≠ gb302 ∧ k_ ≠ gb319 ∧ k_ ≠ gb337) v280 y279) := ⟨by (with_reducible repeat (first | apply Kd.kAW | apply Kd.kAV | apply Kd.kBC)); exact Kd.kBY (Kd.kBT (p := ⟨gb337, 5, none⟩) (Kd.kBT (p := ⟨gb337, 4, none⟩) (Kd.kBT (p := ⟨gb337, 3, none⟩) (Kd.kBT (p := ⟨gb337, 2, none⟩) (Kd.kBT (p := ⟨gb337, 1, none⟩) (Kd.kBT (p := ⟨gb337, 0, none⟩) (Kd.kBY HO281.out (fun k_ hk => (⟨hk, hk.2⟩ : _ ∧ k_ ≠ gb337))) (fun _ hk => hk.2) (.int .i64 t325)) (fun _ hk => hk.2) (.int .i64 t326)) (fun _ hk => hk.2) (.int .i64 t327)) (fun _ hk => hk.2) (.int .i64 t328)) (fun _ hk => hk.2) (.int .i64 t329)) (fun _ hk => hk.2) (.slice Ao74 t330.length co74)) (fun _ hk => ⟨hk.1.1.1.1.1, ⟨hk.1.1.1.1.2.1, ⟨hk.1.1.1.1.2.2.1, ⟨hk.1.1.1.1.2.2.2.1, ⟨hk.1.1.1.1.2.2.2.2.1, ⟨hk.1.1.1.1.2.2.2.2.2.1, ⟨hk.1.1.1.1.2.2.2.2.2.2.1, ⟨hk.1.1.1.2, ⟨hk.1.1.2, ⟨hk.1.1.1.1.2.2.2.2.2.2.2.1, ⟨hk.1.1.1.1.2.2.2.2.2.2.2.2.1, ⟨hk.1.1.1.1.2.2.2.2.2.2.2.2.2.1, ⟨hk.1.1.1.1.2.2.2.2.2.2.2.2.2.2, hk.1.2⟩⟩⟩⟩⟩⟩⟩⟩⟩⟩⟩⟩⟩)⟩
            have n2_ : Aside0 (Kd.N (Kd.slice 54 (Kd.int .u32)) 56 ((((((w68.setCell ⟨gb337, 0, none⟩ (.int .i64 t325)).setCell ⟨gb337, 1, none⟩ (.int .i64 t326)).setCell ⟨gb337, 2, none⟩ (.int .i64 t327)).setCell ⟨gb337, 3, none⟩ (.int .i64 t328)).setCell ⟨gb337, 4, none⟩ (.int .i64 t329)).setCell ⟨gb337, 5, none⟩ (.slice Ao74 t330.length co74)) w.heap.size (fun k_ => some k_ ≠ (v280 : Value).ownBlock ∧ some k_ ≠ (.slice Ao48 t286.length co48 : Value).ownBlock ∧ some k_ ≠ (.slice Ao54 t295.length co54 : Value).ownBlock ∧ some k_ ≠ (v299 : Value).ownBlock ∧ some k_ ≠ (v304 : Value).ownBlock ∧ some k_ ≠ (.slice Ao64 t312.length co64 : Value).ownBlock ∧ some k_ ≠ (v316 : Value).ownBlock ∧ some k_ ≠ (.slice Ao74 t330.length co74 : Value).ownBlock ∧ some k_ ≠ (v334 : Value).ownBlock ∧ k_ ≠ gb275 ∧ k_ ≠ gb285 ∧ k_ ≠ gb302 ∧ k_ ≠ gb319 ∧ k_ ≠ gb337) (.slice Ao37 t282.length co37) t282) := ⟨by (with_reducible repeat (first | apply Kd.kAW | apply Kd.kAV | apply Kd.kBC)); exact Kd.kBY (Kd.kBT (p := ⟨gb337, 5, none⟩) (Kd.kBT (p := ⟨gb337, 4, none⟩) (Kd.kBT (p := ⟨gb337, 3, none⟩) (Kd.kBT (p := ⟨gb337, 2, none⟩) (Kd.kBT (p := ⟨gb337, 1, none⟩) (Kd.kBT (p := ⟨gb337, 0, none⟩) (Kd.kBY HO284.out (fun k_ hk => (⟨hk, hk.2⟩ : _ ∧ k_ ≠ gb337))) (fun _ hk => hk.2) (.int .i64 t325)) (fun _ hk => hk.2) (.int .i64 t326)) (fun _ hk => hk.2) (.int .i64 t327)) (fun _ hk => hk.2) (.int .i64 t328)) (fun _ hk => hk.2) (.int .i64 t329)) (fun _ hk => hk.2) (.slice Ao74 t330.length co74)) (fun _ hk => ⟨hk.1.1.1.1.1, ⟨hk.1.1.1.1.2.1, ⟨hk.1.1.1.1.2.2.1, ⟨hk.1.1.1.1.2.2.2.1, ⟨hk.1.1.1.1.2.2.2.2.1, ⟨hk.1.1.1.1.2.2.2.2.2.1, ⟨hk.1.1.1.1.2.2.2.2.2.2.1, ⟨hk.1.1.1.2, ⟨hk.1.1.2, ⟨hk.1.1.1.1.2.2.2.2.2.2.2.1, ⟨hk.1.1.1.1.2.2.2.2.2.2.2.2.1, ⟨hk.1.1.1.1.2.2.2.2.2.2.2.2.2.1, ⟨hk.1.1.1.1.2.2.2.2.2.2.2.2.2.2, hk.1.2⟩⟩⟩⟩⟩⟩⟩⟩⟩⟩⟩⟩⟩)⟩
            have n3_ : Aside0 (Kd.R (Kd.int .u8) 5 ((((((w68.setCell ⟨gb337, 0, none⟩ (.int .i64 t325)).setCell ⟨gb337, 1, none⟩ (.int .i64 t326)).setCell ⟨gb337, 2, none⟩ (.int .i64 t327)).setCell ⟨gb337, 3, none⟩ (.int .i64 t328)).setCell ⟨gb337, 4, none⟩ (.int .i64 t329)).setCell ⟨gb337, 5, none⟩ (.slice Ao74 t330.length co74)) w.heap.size (fun k_ => some k_ ≠ (v299 : Value).ownBlock ∧ some k_ ≠ (v304 : Value).ownBlock ∧ some k_ ≠ (v316 : Value).ownBlock ∧ some k_ ≠ (v334 : Value).ownBlock) (.slice Ao48 t286.length co48) t286) := ⟨by (with_reducible repeat (first | apply Kd.kAP | apply Kd.kAO | apply Kd.kAR)); exact Kd.kBL (Kd.kBW (p := ⟨gb337, 5, none⟩) (Kd.kBW (p := ⟨gb337, 4, none⟩) (Kd.kBW (p := ⟨gb337, 3, none⟩) (Kd.kBW (p := ⟨gb337, 2, none⟩) (Kd.kBW (p := ⟨gb337, 1, none⟩) (Kd.kBW (p := ⟨gb337, 0, none⟩) (Kd.kBZ HO288.out BK337.out (by decide)) (fun _ hk => hk.2) (.int .i64 t325)) (fun _ hk => hk.2) (.int .i64 t326)) (fun _ hk => hk.2) (.int .i64 t327)) (fun _ hk => hk.2) (.int .i64 t328)) (fun _ hk => hk.2) (.int .i64 t329)) (fun _ hk => hk.2) (.slice Ao74 t330.length co74)) (fun _ hk => ⟨hk.1.1.1, ⟨hk.1.1.2.1, ⟨hk.1.1.2.2, hk.1.2⟩⟩⟩)⟩
            have n4_ : Aside0 (Kd.N (Kd.slice 54 (Kd.int .u32)) 56 ((((((w68.setCell ⟨gb337, 0, none⟩ (.int .i64 t325)).setCell ⟨gb337, 1, none⟩ (.int .i64 t326)).setCell ⟨gb337, 2, none⟩ (.int .i64 t327)).setCell ⟨gb337, 3, none⟩ (.int .i64 t328)).setCell ⟨gb337, 4, none⟩ (.int .i64 t329)).setCell ⟨gb337, 5, none⟩ (.slice Ao74 t330.length co74)) w.heap.size (fun k_ => some k_ ≠ (v280 : Value).ownBlock ∧ some k_ ≠ (.slice Ao37 t282.length co37 : Value).ownBlock ∧ some k_ ≠ (.slice Ao48 t286.length co48 : Value).ownBlock ∧ some k_ ≠ (v299 : Value).ownBlock ∧ some k_ ≠ (v304 : Value).ownBlock ∧ some k_ ≠ (.slice Ao64 t312.length co64 : Value).ownBlock ∧ some k_ ≠ (v316 : Value).ownBlock ∧ some k_ ≠ (.slice Ao74 t330.length co74 : Value).ownBlock ∧ some k_ ≠ (v334 : Value).ownBlock ∧ k_ ≠ gb275 ∧ k_ ≠ gb285 ∧ k_ ≠ gb302 ∧ k_ ≠ gb319 ∧ k_ ≠ gb337) (.slice Ao54 t295.length co54) t295) := ⟨by (with_reducible repeat (first | apply Kd.kAW | apply Kd.kAV | apply Kd.kBC)); exact Kd.kBY (Kd.kBT (p := ⟨gb337, 5, none⟩) (Kd.kBT (p := ⟨gb337, 4, none⟩) (Kd.kBT (p := ⟨gb337, 3, none⟩) (Kd.kBT (p := ⟨gb337, 2, none⟩) (Kd.kBT (p := ⟨gb337, 1, none⟩) (Kd.kBT (p := ⟨gb337, 0, none⟩) (Kd.kBY HO297.out (fun k_ hk => (⟨hk, hk.2⟩ : _ ∧ k_ ≠ gb337))) (fun _ hk => hk.2) (.int .i64 t325)) (fun _ hk => hk.2) (.int .i64 t326)) (fun _ hk => hk.2) (.int .i64 t327)) (fun _ hk => hk.2) (.int .i64 t328)) (fun _ hk => hk.2) (.int .i64 t329)) (fun _ hk => hk.2) (.slice Ao74 t330.length co74)) (fun _ hk => ⟨hk.1.1.1.1.1, ⟨hk.1.1.1.1.2.1, ⟨hk.1.1.1.1.2.2.1, ⟨hk.1.1.1.1.2.2.2.1, ⟨hk.1.1.1.1.2.2.2.2.1, ⟨hk.1.1.1.1.2.2.2.2.2.1, ⟨hk.1.1.1.1.2.2.2.2.2.2.1, ⟨hk.1.1.1.2, ⟨hk.1.1.2, ⟨hk.1.1.1.1.2.2.2.2.2.2.2.1, ⟨hk.1.1.1.1.2.2.2.2.2.2.2.2.1, ⟨hk.1.1.1.1.2.2.2.2.2.2.2.2.2.1, ⟨hk.1.1.1.1.2.2.2.2.2.2.2.2.2.2, hk.1.2⟩⟩⟩⟩⟩⟩⟩⟩⟩⟩⟩⟩⟩)⟩
            have n5_ : Aside0 (Kd.R (Kd.int .u8) 5 ((((((w68.setCell ⟨gb337, 0, none⟩ (.int .i64 t325)).setCell ⟨gb337, 1, none⟩ (.int .i64 t326)).setCell ⟨gb337, 2, none⟩ (.int .i64 t327)).setCell ⟨gb337, 3, none⟩ (.int .i64 t328)).setCell ⟨gb337, 4, none⟩ (.int .i64 t329)).setCell ⟨gb337, 5, none⟩ (.slice Ao74 t330.length co74)) w.heap.size (fun k_ => some k_ ≠ (.slice Ao48 t286.length co48 : Value).ownBlock ∧ some k_ ≠ (v304 : Value).ownBlock ∧ some k_ ≠ (v316 : Value).ownBlock ∧ some k_ ≠ (v334 : Value).ownBlock) v299 t298) := ⟨by (with_reducible repeat (first | apply Kd.kAP | apply Kd.kAO | apply Kd.kAR)); exact Kd.kBL (Kd.kBW (p := ⟨gb337, 5, none⟩) (Kd.kBW (p := ⟨gb337, 4, none⟩) (Kd.kBW (p := ⟨gb337, 3, none⟩) (Kd.kBW (p := ⟨gb337, 2, none⟩) (Kd.kBW (p := ⟨gb337, 1, none⟩) (Kd.kBW (p := ⟨gb337, 0, none⟩) (Kd.kBZ HO300.out BK337.out (by decide)) (fun _ hk => hk.2) (.int .i64 t325)) (fun _ hk => hk.2) (.int .i64 t326)) (fun _ hk => hk.2) (.int .i64 t327)) (fun _ hk => hk.2) (.int .i64 t328)) (fun _ hk => hk.2) (.int .i64 t329)) (fun _ hk => hk.2) (.slice Ao74 t330.length co74)) (fun _ hk => ⟨hk.1.1.1, ⟨hk.1.1.2.1, ⟨hk.1.1.2.2, hk.1.2⟩⟩⟩)⟩
            have n6_ : Aside0 (Kd.R (Kd.int .u8) 5 ((((((w68.setCell ⟨gb337, 0, none⟩ (.int .i64 t325)).setCell ⟨gb337, 1, none⟩ (.int .i64 t326)).setCell ⟨gb337, 2, none⟩ (.int .i64 t327)).setCell ⟨gb337, 3, none⟩ (.int .i64 t328)).setCell ⟨gb337, 4, none⟩ (.int .i64 t329)).setCell ⟨gb337, 5, none⟩ (.slice Ao74 t330.length co74)) w.heap.size (fun k_ => some k_ ≠ (.slice Ao48 t286.length co48 : Value).ownBlock ∧ some k_ ≠ (v299 : Value).ownBlock ∧ some k_ ≠ (v316 : Value).ownBlock ∧ some k_ ≠ (v334 : Value).ownBlock) v304 t303) := ⟨by (with_reducible repeat (first | apply Kd.kAP | apply Kd.kAO | apply Kd.kAR)); exact Kd.kBL (Kd.kBW (p := ⟨gb337, 5, none⟩) (Kd.kBW (p := ⟨gb337, 4, none⟩) (Kd.kBW (p := ⟨gb337, 3, none⟩) (Kd.kBW (p := ⟨gb337, 2, none⟩) (Kd.kBW (p := ⟨gb337, 1, none⟩) (Kd.kBW (p := ⟨gb337, 0, none⟩) (Kd.kBZ HO305.out BK337.out (by decide)) (fun _ hk => hk.2) (.int .i64 t325)) (fun _ hk => hk.2) (.int .i64 t326)) (fun _ hk => hk.2) (.int .i64 t327)) (fun _ hk => hk.2) (.int .i64 t328)) (fun _ hk => hk.2) (.int .i64 t329)) (fun _ hk => hk.2) (.slice Ao74 t330.length co74)) (fun _ hk => ⟨hk.1.1.1, ⟨hk.1.1.2.1, ⟨hk.1.1.2.2, hk.1.2⟩⟩⟩)⟩
            have n7_ : Aside0 (Kd.N (Kd.slice 54 (Kd.int .u32)) 56 ((((((w68.setCell ⟨gb337, 0, none⟩ (.int .i64 t325)).setCell ⟨gb337, 1, none⟩ (.int .i64 t326)).setCell ⟨gb337, 2, none⟩ (.int .i64 t327)).setCell ⟨gb337, 3, none⟩ (.int .i64 t328)).setCell ⟨gb337, 4, none⟩ (.int .i64 t329)).setCell ⟨gb337, 5, none⟩ (.slice Ao74 t330.length co74)) w.heap.size (fun k_ => some k_ ≠ (v280 : Value).ownBlock ∧ some k_ ≠ (.slice Ao37 t282.length co37 : Value).ownBlock ∧ some k_ ≠ (.slice Ao48 t286.length co48 : Value).ownBlock ∧ some k_ ≠ (.slice Ao54 t295.length co54 : Value).ownBlock ∧ some k_ ≠ (v299 : Value).ownBlock ∧ some k_ ≠ (v304 : Value).ownBlock ∧ some k_ ≠ (v316 : Value).ownBlock ∧ some k_ ≠ (.slice Ao74 t330.length co74 : Value).ownBlock ∧ some k_ ≠ (v334 : Value).ownBlock ∧ k_ ≠ gb275 ∧ k_ ≠ gb285 ∧ k_ ≠ gb302 ∧ k_ ≠ gb319 ∧ k_ ≠ gb337) (.slice Ao64 t312.length co64) t312) := ⟨by (with_reducible repeat (first | apply Kd.kAW | apply Kd.kAV | apply Kd.kBC)); exact Kd.kBY (Kd.kBT (p := ⟨gb337, 5, none⟩) (Kd.kBT (p := ⟨gb337, 4, none⟩) (Kd.kBT (p := ⟨gb337, 3, none⟩) (Kd.kBT (p := ⟨gb337, 2, none⟩) (Kd.kBT (p := ⟨gb337, 1, none⟩) (Kd.kBT (p := ⟨gb337, 0, none⟩) (Kd.kBY HO314.out (fun k_ hk => (⟨hk, hk.2⟩ : _ ∧ k_ ≠ gb337))) (fun _ hk => hk.2) (.int .i64 t325)) (fun _ hk => hk.2) (.int .i64 t326)) (fun _ hk => hk.2) (.int .i64 t327)) (fun _ hk => hk.2) (.int .i64 t328)) (fun _ hk => hk.2) (.int .i64 t329)) (fun _ hk => hk.2) (.slice Ao74 t330.length co74)) (fun _ hk => ⟨hk.1.1.1.1.1, ⟨hk.1.1.1.1.2.1, ⟨hk.1.1.1.1.2.2.1, ⟨hk.1.1.1.1.2.2.2.1, ⟨hk.1.1.1.1.2.2.2.2.1, ⟨hk.1.1.1.1.2.2.2.2.2.1, ⟨hk.1.1.1.1.2.2.2.2.2.2.1, ⟨hk.1.1.1.2, ⟨hk.1.1.2, ⟨hk.1.1.1.1.2.2.2.2.2.2.2.1, ⟨hk.1.1.1.1.2.2.2.2.2.2.2.2.1, ⟨hk.1.1.1.1.2.2.2.2.2.2.2.2.2.1, ⟨hk.1.1.1.1.2.2.2.2.2.2.2.2.2.2, hk.1.2⟩⟩⟩⟩⟩⟩⟩⟩⟩⟩⟩⟩⟩)⟩
            have n8_ : Aside0 (Kd.R (Kd.int .u8) 5 ((((((w68.setCell ⟨gb337, 0, none⟩ (.int .i64 t325)).setCell ⟨gb337, 1, none⟩ (.int .i64 t326)).setCell ⟨gb337, 2, none⟩ (.int .i64 t327)).setCell ⟨gb337, 3, none⟩ (.int .i64 t328)).setCell ⟨gb337, 4, none⟩ (.int .i64 t329)).setCell ⟨gb337, 5, none⟩ (.slice Ao74 t330.length co74)) w.heap.size (fun k_ => some k_ ≠ (.slice Ao48 t286.length co48 : Value).ownBlock ∧ some k_ ≠ (v299 : Value).ownBlock ∧ some k_ ≠ (v304 : Value).ownBlock ∧ some k_ ≠ (v334 : Value).ownBlock) v316 t315) := ⟨by (with_reducible repeat (first | apply Kd.kAP | apply Kd.kAO | apply Kd.kAR)); exact Kd.kBL (Kd.kBW (p := ⟨gb337, 5, none⟩) (Kd.kBW (p := ⟨gb337, 4, none⟩) (Kd.kBW (p := ⟨gb337, 3, none⟩) (Kd.kBW (p := ⟨gb337, 2, none⟩) (Kd.kBW (p := ⟨gb337, 1, none⟩) (Kd.kBW (p := ⟨gb337, 0, none⟩) (Kd.kBZ HO317.out BK337.out (by decide)) (fun _ hk => hk.2) (.int .i64 t325)) (fun _ hk => hk.2) (.int .i64 t326)) (fun _ hk => hk.2) (.int .i64 t327)) (fun _ hk => hk.2) (.int .i64 t328)) (fun _ hk => hk.2) (.int .i64 t329)) (fun _ hk => hk.2) (.slice Ao74 t330.length co74)) (fun _ hk => ⟨hk.1.1.1, ⟨hk.1.1.2.1, ⟨hk.1.1.2.2, hk.1.2⟩⟩⟩)⟩
            have n9_ : Aside0 (Kd.V (Kd.int .u8) 5 ((((((w68.setCell ⟨gb337, 0, none⟩ (.int .i64 t325)).setCell ⟨gb337, 1, none⟩ (.int .i64 t326)).setCell ⟨gb337, 2, none⟩ (.int .i64 t327)).setCell ⟨gb337, 3, none⟩ (.int .i64 t328)).setCell ⟨gb337, 4, none⟩ (.int .i64 t329)).setCell ⟨gb337, 5, none⟩ (.slice Ao74 t330.length co74)) w.heap.size (fun k_ => some k_ ≠ (v280 : Value).ownBlock ∧ some k_ ≠ (.slice Ao37 t282.length co37 : Value).ownBlock ∧ some k_ ≠ (.slice Ao54 t295.length co54 : Value).ownBlock ∧ some k_ ≠ (v299 : Value).ownBlock ∧ some k_ ≠ (v304 : Value).ownBlock ∧ some k_ ≠ (.slice Ao64 t312.length co64 : Value).ownBlock ∧ some k_ ≠ (v316 : Value).ownBlock ∧ some k_ ≠ (.slice Ao74 t330.length co74 : Value).ownBlock ∧ some k_ ≠ (v334 : Value).ownBlock ∧ k_ ≠ gb275 ∧ k_ ≠ gb285 ∧ k_ ≠ gb302 ∧ k_ ≠ gb319 ∧ k_ ≠ gb337) (.slice Ao48 y320.length co48) y320) := ⟨by (with_reducible repeat (first | apply Kd.kAT | apply Kd.kAS | apply Kd.kAZ)); exact Kd.kBV (Kd.V_far (p := ⟨gb337, 5, none⟩) (Kd.V_far (p := ⟨gb337, 4, none⟩) (Kd.V_far (p := ⟨gb337, 3, none⟩) (Kd.V_far (p := ⟨gb337, 2, none⟩) (Kd.V_far (p := ⟨gb337, 1, none⟩) (Kd.V_far (p := ⟨gb337, 0, none⟩) (Kd.kBV HO324.out (fun k_ hk => (⟨hk, hk.2⟩ : _ ∧ k_ ≠ gb337))) (fun _ hk => hk.2) (.int .i64 t325)) (fun _ hk => hk.2) (.int .i64 t326)) (fun _ hk => hk.2) (.int .i64 t327)) (fun _ hk => hk.2) (.int .i64 t328)) (fun _ hk => hk.2) (.int .i64 t329)) (fun _ hk => hk.2) (.slice Ao74 t330.length co74)) (fun _ hk => ⟨hk.1.1.1.1.1.1.1.1.1.1.1.2, ⟨hk.1.1.1.1.1.1.1.1.1.1.2, ⟨hk.1.1.1.1.1.1.1.1.1.2, ⟨hk.1.1.1.1.1.1.1.1.1.1.1.1.1, ⟨hk.1.1.1.1.1.1.1.1.1.1.1.1.2.1, ⟨hk.1.1.1.1.1.1.1.1.2, ⟨hk.1.1.1.1.1.1.1.1.1.1.1.1.2.2, ⟨hk.1.1.1.2, ⟨hk.1.1.2, ⟨hk.1.1.1.1.1.1.1.2, ⟨hk.1.1.1.1.1.1.2, ⟨hk.1.1.1.1.1.2, ⟨hk.1.1.1.1.2, hk.1.2⟩⟩⟩⟩⟩⟩⟩⟩⟩⟩⟩⟩⟩)⟩
            have n10_ : Aside0 (Kd.N (Kd.slice 54 (Kd.int .u32)) 56 ((((((w68.setCell ⟨gb337, 0, none⟩ (.int .i64 t325)).setCell ⟨gb337, 1, none⟩ (.int .i64 t326)).setCell ⟨gb337, 2, none⟩ (.int .i64 t327)).setCell ⟨gb337, 3, none⟩ (.int .i64 t328)).setCell ⟨gb337, 4, none⟩ (.int .i64 t329)).setCell ⟨gb337, 5, none⟩ (.slice Ao74 t330.length co74)) w.heap.size (fun k_ => some k_ ≠ (v280 : Value).ownBlock ∧ some k_ ≠ (.slice Ao37 t282.length co37 : Value).ownBlock ∧ some k_ ≠ (.slice Ao48 t286.length co48 : Value).ownBlock ∧ some k_ ≠ (.slice Ao54 t295.length co54 : Value).ownBlock ∧ some k_ ≠ (v299 : Value).ownBlock ∧ some k_ ≠ (v304 : Value).ownBlock ∧ some k_ ≠ (.slice Ao64 t312.length co64 : Value).ownBlock ∧ some k_ ≠ (v316 : Value).ownBlock ∧ some k_ ≠ (v334 : Value).ownBlock ∧ k_ ≠ gb275 ∧ k_ ≠ gb285 ∧ k_ ≠ gb302 ∧ k_ ≠ gb319 ∧ k_ ≠ gb337) (.slice Ao74 t330.length co74) t330) := ⟨by (with_reducible repeat (first | apply Kd.kAW | apply Kd.kAV | apply Kd.kBC)); exact Kd.kBY (Kd.kBT (p := ⟨gb337, 5, none⟩) (Kd.kBT (p := ⟨gb337, 4, none⟩) (Kd.kBT (p := ⟨gb337, 3, none⟩) (Kd.kBT (p := ⟨gb337, 2, none⟩) (Kd.kBT (p := ⟨gb337, 1, none⟩) (Kd.kBT (p := ⟨gb337, 0, none⟩) (Kd.kBY HO332.out (fun k_ hk => (⟨hk, hk.2⟩ : _ ∧ k_ ≠ gb337))) (fun _ hk => hk.2) (.int .i64 t325)) (fun _ hk => hk.2) (.int .i64 t326)) (fun _ hk => hk.2) (.int .i64 t327)) (fun _ hk => hk.2) (.int .i64 t328)) (fun _ hk => hk.2) (.int .i64 t329)) (fun _ hk => hk.2) (.slice Ao74 t330.length co74)) (fun _ hk => ⟨hk.1.1.2.1, ⟨hk.1.1.2.2.1, ⟨hk.1.1.2.2.2.1, ⟨hk.1.1.2.2.2.2.1, ⟨hk.1.1.2.2.2.2.2.1, ⟨hk.1.1.2.2.2.2.2.2.1, ⟨hk.1.1.2.2.2.2.2.2.2.1, ⟨hk.1.1.2.2.2.2.2.2.2.2.1, ⟨hk.1.1.1, ⟨hk.1.1.2.2.2.2.2.2.2.2.2.1, ⟨hk.1.1.2.2.2.2.2.2.2.2.2.2.1, ⟨hk.1.1.2.2.2.2.2.2.2.2.2.2.2.1, ⟨hk.1.1.2.2.2.2.2.2.2.2.2.2.2.2, hk.1.2⟩⟩⟩⟩⟩⟩⟩⟩⟩⟩⟩⟩⟩)⟩
            have n11_ : Aside0 (Kd.R (Kd.int .u8) 5 ((((((w68.setCell ⟨gb337, 0, none⟩ (.int .i64 t325)).setCell ⟨gb337, 1, none⟩ (.int .i64 t326)).setCell ⟨gb337, 2, none⟩ (.int .i64 t327)).setCell ⟨gb337, 3, none⟩ (.int .i64 t328)).setCell ⟨gb337, 4, none⟩ (.int .i64 t329)).setCell ⟨gb337, 5, none⟩ (.slice Ao74 t330.length co74)) w.heap.size (fun k_ => some k_ ≠ (.slice Ao48 t286.length co48 : Value).ownBlock ∧ some k_ ≠ (v299 : Value).ownBlock ∧ some k_ ≠ (v304 : Value).ownBlock ∧ some k_ ≠ (v316 : Value).ownBlock) v334 t333) := ⟨by (with_reducible repeat (first | apply Kd.kAP | apply Kd.kAO | apply Kd.kAR)); exact Kd.kBL (Kd.kBW (p := ⟨gb337, 5, none⟩) (Kd.kBW (p := ⟨gb337, 4, none⟩) (Kd.kBW (p := ⟨gb337, 3, none⟩) (Kd.kBW (p := ⟨gb337, 2, none⟩) (Kd.kBW (p := ⟨gb337, 1, none⟩) (Kd.kBW (p := ⟨gb337, 0, none⟩) (Kd.kBZ HO335.out BK337.out (by decide)) (fun _ hk => hk.2) (.int .i64 t325)) (fun _ hk => hk.2) (.int .i64 t326)) (fun _ hk => hk.2) (.int .i64 t327)) (fun _ hk => hk.2) (.int .i64 t328)) (fun _ hk => hk.2) (.int .i64 t329)) (fun _ hk => hk.2) (.slice Ao74 t330.length co74)) (fun _ hk => ⟨hk.1.1.1.1.2, ⟨hk.1.1.1.2, ⟨hk.1.1.2, hk.1.2⟩⟩⟩)⟩
            have n12_ : Aside0 (((((((w68.setCell ⟨gb337, 0, none⟩ (.int .i64 t325)).setCell ⟨gb337, 1, none⟩ (.int .i64 t326)).setCell ⟨gb337, 2, none⟩ (.int .i64 t327)).setCell ⟨gb337, 3, none⟩ (.int .i64 t328)).setCell ⟨gb337, 4, none⟩ (.int .i64 t329)).setCell ⟨gb337, 5, none⟩ (.slice Ao74 t330.length co74)).heap[gb275]? = some (.cells #[.int .i64 1, .int .i64 1, .int .i64 5, .int .i64 13] 23 (0, 0))) := ⟨by (with_reducible repeat (first | refine kAH ?_ _ | refine kAI ?_ | refine kAG ?_ _)); refine kBB ?_ NB275_337.out _; (with_reducible repeat (first | refine kAH ?_ _ | refine kAI ?_ | refine kAG ?_ _)); refine kBB ?_ NB275_337.out _; (with_reducible repeat (first | refine kAH ?_ _ | refine kAI ?_ | refine kAG ?_ _)); refine kBB ?_ NB275_337.out _; (with_reducible repeat (first | refine kAH ?_ _ | refine kAI ?_ | refine kAG ?_ _)); refine kBB ?_ NB275_337.out _; (with_reducible repeat (first | refine kAH ?_ _ | refine kAI ?_ | refine kAG ?_ _)); refine kBB ?_ NB275_337.out _; (with_reducible repeat (first | refine kAH ?_ _ | refine kAI ?_ | refine kAG ?_ _)); refine kBB ?_ NB275_337.out _; (with_reducible repeat (first | refine kAH ?_ _ | refine kAI ?_ | refine kAG ?_ _)); exact BK275.out⟩
            have n13_ : Aside0 (((((((w68.setCell ⟨gb337, 0, none⟩ (.int .i64 t325)).setCell ⟨gb337, 1, none⟩ (.int .i64 t326)).setCell ⟨gb337, 2, none⟩ (.int .i64 t327)).setCell ⟨gb337, 3, none⟩ (.int .i64 t328)).setCell ⟨gb337, 4, none⟩ (.int .i64 t329)).setCell ⟨gb337, 5, none⟩ (.slice Ao74 t330.length co74)).heap[gb285]? = some (.cells #[.int .i64 1, .int .i64 1, .int .i64 5, .int .i64 13, .int .i64 0, .slice Ao37 t282.length co37] 26 (0, 0))) := ⟨by (with_reducible repeat (first | refine kAH ?_ _ | refine kAI ?_ | refine kAG ?_ _)); refine kBB ?_ NB285_337.out _; (with_reducible repeat (first | refine kAH ?_ _ | refine kAI ?_ | refine kAG ?_ _)); refine kBB ?_ NB285_337.out _; (with_reducible repeat (first | refine kAH ?_ _ | refine kAI ?_ | refine kAG ?_ _)); refine kBB ?_ NB285_337.out _; (with_reducible repeat (first | refine kAH ?_ _ | refine kAI ?_ | refine kAG ?_ _)); refine kBB ?_ NB285_337.out _; (with_reducible repeat (first | refine kAH ?_ _ | refine kAI ?_ | refine kAG ?_ _)); refine kBB ?_ NB285_337.out _; (with_reducible repeat (first | refine kAH ?_ _ | refine kAI ?_ | refine kAG ?_ _)); refine kBB ?_ NB285_337.out _; (with_reducible repeat (first | refine kAH ?_ _ | refine kAI ?_ | refine kAG ?_ _)); exact BK285.out⟩
            have n14_ : Aside0 (((((((w68.setCell ⟨gb337, 0, none⟩ (.int .i64 t325)).setCell ⟨gb337, 1, none⟩ (.int .i64 t326)).setCell ⟨gb337, 2, none⟩ (.int .i64 t327)).setCell ⟨gb337, 3, none⟩ (.int .i64 t328)).setCell ⟨gb337, 4, none⟩ (.int .i64 t329)).setCell ⟨gb337, 5, none⟩ (.slice Ao74 t330.length co74)).heap[gb302]? = some (.cells #[.int .i64 t290, .int .i64 t291, .int .i64 t292, .int .i64 t293, .int .i64 t294, .slice Ao54 t295.length co54] 26 (0, 0))) := ⟨by (with_reducible repeat (first | refine kAH ?_ _ | refine kAI ?_ | refine kAG ?_ _)); refine kBB ?_ NB302_337.out _; (with_reducible repeat (first | refine kAH ?_ _ | refine kAI ?_ | refine kAG ?_ _)); refine kBB ?_ NB302_337.out _; (with_reducible repeat (first | refine kAH ?_ _ | refine kAI ?_ | refine kAG ?_ _)); refine kBB ?_ NB302_337.out _; (with_reducible repeat (first | refine kAH ?_ _ | refine kAI ?_ | refine kAG ?_ _)); refine kBB ?_ NB302_337.out _; (with_reducible repeat (first | refine kAH ?_ _ | refine kAI ?_ | refine kAG ?_ _)); refine kBB ?_ NB302_337.out _; (with_reducible repeat (first | refine kAH ?_ _ | refine kAI ?_ | refine kAG ?_ _)); refine kBB ?_ NB302_337.out _; (with_reducible repeat (first | refine kAH ?_ _ | refine kAI ?_ | refine kAG ?_ _)); exact BK302.out⟩
            have n15_ : Aside0 (((((((w68.setCell ⟨gb337, 0, none⟩ (.int .i64 t325)).setCell ⟨gb337, 1, none⟩ (.int .i64 t326)).setCell ⟨gb337, 2, none⟩ (.int .i64 t327)).setCell ⟨gb337, 3, none⟩ (.int .i64 t328)).setCell ⟨gb337, 4, none⟩ (.int .i64 t329)).setCell ⟨gb337, 5, none⟩ (.slice Ao74 t330.length co74)).heap[gb319]? = some (.cells #[.int .i64 t307, .int .i64 t308, .int .i64 t309, .int .i64 t310, .int .i64 t311, .slice Ao64 t312.length co64] 26 (0, 0))) := ⟨by (with_reducible repeat (first | refine kAH ?_ _ | refine kAI ?_ | refine kAG ?_ _)); refine kBB ?_ NB319_337.out _; (with_reducible repeat (first | refine kAH ?_ _ | refine kAI ?_ | refine kAG ?_ _)); refine kBB ?_ NB319_337.out _; (with_reducible repeat (first | refine kAH ?_ _ | refine kAI ?_ | refine kAG ?_ _)); refine kBB ?_ NB319_337.out _; (with_reducible repeat (first | refine kAH ?_ _ | refine kAI ?_ | refine kAG ?_ _)); refine kBB ?_ NB319_337.out _; (with_reducible repeat (first | refine kAH ?_ _ | refine kAI ?_ | refine kAG ?_ _)); refine kBB ?_ NB319_337.out _; (with_reducible repeat (first | refine kAH ?_ _ | refine kAI ?_ | refine kAG ?_ _)); refine kBB ?_ NB319_337.out _; (with_reducible repeat (first | refine kAH ?_ _ | refine kAI ?_ | refine kAG ?_ _)); exact BK319.out⟩
            have n16_ : Aside0 (((((((w68.setCell ⟨gb337, 0, none⟩ (.int .i64 t325)).setCell ⟨gb337, 1, none⟩ (.int .i64 t326)).setCell ⟨gb337, 2, none⟩ (.int .i64 t327)).setCell ⟨gb337, 3, none⟩ (.int .i64 t328)).setCell ⟨gb337, 4, none⟩ (.int .i64 t329)).setCell ⟨gb337, 5, none⟩ (.slice Ao74 t330.length co74)).heap[gb337]? = some (.cells #[.int .i64 t325, .int .i64 t326, .int .i64 t327, .int .i64 t328, .int .i64 t329, .slice Ao74 t330.length co74] 26 (0, 0))) := ⟨by (with_reducible repeat (first | refine kAH ?_ _ | refine kAI ?_ | refine kAG ?_ _)); refine kAU (cs := #[.int .i64 t325, .int .i64 t326, .int .i64 t327, .int .i64 t328, .int .i64 t329, .slice none 0 0]) ?_ 5 _ rfl; (with_reducible repeat (first | refine kAH ?_ _ | refine kAI ?_ | refine kAG ?_ _)); refine kAU (cs := #[.int .i64 t325, .int .i64 t326, .int .i64 t327, .int .i64 t328, .int .i64 0, .slice none 0 0]) ?_ 4 _ rfl; (with_reducible repeat (first | refine kAH ?_ _ | refine kAI ?_ | refine kAG ?_ _)); refine kAU (cs := #[.int .i64 t325, .int .i64 t326, .int .i64 t327, .int .i64 0, .int .i64 0, .slice none 0 0]) ?_ 3 _ rfl; (with_reducible repeat (first | refine kAH ?_ _ | refine kAI ?_ | refine kAG ?_ _)); refine kAU (cs := #[.int .i64 t325, .int .i64 t326, .int .i64 0, .int .i64 0, .int .i64 0, .slice none 0 0]) ?_ 2 _ rfl; (with_reducible repeat (first | refine kAH ?_ _ | refine kAI ?_ | refine kAG ?_ _)); refine kAU (cs := #[.int .i64 t325, .int .i64 0, .int .i64 0, .int .i64 0, .int .i64 0, .slice none 0 0]) ?_ 1 _ rfl; (with_reducible repeat (first | refine kAH ?_ _ | refine kAI ?_ | refine kAG ?_ _)); refine kAU (cs := #[.int .i64 0, .int .i64 0, .int .i64 0, .int .i64 0, .int .i64 0, .slice none 0 0]) ?_ 0 _ rfl; (with_reducible repeat (first | refine kAH ?_ _ | refine kAI ?_ | refine kAG ?_ _)); exact BK337.out⟩
            have n17_ : Aside0 (Below w.heap.size w ((((((w68.setCell ⟨gb337, 0, none⟩ (.int .i64 t325)).setCell ⟨gb337, 1, none⟩ (.int .i64 t326)).setCell ⟨gb337, 2, none⟩ (.int .i64 t327)).setCell ⟨gb337, 3, none⟩ (.int .i64 t328)).setCell ⟨gb337, 4, none⟩ (.int .i64 t329)).setCell ⟨gb337, 5, none⟩ (.slice Ao74 t330.length co74))) := ⟨by repeat (first | (with_reducible first | exact HB.out | apply kAB | apply kAA | apply kAC | refine kAF ?_ GE275.out | refine kAF ?_ GE285.out | refine kAF ?_ GE302.out | refine kAF ?_ GE319.out | refine kAF ?_ GE337.out) | exact HB.out)⟩
            (try clear HO278)
            (try clear HO281)
            (try clear HO284)
            (try clear HO288)
            (try clear HO297)
            (try clear HO300)
            (try clear HO305)
            (try clear HO314)
            (try clear HO317)
            (try clear HO324)
            (try clear HO332)
            (try clear HO335)
            (try clear BK275)
            (try clear BK285)
            (try clear BK302)
            (try clear BK319)
            (try clear BK337)
            (try clear HB)
            generalize ((((((w68.setCell ⟨gb337, 0, none⟩ (.int .i64 t325)).setCell ⟨gb337, 1, none⟩ (.int .i64 t326)).setCell ⟨gb337, 2, none⟩ (.int .i64 t327)).setCell ⟨gb337, 3, none⟩ (.int .i64 t328)).setCell ⟨gb337, 4, none⟩ (.int .i64 t329)).setCell ⟨gb337, 5, none⟩ (.slice Ao74 t330.length co74)) = w75 at n0_ n1_ n2_ n3_ n4_ n5_ n6_ n7_ n8_ n9_ n10_ n11_ n12_ n13_ n14_ n15_ n16_ n17_ ⊢
            have HO278 := n0_
            have HO281 := n1_
            have HO284 := n2_
            have HO288 := n3_
            have HO297 := n4_
            have HO300 := n5_
            have HO305 := n6_
            have HO314 := n7_
            have HO317 := n8_
            have HO324 := n9_
            have HO332 := n10_
            have HO335 := n11_
            have BK275 := n12_
            have BK285 := n13_
            have BK302 := n14_
            have BK319 := n15_
            have BK337 := n16_
            have HB := n17_
            clear n0_ n1_ n2_ n3_ n4_ n5_ n6_ n7_ n8_ n9_ n10_ n11_ n12_ n13_ n14_ n15_ n16_ n17_
            have n0_ := kzA (Kd.kAZ HO278.out)
            have n1_ := kzA (Kd.kBC HO281.out)
            have n2_ := kzA (Kd.kBC HO284.out)
            have n3_ := kzA (Kd.kAR HO288.out)
            have n4_ := kzA (Kd.kBC HO297.out)
            have n5_ := kzA (Kd.kAR HO300.out)
            have n6_ := kzA (Kd.kAR HO305.out)
            have n7_ := kzA (Kd.kBC HO314.out)
            have n8_ := kzA (Kd.kAR HO317.out)
            have n9_ := kzA (Kd.kAZ HO324.out)
            have n10_ := kzA (Kd.kBC HO332.out)
            have n11_ := kzA (Kd.kAR HO335.out)
            have n12_ := kzA (kAI BK275.out)
            have n13_ := kzA (kAI BK285.out)
            have n14_ := kzA (kAI BK302.out)
            have n15_ := kzA (kAI BK319.out)
            have n16_ := kzA (kAI BK337.out)
            have n17_ := kzA (kAC HB.out)
            clear HO278
            clear HO281
            clear HO284
            clear HO288
            clear HO297
            clear HO300
            clear HO305
            clear HO314
            clear HO317
            clear HO324
            clear HO332
            clear HO335
            clear BK275
            clear BK285
            clear BK302
            clear BK319
            clear BK337
            clear HB
            have HO278 := n0_
            have HO281 := n1_
            have HO284 := n2_
            have HO288 := n3_
            have HO297 := n4_
            have HO300 := n5_
            have HO305 := n6_
            have HO314 := n7_
            have HO317 := n8_
            have HO324 := n9_
            have HO332 := n10_
            have HO335 := n11_
            have BK275 := n12_
            have BK285 := n13_
            have BK302 := n14_
            have BK319 := n15_
            have BK337 := n16_
            have HB := n17_
            clear n0_ n1_ n2_ n3_ n4_ n5_ n6_ n7_ n8_ n9_ n10_ n11_ n12_ n13_ n14_ n15_ n16_ n17_
            refine start_ (n := 41) (S := fun w' => w'.cell? ⟨gb275, 0, none⟩ = some (.int .i64 1) ∧ w'.cell? ⟨gb275, 1, none⟩ = some (.int .i64 1) ∧ w'.cell? ⟨gb275, 2, none⟩ = some (.int .i64 5) ∧ w'.cell? ⟨gb275, 3, none⟩ = some (.int .i64 13) ∧ w'.cell? ⟨gb302, 0, none⟩ = some (.int .i64 t290) ∧ w'.cell? ⟨gb302, 1, none⟩ = some (.int .i64 t291) ∧ w'.cell? ⟨gb302, 2, none⟩ = some (.int .i64 t292) ∧ w'.cell? ⟨gb302, 3, none⟩ = some (.int .i64 t293) ∧ w'.cell? ⟨gb302, 4, none⟩ = some (.int .i64 t294) ∧ w'.cell? ⟨gb302, 5, none⟩ = some (.slice Ao54 t295.length co54) ∧ w'.cell? ⟨gb285, 0, none⟩ = some (.int .i64 1) ∧ w'.cell? ⟨gb285, 1, none⟩ = some (.int .i64 1) ∧ w'.cell? ⟨gb285, 2, none⟩ = some (.int .i64 5) ∧ w'.cell? ⟨gb285, 3, none⟩ = some (.int .i64 13) ∧ w'.cell? ⟨gb285, 4, none⟩ = some (.int .i64 0) ∧ w'.cell? ⟨gb285, 5, none⟩ = some (.slice Ao37 t282.length co37)) (ds := []) #[false, false, false, false, false, false, false, false, false, false, false, false, false, false, false, false, false, false, false, false, false, false, false, false, false, false, false, false, false, false, false, false, false, false, false, false, false, false, false, false, false] (by kernel_rfl) rfl rfl ⟨(kAD BK275.out 0).trans rfl, (kAD BK275.out 1).trans rfl, (kAD BK275.out 2).trans rfl, (kAD BK275.out 3).trans rfl, (kAD BK302.out 0).trans rfl, (kAD BK302.out 1).trans rfl, (kAD BK302.out 2).trans rfl, (kAD BK302.out 3).trans rfl, (kAD BK302.out 4).trans rfl, (kAD BK302.out 5).trans rfl, (kAD BK285.out 0).trans rfl, (kAD BK285.out 1).trans rfl, (kAD BK285.out 2).trans rfl, (kAD BK285.out 3).trans rfl, (kAD BK285.out 4).trans rfl, (kAD BK285.out 5).trans rfl⟩ (fun hHeld => ?_); refine with_tabW footlockerlaw24_alive.tab11 footlockerlaw24_alive.bits11 (fun HT_ HW_ => ?_)
            generalize w75.drew = w76 at HO278 HO281 HO284 HO288 HO297 HO300 HO305 HO314 HO317 HO324 HO332 HO335 BK275 BK285 BK302 BK319 BK337 HB hHeld ⊢
            refine take_ (i := 0) (N := some 58) (v := ?_) (a' := ?_) #[true, false, false, false, false, false, false, false, false, false, false, false, false, false, false, false, false, false, false, false, false, false, false, false, false, false, false, false, false, false, false, false, false, false, false, false, false, false, false, false, false] rfl rfl (kBX HT_.out HW_.out (by kernel_rfl)) (fun _ _ _ h => h) (Or.inl ⟨by rfl, ?_⟩) hHeld ?_ ?_
            rotate_left
            ·rintro w' ⟨s0, s1, s2, s3, s4, s5, s6, s7, s8, s9, s10, s11, s12, s13, s14, s15⟩
             go_simp
             with_reducible rfl
            rotate_left
            ·simp only [Act.put, kzB, kzC, kzD, kAX, kAY]
             rfl
            refine one_ (i := 1) (N := some 59) #[true, true, false, false, false, false, false, false, false, false, false, false, false, false, false, false, false, false, false, false, false, false, false, false, false, false, false, false, false, false, false, false, false, false, false, false, false, false, false, false, false] rfl rfl (one_of HT_.out (by kernel_rfl)) (by decide) (fun K hK => ?_)
            refine goes_ Tryd.func14 (by kernel_rfl) rfl #[.agg #[.int .i64 1, .int .i64 1, .int .i64 5, .int .i64 13]] (by rfl) rfl rfl (by (try simp only [List.map_toArray, List.map_cons, List.map_nil]); first | done | rfl | (simp only [List.length_drop, List.length_take]; rfl)) ?_
            with_reducible refine (seal_Head.calls 1 1 5 13 t338 _ A10.out).mono ?_
            rintro e w77 ⟨rfl, hb⟩
            refine ⟨_, rfl, ?_⟩
            have n0_ := kzA (Kd.kCD (by (with_reducible repeat (first | apply Kd.kAT | apply Kd.kAS | apply Kd.kAZ)); exact HO278.out) hb)
            have n1_ := kzA (Kd.kBR (by (with_reducible repeat (first | apply Kd.kAW | apply Kd.kAV | apply Kd.kBC)); exact HO281.out) hb)
            have n2_ := kzA (Kd.kBR (by (with_reducible repeat (first | apply Kd.kAW | apply Kd.kAV | apply Kd.kBC)); exact HO284.out) hb)
            have n3_ := kzA (Kd.kBJ (by (with_reducible repeat (first | apply Kd.kAP | apply Kd.kAO | apply Kd.kAR)); exact HO288.out) hb)
            have n4_ := kzA (Kd.kBR (by (with_reducible repeat (first | apply Kd.kAW | apply Kd.kAV | apply Kd.kBC)); exact HO297.out) hb)
            have n5_ := kzA (Kd.kBJ (by (with_reducible repeat (first | apply Kd.kAP | apply Kd.kAO | apply Kd.kAR)); exact HO300.out) hb)
            have n6_ := kzA (Kd.kBJ (by (with_reducible repeat (first | apply Kd.kAP | apply Kd.kAO | apply Kd.kAR)); exact HO305.out) hb)
            have n7_ := kzA (Kd.kBR (by (with_reducible repeat (first | apply Kd.kAW | apply Kd.kAV | apply Kd.kBC)); exact HO314.out) hb)
            have n8_ := kzA (Kd.kBJ (by (with_reducible repeat (first | apply Kd.kAP | apply Kd.kAO | apply Kd.kAR)); exact HO317.out) hb)
            have n9_ := kzA (Kd.kCD (by (with_reducible repeat (first | apply Kd.kAT | apply Kd.kAS | apply Kd.kAZ)); exact HO324.out) hb)
            have n10_ := kzA (Kd.kBR (by (with_reducible repeat (first | apply Kd.kAW | apply Kd.kAV | apply Kd.kBC)); exact HO332.out) hb)
            have n11_ := kzA (Kd.kBJ (by (with_reducible repeat (first | apply Kd.kAP | apply Kd.kAO | apply Kd.kAR)); exact HO335.out) hb)
            have n12_ := kzA (kAL (g := gb275) (o := .cells #[.int .i64 1, .int .i64 1, .int .i64 5, .int .i64 13] 23 (0, 0)) (by (with_reducible repeat (first | refine kAH ?_ _ | refine kAI ?_ | refine kAG ?_ _)); exact BK275.out) hb)
            have n13_ := kzA (kAL (g := gb285) (o := .cells #[.int .i64 1, .int .i64 1, .int .i64 5, .int .i64 13, .int .i64 0, .slice Ao37 t282.length co37] 26 (0, 0)) (by (with_reducible repeat (first | refine kAH ?_ _ | refine kAI ?_ | refine kAG ?_ _)); exact BK285.out) hb)
            have n14_ := kzA (kAL (g := gb302) (o := .cells #[.int .i64 t290, .int .i64 t291, .int .i64 t292, .int .i64 t293, .int .i64 t294, .slice Ao54 t295.length co54] 26 (0, 0)) (by (with_reducible repeat (first | refine kAH ?_ _ | refine kAI ?_ | refine kAG ?_ _)); exact BK302.out) hb)
            have n15_ := kzA (kAL (g := gb319) (o := .cells #[.int .i64 t307, .int .i64 t308, .int .i64 t309, .int .i64 t310, .int .i64 t311, .slice Ao64 t312.length co64] 26 (0, 0)) (by (with_reducible repeat (first | refine kAH ?_ _ | refine kAI ?_ | refine kAG ?_ _)); exact BK319.out) hb)
            have n16_ := kzA (kAL (g := gb337) (o := .cells #[.int .i64 t325, .int .i64 t326, .int .i64 t327, .int .i64 t328, .int .i64 t329, .slice Ao74 t330.length co74] 26 (0, 0)) (by (with_reducible repeat (first | refine kAH ?_ _ | refine kAI ?_ | refine kAG ?_ _)); exact BK337.out) hb)
            have n17_ := kzA (kAK (by repeat (first | (with_reducible first | exact HB.out | apply kAB | apply kAA | apply kAC | refine kAF ?_ GE275.out | refine kAF ?_ GE285.out | refine kAF ?_ GE302.out | refine kAF ?_ GE319.out | refine kAF ?_ GE337.out) | exact HB.out)) hb)
            clear HO278
            clear HO281
            clear HO284
            clear HO288
            clear HO297
            clear HO300
            clear HO305
            clear HO314
            clear HO317
            clear HO324
            clear HO332
            clear HO335
            clear BK275
            clear BK285
            clear BK302
            clear BK319
            clear BK337
            clear HB
            have HO278 := n0_
            have HO281 := n1_
            have HO284 := n2_
            have HO288 := n3_
            have HO297 := n4_
            have HO300 := n5_
            have HO305 := n6_
            have HO314 := n7_
            have HO317 := n8_
            have HO324 := n9_
            have HO332 := n10_
            have HO335 := n11_
            have BK275 := n12_
            have BK285 := n13_
            have BK302 := n14_
            have BK319 := n15_
            have BK337 := n16_
            have HB := n17_
            clear n0_ n1_ n2_ n3_ n4_ n5_ n6_ n7_ n8_ n9_ n10_ n11_ n12_ n13_ n14_ n15_ n16_ n17_
            (try clear hb)
            (try clear hb2)
            (try clear hk)
            (try clear hi)
            refine hK.out _ _ ⟨(kAD BK275.out 0).trans rfl, (kAD BK275.out 1).trans rfl, (kAD BK275.out 2).trans rfl, (kAD BK275.out 3).trans rfl, (kAD BK302.out 0).trans rfl, (kAD BK302.out 1).trans rfl, (kAD BK302.out 2).trans rfl, (kAD BK302.out 3).trans rfl, (kAD BK302.out 4).trans rfl, (kAD BK302.out 5).trans rfl, (kAD BK285.out 0).trans rfl, (kAD BK285.out 1).trans rfl, (kAD BK285.out 2).trans rfl, (kAD BK285.out 3).trans rfl, (kAD BK285.out 4).trans rfl, (kAD BK285.out 5).trans rfl⟩ (fun hHeld => ?_)
            clear hK K
            refine norm_ (a' := ?_) ?_ ?_
            rotate_left
            ·show Act.put _ (some 59) _ = _
             simp only [Act.put, kzB, kzC, kzD, kAX, kAY]
             rfl
            refine kBN (i := 2) (N := some 60) (v := ?_) (a' := ?_) #[true, true, true, false, false, false, false, false, false, false, false, false, false, false, false, false, false, false, false, false, false, false, false, false, false, false, false, false, false, false, false, false, false, false, false, false, false, false, false, false, false] rfl rfl (kBG HT_.out (by kernel_rfl)) (fun _ _ _ h => h) (Or.inl ⟨by rfl, ?_⟩) ?_ ?_
            rotate_left
            ·intro w'
             go_simp
             with_reducible rfl
            rotate_left
            ·simp only [Act.put, kzB, kzC, kzD, kAX, kAY]
             rfl
            refine kBN (i := 3) (N := some 61) (v := ?_) (a' := ?_) #[true, true, true, true, false, false, false, false, false, false, false, false, false, false, false, false, false, false, false, false, false, false, false, false, false, false, false, false, false, false, false, false, false, false, false, false, false, false, false, false, false] rfl rfl (kBG HT_.out (by kernel_rfl)) (fun _ _ _ h => h) (Or.inl ⟨by rfl, ?_⟩) ?_ ?_
            rotate_left
            ·intro w'
             go_simp
             with_reducible rfl
            rotate_left
            ·simp only [Act.put, kzB, kzC, kzD, kAX, kAY]
             rfl
            refine kBN (i := 4) (N := some 62) (v := ?_) (a' := ?_) #[true, true, true, true, true, false, false, false, false, false, false, false, false, false, false, false, false, false, false, false, false, false, false, false, false, false, false, false, false, false, false, false, false, false, false, false, false, false, false, false, false] rfl rfl (kBG HT_.out (by kernel_rfl)) (fun _ _ _ h => h) (Or.inl ⟨by rfl, ?_⟩) ?_ ?_
            rotate_left
            ·intro w'
             go_simp
             with_reducible rfl
            rotate_left
            ·simp only [Act.put, kzB, kzC, kzD, kAX, kAY]
             rfl
            refine kBN (i := 5) (N := some 63) (v := ?_) (a' := ?_) #[true, true, true, true, true, true, false, false, false, false, false, false, false, false, false, false, false, false, false, false, false, false, false, false, false, false, false, false, false, false, false, false, false, false, false, false, false, false, false, false, false] rfl rfl (kBG HT_.out (by kernel_rfl)) (fun _ _ _ h => h) (Or.inl ⟨by rfl, ?_⟩) ?_ ?_
            rotate_left
            ·intro w'
             go_simp
             with_reducible rfl
            rotate_left
            ·simp only [Act.put, kzB, kzC, kzD, kAX, kAY]
             rfl
            refine kBN (i := 6) (N := some 64) (v := ?_) (a' := ?_) #[true, true, true, true, true, true, true, false, false, false, false, false, false, false, false, false, false, false, false, false, false, false, false, false, false, false, false, false, false, false, false, false, false, false, false, false, false, false, false, false, false] rfl rfl (kBG HT_.out (by kernel_rfl)) (fun _ _ _ h => h) (Or.inl ⟨by rfl, ?_⟩) ?_ ?_
            rotate_left
            ·intro w'
             go_simp
             with_reducible rfl
            rotate_left
            ·simp only [Act.put, kzB, kzC, kzD, kAX, kAY]
             rfl
            refine kBN (i := 7) (N := some 65) (v := ?_) (a' := ?_) #[true, true, true, true, true, true, true, true, false, false, false, false, false, false, false, false, false, false, false, false, false, false, false, false, false, false, false, false, false, false, false, false, false, false, false, false, false, false, false, false, false] rfl rfl (kBG HT_.out (by kernel_rfl)) (fun _ _ _ h => h) (Or.inl ⟨by rfl, ?_⟩) ?_ ?_
            rotate_left
            ·intro w'
             go_simp
             with_reducible rfl
            rotate_left
            ·simp only [Act.put, kzB, kzC, kzD, kAX, kAY]
             rfl
            refine take_ (i := 8) (N := some 66) (v := ?_) (a' := ?_) #[true, true, true, true, true, true, true, true, true, false, false, false, false, false, false, false, false, false, false, false, false, false, false, false, false, false, false, false, false, false, false, false, false, false, false, false, false, false, false, false, false] rfl rfl (kBX HT_.out HW_.out (by kernel_rfl)) (fun _ _ _ h => h) (Or.inl ⟨by rfl, ?_⟩) hHeld ?_ ?_
            rotate_left
            ·rintro w' ⟨s0, s1, s2, s3, s4, s5, s6, s7, s8, s9, s10, s11, s12, s13, s14, s15⟩
             go_simp
             with_reducible rfl
            rotate_left
            ·simp only [Act.put, kzB, kzC, kzD, kAX, kAY]
             rfl
            refine take_ (i := 10) (N := some 68) (v := ?_) (a' := ?_) #[true, true, true, true, true, true, true, true, true, false, true, false, false, false, false, false, false, false, false, false, false, false, false, false, false, false, false, false, false, false, false, false, false, false, false, false, false, false, false, false, false] rfl rfl (kBX HT_.out HW_.out (by kernel_rfl)) (fun _ _ _ h => h) (Or.inl ⟨by rfl, ?_⟩) hHeld ?_ ?_
            rotate_left
            ·rintro w' ⟨s0, s1, s2, s3, s4, s5, s6, s7, s8, s9, s10, s11, s12, s13, s14, s15⟩
             go_simp
             with_reducible rfl
            rotate_left
            ·simp only [Act.put, kzB, kzC, kzD, kAX, kAY]
             rfl
            refine one_ (i := 9) (N := some 67) #[true, true, true, true, true, true, true, true, true, true, true, false, false, false, false, false, false, false, false, false, false, false, false, false, false, false, false, false, false, false, false, false, false, false, false, false, false, false, false, false, false] rfl rfl (one_of HT_.out (by kernel_rfl)) (by decide) (fun K hK => ?_)
            refine goes_ Tryd.func11 (by kernel_rfl) rfl #[.agg #[.int .i64 t290, .int .i64 t291, .int .i64 t292, .int .i64 t293, .int .i64 t294, .slice Ao54 t295.length co54]] (by rfl) rfl rfl (by (try simp only [List.map_toArray, List.map_cons, List.map_nil]); first | done | rfl | (simp only [List.length_drop, List.length_take]; rfl)) ?_
            with_reducible refine (footlockerlaw24_as.calls t290 t291 t292 t293 t294 (fun k_ => (some k_ ≠ (v280 : Value).ownBlock ∧ (some k_ ≠ (.slice Ao37 t282.length co37 : Value).ownBlock ∧ (some k_ ≠ (.slice Ao48 t286.length co48 : Value).ownBlock ∧ (some k_ ≠ (v299 : Value).ownBlock ∧ (some k_ ≠ (v304 : Value).ownBlock ∧ (some k_ ≠ (.slice Ao64 t312.length co64 : Value).ownBlock ∧ (some k_ ≠ (v316 : Value).ownBlock ∧ (some k_ ≠ (.slice Ao74 t330.length co74 : Value).ownBlock ∧ (some k_ ≠ (v334 : Value).ownBlock ∧ (k_ ≠ gb275 ∧ (k_ ≠ gb285 ∧ (k_ ≠ gb302 ∧ (k_ ≠ gb319 ∧ k_ ≠ gb337)))))))))))))) _ _ t295 t339 t340 t341 t342 t343 t344 _ ?side1 A13.out).mono ?_
            (case side1 => exact Kd.N_V (HO297.out))
            rintro e w78 ⟨v345, rfl, ho0, hb⟩
            refine ⟨_, rfl, ?_⟩
            have n0_ := kzA (Kd.kCD (by (with_reducible repeat (first | apply Kd.kAT | apply Kd.kAS | apply Kd.kAZ)); exact HO278.out) hb)
            have n1_ := kzA (Kd.kBR (by (with_reducible repeat (first | apply Kd.kAW | apply Kd.kAV | apply Kd.kBC)); exact HO281.out) hb)
            have n2_ := kzA (Kd.kBR (by (with_reducible repeat (first | apply Kd.kAW | apply Kd.kAV | apply Kd.kBC)); exact HO284.out) hb)
            have n3_ := kzA (Kd.kBJ (by (with_reducible repeat (first | apply Kd.kAP | apply Kd.kAO | apply Kd.kAR)); exact HO288.out) hb)
            have n4_ := kzA (Kd.kBR (by (with_reducible repeat (first | apply Kd.kAW | apply Kd.kAV | apply Kd.kBC)); exact HO297.out) hb)
            have n5_ := kzA (Kd.kBJ (by (with_reducible repeat (first | apply Kd.kAP | apply Kd.kAO | apply Kd.kAR)); exact HO300.out) hb)
            have n6_ := kzA (Kd.kBJ (by (with_reducible repeat (first | apply Kd.kAP | apply Kd.kAO | apply Kd.kAR)); exact HO305.out) hb)
            have n7_ := kzA (Kd.kBR (by (with_reducible repeat (first | apply Kd.kAW | apply Kd.kAV | apply Kd.kBC)); exact HO314.out) hb)
            have n8_ := kzA (Kd.kBJ (by (with_reducible repeat (first | apply Kd.kAP | apply Kd.kAO | apply Kd.kAR)); exact HO317.out) hb)
            have n9_ := kzA (Kd.kCD (by (with_reducible repeat (first | apply Kd.kAT | apply Kd.kAS | apply Kd.kAZ)); exact HO324.out) hb)
            have n10_ := kzA (Kd.kBR (by (with_reducible repeat (first | apply Kd.kAW | apply Kd.kAV | apply Kd.kBC)); exact HO332.out) hb)
            have n11_ := kzA (Kd.kBJ (by (with_reducible repeat (first | apply Kd.kAP | apply Kd.kAO | apply Kd.kAR)); exact HO335.out) hb)
            have n12_ := kzA (Kd.V_lower (Kd.kBV (ok' := fun k_ => some k_ ≠ (v280 : Value).ownBlock ∧ some k_ ≠ (.slice Ao37 t282.length co37 : Value).ownBlock ∧ some k_ ≠ (.slice Ao48 t286.length co48 : Value).ownBlock ∧ some k_ ≠ (v299 : Value).ownBlock ∧ some k_ ≠ (v304 : Value).ownBlock ∧ some k_ ≠ (.slice Ao64 t312.length co64 : Value).ownBlock ∧ some k_ ≠ (v316 : Value).ownBlock ∧ some k_ ≠ (.slice Ao74 t330.length co74 : Value).ownBlock ∧ some k_ ≠ (v334 : Value).ownBlock ∧ k_ ≠ gb275 ∧ k_ ≠ gb285 ∧ k_ ≠ gb302 ∧ k_ ≠ gb319 ∧ k_ ≠ gb337) ho0 (fun k_ hk_ => ⟨Or.elim hk_ (fun hs_ => hs_.1) (fun hn_ => (Kd.fresh' (Kd.N_lt (by (with_reducible repeat (first | apply Kd.kAW | apply Kd.kAV | apply Kd.kBC)); exact HO281.out)) k_ hn_)), Or.elim hk_ (fun hs_ => hs_.2.1) (fun hn_ => (Kd.fresh' (Kd.N_lt (by (with_reducible repeat (first | apply Kd.kAW | apply Kd.kAV | apply Kd.kBC)); exact HO284.out)) k_ hn_)), Or.elim hk_ (fun hs_ => hs_.2.2.1) (fun hn_ => (Kd.fresh' (Kd.R_lt (by (with_reducible repeat (first | apply Kd.kAP | apply Kd.kAO | apply Kd.kAR)); exact HO288.out)) k_ hn_)), Or.elim hk_ (fun hs_ => hs_.2.2.2.1) (fun hn_ => (Kd.fresh' (Kd.R_lt (by (with_reducible repeat (first | apply Kd.kAP | apply Kd.kAO | apply Kd.kAR)); exact HO300.out)) k_ hn_)), Or.elim hk_ (fun hs_ => hs_.2.2.2.2.1) (fun hn_ => (Kd.fresh' (Kd.R_lt (by (with_reducible repeat (first | apply Kd.kAP | apply Kd.kAO | apply Kd.kAR)); exact HO305.out)) k_ hn_)), Or.elim hk_ (fun hs_ => hs_.2.2.2.2.2.1) (fun hn_ => (Kd.fresh' (Kd.N_lt (by (with_reducible repeat (first | apply Kd.kAW | apply Kd.kAV | apply Kd.kBC)); exact HO314.out)) k_ hn_)), Or.elim hk_ (fun hs_ => hs_.2.2.2.2.2.2.1) (fun hn_ => (Kd.fresh' (Kd.R_lt (by (with_reducible repeat (first | apply Kd.kAP | apply Kd.kAO | apply Kd.kAR)); exact HO317.out)) k_ hn_)), Or.elim hk_ (fun hs_ => hs_.2.2.2.2.2.2.2.1) (fun hn_ => (Kd.fresh' (Kd.N_lt (by (with_reducible repeat (first | apply Kd.kAW | apply Kd.kAV | apply Kd.kBC)); exact HO332.out)) k_ hn_)), Or.elim hk_ (fun hs_ => hs_.2.2.2.2.2.2.2.2.1) (fun hn_ => (Kd.fresh' (Kd.R_lt (by (with_reducible repeat (first | apply Kd.kAP | apply Kd.kAO | apply Kd.kAR)); exact HO335.out)) k_ hn_)), Or.elim hk_ (fun hs_ => hs_.2.2.2.2.2.2.2.2.2.1) (fun hn_ => (Kd.freshB (g := gb275) (o := .cells #[.int .i64 1, .int .i64 1, .int .i64 5, .int .i64 13] 23 (0, 0)) (by (with_reducible repeat (first | refine kAH ?_ _ | refine kAI ?_ | refine kAG ?_ _)); exact BK275.out) k_ hn_)), Or.elim hk_ (fun hs_ => hs_.2.2.2.2.2.2.2.2.2.2.1) (fun hn_ => (Kd.freshB (g := gb285) (o := .cells #[.int .i64 1, .int .i64 1, .int .i64 5, .int .i64 13, .int .i64 0, .slice Ao37 t282.length co37] 26 (0, 0)) (by (with_reducible repeat (first | refine kAH ?_ _ | refine kAI ?_ | refine kAG ?_ _)); exact BK285.out) k_ hn_)), Or.elim hk_ (fun hs_ => hs_.2.2.2.2.2.2.2.2.2.2.2.1) (fun hn_ => (Kd.freshB (g := gb302) (o := .cells #[.int .i64 t290, .int .i64 t291, .int .i64 t292, .int .i64 t293, .int .i64 t294, .slice Ao54 t295.length co54] 26 (0, 0)) (by (with_reducible repeat (first | refine kAH ?_ _ | refine kAI ?_ | refine kAG ?_ _)); exact BK302.out) k_ hn_)), Or.elim hk_ (fun hs_ => hs_.2.2.2.2.2.2.2.2.2.2.2.2.1) (fun hn_ => (Kd.freshB (g := gb319) (o := .cells #[.int .i64 t307, .int .i64 t308, .int .i64 t309, .int .i64 t310, .int .i64 t311, .slice Ao64 t312.length co64] 26 (0, 0)) (by (with_reducible repeat (first | refine kAH ?_ _ | refine kAI ?_ | refine kAG ?_ _)); exact BK319.out) k_ hn_)), Or.elim hk_ (fun hs_ => hs_.2.2.2.2.2.2.2.2.2.2.2.2.2) (fun hn_ => (Kd.freshB (g := gb337) (o := .cells #[.int .i64 t325, .int .i64 t326, .int .i64 t327, .int .i64 t328, .int .i64 t329, .slice Ao74 t330.length co74] 26 (0, 0)) (by (with_reducible repeat (first | refine kAH ?_ _ | refine kAI ?_ | refine kAG ?_ _)); exact BK337.out) k_ hn_))⟩)) (kAJ (by repeat (first | (with_reducible first | exact HB.out | apply kAB | apply kAA | apply kAC | refine kAF ?_ GE275.out | refine kAF ?_ GE285.out | refine kAF ?_ GE302.out | refine kAF ?_ GE319.out | refine kAF ?_ GE337.out) | exact HB.out))))
            have n13_ := kzA (kAL (g := gb275) (o := .cells #[.int .i64 1, .int .i64 1, .int .i64 5, .int .i64 13] 23 (0, 0)) (by (with_reducible repeat (first | refine kAH ?_ _ | refine kAI ?_ | refine kAG ?_ _)); exact BK275.out) hb)
            have n14_ := kzA (kAL (g := gb285) (o := .cells #[.int .i64 1, .int .i64 1, .int .i64 5, .int .i64 13, .int .i64 0, .slice Ao37 t282.length co37] 26 (0, 0)) (by (with_reducible repeat (first | refine kAH ?_ _ | refine kAI ?_ | refine kAG ?_ _)); exact BK285.out) hb)
            have n15_ := kzA (kAL (g := gb302) (o := .cells #[.int .i64 t290, .int .i64 t291, .int .i64 t292, .int .i64 t293, .int .i64 t294, .slice Ao54 t295.length co54] 26 (0, 0)) (by (with_reducible repeat (first | refine kAH ?_ _ | refine kAI ?_ | refine kAG ?_ _)); exact BK302.out) hb)
            have n16_ := kzA (kAL (g := gb319) (o := .cells #[.int .i64 t307, .int .i64 t308, .int .i64 t309, .int .i64 t310, .int .i64 t311, .slice Ao64 t312.length co64] 26 (0, 0)) (by (with_reducible repeat (first | refine kAH ?_ _ | refine kAI ?_ | refine kAG ?_ _)); exact BK319.out) hb)
            have n17_ := kzA (kAL (g := gb337) (o := .cells #[.int .i64 t325, .int .i64 t326, .int .i64 t327, .int .i64 t328, .int .i64 t329, .slice Ao74 t330.length co74] 26 (0, 0)) (by (with_reducible repeat (first | refine kAH ?_ _ | refine kAI ?_ | refine kAG ?_ _)); exact BK337.out) hb)
            have n18_ := kzA (kAK (by repeat (first | (with_reducible first | exact HB.out | apply kAB | apply kAA | apply kAC | refine kAF ?_ GE275.out | refine kAF ?_ GE285.out | refine kAF ?_ GE302.out | refine kAF ?_ GE319.out | refine kAF ?_ GE337.out) | exact HB.out)) hb)
            clear HO278
            clear HO281
            clear HO284
            clear HO288
            clear HO297
            clear HO300
            clear HO305
            clear HO314
            clear HO317
            clear HO324
            clear HO332
            clear HO335
            clear BK275
            clear BK285
            clear BK302
            clear BK319
            clear BK337
            clear HB
            have HO278 := n0_
            have HO281 := n1_
            have HO284 := n2_
            have HO288 := n3_
            have HO297 := n4_
            have HO300 := n5_
            have HO305 := n6_
            have HO314 := n7_
            have HO317 := n8_
            have HO324 := n9_
            have HO332 := n10_
            have HO335 := n11_
            have HO346 := n12_
            have BK275 := n13_
            have BK285 := n14_
            have BK302 := n15_
            have BK319 := n16_
            have BK337 := n17_
            have HB := n18_
            clear n0_ n1_ n2_ n3_ n4_ n5_ n6_ n7_ n8_ n9_ n10_ n11_ n12_ n13_ n14_ n15_ n16_ n17_ n18_
            (try clear hb)
            (try clear hb2)
            (try clear hk)
            (try clear hi)
            (try clear ho0)
            refine hK.out _ _ ⟨(kAD BK275.out 0).trans rfl, (kAD BK275.out 1).trans rfl, (kAD BK275.out 2).trans rfl, (kAD BK275.out 3).trans rfl, (kAD BK302.out 0).trans rfl, (kAD BK302.out 1).trans rfl, (kAD BK302.out 2).trans rfl, (kAD BK302.out 3).trans rfl, (kAD BK302.out 4).trans rfl, (kAD BK302.out 5).trans rfl, (kAD BK285.out 0).trans rfl, (kAD BK285.out 1).trans rfl, (kAD BK285.out 2).trans rfl, (kAD BK285.out 3).trans rfl, (kAD BK285.out 4).trans rfl, (kAD BK285.out 5).trans rfl⟩ (fun hHeld => ?_)
            clear hK K
            refine norm_ (a' := ?_) ?_ ?_
            rotate_left
            ·show Act.put _ (some 67) _ = _
             simp only [Act.put, kzB, kzC, kzD, kAX, kAY]
             rfl
            refine one_ (i := 11) (N := some 69) #[true, true, true, true, true, true, true, true, true, true, true, true, false, false, false, false, false, false, false, false, false, false, false, false, false, false, false, false, false, false, false, false, false, false, false, false, false, false, false, false, false] rfl rfl (one_of HT_.out (by kernel_rfl)) (by decide) (fun K hK => ?_)
            refine goes_ Tryd.func11 (by kernel_rfl) rfl #[.agg #[.int .i64 1, .int .i64 1, .int .i64 5, .int .i64 13, .int .i64 0, .slice Ao37 t282.length co37]] (by rfl) rfl rfl (by (try simp only [List.map_toArray, List.map_cons, List.map_nil]); first | done | rfl | (simp only [List.length_drop, List.length_take]; rfl)) ?_
            with_reducible refine (footlockerlaw24_as.calls 1 1 5 13 0 (fun k_ => (some k_ ≠ (v280 : Value).ownBlock ∧ (some k_ ≠ (.slice Ao48 t286.length co48 : Value).ownBlock ∧ (some k_ ≠ (.slice Ao54 t295.length co54 : Value).ownBlock ∧ (some k_ ≠ (v299 : Value).ownBlock ∧ (some k_ ≠ (v304 : Value).ownBlock ∧ (some k_ ≠ (.slice Ao64 t312.length co64 : Value).ownBlock ∧ (some k_ ≠ (v316 : Value).ownBlock ∧ (some k_ ≠ (.slice Ao74 t330.length co74 : Value).ownBlock ∧ (some k_ ≠ (v334 : Value).ownBlock ∧ (k_ ≠ gb275 ∧ (k_ ≠ gb285 ∧ (k_ ≠ gb302 ∧ (k_ ≠ gb319 ∧ k_ ≠ gb337)))))))))))))) _ _ t282 t347 t348 t349 t350 t351 t352 _ ?side1 A14.out).mono ?_
            (case side1 => exact Kd.N_V (HO284.out))
            rintro e w79 ⟨v353, rfl, ho0, hb⟩
            refine ⟨_, rfl, ?_⟩
            have n0_ := kzA (Kd.kCD (by (with_reducible repeat (first | apply Kd.kAT | apply Kd.kAS | apply Kd.kAZ)); exact HO278.out) hb)
            have n1_ := kzA (Kd.kBR (by (with_reducible repeat (first | apply Kd.kAW | apply Kd.kAV | apply Kd.kBC)); exact HO281.out) hb)
            have n2_ := kzA (Kd.kBR (by (with_reducible repeat (first | apply Kd.kAW | apply Kd.kAV | apply Kd.kBC)); exact HO284.out) hb)
            have n3_ := kzA (Kd.kBJ (by (with_reducible repeat (first | apply Kd.kAP | apply Kd.kAO | apply Kd.kAR)); exact HO288.out) hb)
            have n4_ := kzA (Kd.kBR (by (with_reducible repeat (first | apply Kd.kAW | apply Kd.kAV | apply Kd.kBC)); exact HO297.out) hb)
            have n5_ := kzA (Kd.kBJ (by (with_reducible repeat (first | apply Kd.kAP | apply Kd.kAO | apply Kd.kAR)); exact HO300.out) hb)
            have n6_ := kzA (Kd.kBJ (by (with_reducible repeat (first | apply Kd.kAP | apply Kd.kAO | apply Kd.kAR)); exact HO305.out) hb)
            have n7_ := kzA (Kd.kBR (by (with_reducible repeat (first | apply Kd.kAW | apply Kd.kAV | apply Kd.kBC)); exact HO314.out) hb)
            have n8_ := kzA (Kd.kBJ (by (with_reducible repeat (first | apply Kd.kAP | apply Kd.kAO | apply Kd.kAR)); exact HO317.out) hb)
            have n9_ := kzA (Kd.kCD (by (with_reducible repeat (first | apply Kd.kAT | apply Kd.kAS | apply Kd.kAZ)); exact HO324.out) hb)
            have n10_ := kzA (Kd.kBR (by (with_reducible repeat (first | apply Kd.kAW | apply Kd.kAV | apply Kd.kBC)); exact HO332.out) hb)
            have n11_ := kzA (Kd.kBJ (by (with_reducible repeat (first | apply Kd.kAP | apply Kd.kAO | apply Kd.kAR)); exact HO335.out) hb)
            have n12_ := kzA (Kd.kCD (by (with_reducible repeat (first | apply Kd.kAT | apply Kd.kAS | apply Kd.kAZ)); exact HO346.out) hb)
            have n13_ := kzA (Kd.V_lower (Kd.kBV (ok' := fun k_ => some k_ ≠ (v280 : Value).ownBlock ∧ some k_ ≠ (.slice Ao48 t286.length co48 : Value).ownBlock ∧ some k_ ≠ (.slice Ao54 t295.length co54 : Value).ownBlock ∧ some k_ ≠ (v299 : Value).ownBlock ∧ some k_ ≠ (v304 : Value).ownBlock ∧ some k_ ≠ (.slice Ao64 t312.length co64 : Value).ownBlock ∧ some k_ ≠ (v316 : Value).ownBlock ∧ some k_ ≠ (.slice Ao74 t330.length co74 : Value).ownBlock ∧ some k_ ≠ (v334 : Value).ownBlock ∧ k_ ≠ gb275 ∧ k_ ≠ gb285 ∧ k_ ≠ gb302 ∧ k_ ≠ gb319 ∧ k_ ≠ gb337) ho0 (fun k_ hk_ => ⟨Or.elim hk_ (fun hs_ => hs_.1) (fun hn_ => (Kd.fresh' (Kd.N_lt (by (with_reducible repeat (first | apply Kd.kAW | apply Kd.kAV | apply Kd.kBC)); exact HO281.out)) k_ hn_)), Or.elim hk_ (fun hs_ => hs_.2.1) (fun hn_ => (Kd.fresh' (Kd.R_lt (by (with_reducible repeat (first | apply Kd.kAP | apply Kd.kAO | apply Kd.kAR)); exact HO288.out)) k_ hn_)), Or.elim hk_ (fun hs_ => hs_.2.2.1) (fun hn_ => (Kd.fresh' (Kd.N_lt (by (with_reducible repeat (first | apply Kd.kAW | apply Kd.kAV | apply Kd.kBC)); exact HO297.out)) k_ hn_)), Or.elim hk_ (fun hs_ => hs_.2.2.2.1) (fun hn_ => (Kd.fresh' (Kd.R_lt (by (with_reducible repeat (first | apply Kd.kAP | apply Kd.kAO | apply Kd.kAR)); exact HO300.out)) k_ hn_)), Or.elim hk_ (fun hs_ => hs_.2.2.2.2.1) (fun hn_ => (Kd.fresh' (Kd.R_lt (by (with_reducible repeat (first | apply Kd.kAP | apply Kd.kAO | apply Kd.kAR)); exact HO305.out)) k_ hn_)), Or.elim hk_ (fun hs_ => hs_.2.2.2.2.2.1) (fun hn_ => (Kd.fresh' (Kd.N_lt (by (with_reducible repeat (first | apply Kd.kAW | apply Kd.kAV | apply Kd.kBC)); exact HO314.out)) k_ hn_)), Or.elim hk_ (fun hs_ => hs_.2.2.2.2.2.2.1) (fun hn_ => (Kd.fresh' (Kd.R_lt (by (with_reducible repeat (first | apply Kd.kAP | apply Kd.kAO | apply Kd.kAR)); exact HO317.out)) k_ hn_)), Or.elim hk_ (fun hs_ => hs_.2.2.2.2.2.2.2.1) (fun hn_ => (Kd.fresh' (Kd.N_lt (by (with_reducible repeat (first | apply Kd.kAW | apply Kd.kAV | apply Kd.kBC)); exact HO332.out)) k_ hn_)), Or.elim hk_ (fun hs_ => hs_.2.2.2.2.2.2.2.2.1) (fun hn_ => (Kd.fresh' (Kd.R_lt (by (with_reducible repeat (first | apply Kd.kAP | apply Kd.kAO | apply Kd.kAR)); exact HO335.out)) k_ hn_)), Or.elim hk_ (fun hs_ => hs_.2.2.2.2.2.2.2.2.2.1) (fun hn_ => (Kd.freshB (g := gb275) (o := .cells #[.int .i64 1, .int .i64 1, .int .i64 5, .int .i64 13] 23 (0, 0)) (by (with_reducible repeat (first | refine kAH ?_ _ | refine kAI ?_ | refine kAG ?_ _)); exact BK275.out) k_ hn_)), Or.elim hk_ (fun hs_ => hs_.2.2.2.2.2.2.2.2.2.2.1) (fun hn_ => (Kd.freshB (g := gb285) (o := .cells #[.int .i64 1, .int .i64 1, .int .i64 5, .int .i64 13, .int .i64 0, .slice Ao37 t282.length co37] 26 (0, 0)) (by (with_reducible repeat (first | refine kAH ?_ _ | refine kAI ?_ | refine kAG ?_ _)); exact BK285.out) k_ hn_)), Or.elim hk_ (fun hs_ => hs_.2.2.2.2.2.2.2.2.2.2.2.1) (fun hn_ => (Kd.freshB (g := gb302) (o := .cells #[.int .i64 t290, .int .i64 t291, .int .i64 t292, .int .i64 t293, .int .i64 t294, .slice Ao54 t295.length co54] 26 (0, 0)) (by (with_reducible repeat (first | refine kAH ?_ _ | refine kAI ?_ | refine kAG ?_ _)); exact BK302.out) k_ hn_)), Or.elim hk_ (fun hs_ => hs_.2.2.2.2.2.2.2.2.2.2.2.2.1) (fun hn_ => (Kd.freshB (g := gb319) (o := .cells #[.int .i64 t307, .int .i64 t308, .int .i64 t309, .int .i64 t310, .int .i64 t311, .slice Ao64 t312.length co64] 26 (0, 0)) (by (with_reducible repeat (first | refine kAH ?_ _ | refine kAI ?_ | refine kAG ?_ _)); exact BK319.out) k_ hn_)), Or.elim hk_ (fun hs_ => hs_.2.2.2.2.2.2.2.2.2.2.2.2.2) (fun hn_ => (Kd.freshB (g := gb337) (o := .cells #[.int .i64 t325, .int .i64 t326, .int .i64 t327, .int .i64 t328, .int .i64 t329, .slice Ao74 t330.length co74] 26 (0, 0)) (by (with_reducible repeat (first | refine kAH ?_ _ | refine kAI ?_ | refine kAG ?_ _)); exact BK337.out) k_ hn_))⟩)) (kAJ (by repeat (first | (with_reducible first | exact HB.out | apply kAB | apply kAA | apply kAC | refine kAF ?_ GE275.out | refine kAF ?_ GE285.out | refine kAF ?_ GE302.out | refine kAF ?_ GE319.out | refine kAF ?_ GE337.out) | exact HB.out))))
            have n14_ := kzA (kAL (g := gb275) (o := .cells #[.int .i64 1, .int .i64 1, .int .i64 5, .int .i64 13] 23 (0, 0)) (by (with_reducible repeat (first | refine kAH ?_ _ | refine kAI ?_ | refine kAG ?_ _)); exact BK275.out) hb)
            have n15_ := kzA (kAL (g := gb285) (o := .cells #[.int .i64 1, .int .i64 1, .int .i64 5, .int .i64 13, .int .i64 0, .slice Ao37 t282.length co37] 26 (0, 0)) (by (with_reducible repeat (first | refine kAH ?_ _ | refine kAI ?_ | refine kAG ?_ _)); exact BK285.out) hb)
            have n16_ := kzA (kAL (g := gb302) (o := .cells #[.int .i64 t290, .int .i64 t291, .int .i64 t292, .int .i64 t293, .int .i64 t294, .slice Ao54 t295.length co54] 26 (0, 0)) (by (with_reducible repeat (first | refine kAH ?_ _ | refine kAI ?_ | refine kAG ?_ _)); exact BK302.out) hb)
            have n17_ := kzA (kAL (g := gb319) (o := .cells #[.int .i64 t307, .int .i64 t308, .int .i64 t309, .int .i64 t310, .int .i64 t311, .slice Ao64 t312.length co64] 26 (0, 0)) (by (with_reducible repeat (first | refine kAH ?_ _ | refine kAI ?_ | refine kAG ?_ _)); exact BK319.out) hb)
            have n18_ := kzA (kAL (g := gb337) (o := .cells #[.int .i64 t325, .int .i64 t326, .int .i64 t327, .int .i64 t328, .int .i64 t329, .slice Ao74 t330.length co74] 26 (0, 0)) (by (with_reducible repeat (first | refine kAH ?_ _ | refine kAI ?_ | refine kAG ?_ _)); exact BK337.out) hb)
            have n19_ := kzA (kAK (by repeat (first | (with_reducible first | exact HB.out | apply kAB | apply kAA | apply kAC | refine kAF ?_ GE275.out | refine kAF ?_ GE285.out | refine kAF ?_ GE302.out | refine kAF ?_ GE319.out | refine kAF ?_ GE337.out) | exact HB.out)) hb)
            clear HO278
            clear HO281
            clear HO284
            clear HO288
            clear HO297
            clear HO300
            clear HO305
            clear HO314
            clear HO317
            clear HO324
            clear HO332
            clear HO335
            clear HO346
            clear BK275
            clear BK285
            clear BK302
            clear BK319
            clear BK337
            clear HB
            have HO278 := n0_
            have HO281 := n1_
            have HO284 := n2_
            have HO288 := n3_
            have HO297 := n4_
            have HO300 := n5_
            have HO305 := n6_
            have HO314 := n7_
            have HO317 := n8_
            have HO324 := n9_
            have HO332 := n10_
            have HO335 := n11_
            have HO346 := n12_
            have HO354 := n13_
            have BK275 := n14_
            have BK285 := n15_
            have BK302 := n16_
            have BK319 := n17_
            have BK337 := n18_
            have HB := n19_
            clear n0_ n1_ n2_ n3_ n4_ n5_ n6_ n7_ n8_ n9_ n10_ n11_ n12_ n13_ n14_ n15_ n16_ n17_ n18_ n19_
            (try clear hb)
            (try clear hb2)
            (try clear hk)
            (try clear hi)
            (try clear ho0)
            obtain ⟨Ao80, co80, eo80⟩ := Kd.V_slice HO346.out
            (first | subst eo80 | (injection eo80 with f1_ f2_ f3_; have f4_ := f1_.symm; have f5_ := f3_.symm; clear f1_ f2_ f3_; subst f4_; subst f5_))
            obtain ⟨Ao81, co81, eo81⟩ := Kd.V_slice HO354.out
            (first | subst eo81 | (injection eo81 with f1_ f2_ f3_; have f4_ := f1_.symm; have f5_ := f3_.symm; clear f1_ f2_ f3_; subst f4_; subst f5_))
            refine hK.out _ _ ⟨(kAD BK275.out 0).trans rfl, (kAD BK275.out 1).trans rfl, (kAD BK275.out 2).trans rfl, (kAD BK275.out 3).trans rfl, (kAD BK302.out 0).trans rfl, (kAD BK302.out 1).trans rfl, (kAD BK302.out 2).trans rfl, (kAD BK302.out 3).trans rfl, (kAD BK302.out 4).trans rfl, (kAD BK302.out 5).trans rfl, (kAD BK285.out 0).trans rfl, (kAD BK285.out 1).trans rfl, (kAD BK285.out 2).trans rfl, (kAD BK285.out 3).trans rfl, (kAD BK285.out 4).trans rfl, (kAD BK285.out 5).trans rfl⟩ (fun hHeld => ?_)
            clear hK K
            refine norm_ (a' := ?_) ?_ ?_
            rotate_left
            ·show Act.put _ (some 69) _ = _
             simp only [Act.put, kzB, kzC, kzD, kAX, kAY]
             rfl
            refine one_ (i := 12) (N := some 70) #[true, true, true, true, true, true, true, true, true, true, true, true, true, false, false, false, false, false, false, false, false, false, false, false, false, false, false, false, false, false, false, false, false, false, false, false, false, false, false, false, false] rfl rfl (one_of HT_.out (by kernel_rfl)) (by decide) (fun K hK => ?_)
            refine goes_ Tryd.func21 (by kernel_rfl) rfl #[.agg #[.int .i64 t339, .int .i64 t340, .int .i64 t341, .int .i64 t342, .int .i64 t343, .slice Ao80 t344.length co80], .agg #[.int .i64 t347, .int .i64 t348, .int .i64 t349, .int .i64 t350, .int .i64 t351, .slice Ao81 t352.length co81]] (by rfl) rfl rfl (by (try simp only [List.map_toArray, List.map_cons, List.map_nil]); first | done | rfl | (simp only [List.length_drop, List.length_take]; rfl)) ?_
            with_reducible refine (footlockerlaw24_same.calls k t339 t340 t341 t342 t343 _ _ t344 t347 t348 t349 t350 t351 _ _ t352 true _ ?side1 ?side2 ?side3 ?side4 A15.out).mono ?_
            (case side1 => repeat (first | exact (Kd.V_reads' HO346.out).2.2 | (with_reducible refine Kd.kBH ?_ _) | (with_reducible refine Kd.kBF ?_ _) | (with_reducible refine Kd.kBM ?_)))
            (case side2 => exact (Kd.V_reads' HO346.out).2.1)
            (case side3 => repeat (first | exact (Kd.V_reads' HO354.out).2.2 | (with_reducible refine Kd.kBH ?_ _) | (with_reducible refine Kd.kBF ?_ _) | (with_reducible refine Kd.kBM ?_)))
            (case side4 => exact (Kd.V_reads' HO354.out).2.1)
            rintro e w82 ⟨rfl, hb⟩
            refine ⟨_, rfl, ?_⟩
            have n0_ := kzA (Kd.kCD (by (with_reducible repeat (first | apply Kd.kAT | apply Kd.kAS | apply Kd.kAZ)); exact HO278.out) hb)
            have n1_ := kzA (Kd.kBR (by (with_reducible repeat (first | apply Kd.kAW | apply Kd.kAV | apply Kd.kBC)); exact HO281.out) hb)
            have n2_ := kzA (Kd.kBR (by (with_reducible repeat (first | apply Kd.kAW | apply Kd.kAV | apply Kd.kBC)); exact HO284.out) hb)
            have n3_ := kzA (Kd.kBJ (by (with_reducible repeat (first | apply Kd.kAP | apply Kd.kAO | apply Kd.kAR)); exact HO288.out) hb)
            have n4_ := kzA (Kd.kBR (by (with_reducible repeat (first | apply Kd.kAW | apply Kd.kAV | apply Kd.kBC)); exact HO297.out) hb)
            have n5_ := kzA (Kd.kBJ (by (with_reducible repeat (first | apply Kd.kAP | apply Kd.kAO | apply Kd.kAR)); exact HO300.out) hb)
            have n6_ := kzA (Kd.kBJ (by (with_reducible repeat (first | apply Kd.kAP | apply Kd.kAO | apply Kd.kAR)); exact HO305.out) hb)
            have n7_ := kzA (Kd.kBR (by (with_reducible repeat (first | apply Kd.kAW | apply Kd.kAV | apply Kd.kBC)); exact HO314.out) hb)
            have n8_ := kzA (Kd.kBJ (by (with_reducible repeat (first | apply Kd.kAP | apply Kd.kAO | apply Kd.kAR)); exact HO317.out) hb)
            have n9_ := kzA (Kd.kCD (by (with_reducible repeat (first | apply Kd.kAT | apply Kd.kAS | apply Kd.kAZ)); exact HO324.out) hb)
            have n10_ := kzA (Kd.kBR (by (with_reducible repeat (first | apply Kd.kAW | apply Kd.kAV | apply Kd.kBC)); exact HO332.out) hb)
            have n11_ := kzA (Kd.kBJ (by (with_reducible repeat (first | apply Kd.kAP | apply Kd.kAO | apply Kd.kAR)); exact HO335.out) hb)
            have n12_ := kzA (Kd.kCD (by (with_reducible repeat (first | apply Kd.kAT | apply Kd.kAS | apply Kd.kAZ)); exact HO346.out) hb)
            have n13_ := kzA (Kd.kCD (by (with_reducible repeat (first | apply Kd.kAT | apply Kd.kAS | apply Kd.kAZ)); exact HO354.out) hb)
            have n14_ := kzA (kAL (g := gb275) (o := .cells #[.int .i64 1, .int .i64 1, .int .i64 5, .int .i64 13] 23 (0, 0)) (by (with_reducible repeat (first | refine kAH ?_ _ | refine kAI ?_ | refine kAG ?_ _)); exact BK275.out) hb)
            have n15_ := kzA (kAL (g := gb285) (o := .cells #[.int .i64 1, .int .i64 1, .int .i64 5, .int .i64 13, .int .i64 0, .slice Ao37 t282.length co37] 26 (0, 0)) (by (with_reducible repeat (first | refine kAH ?_ _ | refine kAI ?_ | refine kAG ?_ _)); exact BK285.out) hb)
            have n16_ := kzA (kAL (g := gb302) (o := .cells #[.int .i64 t290, .int .i64 t291, .int .i64 t292, .int .i64 t293, .int .i64 t294, .slice Ao54 t295.length co54] 26 (0, 0)) (by (with_reducible repeat (first | refine kAH ?_ _ | refine kAI ?_ | refine kAG ?_ _)); exact BK302.out) hb)
            have n17_ := kzA (kAL (g := gb319) (o := .cells #[.int .i64 t307, .int .i64 t308, .int .i64 t309, .int .i64 t310, .int .i64 t311, .slice Ao64 t312.length co64] 26 (0, 0)) (by (with_reducible repeat (first | refine kAH ?_ _ | refine kAI ?_ | refine kAG ?_ _)); exact BK319.out) hb)
            have n18_ := kzA (kAL (g := gb337) (o := .cells #[.int .i64 t325, .int .i64 t326, .int .i64 t327, .int .i64 t328, .int .i64 t329, .slice Ao74 t330.length co74] 26 (0, 0)) (by (with_reducible repeat (first | refine kAH ?_ _ | refine kAI ?_ | refine kAG ?_ _)); exact BK337.out) hb)
            have n19_ := kzA (kAK (by repeat (first | (with_reducible first | exact HB.out | apply kAB | apply kAA | apply kAC | refine kAF ?_ GE275.out | refine kAF ?_ GE285.out | refine kAF ?_ GE302.out | refine kAF ?_ GE319.out | refine kAF ?_ GE337.out) | exact HB.out)) hb)
            clear HO278
            clear HO281
            clear HO284
            clear HO288
            clear HO297
            clear HO300
            clear HO305
            clear HO314
            clear HO317
            clear HO324
            clear HO332
            clear HO335
            clear HO346
            clear HO354
            clear BK275
            clear BK285
            clear BK302
            clear BK319
            clear BK337
            clear HB
            have HO278 := n0_
            have HO281 := n1_
            have HO284 := n2_
            have HO288 := n3_
            have HO297 := n4_
            have HO300 := n5_
            have HO305 := n6_
            have HO314 := n7_
            have HO317 := n8_
            have HO324 := n9_
            have HO332 := n10_
            have HO335 := n11_
            have HO346 := n12_
            have HO354 := n13_
            have BK275 := n14_
            have BK285 := n15_
            have BK302 := n16_
            have BK319 := n17_
            have BK337 := n18_
            have HB := n19_
            clear n0_ n1_ n2_ n3_ n4_ n5_ n6_ n7_ n8_ n9_ n10_ n11_ n12_ n13_ n14_ n15_ n16_ n17_ n18_ n19_
            (try clear hb)
            (try clear hb2)
            (try clear hk)
            (try clear hi)
            obtain ⟨Ao83, co83, eo83⟩ := Kd.kCK HO300.out
            (first | subst eo83 | (injection eo83 with f1_ f2_ f3_; have f4_ := f1_.symm; have f5_ := f3_.symm; clear f1_ f2_ f3_; subst f4_; subst f5_))
            refine hK.out _ _ ⟨(kAD BK275.out 0).trans rfl, (kAD BK275.out 1).trans rfl, (kAD BK275.out 2).trans rfl, (kAD BK275.out 3).trans rfl, (kAD BK302.out 0).trans rfl, (kAD BK302.out 1).trans rfl, (kAD BK302.out 2).trans rfl, (kAD BK302.out 3).trans rfl, (kAD BK302.out 4).trans rfl, (kAD BK302.out 5).trans rfl, (kAD BK285.out 0).trans rfl, (kAD BK285.out 1).trans rfl, (kAD BK285.out 2).trans rfl, (kAD BK285.out 3).trans rfl, (kAD BK285.out 4).trans rfl, (kAD BK285.out 5).trans rfl⟩ (fun hHeld => ?_)
            clear hK K
            refine norm_ (a' := ?_) ?_ ?_
            rotate_left
            ·show Act.put _ (some 70) _ = _
             simp only [Act.put, kzB, kzC, kzD, kAX, kAY]
             rfl
            refine kBN (i := 13) (N := some 71) (v := ?_) (a' := ?_) #[true, true, true, true, true, true, true, true, true, true, true, true, true, true, false, false, false, false, false, false, false, false, false, false, false, false, false, false, false, false, false, false, false, false, false, false, false, false, false, false, false] rfl rfl (kBG HT_.out (by kernel_rfl)) (fun _ _ _ h => h) (Or.inl ⟨by rfl, ?_⟩) ?_ ?_
            rotate_left
            ·intro w'
             go_simp
             with_reducible rfl
            rotate_left
            ·simp only [Act.put, kzB, kzC, kzD, kAX, kAY]
             rfl
            refine kBN (i := 14) (N := some 72) (v := ?_) (a' := ?_) #[true, true, true, true, true, true, true, true, true, true, true, true, true, true, true, false, false, false, false, false, false, false, false, false, false, false, false, false, false, false, false, false, false, false, false, false, false, false, false, false, false] rfl rfl (kBG HT_.out (by kernel_rfl)) (fun _ _ _ h => h) (Or.inl ⟨by rfl, ?_⟩) ?_ ?_
            rotate_left
            ·intro w'
             go_simp
             with_reducible rfl
            rotate_left
            ·simp only [Act.put, kzB, kzC, kzD, kAX, kAY]
             rfl
            refine kBN (i := 15) (N := some 73) (v := ?_) (a' := ?_) #[true, true, true, true, true, true, true, true, true, true, true, true, true, true, true, true, false, false, false, false, false, false, false, false, false, false, false, false, false, false, false, false, false, false, false, false, false, false, false, false, false] rfl rfl (kBG HT_.out (by kernel_rfl)) (fun _ _ _ h => h) (Or.inl ⟨by rfl, ?_⟩) ?_ ?_
            rotate_left
            ·intro w'
             go_simp
             with_reducible rfl
            rotate_left
            ·simp only [Act.put, kzB, kzC, kzD, kAX, kAY]
             rfl
            refine kBN (i := 16) (N := some 74) (v := ?_) (a' := ?_) #[true, true, true, true, true, true, true, true, true, true, true, true, true, true, true, true, true, false, false, false, false, false, false, false, false, false, false, false, false, false, false, false, false, false, false, false, false, false, false, false, false] rfl rfl (kBG HT_.out (by kernel_rfl)) (fun _ _ _ h => h) (Or.inl ⟨by rfl, ?_⟩) ?_ ?_
            rotate_left
            ·intro w'
             go_simp
             with_reducible rfl
            rotate_left
            ·simp only [Act.put, kzB, kzC, kzD, kAX, kAY]
             rfl
            refine one_ (i := 17) (N := some 75) #[true, true, true, true, true, true, true, true, true, true, true, true, true, true, true, true, true, true, false, false, false, false, false, false, false, false, false, false, false, false, false, false, false, false, false, false, false, false, false, false, false] rfl rfl (one_of HT_.out (by kernel_rfl)) (by decide) (fun K hK => ?_)
            refine goes_ Tryd.func12 (by kernel_rfl) rfl #[.slice Ao83 t298.length co83, .slice Ao29 y276.length co29] (by rfl) rfl rfl (by (try simp only [List.map_toArray, List.map_cons, List.map_nil]); first | done | rfl | (simp only [List.length_drop, List.length_take]; rfl)) ?_
            with_reducible refine (footlockerref01_Same.calls k _ _ t298 _ _ y276 true _ ?side1 ?side2 ?side3 ?side4 A17.out).mono ?_
            (case side1 => repeat (first | exact (Kd.R_reads' HO300.out).2.2 | (with_reducible refine Kd.kBH ?_ _) | (with_reducible refine Kd.kBF ?_ _) | (with_reducible refine Kd.kBM ?_)))
            (case side2 => exact (Kd.R_reads' HO300.out).2.1)
            (case side3 => repeat (first | exact (Kd.V_reads' HO278.out).2.2 | (with_reducible refine Kd.kBH ?_ _) | (with_reducible refine Kd.kBF ?_ _) | (with_reducible refine Kd.kBM ?_)))
            (case side4 => exact (Kd.V_reads' HO278.out).2.1)
            rintro e w' ⟨rfl, ⟨nd, rfl⟩⟩
            refine ⟨_, rfl, ?_⟩
            refine hK.out _ _ ⟨(kAD BK275.out 0).trans rfl, (kAD BK275.out 1).trans rfl, (kAD BK275.out 2).trans rfl, (kAD BK275.out 3).trans rfl, (kAD BK302.out 0).trans rfl, (kAD BK302.out 1).trans rfl, (kAD BK302.out 2).trans rfl, (kAD BK302.out 3).trans rfl, (kAD BK302.out 4).trans rfl, (kAD BK302.out 5).trans rfl, (kAD BK285.out 0).trans rfl, (kAD BK285.out 1).trans rfl, (kAD BK285.out 2).trans rfl, (kAD BK285.out 3).trans rfl, (kAD BK285.out 4).trans rfl, (kAD BK285.out 5).trans rfl⟩ (fun hHeld => ?_)
            clear hK K
            refine norm_ (a' := ?_) ?_ ?_
            rotate_left
            ·show Act.put _ (some 75) _ = _
             simp only [Act.put, kzB, kzC, kzD, kAX, kAY]
             rfl
            refine kBN (i := 18) (N := some 76) (v := ?_) (a' := ?_) #[true, true, true, true, true, true, true, true, true, true, true, true, true, true, true, true, true, true, true, false, false, false, false, false, false, false, false, false, false, false, false, false, false, false, false, false, false, false, false, false, false] rfl rfl (kBG HT_.out (by kernel_rfl)) (fun _ _ _ h => h) (Or.inl ⟨by rfl, ?_⟩) ?_ ?_
            rotate_left
            ·intro w'
             go_simp
             with_reducible rfl
            rotate_left
            ·simp only [Act.put, kzB, kzC, kzD, kAX, kAY]
             rfl
            refine kBN (i := 19) (N := some 77) (v := ?_) (a' := ?_) #[true, true, true, true, true, true, true, true, true, true, true, true, true, true, true, true, true, true, true, true, false, false, false, false, false, false, false, false, false, false, false, false, false, false, false, false, false, false, false, false, false] rfl rfl (kBG HT_.out (by kernel_rfl)) (fun _ _ _ h => h) (Or.inl ⟨by rfl, ?_⟩) ?_ ?_
            rotate_left
            ·intro w'
             go_simp
             with_reducible rfl
            rotate_left
            ·simp only [Act.put, kzB, kzC, kzD, kAX, kAY]
             rfl
            refine kBN (i := 20) (N := some 78) (v := ?_) (a' := ?_) #[true, true, true, true, true, true, true, true, true, true, true, true, true, true, true, true, true, true, true, true, true, false, false, false, false, false, false, false, false, false, false, false, false, false, false, false, false, false, false, false, false] rfl rfl (kBG HT_.out (by kernel_rfl)) (fun _ _ _ h => h) (Or.inl ⟨by rfl, ?_⟩) ?_ ?_
            rotate_left
            ·intro w'
             go_simp
             with_reducible rfl
            rotate_left
            ·simp only [Act.put, kzB, kzC, kzD, kAX, kAY]
             rfl
            refine kBN (i := 21) (N := some 79) (v := ?_) (a' := ?_) #[true, true, true, true, true, true, true, true, true, true, true, true, true, true, true, true, true, true, true, true, true, true, false, false, false, false, false, false, false, false, false, false, false, false, false, false, false, false, false, false, false] rfl rfl (kBG HT_.out (by kernel_rfl)) (fun _ _ _ h => h) (Or.inl ⟨by rfl, ?_⟩) ?_ ?_
            rotate_left
            ·intro w'
             go_simp
             with_reducible rfl
            rotate_left
            ·simp only [Act.put, kzB, kzC, kzD, kAX, kAY]
             rfl
            refine kBN (i := 22) (N := some 80) (v := ?_) (a' := ?_) #[true, true, true, true, true, true, true, true, true, true, true, true, true, true, true, true, true, true, true, true, true, true, true, false, false, false, false, false, false, false, false, false, false, false, false, false, false, false, false, false, false] rfl rfl (kBG HT_.out (by kernel_rfl)) (fun _ _ _ h => h) (Or.inl ⟨by rfl, ?_⟩) ?_ ?_
            rotate_left
            ·intro w'
             go_simp
             with_reducible rfl
            rotate_left
            ·simp only [Act.put, kzB, kzC, kzD, kAX, kAY]
             rfl
            refine kBN (i := 23) (N := some 81) (v := ?_) (a' := ?_) #[true, true, true, true, true, true, true, true, true, true, true, true, true, true, true, true, true, true, true, true, true, true, true, true, false, false, false, false, false, false, false, false, false, false, false, false, false, false, false, false, false] rfl rfl (kBG HT_.out (by kernel_rfl)) (fun _ _ _ h => h) (Or.inl ⟨by rfl, ?_⟩) ?_ ?_
            rotate_left
            ·intro w'
             go_simp
             with_reducible rfl
            rotate_left
            ·simp only [Act.put, kzB, kzC, kzD, kAX, kAY]
             rfl
            refine kBN (i := 24) (N := some 82) (v := ?_) (a' := ?_) #[true, true, true, true, true, true, true, true, true, true, true, true, true, true, true, true, true, true, true, true, true, true, true, true, true, false, false, false, false, false, false, false, false, false, false, false, false, false, false, false, false] rfl rfl (kBG HT_.out (by kernel_rfl)) (fun _ _ _ h => h) (Or.inl ⟨by rfl, ?_⟩) ?_ ?_
            rotate_left
            ·intro w'
             go_simp
             with_reducible rfl
            rotate_left
            ·simp only [Act.put, kzB, kzC, kzD, kAX, kAY]
             rfl
            refine kBN (i := 25) (N := some 83) (v := ?_) (a' := ?_) #[true, true, true, true, true, true, true, true, true, true, true, true, true, true, true, true, true, true, true, true, true, true, true, true, true, true, false, false, false, false, false, false, false, false, false, false, false, false, false, false, false] rfl rfl (kBG HT_.out (by kernel_rfl)) (fun _ _ _ h => h) (Or.inl ⟨by rfl, ?_⟩) ?_ ?_
            rotate_left
            ·intro w'
             go_simp
             with_reducible rfl
            rotate_left
            ·simp only [Act.put, kzB, kzC, kzD, kAX, kAY]
             rfl
            refine kBN (i := 26) (N := some 84) (v := ?_) (a' := ?_) #[true, true, true, true, true, true, true, true, true, true, true, true, true, true, true, true, true, true, true, true, true, true, true, true, true, true, true, false, false, false, false, false, false, false, false, false, false, false, false, false, false] rfl rfl (kBG HT_.out (by kernel_rfl)) (fun _ _ _ h => h) (Or.inl ⟨by rfl, ?_⟩) ?_ ?_
            rotate_left
            ·intro w'
             go_simp
             with_reducible rfl
            rotate_left
            ·simp only [Act.put, kzB, kzC, kzD, kAX, kAY]
             rfl
            refine kBN (i := 27) (N := some 85) (v := ?_) (a' := ?_) #[true, true, true, true, true, true, true, true, true, true, true, true, true, true, true, true, true, true, true, true, true, true, true, true, true, true, true, true, false, false, false, false, false, false, false, false, false, false, false, false, false] rfl rfl (kBG HT_.out (by kernel_rfl)) (fun _ _ _ h => h) (Or.inl ⟨by rfl, ?_⟩) ?_ ?_
            rotate_left
            ·intro w'
             go_simp
             with_reducible rfl
            rotate_left
            ·simp only [Act.put, kzB, kzC, kzD, kAX, kAY]
             rfl
            refine kBN (i := 28) (N := some 86) (v := ?_) (a' := ?_) #[true, true, true, true, true, true, true, true, true, true, true, true, true, true, true, true, true, true, true, true, true, true, true, true, true, true, true, true, true, false, false, false, false, false, false, false, false, false, false, false, false] rfl rfl (kBG HT_.out (by kernel_rfl)) (fun _ _ _ h => h) (Or.inl ⟨by rfl, ?_⟩) ?_ ?_
            rotate_left
            ·intro w'
             go_simp
             with_reducible rfl
            rotate_left
            ·simp only [Act.put, kzB, kzC, kzD, kAX, kAY]
             rfl
            refine kBN (i := 29) (N := some 87) (v := ?_) (a' := ?_) #[true, true, true, true, true, true, true, true, true, true, true, true, true, true, true, true, true, true, true, true, true, true, true, true, true, true, true, true, true, true, false, false, false, false, false, false, false, false, false, false, false] rfl rfl (kBG HT_.out (by kernel_rfl)) (fun _ _ _ h => h) (Or.inl ⟨by rfl, ?_⟩) ?_ ?_
            rotate_left
            ·intro w'
             go_simp
             with_reducible rfl
            rotate_left
            ·simp only [Act.put, kzB, kzC, kzD, kAX, kAY]
             rfl
            refine kBN (i := 30) (N := some 88) (v := ?_) (a' := ?_) #[true, true, true, true, true, true, true, true, true, true, true, true, true, true, true, true, true, true, true, true, true, true, true, true, true, true, true, true, true, true, true, false, false, false, false, false, false, false, false, false, false] rfl rfl (kBG HT_.out (by kernel_rfl)) (fun _ _ _ h => h) (Or.inl ⟨by rfl, ?_⟩) ?_ ?_
            rotate_left
            ·intro w'
             go_simp
             with_reducible rfl
            rotate_left
            ·simp only [Act.put, kzB, kzC, kzD, kAX, kAY]
             rfl
            refine kBN (i := 31) (N := some 89) (v := ?_) (a' := ?_) #[true, true, true, true, true, true, true, true, true, true, true, true, true, true, true, true, true, true, true, true, true, true, true, true, true, true, true, true, true, true, true, true, false, false, false, false, false, false, false, false, false] rfl rfl (kBG HT_.out (by kernel_rfl)) (fun _ _ _ h => h) (Or.inl ⟨by rfl, ?_⟩) ?_ ?_
            rotate_left
            ·intro w'
             go_simp
             with_reducible rfl
            rotate_left
            ·simp only [Act.put, kzB, kzC, kzD, kAX, kAY]
             rfl
            refine kBN (i := 32) (N := some 90) (v := ?_) (a' := ?_) #[true, true, true, true, true, true, true, true, true, true, true, true, true, true, true, true, true, true, true, true, true, true, true, true, true, true, true, true, true, true, true, true, true, false, false, false, false, false, false, false, false] rfl rfl (kBG HT_.out (by kernel_rfl)) (fun _ _ _ h => h) (Or.inl ⟨by rfl, ?_⟩) ?_ ?_
            rotate_left
            ·intro w'
             go_simp
             with_reducible rfl
            rotate_left
            ·simp only [Act.put, kzB, kzC, kzD, kAX, kAY]
             rfl
            refine kBN (i := 33) (N := some 91) (v := ?_) (a' := ?_) #[true, true, true, true, true, true, true, true, true, true, true, true, true, true, true, true, true, true, true, true, true, true, true, true, true, true, true, true, true, true, true, true, true, true, false, false, false, false, false, false, false] rfl rfl (kBG HT_.out (by kernel_rfl)) (fun _ _ _ h => h) (Or.inl ⟨by rfl, ?_⟩) ?_ ?_
            rotate_left
            ·intro w'
             go_simp
             with_reducible rfl
            rotate_left
            ·simp only [Act.put, kzB, kzC, kzD, kAX, kAY]
             rfl
            refine kBN (i := 34) (N := some 92) (v := ?_) (a' := ?_) #[true, true, true, true, true, true, true, true, true, true, true, true, true, true, true, true, true, true, true, true, true, true, true, true, true, true, true, true, true, true, true, true, true, true, true, false, false, false, false, false, false] rfl rfl (kBG HT_.out (by kernel_rfl)) (fun _ _ _ h => h) (Or.inl ⟨by rfl, ?_⟩) ?_ ?_
            rotate_left
            ·intro w'
             go_simp
             with_reducible rfl
            rotate_left
            ·simp only [Act.put, kzB, kzC, kzD, kAX, kAY]
             rfl
            refine kBN (i := 35) (N := some 93) (v := ?_) (a' := ?_) #[true, true, true, true, true, true, true, true, true, true, true, true, true, true, true, true, true, true, true, true, true, true, true, true, true, true, true, true, true, true, true, true, true, true, true, true, false, false, false, false, false] rfl rfl (kBG HT_.out (by kernel_rfl)) (fun _ _ _ h => h) (Or.inl ⟨by rfl, ?_⟩) ?_ ?_
            rotate_left
            ·intro w'
             go_simp
             with_reducible rfl
            rotate_left
            ·simp only [Act.put, kzB, kzC, kzD, kAX, kAY]
             rfl
            refine kBN (i := 36) (N := some 94) (v := ?_) (a' := ?_) #[true, true, true, true, true, true, true, true, true, true, true, true, true, true, true, true, true, true, true, true, true, true, true, true, true, true, true, true, true, true, true, true, true, true, true, true, true, false, false, false, false] rfl rfl (kBG HT_.out (by kernel_rfl)) (fun _ _ _ h => h) (Or.inl ⟨by rfl, ?_⟩) ?_ ?_
            rotate_left
            ·intro w'
             go_simp
             with_reducible rfl
            rotate_left
            ·simp only [Act.put, kzB, kzC, kzD, kAX, kAY]
             rfl
            refine one_ (i := 37) (N := some 95) #[true, true, true, true, true, true, true, true, true, true, true, true, true, true, true, true, true, true, true, true, true, true, true, true, true, true, true, true, true, true, true, true, true, true, true, true, true, true, false, false, false] rfl rfl (one_of HT_.out (by kernel_rfl)) (by decide) (fun K hK => ?_)
            refine goes_ Tryd.func14 (by kernel_rfl) rfl #[.agg #[.int .i64 0, .int .i64 0, .int .i64 0, .int .i64 0]] (by rfl) rfl rfl (by (try simp only [List.map_toArray, List.map_cons, List.map_nil]); first | done | rfl | (simp only [List.length_drop, List.length_take]; rfl)) ?_
            with_reducible refine (seal_Head.calls 0 0 0 0 t357 _ A23.out).mono ?_
            rintro e w84 ⟨rfl, hb⟩
            refine ⟨_, rfl, ?_⟩
            have n0_ := kzA (Kd.kCD (by (with_reducible repeat (first | apply Kd.kAT | apply Kd.kAS | apply Kd.kAZ)); exact HO278.out) hb)
            have n1_ := kzA (Kd.kBR (by (with_reducible repeat (first | apply Kd.kAW | apply Kd.kAV | apply Kd.kBC)); exact HO281.out) hb)
            have n2_ := kzA (Kd.kBR (by (with_reducible repeat (first | apply Kd.kAW | apply Kd.kAV | apply Kd.kBC)); exact HO284.out) hb)
            have n3_ := kzA (Kd.kBJ (by (with_reducible repeat (first | apply Kd.kAP | apply Kd.kAO | apply Kd.kAR)); exact HO288.out) hb)
            have n4_ := kzA (Kd.kBR (by (with_reducible repeat (first | apply Kd.kAW | apply Kd.kAV | apply Kd.kBC)); exact HO297.out) hb)
            have n5_ := kzA (Kd.kBJ (by (with_reducible repeat (first | apply Kd.kAP | apply Kd.kAO | apply Kd.kAR)); exact HO300.out) hb)
            have n6_ := kzA (Kd.kBJ (by (with_reducible repeat (first | apply Kd.kAP | apply Kd.kAO | apply Kd.kAR)); exact HO305.out) hb)
            have n7_ := kzA (Kd.kBR (by (with_reducible repeat (first | apply Kd.kAW | apply Kd.kAV | apply Kd.kBC)); exact HO314.out) hb)
            have n8_ := kzA (Kd.kBJ (by (with_reducible repeat (first | apply Kd.kAP | apply Kd.kAO | apply Kd.kAR)); exact HO317.out) hb)
            have n9_ := kzA (Kd.kCD (by (with_reducible repeat (first | apply Kd.kAT | apply Kd.kAS | apply Kd.kAZ)); exact HO324.out) hb)
            have n10_ := kzA (Kd.kBR (by (with_reducible repeat (first | apply Kd.kAW | apply Kd.kAV | apply Kd.kBC)); exact HO332.out) hb)
            have n11_ := kzA (Kd.kBJ (by (with_reducible repeat (first | apply Kd.kAP | apply Kd.kAO | apply Kd.kAR)); exact HO335.out) hb)
            have n12_ := kzA (Kd.kCD (by (with_reducible repeat (first | apply Kd.kAT | apply Kd.kAS | apply Kd.kAZ)); exact HO346.out) hb)
            have n13_ := kzA (Kd.kCD (by (with_reducible repeat (first | apply Kd.kAT | apply Kd.kAS | apply Kd.kAZ)); exact HO354.out) hb)
            have n14_ := kzA (kAL (g := gb275) (o := .cells #[.int .i64 1, .int .i64 1, .int .i64 5, .int .i64 13] 23 (0, 0)) (by (with_reducible repeat (first | refine kAH ?_ _ | refine kAI ?_ | refine kAG ?_ _)); exact BK275.out) hb)
            have n15_ := kzA (kAL (g := gb285) (o := .cells #[.int .i64 1, .int .i64 1, .int .i64 5, .int .i64 13, .int .i64 0, .slice Ao37 t282.length co37] 26 (0, 0)) (by (with_reducible repeat (first | refine kAH ?_ _ | refine kAI ?_ | refine kAG ?_ _)); exact BK285.out) hb)
            have n16_ := kzA (kAL (g := gb302) (o := .cells #[.int .i64 t290, .int .i64 t291, .int .i64 t292, .int .i64 t293, .int .i64 t294, .slice Ao54 t295.length co54] 26 (0, 0)) (by (with_reducible repeat (first | refine kAH ?_ _ | refine kAI ?_ | refine kAG ?_ _)); exact BK302.out) hb)
            have n17_ := kzA (kAL (g := gb319) (o := .cells #[.int .i64 t307, .int .i64 t308, .int .i64 t309, .int .i64 t310, .int .i64 t311, .slice Ao64 t312.length co64] 26 (0, 0)) (by (with_reducible repeat (first | refine kAH ?_ _ | refine kAI ?_ | refine kAG ?_ _)); exact BK319.out) hb)
            have n18_ := kzA (kAL (g := gb337) (o := .cells #[.int .i64 t325, .int .i64 t326, .int .i64 t327, .int .i64 t328, .int .i64 t329, .slice Ao74 t330.length co74] 26 (0, 0)) (by (with_reducible repeat (first | refine kAH ?_ _ | refine kAI ?_ | refine kAG ?_ _)); exact BK337.out) hb)
            have n19_ := kzA (kAK (by repeat (first | (with_reducible first | exact HB.out | apply kAB | apply kAA | apply kAC | refine kAF ?_ GE275.out | refine kAF ?_ GE285.out | refine kAF ?_ GE302.out | refine kAF ?_ GE319.out | refine kAF ?_ GE337.out) | exact HB.out)) hb)
            clear HO278
            clear HO281
            clear HO284
            clear HO288
            clear HO297
            clear HO300
            clear HO305
            clear HO314
            clear HO317
            clear HO324
            clear HO332
            clear HO335
            clear HO346
            clear HO354
            clear BK275
            clear BK285
            clear BK302
            clear BK319
            clear BK337
            clear HB
            have HO278 := n0_
            have HO281 := n1_
            have HO284 := n2_
            have HO288 := n3_
            have HO297 := n4_
            have HO300 := n5_
            have HO305 := n6_
            have HO314 := n7_
            have HO317 := n8_
            have HO324 := n9_
            have HO332 := n10_
            have HO335 := n11_
            have HO346 := n12_
            have HO354 := n13_
            have BK275 := n14_
            have BK285 := n15_
            have BK302 := n16_
            have BK319 := n17_
            have BK337 := n18_
            have HB := n19_
            clear n0_ n1_ n2_ n3_ n4_ n5_ n6_ n7_ n8_ n9_ n10_ n11_ n12_ n13_ n14_ n15_ n16_ n17_ n18_ n19_
            (try clear hb)
            (try clear hb2)
            (try clear hk)
            (try clear hi)
            refine hK.out _ _ ⟨(kAD BK275.out 0).trans rfl, (kAD BK275.out 1).trans rfl, (kAD BK275.out 2).trans rfl, (kAD BK275.out 3).trans rfl, (kAD BK302.out 0).trans rfl, (kAD BK302.out 1).trans rfl, (kAD BK302.out 2).trans rfl, (kAD BK302.out 3).trans rfl, (kAD BK302.out 4).trans rfl, (kAD BK302.out 5).trans rfl, (kAD BK285.out 0).trans rfl, (kAD BK285.out 1).trans rfl, (kAD BK285.out 2).trans rfl, (kAD BK285.out 3).trans rfl, (kAD BK285.out 4).trans rfl, (kAD BK285.out 5).trans rfl⟩ (fun hHeld => ?_)
            clear hK K
            refine norm_ (a' := ?_) ?_ ?_
            rotate_left
            ·show Act.put _ (some 95) _ = _
             simp only [Act.put, kzB, kzC, kzD, kAX, kAY]
             rfl
            refine kBN (i := 38) (N := some 96) (v := ?_) (a' := ?_) #[true, true, true, true, true, true, true, true, true, true, true, true, true, true, true, true, true, true, true, true, true, true, true, true, true, true, true, true, true, true, true, true, true, true, true, true, true, true, true, false, false] rfl rfl (kBG HT_.out (by kernel_rfl)) (fun _ _ _ h => h) (Or.inl ⟨by rfl, ?_⟩) ?_ ?_
            rotate_left
            ·intro w'
             go_simp
             with_reducible rfl
            rotate_left
            ·simp only [Act.put, kzB, kzC, kzD, kAX, kAY]
             rfl
            refine kBN (i := 39) (N := some 97) (v := ?_) (a' := ?_) #[true, true, true, true, true, true, true, true, true, true, true, true, true, true, true, true, true, true, true, true, true, true, true, true, true, true, true, true, true, true, true, true, true, true, true, true, true, true, true, true, false] rfl rfl (kBG HT_.out (by kernel_rfl)) (fun _ _ _ h => h) (Or.inl ⟨by rfl, ?_⟩) ?_ ?_
            rotate_left
            ·intro w'
             go_simp
             with_reducible rfl
            rotate_left
            ·simp only [Act.put, kzB, kzC, kzD, kAX, kAY]
             rfl
            refine kBN (i := 40) (N := some 0) (v := ?_) (a' := ?_) #[true, true, true, true, true, true, true, true, true, true, true, true, true, true, true, true, true, true, true, true, true, true, true, true, true, true, true, true, true, true, true, true, true, true, true, true, true, true, true, true, true] rfl rfl (kBG HT_.out (by kernel_rfl)) (fun _ _ _ h => h) (Or.inl ⟨by rfl, ?_⟩) ?_ ?_
            rotate_left
            ·intro w'
             go_simp
             with_reducible rfl
            rotate_left
            ·simp only [Act.put, kzB, kzC, kzD, kAX, kAY]
             rfl
            refine done_ (done_of HT_.out (by kernel_rfl)) ?_
            try go_wp2
            go_ret
            exact ⟨by first | rfl | (simp [kAN, kAM] <;> rfl) | (simp [*, kAN, kAM] <;> rfl), by repeat (first | (with_reducible first | exact HB.out | apply kAB | apply kAA | apply kAC | refine kAF ?_ GE275.out | refine kAF ?_ GE285.out | refine kAF ?_ GE302.out | refine kAF ?_ GE319.out | refine kAF ?_ GE337.out) | exact HB.out)⟩
           ·rw [if_neg c22] at H
            exact absurd H (by simp)
          ·rw [if_neg c21] at H
           exact absurd H (by simp)
         ·rw [if_neg c20] at H
          exact absurd H (by simp)
        ·rw [if_neg c19] at H
         exact absurd H (by simp)
       ·replace c18 := Bool.eq_false_iff.mpr c18
        subst c18
        have H1 : (none) = some r := by rw [if_neg (show ¬ (false = true) by decide)] at H; exact H
        clear H
        have H := H1
        clear H1
        exact absurd H (by simp)
      ·replace c16 := Bool.eq_false_iff.mpr c16
       subst c16
       have H1 : (none) = some r := by rw [if_neg (show ¬ (false = true) by decide)] at H; exact H
       clear H
       have H := H1
       clear H1
       exact absurd H (by simp)
     ·rw [if_neg c12] at H
      exact absurd H (by simp)
    ·rw [if_neg c11] at H
     exact absurd H (by simp)
   ·rw [if_neg c8] at H
    exact absurd H (by simp)
  ·rw [if_neg c7] at H
   exact absurd H (by simp)
 ·rw [if_neg c1] at H
  exact absurd H (by simp)
end Go.Proofs.YtoamamnbapilhaaDoor.X

/- The contract of canon.firsts: the first code of each length. -/
import Derived.Test.YtgbfkfmjbacemaaCnB
import Derived.Test.YtgbfkfmjbacemaaPcn
namespace Go.Proofs.Ytgbfkfmjbacemaa.Cn
open Go.RowKit Go.Proofs.YtgbfkfmjbacemaaW.PrintWords Go.Proofs.YtgbfkfmjbacemaaW.PrintLast Go.Proofs.YtgbfkfmjbacemaaW.PrintMore Go.Proofs.Ytgbfkfmjbacemaa.PCanonReads Go.Proofs.Ytgbfkfmjbacemaa.Lb
attribute [local go_sem] max2_int min2_int max_two min_two
set_option linter.unusedVariables false
set_option linter.unusedSimpArgs false

def ints (ls : List Nat) : List Int := ls.map fun (x : Nat) => (x : Int)
theorem ints_count (ls : List Nat) (j : Nat) : (ints ls).count (j : Int) = ls.count j := by
  induction ls with
  | nil => rfl
  | cons a ls ih =>
    simp only [ints, List.map_cons, List.count_cons] at ih ⊢
    rw [ih]
    by_cases h : a = j
    · simp [h]
    · have : ¬ (a : Int) = (j : Int) := by omega
      simp [h, this]
theorem cl0_rd (ls : List Nat) (j : Nat) (h : j < 16) : rd (cl0 (ints ls)) j = (CN.cnt ls j : Int) := by
  unfold cl0
  rw [show (0 : Nat) = ((0 : Nat)) from rfl, rd_set, cl_rd _ _ h, ints_count, cl_length]
  unfold CN.cnt
  by_cases e : j = 0
  · simp [e]
  · simp [e]; omega
/-- the first codes of the lengths below k; noughts behind. -/
def fl (ls : List Nat) (k : Nat) : List Int := (List.range 16).map fun (j : Nat) => if j < k then (CN.first ls j : Int) else 0
theorem fl_length (ls : List Nat) (k : Nat) : (fl ls k).length = 16 := by simp [fl]
theorem fl_rd (ls : List Nat) (k j : Nat) (h : j < 16) : rd (fl ls k) j = if j < k then (CN.first ls j : Int) else 0 := by simp [rd, fl, h]
theorem fl_one (ls : List Nat) : fl ls 1 = List.replicate 16 0 := by
  apply List.ext_getElem (by simp [fl])
  intro j hj _
  simp only [fl, List.getElem_map, List.getElem_range, List.getElem_replicate]
  by_cases h : j < 1
  · have : j = 0 := by omega
    subst this
    simp [CN.first]
  · simp [h]
theorem fl_succ (ls : List Nat) (k : Nat) (h1 : 1 ≤ k) (h : k < 16) : fl ls (k + 1) = (fl ls k).set k ((CN.first ls (k - 1) + CN.cnt ls (k - 1) : Int) * 2) := by
  apply List.ext_getElem (by simp [fl])
  intro j hj _
  rw [List.getElem_set]
  simp only [fl, List.getElem_map, List.getElem_range]
  by_cases e : k = j
  · subst e
    rw [if_pos (by omega), if_pos rfl]
    obtain ⟨m, rfl⟩ : ∃ m, k = m + 1 := ⟨k - 1, by omega⟩
    simp [CN.first]
  · rw [if_neg e]
    by_cases h2 : j < k
    · rw [if_pos h2, if_pos (by omega)]
    · rw [if_neg h2, if_neg (by omega)]

set_option maxHeartbeats 1000000 in
theorem firsts_calls (A0 : Option Addr) (c0 : Nat) (ls : List Nat) (w : World) (hr0 : Kd.C (Kd.int .i64) w A0 (ints ls).length (ints ls)) (hn : (ints ls).length ≤ 288) (hb : ∀ x ∈ ls, x ≤ 15) (hk : CN.kr ls ≤ 32768) :
    Calls Try.prog 21 #[.slice A0 (ints ls).length c0] w fun e w' => e = .returned (.agg (cells .u32 (fl ls 16))) ∧ Below w.heap.size w w' := by
  have HR := Aside0.mk hr0
  have HB := Aside0.mk hb
  have HK := Aside0.mk hk
  have HI : ∀ x ∈ ints ls, 0 ≤ x ∧ x ≤ 15 := by
    intro x hx
    obtain ⟨n, hn, rfl⟩ := List.mem_map.1 hx
    have := hb n hn
    omega
  have HJ := Aside0.mk HI
  clear hr0 hb hk HI
  go_enter Try.func21, Try.ntmps21
  go_wp2_with (first | (go_at_call 34; refine (counts_calls A0 c0 (ints ls) _ (Kd.C_alloc (Kd.C_alloc HR.out _) _) hn HJ.out).mono ?_; rintro e w1 ⟨rfl, hb1⟩) | (refine wpList_store_new rfl 72 _ _ rfl rfl rfl (by kernel_rfl) (by simp [cells, cl0, cl]) (cells_one _ _) ?_))
  have hz : w.heap.size + 2 ≤ w1.heap.size := by have := hb1.size; simp at this; omega
  have hA := blk_below (heap_alloc2_old w _ _) hb1
  have hB := blk_below (heap_alloc2_new w _ _) hb1
  have hW : Below w.heap.size w w1 := (((Below.refl w.heap.size w).alloc (Nat.le_refl _) _).alloc (by simp) _).trans (hb1.mono (by simp; omega))
  have HA := Aside0.mk hA
  have HB1 := Aside0.mk hB
  have HW := Aside0.mk hW
  clear hA hB hW hb1
  go_loopw [5, 8, 9, 10, 11, 12, 13, 14, 15, 16, 17, 18, 19, 20, 21, 22, 23, 24] (fun v5 v8 v9 v10 v11 v12 v13 v14 v15 v16 v17 v18 v19 v20 v21 v22 v23 v24 w' => ∃ (j : Nat), v5 = .int .i64 ((j : Int) + 1) ∧ j ≤ 15 ∧
      Aside0 (w'.heap[w.heap.size]? = some (.cells (cells .u32 (List.replicate 16 0)) 53 (0, 0))) ∧ Aside0 (w'.heap[w.heap.size + 1]? = some (.cells (cells .u32 (fl ls (j + 1))) 53 (0, 0))) ∧
      Aside0 (w'.heap[w1.heap.size]? = some (.cells (cells .i64 (cl0 (ints ls))) 72 (0, 0))) ∧ Aside0 (Below w.heap.size w w'))
    (fun v5 _ _ _ _ _ _ _ _ _ _ _ _ _ _ _ _ _ _ => 16 - (intOf v5).toNat)
  case atStart =>
    refine ⟨0, rfl, by omega, ⟨?_⟩, ⟨?_⟩, ⟨?_⟩, ⟨?_⟩⟩
    · exact blk_alloc HA.out _
    · rw [fl_one]; exact blk_alloc HB1.out _
    · exact heap_alloc_new _ _
    · exact HW.out.alloc (by omega) _
  case round =>
    obtain ⟨j, rfl, hj, H1, H2, H3, H4⟩ := hrel
    by_cases hlt : j < 15
    · have c1 : wr.cell? ⟨w.heap.size + 1, j, none⟩ = some (.int .u32 (CN.first ls j : Int)) := by
        rw [blk_cell H2.out, cells_at _ _ _ (by rw [fl_length]; omega), fl_rd _ _ _ (by omega), if_pos (by omega)]
      have c2 : wr.cell? ⟨w1.heap.size, j, none⟩ = some (.int .i64 (CN.cnt ls j : Int)) := by
        rw [blk_cell H3.out, cells_at _ _ _ (by simp [cl0, cl]; omega), cl0_rd _ _ (by omega)]
      have c3 : wr.cell? ⟨w.heap.size + 1, j + 1, none⟩ = some (.int .u32 0) := by
        rw [blk_cell H2.out, cells_at _ _ _ (by rw [fl_length]; omega), fl_rd _ _ _ (by omega), if_neg (by omega)]
      have c4 : wr.frozen? ⟨w.heap.size + 1, j + 1, none⟩ = false := blk_frozen H2.out _
      have hbd : CN.fin ls j ≤ 2 ^ j := CN.fin_le_pow HB.out HK.out (by omega)
      have hp : 2 ^ j ≤ 2 ^ 15 := Nat.pow_le_pow_right (by omega) (by omega)
      have hbd2 : (CN.first ls j : Int) + (CN.cnt ls j : Int) ≤ 32768 := by unfold CN.fin at hbd; omega
      obtain ⟨F, hF⟩ : ∃ F : Int, F = (CN.first ls j : Int) := ⟨_, rfl⟩
      obtain ⟨C, hC⟩ : ∃ C : Int, C = (CN.cnt ls j : Int) := ⟨_, rfl⟩
      have hF0 : 0 ≤ F := by omega
      have hC0 : 0 ≤ C := by omega
      rw [← hF] at c1 hbd2
      rw [← hC] at c2 hbd2
      have HF := Aside0.mk hF
      have HC := Aside0.mk hC
      clear hF hC hbd hp
      go_wp2
      go_region
      go_wp2
      go_roundw
      case rel =>
        refine ⟨j + 1, by go_num, by omega, ⟨blk_drew (blk_far H1.out (by simp) _)⟩, ⟨?_⟩, ⟨blk_drew (blk_far H3.out (by simp; omega) _)⟩, ⟨below_drew (below_setCell H4.out (by simp) _)⟩⟩
        refine blk_drew ?_
        rw [fl_succ _ _ (by omega) (by omega), Nat.add_sub_cancel, ← HF.out, ← HC.out, ← cells_set]
        exact blk_set H2.out _ _
      case measure => simp [intOf]; omega
    · obtain rfl : j = 15 := by omega
      go_wp2_with (first | (refine wpList_load_row rfl 53 _ rfl (w.heap.size + 1) rfl 53 _ _ _ H2.out Try.underlying53 rfl (by kernel_rfl) ?_) | (refine wpList_store_row rfl 53 _ _ rfl w.heap.size _ rfl rfl 53 _ H1.out (by kernel_rfl) (by simp [cells, fl]) (cells_one _ _) ?_))
      refine bodyPost_ret (results_cell_row rfl _ _ w.heap.size 53 _ _ _ rfl (setRow_heap _ _ _ _ _ _ H1.out) Try.underlying53 rfl (by kernel_rfl)) rfl ⟨rfl, below_setRow H4.out (Nat.le_refl _) _⟩
end Go.Proofs.Ytgbfkfmjbacemaa.Cn

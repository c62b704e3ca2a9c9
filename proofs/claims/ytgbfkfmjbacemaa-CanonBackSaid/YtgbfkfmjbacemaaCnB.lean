/- The contracts of canon.counts, canon.firsts: arrays by their lengths. -/
import Derived.Test.YtgbfkfmjbacemaaCnA
import Derived.Test.YtgbfkfmjbacemaaLib
namespace Go.Proofs.Ytgbfkfmjbacemaa.Cn
open Go.RowKit Go.Proofs.YtgbfkfmjbacemaaW.PrintWords Go.Proofs.YtgbfkfmjbacemaaW.PrintLast Go.Proofs.YtgbfkfmjbacemaaW.PrintMore Go.Proofs.Ytgbfkfmjbacemaa.PCanonReads Go.Proofs.Ytgbfkfmjbacemaa.Lb
attribute [local go_sem] max2_int min2_int max_two min_two
set_option linter.unusedVariables false
set_option linter.unusedSimpArgs false

/-- how often each length stands in a list. -/
def cl (l : List Int) : List Int := (List.range 16).map fun (j : Nat) => ((l.count (j : Int) : Nat) : Int)
theorem cl_length (l : List Int) : (cl l).length = 16 := by simp [cl]
theorem cl_rd (l : List Int) (j : Nat) (h : j < 16) : rd (cl l) j = ((l.count (j : Int) : Nat) : Int) := by
  simp [rd, cl, h]
theorem cl_nil : cl [] = List.replicate 16 0 := by simp [cl]; decide
theorem cl_snoc (l : List Int) (x : Int) (h0 : 0 ≤ x) (h1 : x ≤ 15) : cl (l ++ [x]) = (cl l).set x.toNat (rd (cl l) x + 1) := by
  obtain ⟨n, rfl⟩ := Int.eq_ofNat_of_zero_le h0
  have hn : n < 16 := by omega
  apply List.ext_getElem (by simp [cl])
  intro j hj _
  have hj' : j < 16 := by simpa [cl] using hj
  rw [List.getElem_set]
  simp only [Int.toNat_natCast]
  by_cases e : n = j
  · subst e
    rw [if_pos rfl, cl_rd _ _ hn]
    simp [cl]
  · rw [if_neg e]
    simp only [cl, List.getElem_map, List.getElem_range, List.count_append, List.count_singleton]
    have : ¬ ((n : Int) = (j : Int)) := by omega
    simp [this]
/-- the counts: none of the length 0. -/
def cl0 (l : List Int) : List Int := (cl l).set 0 0

theorem counts_calls (A0 : Option Addr) (c0 : Nat) (l0 : List Int) (w : World) (hr0 : Kd.C (Kd.int .i64) w A0 l0.length l0) (hn : l0.length ≤ 288) (hb : ∀ x ∈ l0, 0 ≤ x ∧ x ≤ 15) :
    Calls Try.prog 34 #[.slice A0 l0.length c0] w fun e w' => e = .returned (.agg (cells .i64 (cl0 l0))) ∧ Below w.heap.size w w' := by
  have HR := Aside0.mk hr0
  have HB := Aside0.mk hb
  clear hr0 hb
  go_enter Try.func34, Try.ntmps34
  go_wp2
  go_loopw [5, 8, 9, 10, 11, 12, 13, 14, 15, 16, 17] (fun v5 v8 v9 v10 v11 v12 v13 v14 v15 v16 v17 w' => ∃ (k : Nat), v8 = .int .i64 k ∧ k ≤ l0.length ∧
      Aside0 (w'.heap[w.heap.size]? = some (.cells (cells .i64 (List.replicate 16 0)) 72 (0, 0))) ∧ Aside0 (w'.heap[w.heap.size + 1]? = some (.cells (cells .i64 (cl (l0.take k))) 72 (0, 0))) ∧ Aside0 (Below w.heap.size w w'))
    (fun _ v8 _ _ _ _ _ _ _ _ _ _ => l0.length - (intOf v8).toNat)
  case atStart =>
    refine ⟨0, rfl, Nat.zero_le _, ⟨?_⟩, ⟨?_⟩, ⟨((Below.refl _ _).alloc (Nat.le_refl _) _).alloc (by simp) _⟩⟩
    · exact (heap_alloc2_old _ _ _)
    · rw [List.take_zero, cl_nil]; exact (heap_alloc2_new _ _ _)
  case round =>
    obtain ⟨k, rfl, hk, H1, H2, H3⟩ := hrel
    by_cases hlt : k < l0.length
    · obtain ⟨ad, e1, hx⟩ := Kd.at_int HR.out (k : Int) (by omega) (by omega)
      cases e1
      rw [Int.toNat_natCast] at hx
      have hx' := pw_cell_below H3.out hx
      clear hx
      have hrd : rd l0 (k : Int) = l0[k] := by simp [rd, hlt]
      obtain ⟨x, hxe⟩ : ∃ x, x = rd l0 (k : Int) := ⟨_, rfl⟩
      have hbx := HB.out l0[k] (List.getElem_mem hlt)
      rw [← hrd, ← hxe] at hbx
      rw [← hxe] at hx'
      obtain ⟨hx0, hx1⟩ := hbx
      have HX := Aside0.mk (hxe.trans hrd)
      clear hxe hrd
      have hc : wr.cell? ⟨w.heap.size + 1, x.toNat, none⟩ = some (.int .i64 (rd (cl (l0.take k)) x)) := by
        rw [blk_cell H2.out]
        exact cells_get _ _ _ hx0 (by rw [cl_length]; omega)
      have hf : wr.frozen? ⟨w.heap.size + 1, x.toNat, none⟩ = false := blk_frozen H2.out _
      have hv : 0 ≤ rd (cl (l0.take k)) x ∧ rd (cl (l0.take k)) x ≤ 288 := by
        obtain ⟨n, rfl⟩ := Int.eq_ofNat_of_zero_le hx0
        rw [cl_rd _ n (by omega)]
        have := List.count_le_length (a := (n : Int)) (l := l0.take k)
        have := List.length_take_le k l0
        omega
      obtain ⟨y, hy⟩ : ∃ y, y = rd (cl (l0.take k)) x := ⟨_, rfl⟩
      rw [← hy] at hc hv
      obtain ⟨hv0, hv1⟩ := hv
      have HY := Aside0.mk hy
      clear hy
      go_wp2
      go_roundw
      case rel =>
        refine ⟨k + 1, by go_num, by omega, ⟨(blk_far H1.out (by simp) _)⟩, ⟨?_⟩, ⟨below_setCell H3.out (by simp) _⟩⟩
        rw [blk_set H2.out, cells_set, List.take_succ_eq_append_getElem hlt, ← HX.out, cl_snoc _ _ hx0 hx1, HY.out]
      case measure => simp [intOf]; omega
    · have hc : wr.cell? ⟨w.heap.size + 1, 0, none⟩ = some (.int .i64 (rd (cl (l0.take k)) 0)) := by
        rw [blk_cell H2.out]
        exact cells_get _ _ 0 (by omega) (by rw [cl_length]; omega)
      have hf : wr.frozen? ⟨w.heap.size + 1, 0, none⟩ = false := blk_frozen H2.out _
      have e : l0.take k = l0 := List.take_of_length_le (by omega)
      have H2' : Aside0 ((wr.setCell ⟨w.heap.size + 1, 0, none⟩ (.int .i64 0)).heap[w.heap.size + 1]? = some (.cells (cells .i64 (cl0 l0)) 72 (0, 0))) := ⟨by
        rw [blk_set H2.out, cells_set, e]; rfl⟩
      have H1' : Aside0 ((wr.setCell ⟨w.heap.size + 1, 0, none⟩ (.int .i64 0)).heap[w.heap.size]? = some (.cells (cells .i64 (List.replicate 16 0)) 72 (0, 0))) := ⟨blk_far H1.out (by simp) _⟩
      have H3' : Aside0 (Below w.heap.size w (wr.setCell ⟨w.heap.size + 1, 0, none⟩ (.int .i64 0))) := ⟨below_setCell H3.out (by simp) _⟩
      clear e
      go_wp2_with (first | (refine wpList_load_row rfl 72 _ rfl (w.heap.size + 1) rfl 72 _ _ _ H2'.out Try.underlying72 rfl (by kernel_rfl) ?_) | (refine wpList_store_row rfl 72 _ _ rfl w.heap.size _ rfl rfl 72 _ H1'.out (by kernel_rfl) (by simp [cells, cl0, cl]) (cells_one _ _) ?_))
      refine bodyPost_ret (results_cell_row rfl _ _ w.heap.size 72 _ _ _ rfl (setRow_heap _ _ _ _ _ _ H1'.out) Try.underlying72 rfl (by kernel_rfl)) rfl ⟨rfl, below_setRow H3'.out (Nat.le_refl _) _⟩
end Go.Proofs.Ytgbfkfmjbacemaa.Cn

/- The contract of canon.Codes. -/
import Derived.Test.YtgbfkfmjbacemaaCnD
namespace Go.Proofs.Ytgbfkfmjbacemaa.Cn
open Go.RowKit Go.Proofs.YtgbfkfmjbacemaaW.PrintWords Go.Proofs.YtgbfkfmjbacemaaW.PrintLast Go.Proofs.YtgbfkfmjbacemaaW.PrintMore Go.Proofs.Ytgbfkfmjbacemaa.PCanonReads Go.Proofs.Ytgbfkfmjbacemaa.Lb
attribute [local go_sem] max2_int min2_int max_two min_two
set_option linter.unusedVariables false
set_option linter.unusedSimpArgs false

/-- the next code of each length, k symbols being done. -/
def nx (ls : List Nat) (k : Nat) : List Int := (List.range 16).map fun (j : Nat) => (CN.first ls j : Int) + (if j = 0 then 0 else ((ls.take k).count j : Int))
theorem nx_length (ls : List Nat) (k : Nat) : (nx ls k).length = 16 := by simp [nx]
theorem nx_rd (ls : List Nat) (k j : Nat) (h : j < 16) : rd (nx ls k) j = (CN.first ls j : Int) + (if j = 0 then 0 else ((ls.take k).count j : Int)) := by simp [rd, nx, h]
theorem nx_zero (ls : List Nat) : nx ls 0 = fl ls 16 := by
  apply List.ext_getElem (by simp [fl, nx])
  intro j hj _
  have : j < 16 := by simpa [nx] using hj
  simp [nx, fl, this]
theorem nx_succ (ls : List Nat) (k : Nat) (h : k < ls.length) (hl : ls[k] ≠ 0) (hl2 : ls[k] ≤ 15) : nx ls (k + 1) = (nx ls k).set ls[k] (rd (nx ls k) (ls[k] : Int) + 1) := by
  apply List.ext_getElem (by simp [nx])
  intro j hj _
  have hj' : j < 16 := by simpa [nx] using hj
  rw [List.getElem_set]
  by_cases e : ls[k] = j
  · rw [if_pos e, nx_rd _ _ _ (by omega), if_neg hl]
    simp only [nx, List.getElem_map, List.getElem_range]
    rw [if_neg (by omega), List.take_succ_eq_append_getElem h, List.count_append]
    simp [e]
    omega
  · rw [if_neg e]
    simp only [nx, List.getElem_map, List.getElem_range]
    rw [List.take_succ_eq_append_getElem h, List.count_append]
    simp [e]
theorem nx_same (ls : List Nat) (k : Nat) (h : k < ls.length) (hl : ls[k] = 0) : nx ls (k + 1) = nx ls k := by
  apply List.ext_getElem (by simp [nx])
  intro j hj _
  simp only [nx, List.getElem_map, List.getElem_range]
  rw [List.take_succ_eq_append_getElem h, List.count_append, hl]
  by_cases e : j = 0
  · rw [if_pos e, if_pos e]
  · rw [if_neg e, if_neg e]
    have : ¬ 0 = j := by omega
    simp [this]
/-- the codes of the symbols below k. -/
def co (ls : List Nat) (k : Nat) : List Int := (List.range ls.length).map fun (s : Nat) => if s < k then (CN.code ls s : Int) else 0
theorem co_length (ls : List Nat) (k : Nat) : (co ls k).length = ls.length := by simp [co]
theorem co_zero (ls : List Nat) : co ls 0 = List.replicate ls.length 0 := by
  apply List.ext_getElem (by simp [co])
  intro j hj _
  simp [co]
theorem co_succ (ls : List Nat) (k : Nat) : co ls (k + 1) = (co ls k).set k (CN.code ls k : Int) := by
  apply List.ext_getElem (by simp [co])
  intro j hj _
  rw [List.getElem_set]
  simp only [co, List.getElem_map, List.getElem_range]
  by_cases e : k = j
  · subst e; rw [if_pos (by omega), if_pos rfl]
  · rw [if_neg e]
    by_cases h2 : j < k
    · rw [if_pos h2, if_pos (by omega)]
    · rw [if_neg h2, if_neg (by omega)]
theorem co_same (ls : List Nat) (k : Nat) (h : CN.code ls k = 0) : co ls (k + 1) = co ls k := by
  apply List.ext_getElem (by simp [co])
  intro j hj _
  simp only [co, List.getElem_map, List.getElem_range]
  by_cases e : k = j
  · subst e; rw [if_pos (by omega), if_neg (by omega), h]; rfl
  · by_cases h2 : j < k
    · rw [if_pos h2, if_pos (by omega)]
    · rw [if_neg h2, if_neg (by omega)]
/-- all codes. -/
def codes (ls : List Nat) : List Int := (List.range ls.length).map fun (s : Nat) => (CN.code ls s : Int)
theorem co_all (ls : List Nat) : co ls ls.length = codes ls := by
  apply List.ext_getElem (by simp [co, codes])
  intro j hj _
  have : j < ls.length := by simpa [co] using hj
  simp [co, codes, this]
theorem ints_ok (ls : List Nat) (hb : ∀ x ∈ ls, x ≤ 15) : ∀ x ∈ ints ls, 0 ≤ x ∧ x ≤ 15 := by
  intro x hx
  obtain ⟨n, hn, rfl⟩ := List.mem_map.1 hx
  have := hb n hn
  omega

set_option maxHeartbeats 1000000 in
theorem codes_fail (A0 : Option Addr) (c0 : Nat) (l0 : List Int) (w : World) (r : Int) (hr : r ≠ 0)
    (hc : Calls Try.prog 20 #[.slice A0 l0.length c0] w fun e w' => e = .returned (.int .i64 r) ∧ Below w.heap.size w w') :
    Calls Try.prog 8 #[.slice A0 l0.length c0] w fun e w' => e = .returned (.tuple #[.slice none 0 0, .int .i64 r]) ∧ Below w.heap.size w w' := by
  have HC := Aside0.mk hc
  clear hc
  have f1 : (r != 0) = true := by simpa using hr
  go_enter Try.func8, Try.ntmps8
  go_wp2_with (go_at_call 20; refine HC.out.mono ?_; rintro e w1 ⟨rfl, hb1⟩)
  go_ret2
  exact ⟨rfl, hb1⟩

set_option maxHeartbeats 1000000 in
theorem codes_good (A0 : Option Addr) (c0 : Nat) (ls : List Nat) (w : World) (hr0 : Kd.C (Kd.int .i64) w A0 (ints ls).length (ints ls)) (hc0 : (ints ls).length ≤ c0) (hn : ls.length ≤ 288) (hb : ∀ x ∈ ls, x ≤ 15) (hk : chk ls = 0) :
    Calls Try.prog 8 #[.slice A0 (ints ls).length c0] w fun e w' => ∃ v, e = .returned (.tuple #[v, .int .i64 0]) ∧ Kd.R (Kd.int .u32) 28 w' w.heap.size (fun _ => True) v (codes ls) ∧ Below w.heap.size w w' := by
  have hkr : CN.kr ls ≤ 32768 := by
    unfold chk at hk
    split at hk
    · assumption
    · cases hk
  have HR := Aside0.mk hr0
  have HB := Aside0.mk hb
  have HK := Aside0.mk hkr
  have HC := Aside0.mk hc0
  have hn' : (ints ls).length ≤ 288 := by rw [ints_length]; exact hn
  have HCK : Aside0 (∀ W, Kd.C (Kd.int .i64) W A0 (ints ls).length (ints ls) → Calls Try.prog 20 #[.slice A0 (ints ls).length c0] W fun e w' => e = .returned (.int .i64 0) ∧ Below W.heap.size W w') :=
    ⟨fun W h => by rw [← hk]; exact check_good A0 c0 ls W h hc0 hn hb⟩
  have hmk := print_make (P := Try.prog) 24 28 .u32 4 Try.underlying24 (by kernel_rfl) (by decide) (ints ls).length (by omega)
  rw [made_cells] at hmk
  clear hr0 hb hkr hk hc0
  go_enter Try.func8, Try.ntmps8
  go_wp2_with (first | (go_at_call 20; refine (HCK.out _ HR.out).mono ?_; rintro e w1 ⟨rfl, hb1⟩; have HB1 := Aside0.mk hb1; clear hb1) | (go_at_call 21; refine (firsts_calls A0 c0 ls _ (Kd.C_below HR.out HB1.out) hn' HB.out HK.out).mono ?_; rintro e w2 ⟨rfl, hb2⟩) | (refine wpList_store_new rfl 53 _ _ rfl rfl rfl (by kernel_rfl) (by simp [cells, fl]) (cells_one _ _) ?_))
  have hW : Below w.heap.size w w2 := HB1.out.trans (hb2.mono HB1.out.size)
  have HW := Aside0.mk hW
  have hz : w.heap.size ≤ w2.heap.size := hW.size
  clear hW hb2 hmk
  go_loopw [7, 8, 21] (fun v7 v8 v21 w' => ∃ (k : Nat), v21 = .int .i64 k ∧ k ≤ ls.length ∧
      Aside0 (w'.heap[w2.heap.size]? = some (.cells (cells .u32 (nx ls k)) 53 (0, 0))) ∧ Aside0 (w'.heap[w2.heap.size + 1]? = some (.cells (cells .u32 (co ls k)) 28 (0, 0))) ∧ Aside0 (Below w.heap.size w w'))
    (fun _ _ v21 _ => ls.length - (intOf v21).toNat)
  case atStart =>
    refine ⟨0, rfl, Nat.zero_le _, ⟨?_⟩, ⟨?_⟩, ⟨(HW.out.alloc hz _).alloc (by simp; omega) _⟩⟩
    · rw [nx_zero]; exact heap_alloc2_old _ _ _
    · rw [co_zero, ← ints_length]; exact heap_alloc2_new _ _ _
  case round =>
    obtain ⟨k, rfl, hkl, H1, H2, H3⟩ := hrel
    by_cases hlt : k < ls.length
    · obtain ⟨ad, e1, hx⟩ := Kd.at_int HR.out (k : Int) (by omega) (by rw [ints_length]; omega)
      cases e1
      rw [Int.toNat_natCast, ints_rd ls k hlt] at hx
      have hx' := pw_cell_below H3.out hx
      clear hx
      have hL15 := HB.out _ (List.getElem_mem hlt)
      have hlt' : k < (ints ls).length := by rw [ints_length]; exact hlt
      by_cases h0 : ls[k] = 0
      · have hcode : CN.code ls k = 0 := by
          unfold CN.code
          rw [if_pos]
          rw [List.getD_eq_getElem?_getD, List.getElem?_eq_getElem hlt, Option.getD_some]
          exact h0
        rw [h0] at hx'
        have HN := Aside0.mk (nx_same ls k hlt h0)
        have HCO := Aside0.mk (co_same ls k hcode)
        clear h0 hcode hL15
        go_wp2
        go_roundw
        case rel => exact ⟨k + 1, by go_num, by omega, ⟨by rw [HN.out]; exact H1.out⟩, ⟨by rw [HCO.out]; exact H2.out⟩, H3⟩
        case measure => simp [intOf]; omega
      · have hd : ls.getD k 0 = ls[k] := by rw [List.getD_eq_getElem?_getD, List.getElem?_eq_getElem hlt, Option.getD_some]
        have hfin := CN.fin_pos_first (ls := ls) (s := k) (by rw [hd]; exact h0)
        have hpw := CN.fin_le_pow HB.out HK.out (l := ls.getD k 0) (by rw [hd]; exact hL15)
        have hp : 2 ^ (ls.getD k 0) ≤ 2 ^ 15 := Nat.pow_le_pow_right (by omega) (by rw [hd]; exact hL15)
        have hcd : CN.code ls k ≤ 32768 := by
          have := hfin.2
          have e15 : (2 : Nat) ^ 15 = 32768 := rfl
          omega
        have hV : rd (nx ls k) (ls[k] : Int) = (CN.code ls k : Int) := by
          rw [nx_rd _ _ _ (by omega), if_neg h0]
          unfold CN.code CN.rank
          rw [hd, if_neg h0]
          omega
        have HN := Aside0.mk (nx_succ ls k hlt h0 hL15)
        rw [hV] at HN
        have HCO := Aside0.mk (co_succ ls k)
        have c1 : wr.cell? ⟨w2.heap.size, ls[k], none⟩ = some (.int .u32 (CN.code ls k : Int)) := by
          rw [blk_cell H1.out, cells_at _ _ _ (by rw [nx_length]; omega), hV]
        have c2 : wr.frozen? ⟨w2.heap.size, ls[k], none⟩ = false := blk_frozen H1.out _
        have c3 : wr.cell? ⟨w2.heap.size + 1, k, none⟩ = some (.int .u32 (rd (co ls k) (k : Int))) := by
          rw [blk_cell H2.out, cells_at _ _ _ (by rw [co_length]; omega)]
        have c4 : wr.frozen? ⟨w2.heap.size + 1, k, none⟩ = false := blk_frozen H2.out _
        have hL0 : 0 < ls[k] := by omega
        generalize hLL : ls[k] = L at *
        have HLL := Aside0.mk hLL
        generalize hcc : CN.code ls k = c at *
        clear hLL hfin hpw hp hV h0 hd hcc
        go_wp2
        go_roundw
        case rel =>
          refine ⟨k + 1, by go_num, by omega, ⟨?_⟩, ⟨?_⟩, ⟨below_setCell (below_setCell H3.out (by simp; omega) _) (by simp; omega) _⟩⟩
          · rw [HN.out, ← cells_set]
            exact blk_set (blk_far H1.out (by simp) _) _ _
          · rw [HCO.out, ← cells_set]
            exact blk_far (blk_set H2.out _ _) (by simp) _
        case measure => simp [intOf]; omega
    · obtain rfl : k = ls.length := by omega
      have hge : ¬ ls.length < (ints ls).length := by rw [ints_length]; omega
      go_wp2
      go_ret2
      refine ⟨_, rfl, ?_, H3.out⟩
      have h2 := H2.out
      rw [co_all] at h2
      have := R_of_blk (ok := fun _ => True) h2 (show w.heap.size ≤ w2.heap.size + 1 by omega) trivial (by simp [codes]; omega)
      have e : (codes ls).length = (ints ls).length := by simp [codes, ints_length]
      rw [e] at this
      exact this
end Go.Proofs.Ytgbfkfmjbacemaa.Cn

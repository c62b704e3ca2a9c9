/- The contract of canon.New. -/
import Derived.Test.YtgbfkfmjbacemaaCnG
import Derived.Deep.RegionLaw
import Derived.Deep.RegionLawGrows
namespace Go.Proofs.Ytgbfkfmjbacemaa.Cn
open Go.RowKit Go.Proofs.YtgbfkfmjbacemaaW.PrintWords Go.Proofs.YtgbfkfmjbacemaaW.PrintLast Go.Proofs.YtgbfkfmjbacemaaW.PrintMore Go.Proofs.Ytgbfkfmjbacemaa.PCanonReads Go.Proofs.Ytgbfkfmjbacemaa.Lb
attribute [local go_sem] max2_int min2_int max_two min_two
set_option linter.unusedVariables false
set_option linter.unusedSimpArgs false

set_option maxHeartbeats 1000000 in
theorem new_fail (A0 : Option Addr) (c0 : Nat) (l0 : List Int) (w : World) (r : Int) (hr : r ≠ 0)
    (hc : Calls Try.prog 8 #[.slice A0 l0.length c0] w fun e w' => e = .returned (.tuple #[.slice none 0 0, .int .i64 r]) ∧ Below w.heap.size w w') :
    Calls Try.prog 9 #[.slice A0 l0.length c0] w fun e w' => e = .returned (.tuple #[.pointer none, .int .i64 r]) ∧ Below w.heap.size w w' := by
  have HC := Aside0.mk hc
  clear hc
  have f1 : (r != 0) = true := by simpa using hr
  go_enter Try.func9, Try.ntmps9
  go_wp2_with (go_at_call 8; refine HC.out.mono ?_; rintro e w1 ⟨rfl, hb1⟩)
  go_ret2
  exact ⟨rfl, hb1⟩

theorem codes_length (ls : List Nat) : (codes ls).length = ls.length := by simp [codes]
theorem codes_slice (A0 : Option Addr) (c0 : Nat) (ls : List Nat) (w : World) (hr0 : Kd.C (Kd.int .i64) w A0 (ints ls).length (ints ls)) (hc0 : (ints ls).length ≤ c0) (hn : ls.length ≤ 288) (hb : ∀ x ∈ ls, x ≤ 15) (hk : chk ls = 0) :
    Calls Try.prog 8 #[.slice A0 (ints ls).length c0] w fun e w' => ∃ A c, e = .returned (.tuple #[.slice A ls.length c, .int .i64 0]) ∧ Aside0 (ls.length ≤ c ∧ Kd.R (Kd.int .u32) 28 w' w.heap.size (fun _ => True) (.slice A ls.length c) (codes ls) ∧ Below w.heap.size w w') :=
  (codes_good A0 c0 ls w hr0 hc0 hn hb hk).mono fun e w' ⟨v, he, hr, hB⟩ => by
    obtain ⟨A, c, hv, hl, _⟩ := Kd.R_reads hr
    rw [codes_length] at hv hl
    subst hv
    exact ⟨A, c, he, ⟨hl, hr, hB⟩⟩
theorem clone_slice (A0 : Option Addr) (c0 : Nat) (l0 : List Int) (w : World) (hr0 : Kd.C (Kd.int .i64) w A0 l0.length l0) (hc0 : l0.length ≤ c0) (hn : l0.length ≤ 1000000) :
    Calls Try.prog 22 #[.slice A0 l0.length c0] w fun e w' => ∃ A c, e = .returned (.slice A l0.length c) ∧ Aside0 (l0.length ≤ c ∧ Kd.R (Kd.int .i64) 3 w' w.heap.size (fun _ => True) (.slice A l0.length c) l0 ∧ Below w.heap.size w w') :=
  (clone_calls A0 c0 l0 w hr0 hc0 hn).mono fun e w' ⟨v, he, hr, hB⟩ => by
    obtain ⟨A, c, hv, hl, _⟩ := Kd.R_reads hr
    subst hv
    exact ⟨A, c, he, ⟨hl, hr, hB⟩⟩

theorem fl_cells (ls : List Nat) : cells .u32 (fl ls 16) = #[.int .u32 (CN.first ls 0 : Int), .int .u32 (CN.first ls 1 : Int), .int .u32 (CN.first ls 2 : Int), .int .u32 (CN.first ls 3 : Int), .int .u32 (CN.first ls 4 : Int), .int .u32 (CN.first ls 5 : Int), .int .u32 (CN.first ls 6 : Int), .int .u32 (CN.first ls 7 : Int), .int .u32 (CN.first ls 8 : Int), .int .u32 (CN.first ls 9 : Int), .int .u32 (CN.first ls 10 : Int), .int .u32 (CN.first ls 11 : Int), .int .u32 (CN.first ls 12 : Int), .int .u32 (CN.first ls 13 : Int), .int .u32 (CN.first ls 14 : Int), .int .u32 (CN.first ls 15 : Int)] := by
  simp [cells, fl, List.range, List.range.loop]

theorem own_keeps {W W1 : World} {B g : Nat} {v : Value} {xs : List Int} {cs : Array Value} {t : Nat} (h : Kd.R (Kd.int .i64) 3 W B (fun _ => True) v xs) (hb : W.heap[g]? = some (.cells cs t (0, 0)))
    (hg : W.drew.grownBy W1 v.ownBlock) (ht : 3 ≠ t) (i : Nat) : W1.cell? ⟨g, i, none⟩ = W.cell? ⟨g, i, none⟩ ∧ W1.heap[g]? = some (.cells cs t (0, 0)) := by
  have h1 := blk_grown (w := W.drew) hb hg (own_ne (Kd.own_of_R h) hb ht)
  exact ⟨by rw [blk_cell h1, blk_cell hb], h1⟩

theorem new_step {W W4 : World} {B g : Nat} {v0 v1 vL v4 : Value} {ls : List Nat} {k : Nat} {vs : List Value} (hk : k < ls.length) (hL : ls[k] ≠ 0) (hL16 : ls[k] < 16)
    (hT : W.heap[g]? = some (.cells (tbl v0 v1 ls vs (lg ls k : Int)).toArray 58 (0, 0))) (hR : Rows16 W B v0 ls k vs) (hv : vs.getD ls[k] (.slice none 0 0) = vL)
    (hr : Kd.R (Kd.int .i64) 3 W4 B (fun _ => True) v4 (ints (sy ls k ls[k]) ++ [(k : Int)])) (hg : W.drew.grownBy W4 vL.ownBlock) (hat : v4.ownBlock = vL.ownBlock ∨ ∃ b, v4.ownBlock = some b ∧ W.drew.heap.size ≤ b)
    (x : Int) (hx : x = (lg ls (k + 1) : Int)) (hC : Kd.R (Kd.int .u32) 28 W B (fun _ => True) v1 (codes ls)) :
    ((W4.setCell ⟨g, 18 + ls[k], none⟩ v4).setCell ⟨g, 34, none⟩ (.int .i64 x)).heap[g]? = some (.cells (tbl v0 v1 ls (vs.set ls[k] v4) (lg ls (k + 1) : Int)).toArray 58 (0, 0)) ∧
      Rows16 ((W4.setCell ⟨g, 18 + ls[k], none⟩ v4).setCell ⟨g, 34, none⟩ (.int .i64 x)) B v0 ls (k + 1) (vs.set ls[k] v4) ∧
      Kd.R (Kd.int .u32) 28 ((W4.setCell ⟨g, 18 + ls[k], none⟩ v4).setCell ⟨g, 34, none⟩ (.int .i64 x)) B (fun _ => True) v1 (codes ls) := by
  subst hv
  have hRL := hR.2.1 ls[k] hL16
  have h4 := (own_keeps hRL hT hg (by decide) 0).2
  have hR4 := hR.step (W1 := W4) hk hL hL16 hr ⟨hg.os, hg.tape, hg.output, hg.size, hg.block⟩ hat
  have hfar : ∀ (q : Nat), q ≠ g → ((W4.setCell ⟨g, 18 + ls[k], none⟩ v4).setCell ⟨g, 34, none⟩ (.int .i64 x)).heap[q]? = W4.heap[q]? := fun q hq => by
    rw [Below.heap_setCell _ ⟨g, 34, none⟩ _ q hq, Below.heap_setCell _ ⟨g, 18 + ls[k], none⟩ _ q hq]
  refine ⟨?_, hR4.grown fun q cs hq => hfar q (fun e => ?_), ?_⟩
  · rw [blk_set (blk_set h4 _ _), tbl_set_row _ hL16 hR.1, tbl_set_long (by rw [List.length_set]; exact hR.1), hx]
  · subst e
    rw [h4] at hq
    injection hq with hq
    injection hq with _ ht
    exact absurd ht (by decide)
  · have ho := Kd.own_of_R hC
    have hne : v1.ownBlock = none ∨ v1.ownBlock ≠ (vs.getD ls[k] (.slice none 0 0)).ownBlock := own_type_ne ho (Kd.own_of_R hRL) (by decide)
    have ho4 : W4.ownsRow B 28 1 v1 (codes ls).length (encs (Value.int .u32) (codes ls)) := own_other (w := W.drew) ho hg hne
    refine Kd.R_of_own (own_move ho4 fun q hq => hfar q fun e => ?_) (fun _ _ => trivial)
    subst e
    exact own_ne ho4 h4 (by decide) hq.symm

set_option maxHeartbeats 2000000 in
set_option maxRecDepth 100000 in
theorem new_good (A0 : Option Addr) (c0 : Nat) (ls : List Nat) (w : World) (hr0 : Kd.C (Kd.int .i64) w A0 (ints ls).length (ints ls)) (hc0 : (ints ls).length ≤ c0) (hn : ls.length ≤ 288) (hb : ∀ x ∈ ls, x ≤ 15) (hk : chk ls = 0) :
    Calls Try.prog 9 #[.slice A0 (ints ls).length c0] w fun e w' => ∃ g, e = .returned (.tuple #[.pointer (some ⟨g, 0, none⟩), .int .i64 0]) ∧ w.heap.size ≤ g ∧ IsT w' g ls ∧ Below w.heap.size w w' := by
  have hkr : CN.kr ls ≤ 32768 := by
    unfold chk at hk
    split at hk
    · assumption
    · cases hk
  have HR := Aside0.mk hr0
  have HB := Aside0.mk hb
  have HK := Aside0.mk hkr
  have HKC := Aside0.mk hk
  have HC := Aside0.mk hc0
  have hn' : (ints ls).length ≤ 288 := by rw [ints_length]; exact hn
  have HN := Aside0.mk hn
  clear hr0 hb hkr hk hc0
  go_enter Try.func9, Try.ntmps9
  go_wp2_with (first | (go_at_call 8; refine (codes_slice A0 c0 ls _ HR.out HC.out HN.out HB.out HKC.out).mono ?_; rintro e w1 ⟨A1, c1, rfl, H1⟩) | (go_at_call 22; refine (clone_slice A0 c0 (ints ls) _ (Kd.C_below HR.out H1.out.2.2) HC.out (by omega)).mono ?_; rintro e w2 ⟨A2, c2, rfl, H2⟩) | (go_at_call 21; refine (firsts_calls A0 c0 ls _ (Kd.C_below (Kd.C_below HR.out H1.out.2.2) H2.out.2.2) hn' HB.out HK.out).mono ?_; rw [fl_cells]; rintro e w3 ⟨rfl, hb3⟩; have H3 := Aside0.mk hb3; clear hb3))
  have hW1 := H1.out.2.2
  have hW2 : Below w.heap.size w w2 := hW1.trans (H2.out.2.2.mono hW1.size)
  have hW3 : Below w.heap.size w w3 := hW2.trans (H3.out.mono hW2.size)
  have HW := Aside0.mk hW3
  have hz : w.heap.size ≤ w3.heap.size := hW3.size
  have HV0 : Aside0 (Kd.R (Kd.int .i64) 3 w3 w.heap.size (fun _ => True) (.slice A2 (ints ls).length c2) (ints ls)) := ⟨Kd.R_below (Kd.R_lower H2.out.2.1 hW1.size) H3.out⟩
  have HV1 : Aside0 (Kd.R (Kd.int .u32) 28 w3 w.heap.size (fun _ => True) (.slice A1 ls.length c1) (codes ls)) := ⟨Kd.R_below (Kd.R_below H1.out.2.1 H2.out.2.2) H3.out⟩
  clear hW1 hW2 hW3
  go_loopw [7, 8, 26] (fun v7 v8 v26 w' => ∃ (k : Nat) (vs : List Value), v26 = .int .i64 k ∧ k ≤ ls.length ∧
      Aside0 (w'.heap[w3.heap.size]? = some (.cells (tbl (.slice A2 (ints ls).length c2) (.slice A1 ls.length c1) ls vs (lg ls k : Int)).toArray 58 (0, 0))) ∧
      Aside0 (Rows16 w' w.heap.size (.slice A2 (ints ls).length c2) ls k vs) ∧ Aside0 (Kd.R (Kd.int .u32) 28 w' w.heap.size (fun _ => True) (.slice A1 ls.length c1) (codes ls)) ∧ Aside0 (Below w.heap.size w w'))
    (fun _ _ v26 _ => ls.length - (intOf v26).toNat)
  case atStart =>
    refine ⟨0, List.replicate 16 (.slice none 0 0), rfl, Nat.zero_le _, ⟨?_⟩, ⟨?_⟩, ⟨Kd.R_alloc HV1.out _⟩, ⟨HW.out.alloc hz _⟩⟩
    · rw [heap_alloc_new]
      simp [tbl, fl, List.range, List.range.loop, lg]
    · exact Rows16.start (Kd.R_alloc HV0.out _)
  case round =>
    obtain ⟨k, vs, rfl, hkl, G1, G2, G3, G4⟩ := hrel
    by_cases hlt : k < ls.length
    · obtain ⟨ad, e1, hx⟩ := Kd.at_int HR.out (k : Int) (by omega) (by rw [ints_length]; omega)
      cases e1
      rw [Int.toNat_natCast, ints_rd ls k hlt] at hx
      have hx' := pw_cell_below G4.out hx
      clear hx
      have hL15 := HB.out _ (List.getElem_mem hlt)
      have hlt' : k < (ints ls).length := by rw [ints_length]; exact hlt
      have HLG := Aside0.mk (lg_succ ls k hlt)
      by_cases h0 : ls[k] = 0
      · have G2' := Aside0.mk (G2.out.same hlt h0)
        rw [h0] at hx' HLG
        clear h0 hL15
        go_wp2
        go_roundw
        case rel => exact ⟨k + 1, vs, by go_num, by omega, ⟨by rw [HLG.out, Nat.max_zero]; exact G1.out⟩, G2', G3, G4⟩
        case measure => simp [intOf]; omega
      · have hL16 : ls[k] < 16 := by omega
        obtain ⟨A3, c3, hv3, hl3, hC3⟩ := Kd.R_reads (G2.out.2.1 ls[k] hL16)
        have hget : vs[ls[k]]? = some (.slice A3 (ints (sy ls k ls[k])).length c3) := by
          have h1 : ls[k] < vs.length := by rw [G2.out.1]; exact hL16
          rw [List.getElem?_eq_getElem h1, ← hv3, List.getD_eq_getElem?_getD, List.getElem?_eq_getElem h1, Option.getD_some]
        have q1 : wr.cell? ⟨w3.heap.size, 18 + ls[k], none⟩ = some (.slice A3 (ints (sy ls k ls[k])).length c3) := by
          rw [blk_cell G1.out, List.getElem?_toArray, tbl_row _ hL16 G2.out.1, hget]
        have q2 : wr.frozen? ⟨w3.heap.size, 18 + ls[k], none⟩ = false := blk_frozen G1.out _
        have q3 : wr.cell? ⟨w3.heap.size, 34, none⟩ = some (.int .i64 (lg ls k : Int)) := by
          rw [blk_cell G1.out, List.getElem?_toArray, tbl_long G2.out.1]
        have q4 : wr.frozen? ⟨w3.heap.size, 34, none⟩ = false := blk_frozen G1.out _
        have hsyl := sy_le ls k ls[k]
        have hR3 := G2.out.2.1 ls[k] hL16
        rw [hv3] at hR3
        have HR3 := Aside0.mk hR3
        have HV3 := Aside0.mk hv3
        have HSY : Aside0 ((ints (sy ls k ls[k])).length ≤ 288) := ⟨by rw [ints_length]; omega⟩
        have hgz : w3.heap.size < wr.heap.size := blk_lt G1.out
        have hL0 : 0 < ls[k] := by omega
        clear hC3 hget hsyl hR3 hv3 hl3
        have hG4 := G4.out.size
        have hLi : ((ls[k] : Nat) : Int) < 16 := by omega
        have HLT := Aside0.mk hlt
        have HL0 : Aside0 (ls[k] ≠ 0) := ⟨h0⟩
        go_wp2
        go_region_law (first | (rw [show (wr.alloc (.cells #[.int .i64 (k : Int)] 3)).drew = wr.drew.alloc (.cells [.int .i64 (k : Int)].toArray 3) from rfl]; (refine R_append_stepE (Kd.int .i64) (w0 := w) w.heap.size rfl (.tmp 40) (.tmp 42) 22 3 (.int .i64 0) 8 rfl Try.underlying22 info_int rfl (by decide) (by omega) (.slice A3 (ints (sy ls k ls[k])).length c3) (ints (sy ls k ls[k])) (k : Int) [.int .i64 (k : Int)] (fun _ => True) (fun _ => False) rfl rfl ?hp (fun _ h => h.elim) (fun _ _ => trivial) ?hO ?hB ?hS ?hl ?_); (case hp => rfl); (case hO => exact Kd.R_drew HR3.out); (case hB => exact below_drew G4.out); (case hS => exact hG4); (case hl => have := HSY.out; omega); intro v4 w4 ho hb hg hat; obtain ⟨A4, c4, hv4, hl4, _⟩ := Kd.R_reads ho; rw [hv4] at ho hat ⊢; have q5 : w4.cell? ⟨w3.heap.size, 18 + ls[k], none⟩ = some (.slice A3 (ints (sy ls k ls[k])).length c3) := (own_keeps HR3.out G1.out hg (by decide) _).1.trans q1; have q6 : w4.frozen? ⟨w3.heap.size, 18 + ls[k], none⟩ = false := blk_frozen (own_keeps HR3.out G1.out hg (by decide) 0).2 _; have q7 : w4.cell? ⟨w3.heap.size, 34, none⟩ = some (.int .i64 (lg ls k : Int)) := (own_keeps HR3.out G1.out hg (by decide) _).1.trans q3; have q8 : w4.frozen? ⟨w3.heap.size, 34, none⟩ = false := blk_frozen (own_keeps HR3.out G1.out hg (by decide) 0).2 _; have HO := Aside0.mk ho; have HBB := Aside0.mk hb; have HGG := Aside0.mk hg; have HAT := Aside0.mk hat; clear ho hb hg hat hv4))
        all_goals go_wp2
        all_goals go_roundw
        all_goals first
          | (simp [intOf]; omega)
          | (have hst := new_step HLT.out HL0.out hL16 G1.out G2.out HV3.out HO.out HGG.out HAT.out (if lg ls k < ls[k] then (ls[k] : Int) else (lg ls k : Int)) (by rw [HLG.out]; split <;> omega) G3.out
             exact ⟨k + 1, _, by go_num, by omega, ⟨by have := hst.1; simpa using this⟩, ⟨by have := hst.2.1; simpa using this⟩, ⟨by have := hst.2.2; simpa using this⟩, ⟨below_setCell (below_setCell HBB.out hz _) hz _⟩⟩)
    · obtain rfl : k = ls.length := by omega
      have hge : ¬ ls.length < (ints ls).length := by rw [ints_length]; omega
      go_wp2
      go_ret2
      refine ⟨_, rfl, hz, ?_, G4.out⟩
      have e := ints_length ls
      have g1 := G1.out
      have g2 := G2.out
      rw [e] at g1 g2
      obtain ⟨_, _, hC0⟩ := Kd.R_reads' g2.2.2.2.2
      obtain ⟨_, _, hC1⟩ := Kd.R_reads' G3.out
      rw [e] at hC0
      rw [codes_length] at hC1
      refine ⟨A2, A1, c2, c1, vs, g1, hC0, hC1, g2.1, fun j hj => ?_⟩
      obtain ⟨A, c, hv, hl, hC⟩ := Kd.R_reads (g2.2.1 j hj)
      rw [ints_length] at hv hl hC
      have h1 : j < vs.length := by rw [g2.1]; exact hj
      refine ⟨A, c, ?_, hl, hC⟩
      rw [List.getElem?_eq_getElem h1, ← hv, List.getD_eq_getElem?_getD, List.getElem?_eq_getElem h1, Option.getD_some]
end Go.Proofs.Ytgbfkfmjbacemaa.Cn

import Derived.Test.YtoamamnbapilhaaDoorSlD
import Derived.Test.YtoamamnbapilhaaDoorXx15
namespace Go.Proofs.YtoamamnbapilhaaDoor.X
open Go.RowKit Go.Proofs.YtoamamnbapilhaaDoorW.PrintWords Go.Proofs.YtoamamnbapilhaaDoorW.PrintLast Go.Proofs.YtoamamnbapilhaaDoorW.PrintMore
set_option linter.unusedVariables false
set_option linter.unusedSimpArgs false
theorem up_all {α : Type} {F : Nat → Option α} (hm : ∀ k, LeO (F k) (F (k + 1))) {r : α} {k : Nat} (h : F k = some r) : Ev F r := by
  have up : ∀ d, F (k + d) = some r := by
    intro d
    induction d with
    | zero => exact h
    | succ d ih => exact hm _ _ ih
  exact ⟨k, fun q hq => by have := up (q - k); rwa [show k + (q - k) = q from by omega] at this⟩
theorem alive_200 : footlockerlaw24_alive.f 200 = some true := by kernel_rfl
theorem alive_ev : Ev (fun q => footlockerlaw24_alive.f q) true := up_all (fun k => footlockerlaw24_alive.mono k) alive_200
theorem writes_j2 (n k s b idx : Int) (sums : List (List Int)) (cols : List (List Int)) (hf : fewCols cols) : Ev (fun q => footlockerlaw24_SealWrites.j2 q cols false n k s b idx sums) true := by
  cases hR : Rt n k s b with
  | true =>
    have h2 := Rt_iff.1 hR
    have hsame := sameSums_ev (cols.map fun c => blocksOf c b) (by rw [List.length_map]; have := hf.1; omega) (by
      intro l hl
      obtain ⟨c, hc, rfl⟩ := List.mem_map.1 hl
      have h3 := (hf.2 c hc).1
      unfold blocksOf
      rw [List.length_map, List.length_range]
      have : cnt c.length b.toNat ≤ c.length := by
        unfold cnt
        have hb' : 1 ≤ b.toNat := by omega
        have : c.length + b.toNat - 1 < (c.length + 1) * b.toNat := by
          have := Nat.mul_le_mul_left c.length hb'
          rw [Nat.add_mul]
          omega
        exact Nat.lt_succ_iff.1 (Nat.div_lt_of_lt_mul (by rw [Nat.mul_comm]; exact this))
      omega)
    have w1 := Ev.bind (G := fun t _ => some t) hsame (Ev.pure fun _ => rfl)
    have w2 := Ev.bind (G := fun t489 q => (footlockerref24_SameSums.f q (cols.map fun c => blocksOf c b) t489).bind fun t492 => some t492) (ref_sums_ev (b := b) (by omega) (by omega) cols hf) w1
    have w3 := Ev.bind (G := fun t486 q => (footlockerref24_Sums.f q cols b).bind fun t489 => (footlockerref24_SameSums.f q t486 t489).bind fun t492 => some t492) (sums_ev hR cols hf) w2
    refine Ev.stepBind2 (G := fun q t485 => if (wrap64 (24 + (wrap64 ((wrap64 (4 * (wrap64 (n + k)))) * ((blk s b : Nat) : Int))))) = t485 then ((seal_Sums.f q cols n k s b).bind fun t486 => ((footlockerref24_Sums.f q cols b).bind fun t489 => ((footlockerref24_SameSums.f q t486 t489).bind fun t492 => (some t492)))) else none) (ref_head hR) w3 (fun q => ?_) (fun q => by rw [if_pos rfl])
    simp only [footlockerlaw24_SealWrites.j2, ref_right_eq, hR, Option.bind_some, if_true, head_eq hR]
    rw [if_neg (by simp)]
  | false =>
    have w1 := Ev.bind (G := fun t481 _ => some ((t481.length : Int) == 0)) (sums_not hR cols) (Ev.pure (r := true) fun _ => rfl)
    refine Ev.step w1 fun q => ?_
    simp only [footlockerlaw24_SealWrites.j2, ref_right_eq, hR, Option.bind_some, head_not hR]
    rw [if_neg (by simp), if_neg (by simp), if_pos trivial]
theorem writes_j1 (n k s b idx : Int) (sums : List (List Int)) (col : List Int) (cols : List (List Int)) (hs : few sums) (hcol : col.length ≤ 100000000) (hf : fewCols cols) : Ev (fun q => footlockerlaw24_SealWrites.j1 q col cols false n k s b idx sums) true := by
  have hlen : (writeOf n k s b idx sums col).1.length < 9223372036854775807 := by
    unfold writeOf
    split
    · have := lay_all hs
      simp only [List.length_append, outOf, kBQ, layOf_length]
      simp only [List.length_cons, List.length_nil]
      omega
    · simp
  have w0 := Ev.bind (G := fun t477 q => footlockerlaw24_SealWrites.j2 q cols (!t477) n k s b idx sums) (same_ev _ hlen) (writes_j2 n k s b idx sums cols hf)
  have w1 := Ev.bind2 (F := fun q => (footlockerref24_Write.f q n k s b idx sums col).bind fun bt473 => (if (writeOf n k s b idx sums col).2 = bt473.2 then ((footlockerref01_Same.f q (writeOf n k s b idx sums col).1 bt473.1).bind fun t477 => (footlockerlaw24_SealWrites.j2 q cols (!t477) n k s b idx sums)) else (footlockerlaw24_SealWrites.j2 q cols true n k s b idx sums))) (G := fun q bt473 => (if (writeOf n k s b idx sums col).2 = bt473.2 then ((footlockerref01_Same.f q (writeOf n k s b idx sums col).1 bt473.1).bind fun t477 => (footlockerlaw24_SealWrites.j2 q cols (!t477) n k s b idx sums)) else (footlockerlaw24_SealWrites.j2 q cols true n k s b idx sums))) (ref_write_ev n k s b idx sums hs col hcol) w0 (fun q => rfl) (fun q => by rw [if_pos rfl])
  refine Ev.stepBind2 (G := fun q bt461 => (footlockerref24_Write.f q n k s b idx sums col).bind fun bt473 => (if bt461.2 = bt473.2 then ((footlockerref01_Same.f q bt461.1 bt473.1).bind fun t477 => (footlockerlaw24_SealWrites.j2 q cols (!t477) n k s b idx sums)) else (footlockerlaw24_SealWrites.j2 q cols true n k s b idx sums))) (write_ev n k s b idx sums hs col hcol) w1 (fun q => ?_) (fun q => rfl)
  simp only [footlockerlaw24_SealWrites.j1, footlockerlaw24_as.f, Option.bind_some]
  rw [if_neg (by simp)]
theorem writes_true (n k s b idx : Int) (sums : List (List Int)) (col : List Int) (cols : List (List Int)) (hs : sums.length ≤ 9223372036854775807) (hcl : cols.length ≤ 9223372036854775807) (hby : ∀ c ∈ cols, ∀ x ∈ c, isByte x) :
    Ev (fun q => footlockerlaw24_SealWrites.f q n k s b idx sums col cols) true := by
  have yes : Ev (fun q => footlockerlaw24_SealWrites.j1 q col cols true n k s b idx sums) true := Ev.done fun q => rfl
  have key : ∀ d i, cols.length = i + d → (∀ c ∈ cols.take i, c.length ≤ 200) → Ev (fun q => footlockerlaw24_SealWrites.l0 q col cols cols (cols.length : Int) (i : Int) n k s b idx sums) true := by
    intro d
    induction d with
    | zero =>
      intro i hi hall
      rw [List.take_of_length_le (by omega)] at hall
      have hsm := small_ev n k s b idx sums hs
      cases hS : smallOf n k s b sums with
      | false =>
        rw [hS] at hsm
        refine Ev.stepBind2 (G := fun q t460 => if t460 = true then (if (col.length : Int) > 1100 then (footlockerlaw24_SealWrites.j1 q col cols true n k s b idx sums) else (footlockerlaw24_SealWrites.j1 q col cols (decide ((cols.length : Int) > 20)) n k s b idx sums)) else (footlockerlaw24_SealWrites.j1 q col cols true n k s b idx sums)) hsm yes (fun q => ?_) (fun q => by rw [if_neg (by simp)])
        simp only [footlockerlaw24_SealWrites.l0]
        rw [if_neg (by omega)]
      | true =>
        rw [hS] at hsm
        unfold smallOf at hS
        simp only [Bool.and_eq_true, List.all_eq_true, decide_eq_true_eq] at hS
        have hfew : few sums := ⟨by omega, fun row hr => by have := hS.1 row hr; omega⟩
        by_cases c1 : (col.length : Int) > 1100
        · refine Ev.stepBind2 (G := fun q t460 => if t460 = true then (if (col.length : Int) > 1100 then (footlockerlaw24_SealWrites.j1 q col cols true n k s b idx sums) else (footlockerlaw24_SealWrites.j1 q col cols (decide ((cols.length : Int) > 20)) n k s b idx sums)) else (footlockerlaw24_SealWrites.j1 q col cols true n k s b idx sums)) hsm yes (fun q => ?_) (fun q => by rw [if_pos rfl, if_pos c1])
          simp only [footlockerlaw24_SealWrites.l0]
          rw [if_neg (by omega)]
        · have hrest : Ev (fun q => footlockerlaw24_SealWrites.j1 q col cols (decide ((cols.length : Int) > 20)) n k s b idx sums) true := by
            by_cases c2 : (cols.length : Int) > 20
            · rw [decide_eq_true c2]; exact yes
            · rw [decide_eq_false c2]
              exact writes_j1 n k s b idx sums col cols hfew (by omega) ⟨by omega, fun c hc => ⟨by have := hall c hc; omega, hby c hc⟩⟩
          refine Ev.stepBind2 (G := fun q t460 => if t460 = true then (if (col.length : Int) > 1100 then (footlockerlaw24_SealWrites.j1 q col cols true n k s b idx sums) else (footlockerlaw24_SealWrites.j1 q col cols (decide ((cols.length : Int) > 20)) n k s b idx sums)) else (footlockerlaw24_SealWrites.j1 q col cols true n k s b idx sums)) hsm hrest (fun q => ?_) (fun q => by rw [if_pos rfl, if_neg c1])
          simp only [footlockerlaw24_SealWrites.l0]
          rw [if_neg (by omega)]
    | succ d ih =>
      intro i hi hall
      have hlt : i < cols.length := by omega
      by_cases c : cols[i].length ≤ 200
      · refine Ev.step (ih (i + 1) (by omega) ?_) fun q => ?_
        · intro x hx
          rw [List.take_add_one, List.getElem?_eq_getElem hlt, List.mem_append] at hx
          rcases hx with hx | hx
          · exact hall x hx
          · have : x = cols[i] := by simpa using hx
            rw [this]; exact c
        · simp only [footlockerlaw24_SealWrites.l0]
          rw [if_pos (by omega), if_pos (by omega), if_pos (by omega), rdL8_get _ _ hlt, if_neg (by omega), wn i (by omega)]
      · refine Ev.done fun q => ?_
        simp only [footlockerlaw24_SealWrites.l0]
        rw [if_pos (by omega), if_pos (by omega), if_pos (by omega), rdL8_get _ _ hlt, if_pos (by omega)]
  refine Ev.bind2 (G := fun q t458 => if t458 = true then (footlockerlaw24_SealWrites.l0 q col cols cols (cols.length : Int) 0 n k s b idx sums) else none) alive_ev (key cols.length 0 (by omega) (by simp)) (fun q => rfl) (fun q => by rw [if_pos rfl]; rfl)
end Go.Proofs.YtoamamnbapilhaaDoor.X

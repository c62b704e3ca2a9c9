/- The walk of CanonOrders at whatever list; a slice of ints that came in, as a list. -/
import Derived.Test.YtgbfkfmjbacemaaCnN
import Derived.RowKit3
namespace Go.Proofs.Ytgbfkfmjbacemaa.Cn
open Go.RowKit Go.Proofs.YtgbfkfmjbacemaaW.PrintWords Go.Proofs.YtgbfkfmjbacemaaW.PrintLast Go.Proofs.YtgbfkfmjbacemaaW.PrintMore Go.Proofs.Ytgbfkfmjbacemaa.PCanonReads Go.Proofs.Ytgbfkfmjbacemaa.Lb

/-- what a row says of a slice of whole numbers that came in. -/
theorem row_C {k : IntKind} {w : World} {a : Option Addr} {len cap : Nat} {zs : List Int}
    (h : (a = none ∧ len = 0 ∧ cap = 0 ∧ zs = []) ∨ ∃ x, a = some x ∧ len ≤ cap ∧ cap ≤ maxLen ∧ zs.length = cap ∧ (∀ i, i < zs.length → w.cell? (x.add i) = some (.int k (zs.getD i 0))) ∧ ∀ n ∈ zs, (Lit.int k n).wf = true) :
    Kd.C (Kd.int k) w a (zs.take len).length (zs.take len) ∧ (zs.take len).length = len ∧ len ≤ cap ∧ ∀ n ∈ zs.take len, (Lit.int k n).wf = true := by
  rcases h with ⟨rfl, rfl, rfl, rfl⟩ | ⟨x, rfl, hl, hm, hz, hc, hw⟩
  · exact ⟨Kd.C_nil _ _, rfl, Nat.le_refl _, by simp⟩
  · have hlen : (zs.take len).length = len := by rw [List.length_take]; omega
    unfold maxLen at hm
    refine ⟨?_, hlen, hl, fun n hn => hw n (List.mem_of_mem_take hn)⟩
    rw [hlen]
    refine Kd.C_of_reads (d := 0) ⟨hlen, by omega, fun _ => ⟨x, rfl, fun j hj => ?_⟩⟩
    rw [hc j (by omega)]
    congr 2
    rw [List.getD_eq_getElem?_getD, List.getD_eq_getElem?_getD, List.getElem?_take, if_pos hj]

theorem orders_all (A0 : Option Addr) (c0 : Nat) (l0 : List Int) (w : World) (hr0 : Kd.C (Kd.int .i64) w A0 l0.length l0) (hc0 : l0.length ≤ c0) :
    Calls Try.prog 3 #[.slice A0 l0.length c0] w fun e w' => e = .returned (.bool true) ∧ Below w.heap.size w w' := by
  by_cases hl : 300 < l0.length
  · exact orders_long A0 c0 l0 w hl
  · rcases list_cases l0 with hbad | ⟨ls, rfl, hb, hn⟩
    · exact orders_fail A0 c0 l0 w (by omega) 1 (by decide) fun W hW => codes_fail A0 c0 l0 W 1 (by decide) (check_bad A0 c0 l0 W (Kd.C_below hr0 hW) hbad)
    · by_cases hk : chk ls = 0
      · exact orders_good A0 c0 ls w hr0 hc0 hn hb hk
      · exact orders_fail A0 c0 (ints ls) w (by omega) _ hk fun W hW => codes_fail A0 c0 (ints ls) W _ hk (check_good A0 c0 ls W (Kd.C_below hr0 hW) hc0 hn hb)
end Go.Proofs.Ytgbfkfmjbacemaa.Cn

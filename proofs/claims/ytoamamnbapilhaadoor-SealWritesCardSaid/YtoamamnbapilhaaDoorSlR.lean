import Derived.Test.YtoamamnbapilhaaDoorRows
import Derived.Test.YtoamamnbapilhaaDoorXx3
import Derived.ProofKit
import Derived.OpenShut
import Derived.ShutString
import Derived.ChangeOld
import Derived.ChangeVars
import Derived.ChangeSame
import Derived.ChangeBears2
import Derived.JoinedOf
import Derived.Below
import Derived.Deep.Matrix
import Derived.Deep.Strs
import Derived.Lib.SmallJoins
import Derived.Stop.LaidErr
namespace Go.Proofs.YtoamamnbapilhaaDoor.SealRow
open Go.ChangeShapes Go.WideShapes Go.ChangeAt Go.RowKit Go.Deep
open Go.Proofs.YtoamamnbapilhaaDoorW.PrintWords Go.Proofs.YtoamamnbapilhaaDoor.X
set_option linter.unusedVariables false
set_option linter.unusedSimpArgs false
theorem own : ownKnob Tryd.prog.godebug = none := by kernel_rfl
theorem laidOut : laidOutB Tryd.prog = true := by kernel_rfl
theorem gN : Tryd.prog.globalNamed "footlocker/crc.nibbles" = some 0 := by kernel_rfl
theorem gNType : (Tryd.prog.globals[0]?).map (·.type) = some 95 := by kernel_rfl
theorem under95 : Tryd.prog.underlying 95 = some (.array 16 54) := by kernel_rfl
theorem cells95 : Tryd.prog.cellsOf 95 = 16 := by kernel_rfl
theorem cells54 : Tryd.prog.cellsOf 54 = 1 := by kernel_rfl
theorem cells56 : Tryd.prog.cellsOf 56 = 1 := by kernel_rfl
theorem cells5 : Tryd.prog.cellsOf 5 = 1 := by kernel_rfl
theorem cells27 : Tryd.prog.cellsOf 27 = 1 := by kernel_rfl
theorem cells3 : Tryd.prog.cellsOf 3 = 1 := by kernel_rfl
theorem cells24 : Tryd.prog.cellsOf 24 = 1 := by kernel_rfl
theorem cells23 : Tryd.prog.cellsOf 23 = 4 := by kernel_rfl
theorem cells26 : Tryd.prog.cellsOf 26 = 6 := by kernel_rfl
theorem int_of_trod {H : Type} {enc : TypeId × Value → H} {P : Program} {w : World} {base : Nat} {sp : Nat → Bool} {held : Bool} {fuel : Nat} {t : TypeId} {k : IntKind} {c : Value} {y : DataW H × List MemPlace}
    (ht : P.underlying t = some (.int k)) (h : DataW.trod enc P w base sp held fuel t [c] = some y) : ∃ n, c = .int k n ∧ y = (.lit (.int k n), []) := by
  cases fuel with
  | zero => simp [DataW.trod] at h
  | succ fuel =>
    cases c <;> simp [DataW.trod, ht] at h
    rename_i k' n
    obtain ⟨⟨rfl, _⟩, rfl⟩ := h
    exact ⟨n, rfl, rfl⟩
def cells16 : Array Value := #[.int .u32 0, .int .u32 498536548, .int .u32 997073096, .int .u32 651767980, .int .u32 1994146192, .int .u32 1802195444, .int .u32 1303535960, .int .u32 1342533948, .int .u32 3988292384, .int .u32 4027552580, .int .u32 3604390888, .int .u32 3412177804, .int .u32 2607071920, .int .u32 2262029012, .int .u32 2685067896, .int .u32 3183342108]
abbrev laid : List (String × DataW Unit) := [("footlocker/crc.nibbles", Rows.laid_footlocker_crc_nibbles)]
set_option maxRecDepth 100000 in
set_option maxHeartbeats 4000000 in
theorem cells_of_laid {W : World} (h : laidMet Tryd.prog laid W) : W.var? Tryd.prog "footlocker/crc.nibbles" = some cells16 := by
  obtain ⟨ps, ⟨g, t, cs, fuel, p, q, hg, ht, hvar, hd, _, _⟩, _⟩ := h
  obtain rfl := Option.some.inj (gN.symm.trans hg)
  obtain rfl := Option.some.inj (gNType.symm.trans ht)
  rw [hvar]
  congr 1
  obtain ⟨l⟩ := cs
  cases fuel with
  | zero => simp [DataW.trod] at hd
  | succ fuel =>
    simp only [DataW.trod, under95, cells95, cells54] at hd
    split at hd
    · rename_i hl
      obtain ⟨c0, c1, c2, c3, c4, c5, c6, c7, c8, c9, c10, c11, c12, c13, c14, c15, rfl⟩ : ∃ c0 c1 c2 c3 c4 c5 c6 c7 c8 c9 c10 c11 c12 c13 c14 c15, l = [c0, c1, c2, c3, c4, c5, c6, c7, c8, c9, c10, c11, c12, c13, c14, c15] := by
        match l, hl with
        | [a0, a1, a2, a3, a4, a5, a6, a7, a8, a9, a10, a11, a12, a13, a14, a15], _ => exact ⟨a0, a1, a2, a3, a4, a5, a6, a7, a8, a9, a10, a11, a12, a13, a14, a15, rfl⟩
      have e : List.range 16 = [0, 1, 2, 3, 4, 5, 6, 7, 8, 9, 10, 11, 12, 13, 14, 15] := rfl
      rw [e] at hd
      simp only [Option.map_eq_some_iff, List.mapM_cons, List.mapM_nil, Option.bind_eq_bind, Option.bind_eq_some_iff, Option.pure_def, Option.some.injEq] at hd
      obtain ⟨xs, ⟨y0, h0, _, ⟨y1, h1, _, ⟨y2, h2, _, ⟨y3, h3, _, ⟨y4, h4, _, ⟨y5, h5, _, ⟨y6, h6, _, ⟨y7, h7, _, ⟨y8, h8, _, ⟨y9, h9, _, ⟨y10, h10, _, ⟨y11, h11, _, ⟨y12, h12, _, ⟨y13, h13, _, ⟨y14, h14, _, ⟨y15, h15, _, rfl, rfl⟩, rfl⟩, rfl⟩, rfl⟩, rfl⟩, rfl⟩, rfl⟩, rfl⟩, rfl⟩, rfl⟩, rfl⟩, rfl⟩, rfl⟩, rfl⟩, rfl⟩, rfl⟩, hx⟩ := hd
      obtain ⟨n0, rfl, rfl⟩ := int_of_trod Tryd.underlying54 h0
      obtain ⟨n1, rfl, rfl⟩ := int_of_trod Tryd.underlying54 h1
      obtain ⟨n2, rfl, rfl⟩ := int_of_trod Tryd.underlying54 h2
      obtain ⟨n3, rfl, rfl⟩ := int_of_trod Tryd.underlying54 h3
      obtain ⟨n4, rfl, rfl⟩ := int_of_trod Tryd.underlying54 h4
      obtain ⟨n5, rfl, rfl⟩ := int_of_trod Tryd.underlying54 h5
      obtain ⟨n6, rfl, rfl⟩ := int_of_trod Tryd.underlying54 h6
      obtain ⟨n7, rfl, rfl⟩ := int_of_trod Tryd.underlying54 h7
      obtain ⟨n8, rfl, rfl⟩ := int_of_trod Tryd.underlying54 h8
      obtain ⟨n9, rfl, rfl⟩ := int_of_trod Tryd.underlying54 h9
      obtain ⟨n10, rfl, rfl⟩ := int_of_trod Tryd.underlying54 h10
      obtain ⟨n11, rfl, rfl⟩ := int_of_trod Tryd.underlying54 h11
      obtain ⟨n12, rfl, rfl⟩ := int_of_trod Tryd.underlying54 h12
      obtain ⟨n13, rfl, rfl⟩ := int_of_trod Tryd.underlying54 h13
      obtain ⟨n14, rfl, rfl⟩ := int_of_trod Tryd.underlying54 h14
      obtain ⟨n15, rfl, rfl⟩ := int_of_trod Tryd.underlying54 h15
      simp [Rows.laid_footlocker_crc_nibbles] at hx
      obtain ⟨⟨rfl, rfl, rfl, rfl, rfl, rfl, rfl, rfl, rfl, rfl, rfl, rfl, rfl, rfl, rfl, rfl⟩, _⟩ := hx
      rfl
    · cases hd
theorem glob_of_laid {W : World} (h : laidMet Tryd.prog laid W) : Glob W := by
  have hv := cells_of_laid h
  have hc : ∀ i : Nat, i < 16 → W.cell? ⟨0, i, none⟩ = some (.int .u32 (nibAt i)) := by
    intro i hi
    rw [World.var?_cell gN hv i]
    have : ∀ j, j < 16 → cells16[j]? = some (Value.int .u32 (nibAt j)) := by
      intro j hj
      match j, hj with
      | 0, _ => rfl
      | 1, _ => rfl
      | 2, _ => rfl
      | 3, _ => rfl
      | 4, _ => rfl
      | 5, _ => rfl
      | 6, _ => rfl
      | 7, _ => rfl
      | 8, _ => rfl
      | 9, _ => rfl
      | 10, _ => rfl
      | 11, _ => rfl
      | 12, _ => rfl
      | 13, _ => rfl
      | 14, _ => rfl
      | 15, _ => rfl
      | j + 16, hj => exact absurd hj (by omega)
    exact this i hi
  exact ⟨World.block_lt_of_cell? _ _ (hc 0 (by decide)), hc⟩
noncomputable def laidWorld (os : Os) : World :=
  { World.holding Tryd.prog os ⟨#[], #[], []⟩ with heap := (World.holding Tryd.prog os ⟨#[], #[], []⟩).heap.modify 0 fun
      | .cells _ t frozen => .cells cells16 t frozen
      | o => o }
theorem laidWorld_met (os : Os) (args : Array Value) : laidMet Tryd.prog laid ((laidWorld os).forCall (fun _ _ => 0) ⟨#[], args, []⟩).memory :=
  laidMet_of_run (ps := (List.range 16).map fun i => .cell 0 i) 8 (by kernel_rfl) (by kernel_rfl) (by kernel_rfl)
theorem rows_C {k : IntKind} {e : Nat} {w : World} {a : Addr} {len cap : Nat} {A : Nat → Option Addr} {L C : Nat → Nat} {Z : Nat → List Int} (hl : len ≤ cap) (hm : cap ≤ maxLen)
    (h : ∀ r, r < cap → w.cell? (a.add r) = some (.slice (A r) (L r) (C r)) ∧ L r ≤ C r ∧ C r ≤ maxLen ∧ (Z r).length = C r ∧ (∀ n ∈ Z r, (Lit.int k n).wf = true) ∧ (A r = none → C r = 0) ∧
        ∀ a', A r = some a' → 0 ≤ a'.block ∧ ∀ c, c < C r → w.cell? (a'.add c) = some (.int k ((Z r).getD c 0))) :
    ∃ ls : List (List Int), ls.length = len ∧ Kd.C (Kd.slice e (Kd.int k)) w (some a) ls.length ls ∧ ∀ l ∈ ls, ∀ n ∈ l, (Lit.int k n).wf = true := by
  unfold maxLen at hm h
  have hrow : ∀ r, r < cap → Kd.C (Kd.int k) w (A r) (L r) ((Z r).take (L r)) := by
    intro r hr
    obtain ⟨_, h1, h2, h3, _, h5, h6⟩ := h r hr
    refine Kd.C_of_reads (d := 0) ⟨by rw [List.length_take]; omega, by omega, fun hp => ?_⟩
    cases hA : A r with
    | none => have := h5 hA; omega
    | some x =>
      refine ⟨x, rfl, fun j hj => ?_⟩
      rw [(h6 x hA).2 j (by omega)]
      congr 2
      rw [List.getD_eq_getElem?_getD, List.getD_eq_getElem?_getD, List.getElem?_take, if_pos hj]
  refine ⟨(List.range len).map fun r => (Z r).take (L r), by simp, ⟨rfl, by simp; omega, fun _ => ⟨a, rfl, fun j p hj => ?_⟩⟩, ?_⟩
  · rw [List.getElem?_map] at hj
    obtain ⟨r, hr, rfl⟩ := Option.map_eq_some_iff.1 hj
    have hjl : j < len := by
      have := (List.getElem?_eq_some_iff.1 hr).1
      simpa using this
    have hre : r = j := by
      rw [List.getElem?_range hjl] at hr
      exact (Option.some.inj hr).symm
    subst hre
    obtain ⟨h0, h1, h2, h3, _⟩ := h r (by omega)
    have hlen : ((Z r).take (L r)).length = L r := by rw [List.length_take]; omega
    refine ⟨[.slice (A r) (L r) (C r)], rfl, ⟨A r, C r, by rw [hlen], by rw [hlen]; exact h1, ?_⟩, fun i u hu => ?_⟩
    · rw [hlen]; exact hrow r (by omega)
    · match i, hu with
      | 0, hu =>
        obtain rfl := Option.some.inj hu
        rw [show r * (Kd.slice e (Kd.int k)).sz + 0 = r from by show r * 1 + 0 = r; omega]
        exact h0
  · intro l hlm n hn
    obtain ⟨r, hr, rfl⟩ := List.mem_map.1 hlm
    have hrl := List.mem_range.1 hr
    exact (h r (by omega)).2.2.2.2.1 n (List.mem_of_mem_take hn)
theorem open_rows {H : Type} {enc : TypeId × Value → H} {W : World} {t e q : TypeId} {k : IntKind} {fuel : Nat} {cs : List Value} {x : DataW H × List MemPlace} (ht : Tryd.prog.underlying t = some (.slice e)) (he : Tryd.prog.underlying e = some (.slice q)) (hq : Tryd.prog.underlying q = some (.int k))
    (ce : Tryd.prog.cellsOf e = 1) (cq : Tryd.prog.cellsOf q = 1) (h : DataW.trod enc Tryd.prog W 0 (fun _ => true) true fuel t cs = some x) :
    ∃ (A : Option Addr) (c : Nat) (ls : List (List Int)), cs = [.slice A ls.length c] ∧ ls.length ≤ c ∧ c ≤ 9223372036854775807 ∧ Kd.C (Kd.slice q (Kd.int k)) W A ls.length ls ∧ (∀ l ∈ ls, ∀ n ∈ l, (Lit.int k n).wf = true) := by
  rcases open_int_rows ht he hq ce cq h with ⟨rfl, _⟩ | ⟨a, len, cap, A, L, C, Z, rfl, _, hl, hm, _, hr⟩
  · exact ⟨none, 0, [], rfl, Nat.le_refl _, by omega, Kd.C_nil _ _, by simp⟩
  · obtain ⟨ls, e1, e2, e3⟩ := rows_C (e := q) hl hm hr
    unfold maxLen at hm
    exact ⟨some a, cap, ls, by rw [e1], by omega, hm, e2, e3⟩
theorem open_bytes {H : Type} {enc : TypeId × Value → H} {W : World} {fuel : Nat} {cs : List Value} {x : DataW H × List MemPlace} (h : DataW.trod enc Tryd.prog W 0 (fun _ => true) true fuel 27 cs = some x) :
    ∃ (A : Option Addr) (c : Nat) (l : List Int), cs = [.slice A l.length c] ∧ l.length ≤ c ∧ c ≤ 9223372036854775807 ∧ Kd.C (Kd.int .u8) W A l.length l ∧ (∀ n ∈ l, (Lit.int .u8 n).wf = true) := by
  rcases open_ints Tryd.underlying27 Tryd.underlying5 (by kernel_rfl) h with ⟨rfl, _⟩ | ⟨x, len, c, zs, rfl, _, hl, hm, hz, _, hcell, hwz⟩
  · exact ⟨none, 0, [], rfl, Nat.le_refl _, by omega, Kd.C_nil _ _, by simp⟩
  · unfold maxLen at hm
    simp only [if_true] at hz
    have hlen : (zs.take len).length = len := by rw [List.length_take]; omega
    refine ⟨some x, c, zs.take len, by rw [hlen], by omega, hm, ?_, fun n hn => hwz n (List.mem_of_mem_take hn)⟩
    rw [hlen]
    refine Kd.C_of_reads (d := 0) ⟨hlen, by omega, fun _ => ⟨x, rfl, fun j hj => ?_⟩⟩
    rw [hcell j (by omega)]
    congr 2
    rw [List.getD_eq_getElem?_getD, List.getD_eq_getElem?_getD, List.getElem?_take, if_pos hj]
theorem open_seal {H : Type} {enc : TypeId × Value → H} {W : World} {v : Value} {b0 : Nat} {d : DataW H} {p : List MemPlace} (hv : Value.okWide Tryd.prog W .any b0 26 v) (h : DataW.Trod enc Tryd.prog W 0 (fun _ => true) true 26 v d p) :
    ∃ (n k s b idx : Int) (A : Option Addr) (c : Nat) (ls : List (List Int)), v = .agg #[.int .i64 n, .int .i64 k, .int .i64 s, .int .i64 b, .int .i64 idx, .slice A ls.length c] ∧ ls.length ≤ c ∧ c ≤ 9223372036854775807 ∧ Kd.C (Kd.slice 54 (Kd.int .u32)) W A ls.length ls := by
  obtain ⟨cs, rfl, hsz⟩ := okWide_struct Tryd.underlying26 hv
  rw [cells26] at hsz
  obtain ⟨l⟩ := cs
  match l, hsz with
  | [c0, c1, c2, c3, c4, c5], _ =>
  obtain ⟨fuel, hf⟩ := h
  obtain ⟨y0, y1, y2, m, _, _, hy0, hy1, hy2⟩ := trod_struct3 Tryd.underlying26 hf
  simp [Value.cells, cells23, cells3, cells24] at hy0 hy1 hy2
  obtain ⟨z0, z1, z2, z3, m2, _, _, hz0, hz1, hz2, hz3⟩ := Go.Joins.trod_struct4 Tryd.underlying23 hy0
  simp [cells3] at hz0 hz1 hz2 hz3
  obtain ⟨n, rfl, _⟩ := int_of_trod Tryd.underlying3 hz0
  obtain ⟨k, rfl, _⟩ := int_of_trod Tryd.underlying3 hz1
  obtain ⟨s, rfl, _⟩ := int_of_trod Tryd.underlying3 hz2
  obtain ⟨b, rfl, _⟩ := int_of_trod Tryd.underlying3 hz3
  obtain ⟨idx, rfl, _⟩ := int_of_trod Tryd.underlying3 hy1
  obtain ⟨A, c, ls, e, h1, h2, h3, _⟩ := open_rows Tryd.underlying24 Tryd.underlying56 Tryd.underlying54 cells56 cells54 hy2
  obtain rfl : c5 = _ := by simpa using e
  exact ⟨n, k, s, b, idx, A, c, ls, rfl, h1, h2, h3⟩
theorem byte_of_wf {n : Int} (h : (Lit.int .u8 n).wf = true) : 0 ≤ n ∧ n < 256 := by
  have := h
  simp [Lit.wf, IntKind.min, IntKind.max, IntKind.bits, IntKind.signed] at this
  omega
end Go.Proofs.YtoamamnbapilhaaDoor.SealRow

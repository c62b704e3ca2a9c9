/- Small laws for the walks of this seat: an array that is a variable, as one list; stores of whole arrays. -/
import Derived.Test.YtgbfkfmjbacemaaWMore
import Derived.WalkKit
import Derived.WalkSpells
import Derived.WalkLawsBesides
import Derived.Deep.QuietTactic
import Derived.BigQuiet
import Derived.Laws.Rows
import Derived.Laws.Tables
import Derived.Deep.WholeRow
import Derived.Test.YtgbfkfmjbacemaaProg
namespace Go.Proofs.Ytgbfkfmjbacemaa.Lb
open Go.RowKit Go.Proofs.YtgbfkfmjbacemaaW.PrintWords Go.Proofs.YtgbfkfmjbacemaaW.PrintLast Go.Proofs.YtgbfkfmjbacemaaW.PrintMore
variable {P : Program}

theorem wpList_store_row {ops : Array Oper} {rest : List Oper} {o : Oper} {a : Act} {w : World} {Q : Exit → Act → World → Prop} (hgd : o.guard = none) (ty : TypeId) (x y : Operand) (ho : o.op = .store ty x y)
    (g : Nat) (cells : Array Value) (hx : a.eval x = .pointer (some ⟨g, 0, none⟩)) (hy : a.eval y = .agg cells)
    (t : TypeId) (old : Array Value) (hg : w.heap[g]? = some (.cells old t (0, 0))) (hi : (P.info? ty).map (·.size) = some cells.size)
    (hold : old.size = cells.size) (h1 : cells.all (·.oneCell') = true)
    (h : wpList P ops Q rest (a.put o.dst undef) (w.setRow g cells)) : wpList P ops Q (o :: rest) a w :=
  wpList_plain hgd fun _ hK => wp_store_row ty x y ho g cells hx hy t old hg hi hold h1 (hK _ _ h)

/-- a whole array goes into the block that was made last. -/
theorem wpList_store_new {ops : Array Oper} {rest : List Oper} {o : Oper} {a : Act} {w : World} {Q : Exit → Act → World → Prop} (hgd : o.guard = none) (ty : TypeId) (x y : Operand) (ho : o.op = .store ty x y)
    {c c' : Array Value} (hx : a.eval x = .pointer (some ⟨w.heap.size, 0, none⟩)) (hy : a.eval y = .agg c')
    (hi : (P.info? ty).map (·.size) = some c'.size) (hold : c.size = c'.size) (h1 : c'.all (·.oneCell') = true)
    (h : wpList P ops Q rest (a.put o.dst undef) (w.alloc (.cells c' ty))) : wpList P ops Q (o :: rest) a (w.alloc (.cells c ty)) :=
  wpList_plain hgd fun _ hK => wp_store_row ty x y ho w.heap.size c' hx hy ty c (heap_alloc_new w _) hi hold h1 (by rw [World.setRow_alloc_new]; exact hK _ _ h)

/-- append of one element to a row of one's own, as one step of a region that draws its order. -/
theorem R_append_stepE {α : Type} {ops : Array Oper} {o : Oper} {a : Act} {Q : Exit → Act → World → Prop} {Kc : Act → World → Prop} {E : Prop} (d : Kd α) {w0 W : World} (base : Nat) (hg : o.guard = none) (s x : Operand) (t e : TypeId) (z : Value) (bytes : Nat)
    (ho : o.op = .call { callee := .builtin .append, args := #[s, x], argTypes := #[t, t] })
    (ht : P.underlying t = some (.slice e)) (hinfo : (P.info? e).map (fun i => (i.zero, i.size, i.bytes)) = some (some z, d.sz, bytes)) (hz : z.cells.size = d.sz) (hs0 : 0 < d.sz) (hb0 : 0 < bytes)
    (v : Value) (xs : List α) (p : α) (cs : List Value) (ok okp : Nat → Prop) (hs : a.eval s = v) (hx : a.eval x = .slice (some ⟨W.heap.size, 0, none⟩) 1 1) (hp : d.M W base okp p cs) (hokp : ∀ k, okp k → ok k ∧ some k ≠ v.ownBlock) (hfresh : ∀ k, W.heap.size ≤ k → ok k)
    (HO : d.R e W base ok v xs) (HB : Below base w0 W) (hbase : base ≤ W.heap.size) (hl : (xs.length + 1) * bytes ≤ 140737488355328)
    (h : ∀ v1 w1, d.R e w1 base ok v1 (xs ++ [p]) → Below base w0 w1 → W.grownBy w1 v.ownBlock → (v1.ownBlock = v.ownBlock ∨ ∃ b, v1.ownBlock = some b ∧ W.heap.size ≤ b) → Kc (a.put o.dst v1) w1) :
    if Region.wanted o (yielded ops a.tmps) = true then Oper.wp P o a (W.alloc (.cells cs.toArray e)) Kc Q else E := by
  have hw : Region.wanted o (yielded ops a.tmps) = true := by simp [Region.wanted, hg]
  have := Kd.R_append_step (Q := Q) d base hw s x t e z bytes ho ht hinfo hz hs0 hb0 v xs p cs ok okp hs hx hp hokp hfresh HO HB hbase hl h
  rw [if_pos hw] at this ⊢
  exact this

/-- whole numbers as cells. -/
def cells (k : IntKind) (xs : List Int) : Array Value := (xs.map fun x => Value.int k x).toArray
theorem cells_size (k : IntKind) (xs : List Int) : (cells k xs).size = xs.length := by simp [cells]
theorem cells_get (k : IntKind) (xs : List Int) (i : Int) (h0 : 0 ≤ i) (h : i < xs.length) : (cells k xs)[i.toNat]? = some (.int k (rd xs i)) := by
  have hn : i.toNat < xs.length := by omega
  simp [cells, rd, List.getElem?_eq_getElem hn, List.getD_eq_getElem?_getD]
theorem cells_at (k : IntKind) (xs : List Int) (j : Nat) (h : j < xs.length) : (cells k xs)[j]? = some (.int k (rd xs j)) := by
  have := cells_get k xs j (by omega) (by omega)
  rwa [Int.toNat_natCast] at this
theorem cells_set (k : IntKind) (xs : List Int) (i : Nat) (x : Int) : (cells k xs).setIfInBounds i (.int k x) = cells k (xs.set i x) := by
  simp [cells, List.map_set]
theorem cells_one (k : IntKind) (xs : List Int) : (cells k xs).all (·.oneCell') = true := by
  simp [cells, Value.oneCell']
theorem made_cells (k : IntKind) (m : Nat) : madeCells #[.int k 0] m = cells k (List.replicate m 0) := by
  apply Array.ext'
  simp [cells, toList_madeCells_one]
/-- a block of one's own, all of it, as a row. -/
theorem R_of_blk {w : World} {base e g : Nat} {k : IntKind} {xs : List Int} {ok : Nat → Prop} (h : w.heap[g]? = some (.cells (cells k xs) e (0, 0))) (hb : base ≤ g) (hok : ok g) (hm : xs.length ≤ 9223372036854775807) :
    Kd.R (Kd.int k) e w base ok (.slice (some ⟨g, 0, none⟩) xs.length xs.length) xs := by
  refine Kd.R_of_own ⟨by simp [encs], .inr ⟨g, xs.length, _, rfl, hb, h, Nat.le_refl _, by simpa [maxLen] using hm, by simp [cells], ?_⟩⟩ (fun k hk => ?_)
  · simp only [cells, encs, Nat.mul_one]
    exact List.take_of_length_le (by simp)
  · have : g = k := by simpa [Value.ownBlock] using hk
    subst this
    exact hok
/-- an element of an array value. -/
theorem run_index_cells (t e n : Nat) (k ki : IntKind) (i : TypeInfo) (ht : P.underlying t = some (.array n e)) (hu : P.underlying e = some (.int k)) (hi : P.info? e = some i) (hs : i.size = 1)
    (xs : List Int) (hn : xs.length = n) (j : Nat) (h : j < n) (w : World) : (Instr.index t (.agg (cells k xs)) (.int ki (j : Int))).run P w = .ok (.int k (rd xs j)) w := by
  have hc := cells_at k xs j (by omega)
  simp [Instr.index, asIntOf, run_underlying ht, sizeOf, typeInfo, hi, hs, h, part, hc, isAgg, run_underlying hu]
theorem below_setRow {B g : Nat} {w0 w : World} (hb : Below B w0 w) (hg : B ≤ g) (cs : Array Value) : Below B w0 (w.setRow g cs) :=
  ⟨hb.os, hb.tape, hb.output, by simpa using hb.size, fun i hi => (setRow_other w g i cs (by omega)).trans (hb.block i hi)⟩
theorem below_setCell {B : Nat} {w0 w : World} (hb : Below B w0 w) {p : Addr} (hg : B ≤ p.block) (u : Value) : Below B w0 (w.setCell p u) :=
  hb.setCell hg u
theorem rd_set (xs : List Int) (i j : Nat) (x : Int) : rd (xs.set i x) j = if i = j ∧ i < xs.length then x else rd xs j := by
  unfold rd
  by_cases h : i = j
  · subst h
    by_cases hl : i < xs.length
    · simp [hl]
    · simp [hl]
  · simp [h]
end Go.Proofs.Ytgbfkfmjbacemaa.Lb

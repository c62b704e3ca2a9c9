import Derived.Test.YtoamamnbapilhaaDoorWMore
import Derived.WalkSpells
import Derived.WalkLawsBesides
import Derived.StillTailTactics
import Derived.IntWalk
import Derived.Lib.SlBytesConst
import Derived.Test.YtoamamnbapilhaaDoorProg
namespace Go.Proofs.YtoamamnbapilhaaDoorW.PrintWords.Kd
open Go.RowKit Go.Proofs.YtoamamnbapilhaaDoorW.PrintWords Go.Proofs.YtoamamnbapilhaaDoorW.PrintLast Go.Proofs.YtoamamnbapilhaaDoorW.PrintMore
set_option linter.unusedVariables false
set_option linter.unusedSimpArgs false
variable {α : Type} {P : Program} {ops : Array Oper} {rest : List Oper} {o o2 : Oper} {a : Act} {Q : Exit → Act → World → Prop}
theorem marked_new (W : World) (cs : Array Value) (e : TypeId) (fr : Nat × Nat) : (W.alloc (.cells cs e fr)).heap[W.heap.size]? = some (.cells cs e fr) := by
  show (W.heap.push _)[W.heap.size]? = _
  simp
theorem V_lit (d : Kd Int) {T : TypeId} {w0 W : World} (base e : Nat) (hgd : o.guard = none) {N : Tmp} (_hd : o.dst = some N) {xs : List Int} {inner : List Value} {ok okp : Nat → Prop}
    (hrun : (execOp a.eval o).run P W = .ok (.value (.slice (some ⟨W.heap.size, 0, none⟩) xs.length xs.length)) (W.alloc (.cells inner.toArray e)))
    (hrep : Reps (d.M W base okp) d.sz xs inner) (hok : ∀ k, okp k → ok k) (hfresh : ok W.heap.size) (HB : Below base w0 W) (hbase : base ≤ W.heap.size) (hm : xs.length ≤ 9223372036854775807)
    (h : ∀ v1 w1, V d e w1 base ok v1 xs → Below base w0 w1 → True → True → wpList P ops Q rest ((a.put o.dst v1).put o2.dst v1) w1)
    (hd8 : d = Kd.int .u8 := by rfl) (hgd2 : o2.guard = none := by rfl) (ho2 : o2.op = .convert T T (.tmp N) := by rfl) (hT : P.underlying T = some (.slice e) := by kernel_rfl) (he : P.underlying e = some (.int .u8) := by kernel_rfl) (hN' : Nat.ble (N + 1) a.tmps.size = true := by rfl) :
    wpList P ops Q (o :: o2 :: rest) a W := by
  subst hd8
  have hN : N < a.tmps.size := Nat.le_of_ble_eq_true hN'
  have hin : inner = encs (Value.int .u8) xs := by
    apply List.ext_getElem
    · rw [hrep.1, encs_length]; exact Nat.mul_one _
    · intro j h1 h2
      have hl : j < xs.length := by rw [encs_length] at h2; exact h2
      have := hrep.2 j xs[j] (List.getElem?_eq_getElem hl)
      rw [show (int .u8).sz = 1 from rfl, Nat.mul_one, List.drop_eq_getElem_cons h1] at this
      have h3 : [inner[j]] = [Value.int .u8 xs[j]] := this
      injection h3 with h3
      rw [h3]
      simp [encs]
  have hlen : inner.length = xs.length := by rw [hin, encs_length]
  refine event_run hgd hrun (event_run hgd2 (w1 := W.alloc (.cells inner.toArray e (inner.toArray.size, inner.toArray.size + 1))) (v := .slice (some ⟨W.heap.size, 0, none⟩) xs.length xs.length) ?_ (h _ _ ⟨_, _, rfl, Nat.le_refl _, ?_⟩ (HB.alloc hbase _) trivial trivial))
  · have hev : (a.put o.dst (.slice (some ⟨W.heap.size, 0, none⟩) xs.length xs.length)).eval (.tmp N) = .slice (some ⟨W.heap.size, 0, none⟩) xs.length xs.length := by
      rw [_hd]
      simp [Act.put, Act.eval, hN]
    have hc := Lib.run_convert_bytes_const (P := P) W T e inner.toArray xs.length xs.length hT he
    unfold execOp
    simp only [ho2, hev]
    simp [hc]
  · intro W' hW'
    have hb := (hW' W.heap.size hfresh (by simp)).trans (marked_new W inner.toArray e _)
    refine C_of_reads (d := (0 : Int)) ⟨rfl, hm, fun hn => ⟨_, rfl, fun j hj => ?_⟩⟩
    rw [show (⟨W.heap.size, 0, none⟩ : Addr).add j = ⟨W.heap.size, j, none⟩ from by simp [Addr.add]; omega, cell_of_row W' W.heap.size j _ _ _ hb]
    simp only [List.getElem?_toArray, hin]
    exact encs_get xs j hj
theorem V_make (d : Kd α) {w0 W : World} (base e : Nat) (hgd : o.guard = none) {N : Tmp} (hd : o.dst = some N) (t : TypeId) (x y : Operand) (ho : o.op = .makeSlice t x y) (n : Int) (hx : a.eval x = .int .i64 n) (hy : a.eval y = .int .i64 n)
    (ht : P.underlying t = some (.slice e)) (z : Value) (bytes : Nat) (hinfo : (P.info? e).map (fun i => (i.zero, i.size, i.bytes)) = some (some z, d.sz, bytes)) (hz : z.cells.size = d.sz) (hs0 : 0 < d.sz) (hb0 : 0 < bytes)
    (z0 : α) {ok okp : Nat → Prop} (hzero : d.M W base okp z0 z.cells.toList) (hok : ∀ k, okp k → ok k) (hfresh : ok W.heap.size) (h0 : 0 ≤ n) (hl : n.toNat * bytes ≤ 281474976710656) (HB : Below base w0 W) (hbase : base ≤ W.heap.size)
    (h : ∀ v1 w1, d.V e w1 base ok v1 (List.replicate n.toNat z0) → Below base w0 w1 → W.grownBy w1 none → (∃ b, v1.ownBlock = some b ∧ W.heap.size ≤ b) → wpList P ops Q rest (a.put o.dst v1) w1) : wpList P ops Q (o :: rest) a W :=
  R_make d base e hgd hd t x y ho n hx hy ht z bytes hinfo hz hs0 hb0 z0 hzero hok hfresh h0 hl HB hbase (fun v1 w1 hr => h v1 w1 (R_V hr))
theorem V_make_step {Kc : Act → World → Prop} (d : Kd α) {w0 W : World} (base e : Nat) (hw : Region.wanted o (yielded ops a.tmps) = true) {N : Tmp} (hd : o.dst = some N) (t : TypeId) (x y : Operand) (ho : o.op = .makeSlice t x y) (n : Int) (hx : a.eval x = .int .i64 n) (hy : a.eval y = .int .i64 n)
    (ht : P.underlying t = some (.slice e)) (z : Value) (bytes : Nat) (hinfo : (P.info? e).map (fun i => (i.zero, i.size, i.bytes)) = some (some z, d.sz, bytes)) (hz : z.cells.size = d.sz) (hs0 : 0 < d.sz) (hb0 : 0 < bytes)
    (z0 : α) {ok okp : Nat → Prop} (hzero : d.M W base okp z0 z.cells.toList) (hok : ∀ k, okp k → ok k) (hfresh : ok W.heap.size) (h0 : 0 ≤ n) (hl : n.toNat * bytes ≤ 281474976710656) (HB : Below base w0 W) (hbase : base ≤ W.heap.size)
    (h : ∀ v1 w1, d.V e w1 base ok v1 (List.replicate n.toNat z0) → Below base w0 w1 → W.grownBy w1 none → (∃ b, v1.ownBlock = some b ∧ W.heap.size ≤ b) → Kc (a.put o.dst v1) w1) : if Region.wanted o (yielded ops a.tmps) = true then Oper.wp P o a W Kc Q else Kc (a.put o.dst undef) W :=
  R_make_step d base e hw hd t x y ho n hx hy ht z bytes hinfo hz hs0 hb0 z0 hzero hok hfresh h0 hl HB hbase (fun v1 w1 hr => h v1 w1 (R_V hr))
end Go.Proofs.YtoamamnbapilhaaDoorW.PrintWords.Kd
namespace Go.Proofs.YtoamamnbapilhaaDoorW.PrintWords
open Go.RowKit
theorem kzA {p : Prop} (h : p) : Aside0 p := Aside0.mk h
theorem kzB {A : Type} (l : List A) (i : Nat) (a : A) : l.toArray.setIfInBounds i a = (l.set i a).toArray := List.setIfInBounds_toArray l i a
theorem kzC {A : Type} {x : A} {xs : List A} {a : A} : (x :: xs).set 0 a = a :: xs := List.set_cons_zero
theorem kzD {A : Type} {x : A} {xs : List A} {i : Nat} {a : A} : (x :: xs).set (i + 1) a = x :: xs.set i a := List.set_cons_succ
end Go.Proofs.YtoamamnbapilhaaDoorW.PrintWords

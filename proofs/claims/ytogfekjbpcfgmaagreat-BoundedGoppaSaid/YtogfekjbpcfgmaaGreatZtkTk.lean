/- Short forms for regions that draw their order. -/
import Derived.KernelRfl
import Derived.WalkKit
import Derived.Deep.RegionHeld
import Derived.Lib.Hide
import Derived.RangeFuncCalls
import Derived.RowKit
section
open Go Go.RowKit
universe u
section
variable {a b c : World}
theorem η {p : Prop} (h : p) : Go.RowKit.Hid p := Go.Lib.hid h
theorem β {o : Obj} : Below a.heap.size a (a.alloc o) := (Below.refl _ _).alloc (Nat.le_refl _) _
theorem κ {B : Nat} : Below B a a := Below.refl _ _
theorem ζ (h : Below a.heap.size a b) (g : Below b.heap.size b c) : Below a.heap.size a c := h.trans (g.mono h.size)
theorem ε {α : Sort u} (x : α) : ∃y, y = x := ⟨x, rfl⟩
theorem ρ {n : Nat} : n ≤ n := Nat.le_refl n
theorem θ {n m k : Nat} (h : n < m) (g : m ≤ k) : n < k := Nat.lt_of_lt_of_le h g
theorem τ {n m k : Nat} (h : n ≤ m) (g : m ≤ k) : n ≤ k := Nat.le_trans h g
end
namespace Cw
end Cw
end
namespace Go.Proofs
open Go
theorem pS : (∀ (a : Act) (i : Nat) (v : Value), a.put (some i) v = { a with tmps := a.tmps.setIfInBounds i v }) ∧ (∀ (a : Act) (v : Value), a.put none v = a) ∧ (∀ (l : List Value) (i : Nat) (v : Value), l.toArray.setIfInBounds i v = (l.set i v).toArray) ∧ (∀ (l : List Value) (u v : Value), (u :: l).set 0 v = v :: l) ∧ (∀ (l : List Value) (u v : Value) (i : Nat), (u :: l).set (i + 1) v = u :: l.set i v) ∧ (∀ (l : List Bool) (i : Nat) (v : Bool), l.toArray.setIfInBounds i v = (l.set i v).toArray) ∧ (∀ (l : List Bool) (u v : Bool), (u :: l).set 0 v = v :: l) ∧ (∀ (l : List Bool) (u v : Bool) (i : Nat), (u :: l).set (i + 1) v = u :: l.set i v) :=
  ⟨fun _ _ _ => rfl, fun _ _ => rfl, fun l i v => by simp, fun _ _ _ => rfl, fun _ _ _ _ => rfl, fun l i v => by simp, fun _ _ _ => rfl, fun _ _ _ _ => rfl⟩
section
variable {P : Program} {ops : Array Oper} {Q : Exit → Act → World → Prop} {md : Region.Mode} {S : World → Prop}
theorem tk (i : Nat) {d : Option Nat} {o : Op} {t : TypeId} {p : String} {af : Array Edge} {g : Option (Nat × Bool)} {v : Value} {fuel : Nat} {listed : Array Bool} {a : Act} {w : World}
    (h : wpAnyH P md ops Q S fuel (listed.setIfInBounds i true) (a.put d v) w)
    (hi : ops[i]? = some ⟨d, o, t, p, af, g⟩ := by rfl)
    (hy1 : Region.wanted ⟨d, o, t, p, af, g⟩ (yielded ops a.tmps) = true := by rfl)
    (hy2 : ∀w, S w → (execOp a.eval ⟨d, o, t, p, af, g⟩).run P w = .ok (.value v) w := by intro w hSw;(try dsimp only at hSw);go_simp;try with_reducible rfl)
    (hs : Region.noSelect ops = true := by kernel_rfl) (hf : Region.free md ops listed i = true := by kernel_rfl) (hr : (Region.ready md ops listed).contains i = true := by kernel_rfl)
    (hQ : ∀c a w, Q (.panic c) (a.put d v) w → Q (.panic c) a w := by exact fun _ _ _ h => h) (hS : S w := by assumption) : wpAnyH P md ops Q S (fuel + 1) listed a w :=
  wpAnyH_take hi hs hf hr hQ (.inl ⟨hy1, hy2⟩) hS h
theorem tu (i : Nat) {d : Option Nat} {o : Op} {t : TypeId} {p : String} {af : Array Edge} {g : Option (Nat × Bool)} {fuel : Nat} {listed : Array Bool} {a : Act} {w : World}
    (h : wpAnyH P md ops Q S fuel (listed.setIfInBounds i true) (a.put d undef) w)
    (hi : ops[i]? = some ⟨d, o, t, p, af, g⟩ := by rfl)
    (hy : Region.wanted ⟨d, o, t, p, af, g⟩ (yielded ops a.tmps) = false := by rfl)
    (hs : Region.noSelect ops = true := by kernel_rfl) (hf : Region.free md ops listed i = true := by kernel_rfl) (hr : (Region.ready md ops listed).contains i = true := by kernel_rfl)
    (hQ : ∀c a w, Q (.panic c) (a.put d undef) w → Q (.panic c) a w := by exact fun _ _ _ h => h) (hS : S w := by assumption) : wpAnyH P md ops Q S (fuel + 1) listed a w :=
  wpAnyH_take hi hs hf hr hQ (.inr ⟨hy, rfl⟩) hS h
theorem rd (i : Nat) {d : Option Nat} {o : Op} {t : TypeId} {p : String} {af : Array Edge} {g : Option (Nat × Bool)} {fuel : Nat} {listed : Array Bool} {a : Act} {w : World}
    (h : ∀K' : Act → World → Prop, Shut (∀a w, S w → (S w → wpAnyH P md ops Q S fuel (listed.setIfInBounds i true) a w) → K' a w) → if Region.wanted ⟨d, o, t, p, af, g⟩ (yielded ops a.tmps) = true then Oper.wp P ⟨d, o, t, p, af, g⟩ a w K' Q else K' (a.put d undef) w)
    (hi : ops[i]? = some ⟨d, o, t, p, af, g⟩ := by rfl) (hr : Region.ready md ops listed = [i] := by kernel_rfl) : wpAnyH P md ops Q S (fuel + 1) listed a w :=
  wpAnyH_ready hr (by simp) (AllReadyH.cons hi h AllReadyH.nil)
theorem δ {listed : Array Bool} {a : Act} {w : World} {fuel : Nat} (h : Q .normal a w) (hr : Region.ready md ops listed = [] := by kernel_rfl) : wpAnyH P md ops Q S fuel listed a w := wpAnyH_done hr h _
end
attribute [go_sem] Oper.semAt_some
end Go.Proofs

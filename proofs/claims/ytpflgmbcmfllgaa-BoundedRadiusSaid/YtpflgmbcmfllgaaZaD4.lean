/- The reference's division of polynomials, its test of irreducibility, and its Check. The reference's test of irreducibility, and its Check. The program's New and the reference's Check agree: a field just if the modulus has no divisor. The field of 4 elements of the chapters' examples. -/
import Derived.StillTailTactics
import Derived.Test.YtpflgmbcmfllgaaZaP1
import Derived.Test.YtpflgmbcmfllgaaZaP2
import Derived.Test.YtpflgmbcmfllgaaZaRF
import Derived.Test.YtpflgmbcmfllgaaZaP4
namespace Go.Proofs.Ytpflgmbcmfllgaa
open Go.RowKit Cw

section
variable {w w' : World} {B g n cap : Nat} {l : List Int}
theorem Own.cell (h : Own w B (.slice (some ⟨g, 0, none⟩) n cap) l) (hn : n = l.length) {i : Nat} (hi : i < l.length) : w.cell? ⟨g, i, none⟩ = some (.int .i64 (l[i]?.getD 0)) := by
  subst hn
  rw [World.ownsRow.cellAt h i (by omega)]; simp [hi]
theorem Own.frozen (h : Own w B (.slice (some ⟨g, 0, none⟩) n cap) l) (hn : n = l.length) (i : Nat) : w.frozen? ⟨g, i, none⟩ = false := by
  subst hn; exact World.ownsRow.frozenAt h i
theorem Own.set_ (h : Own w B (.slice (some ⟨g, 0, none⟩) n cap) l) (hn : n = l.length) (i : Nat) (u : Int) :
    Own (w.setCell ⟨g, i, none⟩ (.int .i64 u)) B (.slice (some ⟨g, 0, none⟩) n cap) (l.set i u) := by
  subst hn
  have h1 := (World.ownsRow.stored h i (.int .i64 u)).1
  unfold Own
  rw [List.length_set, List.map_set]; exact h1
end

/-- The list of n numbers r. -/
def nl (n : Nat) (r : Nat → Nat) : List Int := lst n fun i => (r i : Nat)
theorem nl_length (n : Nat) (r : Nat → Nat) : (nl n r).length = n := lst_length _ _
theorem nl_set (n : Nat) (r : Nat → Nat) (k v : Nat) : (nl n r).set k (v : Int) = nl n (fup r k v) := by
  unfold nl
  rw [lst_set]
  refine lst_congr fun i _ => ?_
  unfold fup
  by_cases e : i = k
  · rw [if_pos e, if_pos e]
  · rw [if_neg e, if_neg e]
structure DvSt (p d m : Nat) (low : Nat → Nat) (g cp : Nat) (w : World) (r : Nat → Nat) (wr : World) : Prop where
  lt : ∀ i, r i < p
  own : Own wr w.heap.size (.slice (some ⟨g, 0, none⟩) (m + 1) cp) (nl (m + 1) r)
  bw : Below w.heap.size w wr
theorem DvSt.set_ {p d m : Nat} {low : Nat → Nat} {g cp : Nat} {w wr : World} {r : Nat → Nat} (h : DvSt p d m low g cp w r wr) (hg : w.heap.size ≤ g) (k v : Nat) (hv : v < p) {z : Int} (hz : z = (v : Int)) :
    DvSt p d m low g cp w (fup r k v) (wr.setCell ⟨g, k, none⟩ (.int .i64 z)) where
  lt := fup_lt h.lt hv k
  own := by subst hz; have h1 := h.own.set_ (nl_length _ _).symm k (v : Int); rw [nl_set] at h1; exact h1
  bw := h.bw.setCell (p := ⟨g, k, none⟩) hg _
theorem DvSt.drew {p d m : Nat} {low : Nat → Nat} {g cp : Nat} {w wr : World} {r : Nat → Nat} (h : DvSt p d m low g cp w r wr) : DvSt p d m low g cp w r wr.drew := ⟨h.lt, h.own, h.bw.drew⟩
end Go.Proofs.Ytpflgmbcmfllgaa

namespace Go.Proofs.Ytpflgmbcmfllgaa
open Go.RowKit Cw

def dg (p v : Nat) : Nat → Nat := fun i => v / p ^ i % p
open Classical in
noncomputable def irrB (p m : Nat) (mod : Nat → Nat) : Bool := decide (∀ d, 1 ≤ d → 2 * d ≤ m → ∀ v, v < p ^ d → dvB p d m (dg p v) mod = false)
open Classical in
theorem irrB_true {p m : Nat} {mod : Nat → Nat} (h : ∀ d, 1 ≤ d → 2 * d ≤ m → ∀ v, v < p ^ d → dvB p d m (dg p v) mod = false) : irrB p m mod = true := decide_eq_true h
open Classical in
/-- What Check accepts. -/
def Good (P M : Int) (ml : List Int) : Prop := ∃ D : Desc, P = D.p ∧ M = D.m ∧ ml = modL D ∧ (D.m = 1 ∨ irrB D.p D.m (fun i => D.mod.getD i 0) = true)
open Classical in
theorem modL_inj {D D' : Desc} (h : modL D = modL D') : D.mod = D'.mod := by
  have h1 : D.mod.length = D'.mod.length := by rw [← modL_length, ← modL_length, h]
  apply List.ext_getElem h1
  intro i h2 h3
  have e1 := modL_get D h2
  have e2 := modL_get D' h3
  rw [h, e2] at e1
  have e3 : D'.mod.getD i 0 = D.mod.getD i 0 := Int.ofNat.inj e1
  simp [h2, h3] at e3
  exact e3.symm

end Go.Proofs.Ytpflgmbcmfllgaa

namespace Go.Proofs.Ytpflgmbcmfllgaa
open Go.RowKit Cw

open Classical in
theorem gen_of_good {D : Desc} (h : Good D.p D.m (modL D)) : ∃ u : R D, IsGen u := by
  obtain ⟨D', hp, hm, hml, hi⟩ := h
  have e1 : D.p = D'.p := by omega
  have e2 : D.m = D'.m := by omega
  have e3 := modL_inj hml
  obtain rfl : D = D' := by
    obtain ⟨p, m, mod, a1, a2, a3, a4, a5, a6⟩ := D
    obtain ⟨p', m', mod', b1, b2, b3, b4, b5, b6⟩ := D'
    dsimp at e1 e2 e3
    subst e1 e2 e3
    rfl
  refine gen_of_irr D.hmod (hi.imp id fun h d h1 h2 v hv => ?_)
  unfold irrB at h
  exact of_decide_eq_true h d h1 h2 v hv

/-- New, for a good description. -/
theorem New_good (D : Desc) (A : Option Addr) (c : Nat) (w : World) (hr : Rd w w.heap.size A (modL D)) (hg : Good D.p D.m (modL D)) :
    Calls Try.prog 61 #[.agg #[.int .i64 D.p, .int .i64 D.m, .slice A D.mod.length c]] w fun e w' =>
      ∃ g, ∃ F : FD, F.toDesc = D ∧ e = .returned (.tuple #[.pointer (some ⟨g, 0, none⟩), .int .i64 0]) ∧ w.heap.size ≤ g ∧ GF w' w'.heap.size g F ∧ Below w.heap.size w w' := by
  refine (New_valid D A c w hr).mono ?_
  rintro e w' ⟨hb, ⟨g, F, rfl, rfl, h1, h2⟩ | ⟨hno, rfl⟩⟩
  · exact ⟨g, F, rfl, rfl, h1, h2, hb⟩
  · obtain ⟨u, hu⟩ := gen_of_good hg
    exact absurd hu (hno u)
end Go.Proofs.Ytpflgmbcmfllgaa

namespace Go.Proofs.Ytpflgmbcmfllgaa
open Go.RowKit Cw

def D4 : Desc where
  p := 2
  m := 2
  mod := [1, 1]
  hp := ⟨by decide, fun d h2 => by
    have : d ≤ 2 := Nat.le_of_dvd (by decide) h2
    have : d ≠ 0 := fun h => by rw [h] at h2; have := Nat.eq_zero_of_zero_dvd h2; omega
    omega⟩
  m1 := by decide
  m8 := by decide
  hq := by decide
  hlen := by decide
  hmod := fun j => by
    match j with
    | 0 => decide
    | 1 => decide
    | j + 2 => simp
theorem irr4 : irrB D4.p D4.m (fun i => D4.mod.getD i 0) = true := by
  have e1 : ∀ v : Fin 2, dvB 2 1 2 (dg 2 v.val) (fun i => D4.mod.getD i 0) = false := by decide +kernel
  refine irrB_true fun d h1 h2 v hv => ?_
  have h3 : 2 * d ≤ 2 := h2
  have h4 : d = 1 := by omega
  subst h4
  exact e1 ⟨v, hv⟩
theorem good4 : Good D4.p D4.m (modL D4) := ⟨D4, rfl, rfl, rfl, .inr irr4⟩
end Go.Proofs.Ytpflgmbcmfllgaa

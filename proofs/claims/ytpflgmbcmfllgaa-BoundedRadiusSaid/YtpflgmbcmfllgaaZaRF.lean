/- The reference's arithmetic of digits: prime, digits, Value, Order. The reference's field arithmetic over a valid description: Is, In, Digits, Add, Neg, Sub, Mul. The reference's field arithmetic over a valid description: Neg, Sub, Mul. The box of a field's description. The reference's inverse. The reference: equal fields. -/
import Derived.Deep.RegionHeld3
import Derived.StillTailTactics
import Derived.Test.YtpflgmbcmfllgaaZaP1
import Derived.Test.YtpflgmbcmfllgaaZaP2
namespace Go.Proofs.Ytpflgmbcmfllgaa
open Go.RowKit Cw

/-- Digit i of x in base p. -/
def dgi (p x i : Nat) : Int := ((x / p ^ i % p : Nat) : Int)
/-- The value of the top j of m digits. -/
def hval (p : Nat) (f : Nat → Nat) (m : Nat) : Nat → Nat
  | 0 => 0
  | j+1 => hval p f m j * p + f (m - 1 - j)
theorem hval_nval (p : Nat) (f : Nat → Nat) (m : Nat) : ∀ j, j ≤ m → nval p f m = nval p f (m - j) + hval p f m j * p ^ (m - j)
  | 0, _ => by simp [hval]
  | j+1, h => by
    rw [hval_nval p f m j (by omega)]
    obtain ⟨k, hk⟩ : ∃ k, m - j = k + 1 := ⟨m - j - 1, by omega⟩
    have h1 : m - (j + 1) = k := by omega
    have h2 : m - 1 - j = k := by omega
    rw [hk, h1]
    show nval p f k + f k * p ^ k + hval p f m j * p ^ (k+1) = nval p f k + (hval p f m j * p + f (m - 1 - j)) * p ^ k
    rw [h2, Nat.add_mul, Nat.pow_succ]
    have : hval p f m j * (p ^ k * p) = hval p f m j * p * p ^ k := by ac_rfl
    omega
theorem hval_full (p : Nat) (f : Nat → Nat) (m : Nat) : hval p f m m = nval p f m := by
  have h := hval_nval p f m m (Nat.le_refl _)
  rw [Nat.sub_self, Nat.pow_zero, Nat.mul_one] at h
  rw [h]; exact (Nat.zero_add _).symm
theorem hval_lt {p : Nat} {f : Nat → Nat} {m : Nat} (h : ∀ i, i < m → f i < p) : ∀ j, j ≤ m → hval p f m j < p ^ j
  | 0, _ => Nat.one_pos
  | j+1, hj => by
    have h1 := hval_lt h j (by omega)
    have h2 := Nat.mul_le_mul_right p (Nat.succ_le_of_lt h1)
    rw [Nat.succ_mul] at h2
    have h3 := h (m - 1 - j) (by omega)
    show hval p f m j * p + f (m - 1 - j) < p ^ (j+1)
    rw [Nat.pow_succ]; omega
theorem hval_le {p : Nat} {f : Nat → Nat} {m : Nat} (h : ∀ i, i < m → f i < p) (hq : p ^ m ≤ 256) {j : Nat} (hj : j ≤ m) : hval p f m j ≤ 256 := by
  rcases Nat.eq_zero_or_pos p with h0 | h0
  · rcases Nat.eq_zero_or_pos j with hj0 | hj0
    · subst hj0; simp [hval]
    · have := h 0 (by omega); omega
  · exact Nat.le_trans (Nat.le_of_lt (hval_lt h j hj)) (Nat.le_trans (Nat.pow_le_pow_right h0 hj) hq)

/-- prime: no divisor d with 2 ≤ d < 2 + k. -/
def noDiv (n : Nat) : Nat → Bool
  | 0 => true
  | k+1 => noDiv n k && (n % (k+2) != 0)
theorem noDiv_succ (n k : Nat) : noDiv n (k+1) = (noDiv n k && (n % (k+2) != 0)) := rfl
theorem noDiv_mono (n k j : Nat) (h : noDiv n (k+j) = true) : noDiv n k = true := by
  induction j with
  | zero => exact h
  | succ j ih => rw [← Nat.add_assoc, noDiv_succ] at h; exact ih (by simp at h; exact h.1)
theorem noDiv_iff (n k : Nat) : noDiv n k = true ↔ ∀ d, 2 ≤ d → d < k + 2 → n % d ≠ 0 := by
  induction k with
  | zero => exact ⟨fun _ d h1 h2 => by omega, fun _ => rfl⟩
  | succ k ih =>
    rw [noDiv_succ, Bool.and_eq_true, ih]
    constructor
    · rintro ⟨h1, h2⟩ d hd1 hd2
      by_cases e : d = k + 2
      · subst e; simpa using h2
      · exact h1 d hd1 (by omega)
    · intro h
      exact ⟨fun d hd1 hd2 => h d hd1 (by omega), by simpa using h (k+2) (by omega) (by omega)⟩
theorem mod_cast' (n d : Nat) : (n : Int) % (d : Int) = ((n % d : Nat) : Int) := rfl
def qOf (P M : Int) : Nat := if P < 2 ∨ M < 1 ∨ 8 < M ∨ 256 < P.toNat ^ M.toNat then 0 else P.toNat ^ M.toNat

end Go.Proofs.Ytpflgmbcmfllgaa

namespace Go.Proofs.Ytpflgmbcmfllgaa
open Go.RowKit Cw

theorem qOf_D (D : Desc) : qOf D.p D.m = D.q := by
  have h1 := D.p2; have h2 := D.m1; have h3 := D.m8; have h4 := D.hq
  unfold qOf
  simp only [Int.toNat_natCast]
  rw [if_neg (by omega)]; rfl
def modL (D : Desc) : List Int := D.mod.map fun c : Nat => (c : Int)

def dl {D : Desc} (u : R D) : List Int := lst D.m fun i => (di u i : Nat)

end Go.Proofs.Ytpflgmbcmfllgaa

namespace Go.Proofs.Ytpflgmbcmfllgaa
open Go.RowKit Cw

theorem modL_get (D : Desc) {l : Nat} (h : l < D.mod.length) : (modL D)[l]?.getD 0 = ((D.mod.getD l 0 : Nat) : Int) := by
  simp [modL, h]
theorem modL_length (D : Desc) : (modL D).length = D.mod.length := by simp [modL]
/-- The state of Mul's loops: the digits' blocks, the product's block, the box, nothing old has turned. -/
structure MulSt (D : Desc) (u v : R D) (A : Option Addr) (n c g1 g2 g3 N : Nat) (w : World) (cf : Nat → Nat) (wr : World) : Prop where
  lt : ∀ t, cf t < D.p
  i1 : IB wr g1 (dl u)
  i2 : IB wr g2 (dl v)
  i3 : IB wr g3 (lst N fun t => (cf t : Nat))
  bw : Below w.heap.size w wr
  bx : wr.cell? ⟨w.heap.size, 0, none⟩ = some (.int .i64 D.p) ∧ wr.cell? ⟨w.heap.size, 1, none⟩ = some (.int .i64 D.m) ∧ wr.cell? ⟨w.heap.size, 2, none⟩ = some (.slice A n c)
theorem MulSt.step {D : Desc} {u v : R D} {A : Option Addr} {n c g1 g2 g3 N : Nat} {w wr : World} {cf : Nat → Nat} (h : MulSt D u v A n c g1 g2 g3 N w cf wr)
    (h1 : w.heap.size < g1) (h2 : g1 < g2) (h3 : g2 < g3) (k t : Nat) {z : Int} (hz : z = ((t % D.p : Nat) : Int)) :
    MulSt D u v A n c g1 g2 g3 N w (fup cf k (t % D.p)) (wr.setCell ⟨g3, k, none⟩ (.int .i64 z)).drew where
  lt i := by
    unfold fup
    by_cases e : i = k
    · rw [if_pos e]; exact Nat.mod_lt _ (by have := D.p2; omega)
    · rw [if_neg e]; exact h.lt i
  i1 := (h.i1.far (p := ⟨g3, k, none⟩) (by show g1 ≠ g3; omega) _).drew
  i2 := (h.i2.far (p := ⟨g3, k, none⟩) (by show g2 ≠ g3; omega) _).drew
  i3 := by
    have h4 := (h.i3.set_ k z).drew
    rw [lst_set] at h4
    have e : (fun i => if i = k then z else ((cf i : Nat) : Int)) = fun i => ((fup cf k (t % D.p) i : Nat) : Int) := funext fun i => by
      unfold fup
      by_cases e : i = k
      · rw [if_pos e, if_pos e, hz]
      · rw [if_neg e, if_neg e]
    rw [e] at h4; exact h4
  bw := (h.bw.setCell (p := ⟨g3, k, none⟩) (by show w.heap.size ≤ g3; omega) _).drew
  bx := keep3 (B := w.heap.size + 1) ((Below.refl _ _).setCell (p := ⟨g3, k, none⟩) (by show w.heap.size + 1 ≤ g3; omega) _).drew (by omega) h.bx

end Go.Proofs.Ytpflgmbcmfllgaa

namespace Go.Proofs.Ytpflgmbcmfllgaa
open Go.RowKit Cw
open Cw.CField (inv)

/-- The box of a description, hidden from the walk. -/
def Bx (w : World) (b : Nat) (D : Desc) (A : Option Addr) (n c : Nat) : Prop :=
  w.cell? ⟨b, 0, none⟩ = some (.int .i64 D.p) ∧ w.cell? ⟨b, 1, none⟩ = some (.int .i64 D.m) ∧ w.cell? ⟨b, 2, none⟩ = some (.slice A n c)
theorem Bx.new (w : World) (D : Desc) (A : Option Addr) (n c : Nat) (t : TypeId) : Bx (w.alloc (.cells #[.int .i64 D.p, .int .i64 D.m, .slice A n c] t)) w.heap.size D A n c := alloc3 _ _ _ _ _
theorem Bx.below {B b : Nat} {W w1 : World} {D : Desc} {A : Option Addr} {n c : Nat} (h : Bx W b D A n c) (hb : Below B W w1) (hlt : b < B) : Bx w1 b D A n c := keep3 hb hlt h
theorem Bx.drew {b : Nat} {W : World} {D : Desc} {A : Option Addr} {n c : Nat} (h : Bx W b D A n c) : Bx W.drew b D A n c := h

end Go.Proofs.Ytpflgmbcmfllgaa

namespace Go.Proofs.Ytpflgmbcmfllgaa
open Go.RowKit Cw
open Cw.CField (inv)
end Go.Proofs.Ytpflgmbcmfllgaa

namespace Go.Proofs.Ytpflgmbcmfllgaa
open Go.RowKit Cw
attribute [local go_sem] Oper.semAt_some

end Go.Proofs.Ytpflgmbcmfllgaa

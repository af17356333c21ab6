/- Plain: what the reference's long division computes. No Go here. -/
import Derived.Test.YtnbkmkeiophjoaaMulL
namespace Cw
/-- The inner loop of the division: j steps at the place s with the leading coefficient c. -/
def dIn (p c s : Nat) (low : Nat → Nat) : Nat → (Nat → Nat) → (Nat → Nat)
  | 0, r => r
  | j+1, r => fup (dIn p c s low j r) (s + j) ((dIn p c s low j r (s + j) + (p - c) * low j) % p)
/-- The outer loop: t rounds, from place m down. -/
def dOut (p d m : Nat) (low : Nat → Nat) : Nat → (Nat → Nat) → (Nat → Nat)
  | 0, r => r
  | t+1, r => fup (dIn p (dOut p d m low t r (m - t)) (m - t - d) low d (dOut p d m low t r)) (m - t) 0
/-- The monic polynomial with the low coefficients mod. -/
def mon (m : Nat) (mod : Nat → Nat) : Nat → Nat := fun i => if i < m then mod i else 1
/-- Does the division leave nothing? -/
def dvB (p d m : Nat) (low mod : Nat → Nat) : Bool := decide (∀ k, k < m + 1 → dOut p d m low (m + 1 - d) (mon m mod) k = 0)
theorem fup_lt {p : Nat} {f : Nat → Nat} (h : ∀ i, f i < p) {v : Nat} (hv : v < p) (k : Nat) : ∀ i, fup f k v i < p := fun i => by
  unfold fup
  by_cases e : i = k
  · rw [if_pos e]; exact hv
  · rw [if_neg e]; exact h i
theorem dIn_lt {p : Nat} (hp : 0 < p) (c s : Nat) (low : Nat → Nat) {r : Nat → Nat} (h : ∀ i, r i < p) : ∀ j i, dIn p c s low j r i < p
  | 0 => h
  | j+1 => fup_lt (dIn_lt hp c s low h j) (Nat.mod_lt _ hp) _
theorem dOut_lt {p : Nat} (hp : 0 < p) (d m : Nat) (low : Nat → Nat) {r : Nat → Nat} (h : ∀ i, r i < p) : ∀ t i, dOut p d m low t r i < p
  | 0 => h
  | t+1 => fup_lt (dIn_lt hp _ _ low (dOut_lt hp d m low h t) d) hp _
theorem mon_lt {p m : Nat} (hp : 2 ≤ p) {mod : Nat → Nat} (h : ∀ i, mod i < p) : ∀ i, mon m mod i < p := fun i => by
  unfold mon
  by_cases e : i < m
  · rw [if_pos e]; exact h i
  · rw [if_neg e]; omega
end Cw

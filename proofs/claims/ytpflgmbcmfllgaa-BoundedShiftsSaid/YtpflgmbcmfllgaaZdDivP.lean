/- Plain law of layer 5: division with remainder, step by step. No Go here. -/
import Derived.Test.YtpflgmbcmfllgaaZdGaoL
namespace Go.Proofs.Ytpflgmbcmfllgaa
open Go.RowKit Cw
open Cw.CField (inv)

section
variable {D : Desc}
/-- The remainder behind s of Q steps: f is divided by g of degree d, iv is the inverse of the leading coefficient. -/
def remF (f g : Nat → R D) (iv : R D) (d Q : Nat) : Nat → Nat → R D
  | 0 => f
  | s + 1 => fun t => remF f g iv d Q s t - if Q - 1 - s ≤ t then remF f g iv d Q s (Q - 1 - s + d) * iv * g (t - (Q - 1 - s)) else 0
/-- The coefficients of the quotient. -/
def quoF (f g : Nat → R D) (iv : R D) (d Q : Nat) (n : Nat) : R D := remF f g iv d Q (Q - 1 - n) (n + d) * iv
/-- The quotient behind s steps. -/
def quoS (f g : Nat → R D) (iv : R D) (d Q s : Nat) (i : Nat) : R D := if Q - s ≤ i ∧ i < Q then quoF f g iv d Q i else 0
variable {f g : Nat → R D} {iv : R D} {d Q : Nat}
theorem remF_succ {s n : Nat} (hs : Q = n + 1 + s) (t : Nat) : remF f g iv d Q (s + 1) t = remF f g iv d Q s t - if n ≤ t then quoF f g iv d Q n * g (t - n) else 0 := by
  show remF f g iv d Q s t - (if Q - 1 - s ≤ t then remF f g iv d Q s (Q - 1 - s + d) * iv * g (t - (Q - 1 - s)) else 0) = _
  unfold quoF
  rw [show Q - 1 - s = n by omega, show Q - 1 - n = s by omega]
theorem quoF_at {s n : Nat} (hs : Q = n + 1 + s) : quoF f g iv d Q n = remF f g iv d Q s (n + d) * iv := by unfold quoF; rw [show Q - 1 - n = s by omega]
theorem remF_lt (hf : LtD f (d + Q)) (hg : LtD g (d + 1)) (hiv : iv * g d = 1) : ∀ s, s ≤ Q → LtD (remF f g iv d Q s) (d + Q - s)
  | 0, _ => hf
  | s + 1, h => fun t ht => by
    obtain ⟨n, hn⟩ : ∃ n, Q = n + 1 + s := ⟨Q - 1 - s, by omega⟩
    have ih := remF_lt hf hg hiv s (by omega)
    rw [remF_succ hn, if_pos (by omega), quoF_at hn]
    by_cases e : t = n + d
    · rw [e, show n + d - n = d by omega, mul_a, hiv, mul_one, sub_self]
    · rw [ih t (by omega), hg _ (by omega), mul_zero, sub_zero]
theorem conv_add_l {R : Type} [CRing R] (f h g : Nat → R) (t : Nat) : conv (fun s => f s + h s) g t = conv f g t + conv h g t := by
  unfold conv
  rw [← rsum_add]
  exact rsum_congr fun i _ => add_mul _ _ _
theorem conv_single {R : Type} [CRing R] (n : Nat) (c : R) (g : Nat → R) (t : Nat) : conv (fun s => if s = n then c else 0) g t = if n ≤ t then c * g (t - n) else 0 := by
  unfold conv
  by_cases h : n ≤ t
  · rw [if_pos h, rsum_single (k := n) (by omega) fun i _ hne => by dsimp only; rw [if_neg hne, zero_mul]]
    dsimp only
    rw [if_pos rfl]
  · rw [if_neg h]
    exact rsum_eq_zero fun i hi => by dsimp only; rw [if_neg (by omega), zero_mul]
theorem quoS_succ {s n : Nat} (hs : Q = n + 1 + s) (i : Nat) : quoS f g iv d Q (s + 1) i = quoS f g iv d Q s i + if i = n then quoF f g iv d Q n else 0 := by
  unfold quoS
  by_cases e : i = n
  · rw [if_pos (by omega), if_neg (by omega), if_pos e, zero_add, e]
  · rw [if_neg e, add_zero]
    by_cases e2 : Q - s ≤ i ∧ i < Q
    · rw [if_pos e2, if_pos (by omega)]
    · rw [if_neg e2, if_neg (by omega)]
theorem remF_eq : ∀ s, s ≤ Q → ∀ t, f t = conv (quoS f g iv d Q s) g t + remF f g iv d Q s t
  | 0, _, t => by
    rw [show conv (quoS f g iv d Q 0) g t = 0 from rsum_eq_zero fun i _ => by unfold quoS; rw [if_neg (by omega), zero_mul], zero_add]; rfl
  | s + 1, h, t => by
    obtain ⟨n, hn⟩ : ∃ n, Q = n + 1 + s := ⟨Q - 1 - s, by omega⟩
    rw [remF_eq s (by omega) t, remF_succ hn, show quoS f g iv d Q (s + 1) = fun i => quoS f g iv d Q s i + if i = n then quoF f g iv d Q n else 0 from funext fun i => quoS_succ hn i, conv_add_l, conv_single, add_a]
    congr 1
    rw [add_c, sub_add_cancel]
end
theorem div_ok {F : FD} {p q : List Int} {d A Q : Nat} (hq : (canI F.toDesc q).length = d + 1) (hA : (canI F.toDesc p).length = A) (hQ : Q = A - d) :
    DivI F.toDesc p q (canL (fun i => ci (quoS (cfR F.toDesc p) (cfR F.toDesc q) (inv (cfR F.toDesc q d)) d Q Q i)) Q) (canL (fun i => ci (remF (cfR F.toDesc p) (cfR F.toDesc q) (inv (cfR F.toDesc q d)) d Q Q i)) A) := by
  have hf : LtD (cfR F.toDesc p) (d + Q) := fun t ht => by rw [← cfR_canI]; exact cfR_out F.toDesc (by omega)
  have hg : LtD (cfR F.toDesc q) (d + 1) := fun t ht => by rw [← cfR_canI]; exact cfR_out F.toDesc (by omega)
  have hl : cfR F.toDesc q d ≠ 0 := by rw [← cfR_canI]; exact can_lead (canI_canI F.toDesc q) hq
  have hr := remF_lt hf hg (inv_mul hl) Q (Nat.le_refl _)
  have hQ0 : ∀ i, Q ≤ i → quoS (cfR F.toDesc p) (cfR F.toDesc q) (inv (cfR F.toDesc q d)) d Q Q i = 0 := fun i hi => by unfold quoS; rw [if_neg (by omega)]
  have hR0 : ∀ i, A ≤ i → remF (cfR F.toDesc p) (cfR F.toDesc q) (inv (cfR F.toDesc q d)) d Q Q i = 0 := fun i hi => by
    by_cases e : A ≤ d
    · have e2 : Q = 0 := by omega
      rw [e2]
      show cfR F.toDesc p i = 0
      rw [← cfR_canI]; exact cfR_out F.toDesc (by omega)
    · exact hr i (by omega)
  refine ⟨canI_can _ _ hQ0, canI_can _ _ hR0, fun s => ?_, ?_⟩
  · rw [cfR_can _ _ hQ0, cfR_can _ _ hR0]
    exact remF_eq Q (Nat.le_refl _) s
  · rw [hq]
    have := can_short (canI_can _ _ hR0) (n := d) fun t ht => by rw [cfR_can _ _ hR0]; exact hr t (by omega)
    omega
end Go.Proofs.Ytpflgmbcmfllgaa

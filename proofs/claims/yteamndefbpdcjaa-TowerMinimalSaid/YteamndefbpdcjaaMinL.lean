/- Minimal polynomials: the plain law. -/
import Derived.Test.YteamndefbpdcjaaPol5r
import Derived.Test.YteamndefbpdcjaaEmbL
import Derived.Test.YteamndefbpdcjaaTowE
namespace Go.Proofs.Yteamndefbpdcjaa
open Go.RowKit Cw

theorem frob_pw {F : Type} [FF F] (k n : Nat) (x : F) : frob k (pw x n) = pw (frob k x) n := by
  induction n with
  | zero => exact frob_one k
  | succ n ih => rw [pw_succ, pw_succ, frob_mul, ih]
theorem IsPer.inj {D : FD} {d n : Nat} {u : R D.toDesc} (h : IsPer d u n) {i j : Nat} (hi : i < n) (hj : j < n) (e : frob (d * i) u = frob (d * j) u) : i = j := by
  have key : ∀ i j, i < j → j < n → frob (d * i) u = frob (d * j) u → False := fun i j hij hj e => by
    have e2 : d * j = d * i + d * (j - i) := by rw [← Nat.mul_add]; congr 1; omega
    rw [e2, ← frob_frob] at e
    exact h.2.2 (j - i) (by omega) (by omega) (frob_inj e).symm
  rcases Nat.lt_trichotomy i j with h1 | h1 | h1
  · exact (key i j h1 hj e).elim
  · exact h1
  · exact (key j i h1 hi e.symm).elim
theorem cfR_frobs {D : FD} {d n : Nat} {u : R D.toDesc} {i : Nat} (hi : i < n) : cfR D.toDesc (frobs d u n) i = frob (d * i) u := by
  unfold cfR frobs
  rw [lst_get _ hi, eli_ci]
/-- The coefficients of the product of X - c over the conjugates c. -/
noncomputable def mpc {D : FD} (d : Nat) (u : R D.toDesc) (n : Nat) : Nat → R D.toDesc := lcf (cfR D.toDesc (frobs d u n)) n n
theorem mpc_top {D : FD} (d : Nat) (u : R D.toDesc) (n : Nat) : mpc d u n n = 1 := by
  have h := lcf_top (cfR D.toDesc (frobs d u n)) n n
  rw [ldeg_le (Nat.le_refl _)] at h
  exact h
theorem mpc_high {D : FD} (d : Nat) (u : R D.toDesc) (n : Nat) {t : Nat} (h : n < t) : mpc d u n t = 0 :=
  lcf_high _ _ _ _ (by rw [ldeg_le (Nat.le_refl _)]; exact h)
theorem mpc_root {D : FD} {d n : Nat} {u : R D.toDesc} {k : Nat} (hk : k < n) : rsum (n + 1) (fun t => mpc d u n t * pw (frob (d * k) u) t) = 0 := by
  have h := lcf_sum (cfR D.toDesc (frobs d u n)) n (frob (d * k) u) n (n + 1) (by rw [ldeg_le (Nat.le_refl _)]; omega)
  have h2 := lval_zero (cfR D.toDesc (frobs d u n)) (i := n) (j := k) (by omega) n hk
  rw [cfR_frobs hk] at h2
  exact h.trans h2
theorem mpc_low {D : FD} {d n : Nat} {u : R D.toDesc} {k : Nat} (hk : k < n) : rsum n (fun t => mpc d u n t * pw (frob (d * k) u) t) = - pw (frob (d * k) u) n := by
  have h := mpc_root (D := D) (d := d) (u := u) hk
  rw [rsum_succ, mpc_top, one_mul] at h
  exact neg_unique (by rw [add_c]; exact h)
/-- A conjugate is the image of one. -/
theorem IsPer.pre {D : FD} {d n : Nat} {u : R D.toDesc} (h : IsPer d u n) {k : Nat} (hk : k < n) : ∃ j, j < n ∧ frob d (frob (d * j) u) = frob (d * k) u := by
  rcases k with - | k
  · refine ⟨n - 1, by omega, ?_⟩
    have e : d + d * (n - 1) = d * n := by rw [Nat.add_comm, ← Nat.mul_succ]; congr 1; omega
    rw [frob_frob, e, h.2.1, Nat.mul_zero, frob_zero_k]
  · exact ⟨k, by omega, by rw [frob_frob, Nat.mul_succ, Nat.add_comm]⟩
theorem mpc_sub {D : FD} {d n : Nat} {u : R D.toDesc} (h : IsPer d u n) (t : Nat) : InSub d (mpc d u n t) := by
  rcases Nat.lt_trichotomy t n with ht | rfl | ht
  · refine (sub_eq_zero ?_).symm
    refine rsum_roots (n := n) (f := fun i => mpc d u n i - frob d (mpc d u n i)) (a := fun k => frob (d * k) u) (fun i j hi hj e => h.inj hi hj e) (fun k hk => ?_) ht
    obtain ⟨j, hj, e⟩ := h.pre hk
    have h1 := mpc_low (D := D) (d := d) (u := u) hk
    have h2 : rsum n (fun i => frob d (mpc d u n i) * pw (frob (d * k) u) i) = - pw (frob (d * k) u) n := by
      have h3 := congrArg (frob d) (mpc_low (D := D) (d := d) (u := u) hj)
      rw [frob_rsum, frob_neg, frob_pw, e] at h3
      rw [← h3]
      exact rsum_congr fun i _ => by rw [frob_mul, frob_pw, e]
    rw [rsum_congr (g := fun i => mpc d u n i * pw (frob (d * k) u) i - frob d (mpc d u n i) * pw (frob (d * k) u) i) (fun i _ => sub_mul _ _ _), rsum_sub, h1, h2, sub_self]
  · rw [mpc_top]; exact InSub.one d
  · rw [mpc_high d u n ht]; exact InSub.zero d
/-- The minimal polynomial's list. -/
noncomputable def minL {D : FD} (d : Nat) (u : R D.toDesc) (n : Nat) : List Int := lst (n + 1) fun t => ci (mpc d u n t)
theorem minL_length {D : FD} (d : Nat) (u : R D.toDesc) (n : Nat) : (minL d u n).length = n + 1 := lst_length _ _
theorem minL_frK {D : FD} (d : Nat) (u : R D.toDesc) (n : Nat) : frK D (frobs d u n) (frobs d u n).length = minL d u n := by
  unfold frK minL mpc
  rw [frobs_length]
theorem minL_get {D : FD} (d : Nat) (u : R D.toDesc) {n i : Nat} (h : i < n + 1) : (minL d u n)[i]?.getD 0 = ci (mpc d u n i) := lst_get _ h
theorem pevI_minL {D : FD} {d n : Nat} {u : R D.toDesc} {k : Nat} (hk : k < n) : pevI D.toDesc (minL d u n) (frob (d * k) u) = 0 := by
  unfold pevI
  rw [minL_length]
  refine (rsum_congr fun i hi => ?_).trans (mpc_root (D := D) (d := d) (u := u) hk)
  rw [minL_get d u hi, eli_ci]
theorem pevI_frob {D : FD} {d : Nat} {p : List Int} (hp : ∀ i, InSub d (cfR D.toDesc p i)) (u : R D.toDesc) (k : Nat) : pevI D.toDesc p (frob (d * k) u) = frob (d * k) (pevI D.toDesc p u) := by
  unfold pevI
  rw [frob_rsum]
  refine rsum_congr fun i _ => ?_
  have h2 : frob (d * k) (cfR D.toDesc p i) = cfR D.toDesc p i := frob_fix_mul (hp i) k
  unfold cfR at h2
  rw [frob_mul, frob_pw, h2]
/-- A list in canonical form whose polynomial has more roots than its degree is empty. -/
theorem can_nil {D : FD} {d n : Nat} {u : R D.toDesc} (h : IsPer d u n) {r : List Int} (hc : canI D.toDesc r = r) (hl : r.length ≤ n) (hz : ∀ k, k < n → pevI D.toDesc r (frob (d * k) u) = 0) : r = [] := by
  have h0 : ∀ i, cfR D.toDesc r i = 0 := fun i => by
    by_cases hi : i < n
    · refine rsum_roots (n := n) (f := cfR D.toDesc r) (a := fun k => frob (d * k) u) (fun i j hi hj e => h.inj hi hj e) (fun k hk => ?_) hi
      rw [rsum_more (n := r.length) hl _ fun i h1 _ => by rw [cfR_out D.toDesc h1, zero_mul]]
      exact hz k hk
    · exact cfR_out D.toDesc (by omega)
  rw [← hc]
  unfold canI
  rw [canL_more (n := 0) (Nat.zero_le _) fun i _ _ => by unfold cfI; rw [h0, ci_zero]]
  rfl
theorem min_divides {D : FD} {d n : Nat} {u : R D.toDesc} (h : IsPer d u n) {p r : List Int} {Q : R D.toDesc → R D.toDesc} (hp : ∀ i, InSub d (cfR D.toDesc p i)) (hz : pevI D.toDesc p u = 0) (hd : ∀ x, pevI D.toDesc p x = Q x * pevI D.toDesc (minL d u n) x + pevI D.toDesc r x) (hc : canI D.toDesc r = r) (hl : r.length ≤ n) : r = [] := by
  refine can_nil h hc hl fun k hk => ?_
  have h1 := hd (frob (d * k) u)
  rw [pevI_frob hp, hz, frob_zero, pevI_minL hk, mul_zero, zero_add] at h1
  exact h1.symm
end Go.Proofs.Yteamndefbpdcjaa

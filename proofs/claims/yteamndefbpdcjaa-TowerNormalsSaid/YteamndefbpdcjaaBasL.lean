/- Bases over a subfield: the plain law. -/
import Derived.Test.YteamndefbpdcjaaSolP
namespace Cw
section
variable {F : Type} [FF F]
open CField (inv)
open FF (p q M el code gen M_pos)

/-- No combination with coordinates in the subfield is 0, but for the one with all coordinates 0. -/
def IndS (d n : Nat) (l : Nat → F) : Prop := ∀ c : Nat → F, (∀ j, j < n → InSub d (c j)) → rsum n (fun j => c j * l j) = 0 → ∀ j, j < n → c j = 0
/-- The equations of the conjugates, with right sides b. -/
def conA (d n : Nat) (l b : Nat → F) : Nat → Nat → F := fun i j => if j < n then frob (d * i) (l j) else b i
theorem conA_row (d n : Nat) (l b x : Nat → F) (i : Nat) : rsum n (fun j => conA d n l b i j * x j) = rsum n (fun j => frob (d * i) (l j) * x j) :=
  rsum_congr fun j hj => by unfold conA; rw [if_pos hj]
theorem conA_last (d n : Nat) (l b : Nat → F) (i : Nat) : conA d n l b i n = b i := if_neg (Nat.lt_irrefl n)
theorem conA_sol {d n : Nat} {l b x : Nat → F} : SolA n (conA d n l b) x ↔ ∀ i, i < n → rsum n (fun j => frob (d * i) (l j) * x j) = b i := by
  unfold SolA
  exact ⟨fun h i hi => by have := h i hi; rwa [conA_row, conA_last] at this, fun h i hi => by rw [conA_row, conA_last]; exact h i hi⟩
theorem conA_ker {d n : Nat} {l b x : Nat → F} : KerA n (conA d n l b) x ↔ ∀ i, i < n → rsum n (fun j => frob (d * i) (l j) * x j) = 0 := by
  unfold KerA
  exact ⟨fun h i hi => by have := h i hi; rwa [conA_row] at this, fun h i hi => by rw [conA_row]; exact h i hi⟩
theorem frob_cyc {d n : Nat} (hn : d * n = M F) {i k : Nat} (y : F) (h : i % n = k % n) : frob (d * i) y = frob (d * k) y := by
  have e : ∀ i, frob (d * i) y = frob (d * (i % n)) y := fun i => by
    conv => lhs; rw [← Nat.div_add_mod i n]
    rw [Nat.mul_add, Nat.add_comm, ← frob_frob, ← Nat.mul_assoc, hn, frob_Mmul]
  rw [e i, h, ← e k]
theorem frob_pre {d n : Nat} (hn : d * n = M F) {i : Nat} (hi : i < n) : ∃ k, k < n ∧ ∀ y : F, frob d (frob (d * k) y) = frob (d * i) y := by
  refine ⟨(i + (n - 1)) % n, Nat.mod_lt _ (by omega), fun y => ?_⟩
  have h1 : frob d (frob (d * ((i + (n - 1)) % n)) y) = frob (d * ((i + (n - 1)) % n + 1)) y := by rw [frob_frob, Nat.mul_succ, Nat.add_comm]
  rw [h1]
  refine frob_cyc hn y ?_
  rw [Nat.mod_add_mod, show i + (n - 1) + 1 = i + n by omega, Nat.add_mod_right]
/-- The image of a solution. -/
theorem sol_frob {d n : Nat} (hn : d * n = M F) {l x : Nat → F} {u : F} (h : ∀ i, i < n → rsum n (fun j => frob (d * i) (l j) * x j) = frob (d * i) u) : ∀ i, i < n → rsum n (fun j => frob (d * i) (l j) * frob d (x j)) = frob (d * i) u := fun i hi => by
  obtain ⟨k, hk, e⟩ := frob_pre (F := F) hn hi
  rw [← e u, ← h k hk, frob_rsum]
  exact rsum_congr fun j _ => by rw [frob_mul, e]
theorem ker_frob {d n : Nat} (hn : d * n = M F) {l x : Nat → F} (h : ∀ i, i < n → rsum n (fun j => frob (d * i) (l j) * x j) = 0) (k : Nat) : ∀ i, i < n → rsum n (fun j => frob (d * i) (l j) * frob (d * k) (x j)) = 0 := by
  induction k with
  | zero => intro i hi; rw [← h i hi]; exact rsum_congr fun j _ => by rw [Nat.mul_zero, frob_zero_k]
  | succ k ih =>
    intro i hi
    have h1 := sol_frob hn (l := l) (x := fun j => frob (d * k) (x j)) (u := 0) (fun i hi => by rw [frob_zero]; exact ih i hi) i hi
    rw [frob_zero] at h1
    rw [← h1]
    exact rsum_congr fun j _ => by rw [frob_frob, Nat.mul_succ, Nat.add_comm]
theorem div_n {d n : Nat} (hn : d * n = M F) (hn1 : 1 ≤ n) : M F / d = n := by
  have h0 : 0 < d := Nat.pos_of_ne_zero fun e => by have := M_pos (F := F); rw [← hn, e, Nat.zero_mul] at this; omega
  rw [← hn, Nat.mul_div_cancel_left _ h0]
theorem tr_n {d n : Nat} (hn : d * n = M F) (hn1 : 1 ≤ n) (x : F) : tr d x = rsum n (fun i => frob (d * i) x) := by unfold tr; rw [div_n hn hn1]
theorem ind_of_ker {d n : Nat} {l b : Nat → F} (h : ∀ x, KerA n (conA d n l b) x → ∀ j, j < n → x j = 0) : IndS d n l := fun c hc hz => by
  refine h c (conA_ker.2 fun i _ => ?_)
  have h1 := congrArg (frob (d * i)) hz
  rw [frob_rsum, frob_zero] at h1
  rw [← h1]
  exact rsum_congr fun j hj => by rw [frob_mul, frob_fix_mul (hc j hj), mul_c]
theorem ker_of_ind {d n : Nat} (hn : d * n = M F) (hd1 : 1 ≤ d) (hn1 : 1 ≤ n) {l b : Nat → F} (h : IndS d n l) {x : Nat → F} (hk : KerA n (conA d n l b) x) : ∀ j, j < n → x j = 0 := fun j0 hj0 => by
  refine Classical.byContradiction fun hx => ?_
  have hd : d ∣ M F := ⟨n, hn.symm⟩
  obtain ⟨y, hy⟩ := tr_onto (F := F) hd hd1
  have hk2 := conA_ker.1 hk
  obtain ⟨a, ha⟩ : ∃ a, a = y * inv (x j0) := ⟨_, rfl⟩
  have hk3 : ∀ i, i < n → rsum n (fun j => frob (d * i) (l j) * (a * x j)) = 0 := fun i hi => by
    rw [rsum_congr (g := fun j => a * (frob (d * i) (l j) * x j)) fun j _ => mul_lc _ _ _, rsum_mul_left, hk2 i hi, mul_zero]
  have h0 := h (fun j => tr d (a * x j)) (fun j _ => tr_inSub hd _) (by
    rw [rsum_congr (g := fun j => rsum n fun k => frob (d * k) (a * x j) * l j) fun j _ => by rw [tr_n hn hn1, rsum_mul_right], rsum_swap]
    refine rsum_eq_zero fun k _ => ?_
    have h2 := ker_frob hn hk3 k 0 (by omega)
    rw [← h2]
    exact rsum_congr fun j _ => by rw [Nat.mul_zero, frob_zero_k, mul_c]) j0 hj0
  rw [ha, mul_a, inv_mul hx, mul_one] at h0
  exact hy h0
/-- The coordinates of x. -/
theorem coor_sub {d n : Nat} (hn : d * n = M F) {l c : Nat → F} {x : F} (hu : ∀ y, SolA n (conA d n l fun i => frob (d * i) x) y ↔ ∀ i, i < n → y i = c i) : (∀ j, j < n → InSub d (c j)) ∧ (1 ≤ n → rsum n (fun j => c j * l j) = x) := by
  have h1 := conA_sol.1 ((hu c).2 fun _ _ => rfl)
  refine ⟨fun j hj => ?_, fun h => ?_⟩
  · exact (hu fun j => frob d (c j)).1 (conA_sol.2 (sol_frob hn h1)) j hj
  · have h2 := h1 0 (by omega)
    rw [Nat.mul_zero, frob_zero_k] at h2
    rw [← h2]
    exact rsum_congr fun j _ => by rw [frob_zero_k, mul_c]
/-- The unit vector. -/
def e0 : Nat → F := fun i => if i = 0 then 1 else 0
theorem dual_ab {d n : Nat} (hn : d * n = M F) {l m : Nat → F} (h : SolA n (conA d n l e0) m) {i k : Nat} (hi : i < n) (hk : k < n) : rsum n (fun j => frob (d * i) (l j) * frob (d * k) (m j)) = if i = k then 1 else 0 := by
  obtain ⟨t, ht⟩ : ∃ t, t = (i + (n - k)) % n := ⟨_, rfl⟩
  have htn : t < n := by rw [ht]; exact Nat.mod_lt _ (by omega)
  have e : ∀ y : F, frob (d * k) (frob (d * t) y) = frob (d * i) y := fun y => by
    rw [frob_frob, ← Nat.mul_add]
    refine frob_cyc hn y ?_
    rw [ht, Nat.add_mod_mod, show k + (i + (n - k)) = i + n by omega, Nat.add_mod_right]
  have h1 := congrArg (frob (d * k)) (conA_sol.1 h t htn)
  rw [frob_rsum] at h1
  rw [rsum_congr (g := fun j => frob (d * k) (frob (d * t) (l j) * m j)) (fun j _ => by rw [frob_mul, e]), h1]
  unfold e0
  have hti : t = 0 ↔ i = k := by
    rw [ht]
    constructor
    · intro h0
      by_cases hik : i < k
      · rw [Nat.mod_eq_of_lt (by omega)] at h0; omega
      · rw [show i + (n - k) = (i - k) + n by omega, Nat.add_mod_right, Nat.mod_eq_of_lt (by omega)] at h0; omega
    · intro h0
      rw [show i + (n - k) = n by omega, Nat.mod_self]
  by_cases hik : i = k
  · rw [if_pos hik, if_pos (hti.2 hik), frob_one]
  · rw [if_neg hik, if_neg (fun e => hik (hti.1 e)), frob_zero]
theorem dual_tr {d n : Nat} (hn : d * n = M F) (hn1 : 1 ≤ n) {l b m : Nat → F} (hk : ∀ x, KerA n (conA d n l b) x → ∀ j, j < n → x j = 0) (h : SolA n (conA d n l e0) m) {s t : Nat} (hs : s < n) (ht : t < n) : tr d (l t * m s) = if t = s then 1 else 0 := by
  have h0 := hk (fun s => rsum n (fun k => frob (d * k) (m s) * frob (d * k) (l t)) - if t = s then 1 else 0) (conA_ker.2 fun i hi => by
    rw [rsum_congr (g := fun s => rsum n (fun k => frob (d * i) (l s) * frob (d * k) (m s) * frob (d * k) (l t)) - frob (d * i) (l s) * if t = s then 1 else 0) fun s _ => by
        rw [mul_sub, ← rsum_mul_left]; congr 1; exact rsum_congr fun k _ => (mul_a _ _ _).symm,
      rsum_sub, rsum_swap,
      rsum_congr (g := fun k => (if i = k then 1 else 0) * frob (d * k) (l t)) fun k hk => by rw [rsum_mul_right, dual_ab hn h hi hk],
      rsum_single (k := i) hi fun k _ hne => by rw [if_neg (fun e => hne e.symm), zero_mul],
      rsum_single (k := t) ht fun s _ hne => by rw [if_neg (fun e => hne e.symm), mul_zero],
      if_pos rfl, if_pos rfl, one_mul, mul_one, sub_self]) s hs
  rw [tr_n hn hn1, rsum_congr (g := fun k => frob (d * k) (m s) * frob (d * k) (l t)) fun k _ => by rw [frob_mul, mul_c]]
  exact sub_eq_zero h0
theorem tr_lin {d n : Nat} (hn : d * n = M F) (hn1 : 1 ≤ n) {c : F} (hc : InSub d c) (x : F) : tr d (c * x) = c * tr d x := by
  rw [tr_n hn hn1, tr_n hn hn1, ← rsum_mul_left]
  exact rsum_congr fun i _ => by rw [frob_mul, frob_fix_mul hc]
theorem tr_zero_ (d : Nat) : tr d (0 : F) = 0 := by
  unfold tr; exact rsum_eq_zero fun i _ => frob_zero _
theorem tr_sum_ (d n : Nat) (f : Nat → F) : tr d (rsum n f) = rsum n fun j => tr d (f j) := by
  induction n with
  | zero => exact tr_zero_ d
  | succ n ih => rw [rsum_succ, tr_add, ih, rsum_succ]
theorem dual_ind {d n : Nat} (hn : d * n = M F) (hn1 : 1 ≤ n) {l m : Nat → F} (h : ∀ s t, s < n → t < n → tr d (l t * m s) = if t = s then 1 else 0) : IndS d n m := fun c hc hz i hi => by
  have h1 : tr d (rsum n (fun j => c j * m j) * l i) = c i := by
    rw [← rsum_mul_right, tr_sum_, rsum_congr (g := fun j => c j * if i = j then 1 else 0) fun j hj => by rw [mul_a, tr_lin hn hn1 (hc j hj), mul_c (m j), h j i hj hi],
      rsum_single (k := i) hi fun j _ hne => by rw [if_neg (fun e => hne e.symm), mul_zero], if_pos rfl, mul_one]
  rw [← h1, hz, zero_mul, tr_zero_]
theorem dual_back {d n : Nat} (hn : d * n = M F) (hn1 : 1 ≤ n) {l m : Nat → F} (h : SolA n (conA d n l e0) m) : SolA n (conA d n m e0) l := conA_sol.2 fun k hk => by
  have h1 := dual_ab hn h (i := 0) (by omega) hk
  unfold e0
  rw [show (if k = 0 then (1 : F) else 0) = if 0 = k then 1 else 0 by by_cases e : k = 0 <;> simp [e, eq_comm], ← h1]
  exact rsum_congr fun j _ => by rw [Nat.mul_zero, frob_zero_k, mul_c]
/-- The combinations, by their numbers. -/
def smA (S : Nat) (sub u : Nat → F) : Nat → Nat → F
  | 0, _ => 0
  | k + 1, t => smA S sub u k (t / S) + sub (t % S) * u k
def cfA (S : Nat) (sub : Nat → F) : Nat → Nat → Nat → F
  | 0, _, _ => 0
  | k + 1, t, i => if i = k then sub (t % S) else cfA S sub k (t / S) i
theorem smA_sum (S : Nat) (sub u : Nat → F) : ∀ k t, smA S sub u k t = rsum k (fun i => cfA S sub k t i * u i)
  | 0, _ => rfl
  | k + 1, t => by
    rw [rsum_succ]
    show smA S sub u k (t / S) + sub (t % S) * u k = rsum k (fun i => (if i = k then sub (t % S) else cfA S sub k (t / S) i) * u i) + (if k = k then sub (t % S) else cfA S sub k (t / S) k) * u k
    rw [if_pos rfl, smA_sum S sub u k]
    congr 1
    exact rsum_congr fun i hi => by rw [if_neg (by omega)]
theorem cfA_sub {S d : Nat} {sub : Nat → F} (hS : 0 < S) (hs : ∀ e, e < S → InSub d (sub e)) : ∀ k t i, i < k → InSub d (cfA S sub k t i)
  | 0, _, _, h => absurd h (Nat.not_lt_zero _)
  | k + 1, t, i, h => by
    show InSub d (if i = k then sub (t % S) else cfA S sub k (t / S) i)
    split
    · exact hs _ (Nat.mod_lt _ hS)
    · exact cfA_sub hS hs k _ i (by omega)
theorem cfA_inj {S : Nat} {sub : Nat → F} (hS : 0 < S) (hs : ∀ e e', e < S → e' < S → sub e = sub e' → e = e') : ∀ k t t', t < S ^ k → t' < S ^ k → (∀ i, i < k → cfA S sub k t i = cfA S sub k t' i) → t = t'
  | 0, t, t', h, h', _ => by simp at h h'; omega
  | k + 1, t, t', h, h', e => by
    have e1 := e k (Nat.lt_succ_self _)
    have e1 : sub (t % S) = sub (t' % S) := by
      have : (if k = k then sub (t % S) else cfA S sub k (t / S) k) = (if k = k then sub (t' % S) else cfA S sub k (t' / S) k) := e1
      rwa [if_pos rfl, if_pos rfl] at this
    have e2 := hs _ _ (Nat.mod_lt _ hS) (Nat.mod_lt _ hS) e1
    have hq : ∀ t, t < S ^ (k + 1) → t / S < S ^ k := fun t h => by
      rw [Nat.pow_succ] at h
      exact Nat.div_lt_of_lt_mul (by rwa [Nat.mul_comm] at h)
    have e3 := cfA_inj hS hs k (t / S) (t' / S) (hq t h) (hq t' h') fun i hi => by
      have : (if i = k then sub (t % S) else cfA S sub k (t / S) i) = (if i = k then sub (t' % S) else cfA S sub k (t' / S) i) := e i (by omega)
      rwa [if_neg (by omega), if_neg (by omega)] at this
    rw [← Nat.div_add_mod t S, ← Nat.div_add_mod t' S, e2, e3]
theorem cfA_onto {S d : Nat} {sub : Nat → F} (hs : ∀ x, InSub d x → ∃ e, e < S ∧ sub e = x) : ∀ k (c : Nat → F), (∀ i, i < k → InSub d (c i)) → ∃ t, t < S ^ k ∧ ∀ i, i < k → cfA S sub k t i = c i
  | 0, _, _ => ⟨0, by simp, fun _ h => absurd h (Nat.not_lt_zero _)⟩
  | k + 1, c, h => by
    obtain ⟨t, ht, h1⟩ := cfA_onto hs k c fun i hi => h i (by omega)
    obtain ⟨e, he, h2⟩ := hs (c k) (h k (Nat.lt_succ_self _))
    refine ⟨t * S + e, ?_, fun i hi => ?_⟩
    · rw [Nat.pow_succ]
      have : (t + 1) * S ≤ S ^ k * S := Nat.mul_le_mul_right _ ht
      rw [Nat.succ_mul] at this
      omega
    · show (if i = k then sub ((t * S + e) % S) else cfA S sub k ((t * S + e) / S) i) = c i
      have e1 : (t * S + e) % S = e := by rw [Nat.add_comm, Nat.add_mul_mod_self_right, Nat.mod_eq_of_lt he]
      have e2 : (t * S + e) / S = t := by rw [Nat.add_comm, Nat.add_mul_div_right _ _ (by omega : 0 < S), Nat.div_eq_of_lt he, Nat.zero_add]
      rw [e1, e2]
      by_cases e3 : i = k
      · rw [if_pos e3, e3, h2]
      · rw [if_neg e3]; exact h1 i (by omega)
/-- All combinations are different just for independent elements. -/
theorem smA_ind {S d n : Nat} {sub u : Nat → F} (hS : 0 < S) (h1 : ∀ e, e < S → InSub d (sub e)) (h2 : ∀ e e', e < S → e' < S → sub e = sub e' → e = e') (h3 : ∀ x, InSub d x → ∃ e, e < S ∧ sub e = x) :
    IndS d n u ↔ ∀ t t', t < S ^ n → t' < S ^ n → smA S sub u n t = smA S sub u n t' → t = t' := by
  constructor
  · intro h t t' ht ht' e
    refine cfA_inj hS h2 n t t' ht ht' fun i hi => ?_
    rw [smA_sum, smA_sum] at e
    refine sub_eq_zero (h (fun i => cfA S sub n t i - cfA S sub n t' i) (fun j hj => (cfA_sub hS h1 n t j hj).sub (cfA_sub hS h1 n t' j hj)) ?_ i hi)
    rw [rsum_congr (g := fun j => cfA S sub n t j * u j - cfA S sub n t' j * u j) fun j _ => sub_mul _ _ _, rsum_sub, e, sub_self]
  · intro h c hc hz j hj
    obtain ⟨t, ht, e⟩ := cfA_onto h3 n c hc
    obtain ⟨t0, ht0, e0⟩ := cfA_onto h3 n (fun _ => 0) fun _ _ => InSub.zero d
    have e1 : smA S sub u n t = 0 := by rw [smA_sum, rsum_congr (g := fun i => c i * u i) fun i hi => by rw [e i hi], hz]
    have e2 : smA S sub u n t0 = 0 := by rw [smA_sum]; exact rsum_eq_zero fun i hi => by rw [e0 i hi, zero_mul]
    have e3 := h t t0 ht ht0 (e1.trans e2.symm)
    rw [← e j hj, e3, e0 j hj]
end
end Cw

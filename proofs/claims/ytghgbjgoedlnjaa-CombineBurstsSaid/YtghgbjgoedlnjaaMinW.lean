/- Plain: the words of a code by their index; the least weight as the reference finds it; ranks of combined rows. No Go here. -/
import Derived.Test.YtghgbjgoedlnjaaDsD
import Derived.Test.YtghgbjgoedlnjaaMinP
namespace Go.Proofs.Ytghgbjgoedlnjaa
open Go.RowKit Cw

section rank
variable {F : Type} [CField F]
theorem RR.congr {m r : Nat} {p : Nat → Nat} {A B : Nat → Nat → F} (h : RR m r p A) (e : ∀ i, i < r → ∀ j, j < m → A i j = B i j) : RR m r p B where
  lt := h.lt
  mono := h.mono
  one := fun i hi => by rw [← e i hi _ (h.lt i hi)]; exact h.one i hi
  zero := fun i j hi hj hne => by rw [← e i hi _ (h.lt j hj)]; exact h.zero i j hi hj hne
  low := fun i hi j hj => by rw [← e i hi j (Nat.lt_trans hj (h.lt i hi))]; exact h.low i hi j hj
theorem RR.indep {m r : Nat} {p : Nat → Nat} {A : Nat → Nat → F} (h : RR m r p A) : Indep r m A := fun c hc i hi => by
  have := h.coef (v := fun _ => 0) (c := c) (fun j hj => (hc j hj).symm) hi
  exact this.symm
theorem iv_indep {K n s : Nat} {M : Nat → Nat → F} (h : Indep K n M) : Indep (K * s) (n * s) (ivP s M) := fun c hc t ht => by
  have hs : 0 < s := by rcases Nat.eq_zero_or_pos s with h | h; · rw [h, Nat.mul_zero] at ht; omega
                        · exact h
  have h1 : t / s < K := Nat.div_lt_of_lt_mul (by rw [Nat.mul_comm]; exact ht)
  have h2 : t % s < s := Nat.mod_lt _ hs
  have h3 := h (fun i => c (s * i + t % s)) (fun j hj => by
    have h4 := hc (s * j + t % s) (idx_lt hj h2)
    rw [Nat.mul_comm K s, rsum_mulk s K] at h4
    rw [← h4]
    refine (rsum_congr fun i hi => ?_).symm
    rw [rsum_single (k := t % s) h2 fun x hx hne => by
      unfold ivP iv
      rw [(divmod_mul hx).2, (divmod_mul h2).2, if_neg (Ne.symm hne), mul_zero]]
    unfold ivP iv
    rw [(divmod_mul h2).1, (divmod_mul h2).2, (divmod_mul h2).2, (divmod_mul h2).1, if_pos rfl]) (t / s) h1
  (try dsimp only at h3)
  rw [Nat.div_add_mod] at h3
  exact h3
theorem prod_indep {K1 K2 n1 n2 : Nat} {A B : Nat → Nat → F} (hA : Indep K1 n1 A) (hB : Indep K2 n2 B) : Indep (K1 * K2) (n1 * n2) (prodR K2 n2 A B) := fun c hc t ht => by
  have hK : 0 < K2 := by rcases Nat.eq_zero_or_pos K2 with h | h; · rw [h, Nat.mul_zero] at ht; omega
                         · exact h
  have h1 : t / K2 < K1 := Nat.div_lt_of_lt_mul (by rw [Nat.mul_comm]; exact ht)
  have h2 : t % K2 < K2 := Nat.mod_lt _ hK
  have key : ∀ x, x < n1 → ∀ j, j < K2 → rsum K1 (fun i => c (K2 * i + j) * A i x) = 0 := fun x hx => hB _ fun y hy => by
    have h4 := hc (n2 * x + y) (idx_lt hx hy)
    rw [Nat.mul_comm K1 K2, rsum_mulk K2 K1, rsum_swap] at h4
    rw [← h4]
    refine rsum_congr fun j hj => ?_
    rw [← rsum_mul_right]
    exact rsum_congr fun i hi => by rw [prodR_at hj hy, mul_a]
  have h3 := hA (fun i => c (K2 * i + t % K2)) (fun x hx => key x hx _ h2) (t / K2) h1
  (try dsimp only at h3)
  rw [Nat.div_add_mod] at h3
  exact h3
theorem sum_indep {K1 K2 n m : Nat} {A B : Nat → Nat → F} (hA : Indep K1 n A) (hB : Indep K2 m B) : Indep (K1 + K2) (n + m) (sumR K1 n A B) := fun c hc t ht => by
  have h1 := hA (fun i => c i) (fun j hj => by
    have h := hc j (by omega)
    rw [rsum_split] at h
    rw [← h, rsum_eq_zero (f := fun i => c (K1 + i) * sumR K1 n A B (K1 + i) j) fun i _ => by unfold sumR; rw [stackR_hi, joinF_lo hj, mul_zero], add_zero]
    exact rsum_congr fun i hi => by unfold sumR; rw [stackR_lo _ _ hi, joinF_lo hj])
  have h2 := hB (fun i => c (K1 + i)) (fun j hj => by
    have h := hc (n + j) (by omega)
    rw [rsum_split] at h
    rw [← h, rsum_eq_zero (f := fun i => c i * sumR K1 n A B i (n + j)) fun i hi => by unfold sumR; rw [stackR_lo _ _ hi, joinF_hi, mul_zero], zero_add]
    exact rsum_congr fun i hi => by unfold sumR; rw [stackR_hi, joinF_hi])
  by_cases e : t < K1
  · exact h1 t e
  · have := h2 (t - K1) (by omega)
    (try dsimp only at this)
    rwa [Nat.add_sub_cancel' (by omega)] at this
theorem plo_indep {K1 K2 n : Nat} {A B : Nat → Nat → F} (hA : Indep K1 n A) (hB : Indep K2 n B) : Indep (K1 + K2) (n + n) (ploR K1 n A B) := fun c hc t ht => by
  have h0 : ∀ j, j < n → rsum K1 (fun i => c i * A i j) = 0 := fun j hj => by
    have h := hc j (by omega)
    rw [rsum_split] at h
    rw [← h, rsum_eq_zero (f := fun i => c (K1 + i) * ploR K1 n A B (K1 + i) j) fun i _ => by unfold ploR; rw [stackR_hi, joinF_lo hj, mul_zero], add_zero]
    exact rsum_congr fun i hi => by unfold ploR; rw [stackR_lo _ _ hi, joinF_lo hj]
  have h1 := hA (fun i => c i) h0
  have h2 := hB (fun i => c (K1 + i)) (fun j hj => by
    have h := hc (n + j) (by omega)
    rw [rsum_split] at h
    rw [← h, rsum_eq_zero (f := fun i => c i * ploR K1 n A B i (n + j)) fun i hi => by have := h1 i hi; (try dsimp only at this); rw [this, zero_mul], zero_add]
    exact rsum_congr fun i hi => by unfold ploR; rw [stackR_hi, joinF_hi])
  by_cases e : t < K1
  · exact h1 t e
  · have := h2 (t - K1) (by omega)
    (try dsimp only at this)
    rwa [Nat.add_sub_cancel' (by omega)] at this
end rank

/-- A canonical code's rows are reduced. -/
theorem canl_RR {F : FD} {n m : Nat} {M : Nat → Nat → R F.toDesc} (h : Canl F n m M) : ∃ p, RR m n p M := by
  have h1 := elS_RR n m M
  have hk : (elS n M m).2.length = n := h.1
  rw [hk] at h1
  exact ⟨_, RR.congr h1 fun i hi j hj => rowL_inj (D := F.toDesc) (h.2 i hi) hj⟩
/-- A number from its digits. -/
def dgv (q : Nat) (f : Nat → Nat) : Nat → Nat
  | 0 => 0
  | d + 1 => dgv q f d + f d * q ^ d
theorem dgv_spec {q : Nat} (hq : 2 ≤ q) {f : Nat → Nat} : ∀ d, (∀ i, i < d → f i < q) → dgv q f d < q ^ d ∧ ∀ i, i < d → dgv q f d / q ^ i % q = f i
  | 0, _ => ⟨by show 0 < q ^ 0; rw [Nat.pow_zero]; omega, fun i hi => absurd hi (Nat.not_lt_zero _)⟩
  | d + 1, h => by
    obtain ⟨h1, h2⟩ := dgv_spec hq d fun i hi => h i (Nat.lt_succ_of_lt hi)
    have hd := h d (Nat.lt_succ_self d)
    have hp : 0 < q ^ d := Nat.pow_pos (by omega)
    refine ⟨?_, fun i hi => ?_⟩
    · show dgv q f d + f d * q ^ d < q ^ (d + 1)
      have : f d * q ^ d + q ^ d ≤ q * q ^ d := by rw [← Nat.succ_mul]; exact Nat.mul_le_mul_right _ hd
      rw [Nat.pow_succ, Nat.mul_comm (q ^ d) q]
      omega
    · show (dgv q f d + f d * q ^ d) / q ^ i % q = f i
      by_cases e : i = d
      · subst e
        rw [Nat.add_mul_div_right _ _ hp, Nat.div_eq_of_lt h1, Nat.zero_add, Nat.mod_eq_of_lt hd]
      · have hi2 : i < d := by omega
        have e2 : f d * q ^ d = (f d * q ^ (d - i - 1) * q) * q ^ i := by
          rw [Nat.mul_assoc, Nat.mul_assoc, ← Nat.pow_succ', ← Nat.pow_add]
          congr 2
          omega
        rw [e2, Nat.add_mul_div_right _ _ (Nat.pow_pos (by omega)), Nat.add_mul_mod_self_right]
        exact h2 i hi2
theorem digits_zero {q : Nat} (hq : 2 ≤ q) : ∀ n v, v < q ^ n → (∀ i, i < n → v / q ^ i % q = 0) → v = 0
  | 0, v, h, _ => by rw [Nat.pow_zero] at h; omega
  | n + 1, v, h, h0 => by
    have h1 := h0 0 (by omega)
    rw [Nat.pow_zero, Nat.div_one] at h1
    have h2 := digits_zero hq n (v / q) (by rw [Nat.div_lt_iff_lt_mul (by omega), ← Nat.pow_succ]; exact h) fun i hi => by
      have := h0 (i + 1) (by omega)
      rwa [Nat.pow_succ', ← Nat.div_div_eq_div_mul] at this
    have := Nat.div_add_mod v q
    rw [h1, h2] at this
    omega
section words
variable {F : FD} {n m : Nat} {M : Nat → Nat → R F.toDesc}
theorem atF_all (g : Nat → R F.toDesc) : ∃ v, v < F.q ^ n ∧ ∀ j, atF n M v j = cmb n g M j := by
  have hq := F.q2
  obtain ⟨h1, h2⟩ := dgv_spec (q := F.q) hq (f := fun t => rcode (g (n - 1 - t))) n fun i _ => rcode_lt _
  refine ⟨_, h1, fun j => ?_⟩
  unfold atF cmb
  refine rsum_congr fun p hp => ?_
  congr 1
  unfold msgF
  dsimp only
  rw [h2 (n - 1 - p) (by omega), show n - 1 - (n - 1 - p) = p by omega]
  exact eli_ci _
theorem atF_span (v : Nat) : Span n m M (atF n M v) := ⟨_, fun _ _ => rfl⟩
theorem atF_NZ (hc : Canl F n m M) {v : Nat} (h1 : 1 ≤ v) (h2 : v < F.q ^ n) : NZ m (atF n M v) := Classical.byContradiction fun hn => by
  have hq := F.q2
  obtain ⟨p, hR⟩ := canl_RR hc
  have h3 := RR.indep hR _ (not_NZ hn)
  have h4 : v = 0 := digits_zero (q := F.q) hq n v h2 fun i hi => by
    have h5 := h3 (n - 1 - i) (by omega)
    (try dsimp only at h5)
    have hlt : msgF F.q n v (n - 1 - i) < F.q := Nat.mod_lt _ (by omega)
    have h6 := ci_eli_in (D := F.toDesc) (x := (msgF F.q n v (n - 1 - i) : Nat)) ⟨by omega, by omega⟩
    rw [h5, ci_zero] at h6
    have h7 : msgF F.q n v (n - 1 - i) = 0 := by omega
    unfold msgF at h7
    rwa [show n - 1 - (n - 1 - i) = i by omega] at h7
  omega
theorem wtI_row (u : Nat → R F.toDesc) : wtI (rowL F.toDesc m u) = wtF m u := by
  unfold wtI wtF
  rw [rowL_length]
  have : ∀ k, k ≤ m → wtN (rowL F.toDesc m u) k = cn (fun j => decide (u j ≠ 0)) k := fun k => by
    induction k with
    | zero => intro _; rfl
    | succ k ih =>
      intro hk
      rw [cn_succ, ← ih (by omega)]
      show wtN (rowL F.toDesc m u) k + (if (rowL F.toDesc m u)[k]?.getD 0 = 0 then 0 else 1) = _
      rw [rowL_get F.toDesc u (show k < m by omega)]
      congr 1
      by_cases e : u k = 0
      · rw [if_pos (by rw [e, ci_zero]), if_neg (by simp [e])]
      · rw [if_neg (fun c => e (by rw [← eli_ci (u k), c, eli_zero])), if_pos (by simp [e])]
  exact this m (Nat.le_refl _)
theorem dmin_spec {f : Nat → Nat} : ∀ N, (∀ i, 1 ≤ i → i ≤ N → 1 ≤ f i) → 1 ≤ N → (∀ i, 1 ≤ i → i ≤ N → dmin f N ≤ f i) ∧ ∃ i, 1 ≤ i ∧ i ≤ N ∧ f i = dmin f N
  | 0, _, h => absurd h (by omega)
  | N + 1, h, _ => by
    have hd : dmin f (N + 1) = if dmin f N = 0 ∨ f (N + 1) < dmin f N then f (N + 1) else dmin f N := rfl
    by_cases hN : N = 0
    · subst hN
      rw [hd, if_pos (.inl rfl)]
      exact ⟨fun i h1 h2 => by obtain rfl : i = 1 := by omega
                               exact Nat.le_refl _, 1, by omega, by omega, rfl⟩
    · obtain ⟨h1, i0, h2, h3, h4⟩ := dmin_spec N (fun i a b => h i a (by omega)) (by omega)
      have h5 := h i0 h2 (by omega)
      rw [hd]
      by_cases hc : dmin f N = 0 ∨ f (N + 1) < dmin f N
      · rw [if_pos hc]
        refine ⟨fun i a b => ?_, N + 1, by omega, by omega, rfl⟩
        by_cases e : i = N + 1
        · rw [e]; exact Nat.le_refl _
        · have := h1 i a (by omega); omega
      · rw [if_neg hc]
        refine ⟨fun i a b => ?_, i0, h2, by omega, h4⟩
        by_cases e : i = N + 1
        · rw [e]; omega
        · exact h1 i a (by omega)
/-- The least weight as the reference finds it. -/
theorem dist_spec (hc : Canl F n m M) (hn : 1 ≤ n) : Low n m M (dmin (wtAt n m M) (F.q ^ n - 1)) ∧ Att n m M (dmin (wtAt n m M) (F.q ^ n - 1)) ∧ 1 ≤ dmin (wtAt n m M) (F.q ^ n - 1) := by
  have hq := F.q2
  have hqn : 2 ≤ F.q ^ n := Nat.le_trans hq (Nat.le_self_pow (by omega) _)
  have hw : ∀ v, wtAt n m M v = wtF m (atF n M v) := fun v => wtI_row _
  obtain ⟨h1, i0, h2, h3, h4⟩ := dmin_spec (f := wtAt n m M) (F.q ^ n - 1) (fun i a b => by rw [hw]; exact wtF_pos (atF_NZ hc a (by omega))) (by omega)
  refine ⟨fun u hu hz => ?_, ⟨atF n M i0, atF_span _, atF_NZ hc h2 (by omega), by rw [← hw]; exact h4⟩, ?_⟩
  · obtain ⟨g, hg⟩ := hu
    obtain ⟨v, hv, he⟩ := atF_all (n := n) (M := M) g
    have hag : ∀ j, j < m → u j = atF n M v j := fun j hj => by rw [hg j hj, he j]; rfl
    have hv1 : 1 ≤ v := Nat.one_le_iff_ne_zero.2 fun h0 => by
      obtain ⟨j, hj, hne⟩ := hz
      refine hne ?_
      rw [hag j hj, h0]
      unfold atF cmb
      exact rsum_eq_zero fun p _ => by
        unfold msgF
        dsimp only
        rw [Nat.zero_div, Nat.zero_mod]
        rw [show ((0 : Nat) : Int) = 0 from rfl, eli_zero, zero_mul]
    have := h1 v hv1 (by omega)
    rwa [hw, ← wtF_congr hag] at this
  · rw [← h4, hw]
    exact wtF_pos (atF_NZ hc h2 (by omega))
theorem dist_zero (h : n = 0) : dmin (wtAt n m M) (F.q ^ n - 1) = 0 := by
  subst h
  rw [Nat.pow_zero]
  rfl
/-- The word of a message is a word. -/
theorem ofF_span (msg : List Int) : Span n m M (ofF n M msg) := ⟨_, fun _ _ => rfl⟩
end words
end Go.Proofs.Ytghgbjgoedlnjaa

/- Plain: least weights of direct sums, of words (u, u + v), of products and of interleaved codes. No Go here. -/
import Derived.Test.YtghgbjgoedlnjaaCmbS
namespace Cw
theorem cn_congr {P Q : Nat → Bool} : ∀ n, (∀ j, j < n → P j = Q j) → cn P n = cn Q n
  | 0, _ => rfl
  | n + 1, h => by rw [cn_succ, cn_succ, cn_congr n fun j hj => h j (Nat.lt_succ_of_lt hj), h n (Nat.lt_succ_self n)]
theorem cn_split (P : Nat → Bool) (a : Nat) : ∀ b, cn P (a + b) = cn P a + cn (fun j => P (a + j)) b
  | 0 => by rw [Nat.add_zero]; rfl
  | b + 1 => by rw [← Nat.add_assoc, cn_succ, cn_succ, cn_split P a b, Nat.add_assoc]
theorem cn_pos {P : Nat → Bool} {j : Nat} : ∀ {n}, j < n → P j = true → 1 ≤ cn P n
  | 0, h, _ => absurd h (Nat.not_lt_zero _)
  | n + 1, h, hp => by
    rw [cn_succ]
    by_cases e : j = n
    · rw [← e, if_pos hp]; omega
    · have := cn_pos (n := n) (by omega) hp; omega
theorem cn_zero {P : Nat → Bool} : ∀ n, (∀ j, j < n → P j = false) → cn P n = 0
  | 0, _ => rfl
  | n + 1, h => by rw [cn_succ, cn_zero n fun j hj => h j (Nat.lt_succ_of_lt hj), h n (Nat.lt_succ_self n)]; rfl
theorem cn_add {P Q S : Nat → Bool} : ∀ n, (∀ j, j < n → P j = true → Q j = true ∨ S j = true) → cn P n ≤ cn Q n + cn S n
  | 0, _ => Nat.zero_le _
  | n + 1, h => by
    have ih := cn_add n fun j hj => h j (Nat.lt_succ_of_lt hj)
    have h1 := h n (Nat.lt_succ_self n)
    rw [cn_succ, cn_succ, cn_succ]
    by_cases e : P n = true
    · rw [if_pos e]
      rcases h1 e with h2 | h2
      · rw [if_pos h2]; omega
      · rw [if_pos h2]; omega
    · rw [if_neg e]; omega
theorem cn_grid_low {P Q : Nat → Bool} {n2 d : Nat} : ∀ n1, (∀ x, x < n1 → Q x = true → d ≤ cn (fun y => P (n2 * x + y)) n2) → cn Q n1 * d ≤ cn P (n1 * n2)
  | 0, _ => by rw [show cn Q 0 = 0 from rfl, Nat.zero_mul]; exact Nat.zero_le _
  | n1 + 1, h => by
    have ih := cn_grid_low n1 fun x hx => h x (Nat.lt_succ_of_lt hx)
    rw [Nat.add_mul, Nat.one_mul, cn_succ Q, cn_split P]
    rw [Nat.mul_comm n1 n2] at ih ⊢
    by_cases e : Q n1 = true
    · rw [if_pos e, Nat.add_mul, Nat.one_mul]
      have := h n1 (Nat.lt_succ_self n1) e
      omega
    · rw [if_neg e, Nat.add_zero]; omega
theorem cn_grid_eq {P Q : Nat → Bool} {n2 d : Nat} : ∀ n1, (∀ x, x < n1 → cn (fun y => P (n2 * x + y)) n2 = if Q x = true then d else 0) → cn P (n1 * n2) = cn Q n1 * d
  | 0, _ => by rw [show cn Q 0 = 0 from rfl, Nat.zero_mul, Nat.zero_mul]; rfl
  | n1 + 1, h => by
    have ih := cn_grid_eq n1 fun x hx => h x (Nat.lt_succ_of_lt hx)
    rw [Nat.add_mul, Nat.one_mul, cn_succ Q, cn_split P]
    have h1 := h n1 (Nat.lt_succ_self n1)
    rw [Nat.mul_comm n1 n2] at ih ⊢
    rw [h1, ih, Nat.add_mul]
    by_cases e : Q n1 = true
    · rw [if_pos e, if_pos e, Nat.one_mul]
    · rw [if_neg e, if_neg e, Nat.zero_mul]
open Go.Proofs.Ytghgbjgoedlnjaa (joinF)
open Go.Proofs.Ytghgbjgoedlnjaa (stackR sumR ploR)
section pl
variable {F : Type} [CField F]
theorem joinF_lo {X : Type} {n j : Nat} {u v : Nat → X} (h : j < n) : joinF n u v j = u j := if_pos h
theorem joinF_ge {X : Type} {n j : Nat} {u v : Nat → X} (h : ¬ j < n) : joinF n u v j = v (j - n) := if_neg h
theorem joinF_hi {X : Type} {n j : Nat} {u v : Nat → X} : joinF n u v (n + j) = v j := by rw [joinF_ge (by omega), Nat.add_sub_cancel_left]
/-- Not zero. -/
def NZ (m : Nat) (u : Nat → F) : Prop := ∃ j, j < m ∧ u j ≠ 0
theorem NZ.congr {m : Nat} {u v : Nat → F} (h : NZ m u) (e : ∀ j, j < m → u j = v j) : NZ m v := by
  obtain ⟨j, hj, hu⟩ := h
  exact ⟨j, hj, by rw [← e j hj]; exact hu⟩
theorem not_NZ {m : Nat} {u : Nat → F} (h : ¬ NZ m u) : ∀ j, j < m → u j = 0 := fun j hj => Classical.byContradiction fun c => h ⟨j, hj, c⟩
/-- A combination of stacked rows. -/
theorem span_stack {K1 K2 m : Nat} {A B : Nat → Nat → F} {u : Nat → F} : Span (K1 + K2) m (stackR K1 A B) u ↔ ∃ a b, Span K1 m A a ∧ Span K2 m B b ∧ ∀ j, j < m → u j = a j + b j := by
  constructor
  · rintro ⟨c, hc⟩
    refine ⟨_, _, ⟨c, fun j _ => rfl⟩, ⟨fun i => c (K1 + i), fun j _ => rfl⟩, fun j hj => ?_⟩
    rw [hc j hj, rsum_split]
    congr 1
    · exact rsum_congr fun i hi => by rw [Go.Proofs.Ytghgbjgoedlnjaa.stackR_lo _ _ hi]
    · exact rsum_congr fun i hi => by rw [Go.Proofs.Ytghgbjgoedlnjaa.stackR_hi]
  · rintro ⟨a, b, ⟨c1, h1⟩, ⟨c2, h2⟩, h⟩
    refine ⟨fun i => if i < K1 then c1 i else c2 (i - K1), fun j hj => ?_⟩
    rw [h j hj, h1 j hj, h2 j hj, rsum_split]
    congr 1
    · exact rsum_congr fun i hi => by rw [Go.Proofs.Ytghgbjgoedlnjaa.stackR_lo _ _ hi]; simp only [if_pos hi]
    · refine rsum_congr fun i hi => ?_
      rw [Go.Proofs.Ytghgbjgoedlnjaa.stackR_hi]
      simp only [if_neg (show ¬ K1 + i < K1 by omega), Nat.add_sub_cancel_left]
theorem span_joinL {K n m : Nat} {A : Nat → Nat → F} {u : Nat → F} : Span K (n + m) (fun i => joinF n (A i) fun _ => 0) u ↔ Span K n A u ∧ ∀ j, j < m → u (n + j) = 0 := by
  constructor
  · rintro ⟨c, hc⟩
    refine ⟨⟨c, fun j hj => ?_⟩, fun j hj => ?_⟩
    · rw [hc j (by omega)]; exact rsum_congr fun i _ => by (try dsimp only); rw [joinF_lo hj]
    · rw [hc (n + j) (by omega)]; exact rsum_eq_zero fun i _ => by (try dsimp only); rw [joinF_hi, mul_zero]
  · rintro ⟨⟨c, hc⟩, h0⟩
    refine ⟨c, fun j hj => ?_⟩
    by_cases h : j < n
    · rw [hc j h]; exact rsum_congr fun i _ => by (try dsimp only); rw [joinF_lo h]
    · have := h0 (j - n) (by omega)
      rw [Nat.add_sub_cancel' (by omega)] at this
      rw [this, rsum_eq_zero fun i _ => by (try dsimp only); rw [joinF_ge h, mul_zero]]
theorem span_joinR {K n m : Nat} {A : Nat → Nat → F} {u : Nat → F} : Span K (n + m) (fun i => joinF n (fun _ => 0) (A i)) u ↔ (∀ j, j < n → u j = 0) ∧ Span K m A (fun j => u (n + j)) := by
  constructor
  · rintro ⟨c, hc⟩
    refine ⟨fun j hj => ?_, ⟨c, fun j hj => ?_⟩⟩
    · rw [hc j (by omega)]; exact rsum_eq_zero fun i _ => by (try dsimp only); rw [joinF_lo hj, mul_zero]
    · (try dsimp only); rw [hc (n + j) (by omega)]; exact rsum_congr fun i _ => by (try dsimp only); rw [joinF_hi]
  · rintro ⟨h0, ⟨c, hc⟩⟩
    refine ⟨c, fun j hj => ?_⟩
    by_cases h : j < n
    · rw [h0 j h, rsum_eq_zero fun i _ => by (try dsimp only); rw [joinF_lo h, mul_zero]]
    · have := hc (j - n) (by omega)
      dsimp only at this
      rw [Nat.add_sub_cancel' (by omega)] at this
      rw [this]
      exact rsum_congr fun i _ => by (try dsimp only); rw [joinF_ge h]
theorem span_joinD {K n : Nat} {A : Nat → Nat → F} {u : Nat → F} : Span K (n + n) (fun i => joinF n (A i) (A i)) u ↔ Span K n A u ∧ ∀ j, j < n → u (n + j) = u j := by
  constructor
  · rintro ⟨c, hc⟩
    have h1 : ∀ j, j < n → u j = rsum K (fun i => c i * A i j) := fun j hj => by rw [hc j (by omega)]; exact rsum_congr fun i _ => by (try dsimp only); rw [joinF_lo hj]
    refine ⟨⟨c, h1⟩, fun j hj => ?_⟩
    rw [h1 j hj, hc (n + j) (by omega)]
    exact rsum_congr fun i _ => by (try dsimp only); rw [joinF_hi]
  · rintro ⟨⟨c, hc⟩, h0⟩
    refine ⟨c, fun j hj => ?_⟩
    by_cases h : j < n
    · rw [hc j h]; exact rsum_congr fun i _ => by (try dsimp only); rw [joinF_lo h]
    · have := h0 (j - n) (by omega)
      rw [Nat.add_sub_cancel' (by omega)] at this
      rw [this, hc (j - n) (by omega)]
      exact rsum_congr fun i _ => by (try dsimp only); rw [joinF_ge h]
theorem join_self {X : Type} {n m : Nat} (u : Nat → X) : ∀ j, j < n + m → u j = joinF n u (fun j => u (n + j)) j := fun j _ => by
  by_cases h : j < n
  · rw [joinF_lo h]
  · rw [joinF_ge h]
    show u j = u (n + (j - n))
    rw [Nat.add_sub_cancel' (by omega)]
theorem NZ_parts {n m : Nat} {u : Nat → F} (h : NZ (n + m) u) : NZ n u ∨ NZ m (fun j => u (n + j)) := by
  obtain ⟨j, hj, hu⟩ := h
  by_cases e : j < n
  · exact .inl ⟨j, e, hu⟩
  · exact .inr ⟨j - n, by omega, by show u (n + (j - n)) ≠ 0; rw [Nat.add_sub_cancel' (by omega)]; exact hu⟩
/-- The words of a direct sum. -/
theorem span_sum {K1 K2 n m : Nat} {A B : Nat → Nat → F} {u : Nat → F} : Span (K1 + K2) (n + m) (sumR K1 n A B) u ↔ Span K1 n A u ∧ Span K2 m B (fun j => u (n + j)) := by
  unfold sumR
  rw [span_stack]
  constructor
  · rintro ⟨a, b, ha, hb, h⟩
    rw [span_joinL] at ha
    rw [span_joinR] at hb
    refine ⟨ha.1.congr fun j hj => ?_, hb.2.congr fun j hj => ?_⟩
    · rw [h j (by omega), hb.1 j hj, add_zero]
    · (try dsimp only); rw [h (n + j) (by omega), ha.2 j hj, zero_add]
  · rintro ⟨ha, hb⟩
    refine ⟨joinF n u (fun _ => 0), joinF n (fun _ => 0) (fun j => u (n + j)), span_joinL.2 ⟨ha.congr fun j hj => by (try dsimp only); rw [joinF_lo hj], fun j _ => by (try dsimp only); rw [joinF_hi]⟩, span_joinR.2 ⟨fun j hj => by (try dsimp only); rw [joinF_lo hj], hb.congr fun j _ => by (try dsimp only); rw [joinF_hi]⟩, fun j hj => ?_⟩
    rw [join_self (n := n) (m := m) u j hj]
    by_cases e : j < n
    · rw [joinF_lo e, joinF_lo e, joinF_lo e, add_zero]
    · rw [joinF_ge e, joinF_ge e, joinF_ge e, zero_add]
/-- The words (u, u + v). -/
theorem span_plo {K1 K2 n : Nat} {A B : Nat → Nat → F} {u : Nat → F} : Span (K1 + K2) (n + n) (ploR K1 n A B) u ↔ Span K1 n A u ∧ Span K2 n B (fun j => u (n + j) + -(u j)) := by
  unfold ploR
  rw [span_stack]
  constructor
  · rintro ⟨a, b, ha, hb, h⟩
    rw [span_joinD] at ha
    rw [span_joinR] at hb
    have h1 : ∀ j, j < n → u j = a j := fun j hj => by rw [h j (by omega), hb.1 j hj, add_zero]
    refine ⟨ha.1.congr h1, hb.2.congr fun j hj => ?_⟩
    (try dsimp only)
    rw [h (n + j) (by omega), ha.2 j hj, h1 j hj, add_c (a j), add_a, add_neg, add_zero]
  · rintro ⟨ha, hb⟩
    refine ⟨joinF n u u, joinF n (fun _ => 0) (fun j => u (n + j) + -(u j)), span_joinD.2 ⟨ha.congr fun j hj => by (try dsimp only); rw [joinF_lo hj], fun j hj => by (try dsimp only); rw [joinF_hi, joinF_lo hj]⟩, span_joinR.2 ⟨fun j hj => by (try dsimp only); rw [joinF_lo hj], hb.congr fun j _ => by (try dsimp only); rw [joinF_hi]⟩, fun j hj => ?_⟩
    by_cases e : j < n
    · rw [joinF_lo e, joinF_lo e, add_zero]
    · rw [joinF_ge e, joinF_ge e]
      (try dsimp only)
      rw [Nat.add_sub_cancel' (by omega), add_lc, add_neg, add_zero]
end pl
section wt
variable {F : Type} [CField F] [DecidableEq F]
/-- The number of the nonzero entries. -/
def wtF (m : Nat) (u : Nat → F) : Nat := cn (fun j => decide (u j ≠ 0)) m
theorem wtF_congr {m : Nat} {u v : Nat → F} (h : ∀ j, j < m → u j = v j) : wtF m u = wtF m v := cn_congr m fun j hj => by rw [h j hj]
theorem wtF_pos {m : Nat} {u : Nat → F} (h : NZ m u) : 1 ≤ wtF m u := by
  obtain ⟨j, hj, hu⟩ := h
  exact cn_pos hj (decide_eq_true hu)
theorem wtF_zero {m : Nat} {u : Nat → F} (h : ∀ j, j < m → u j = 0) : wtF m u = 0 := cn_zero m fun j hj => decide_eq_false fun c => c (h j hj)
theorem wtF_NZ {m : Nat} {u : Nat → F} (h : 1 ≤ wtF m u) : NZ m u := Classical.byContradiction fun c => by rw [wtF_zero (not_NZ c)] at h; omega
theorem wtF_join (n m : Nat) (u v : Nat → F) : wtF (n + m) (joinF n u v) = wtF n u + wtF m v := by
  unfold wtF
  rw [cn_split]
  congr 1
  · exact cn_congr n fun j hj => by (try dsimp only); rw [joinF_lo hj]
  · exact cn_congr m fun j _ => by (try dsimp only); rw [joinF_hi]
/-- No nonzero word of the span has a weight below d; some has the weight d. -/
def Low (n m : Nat) (M : Nat → Nat → F) (d : Nat) : Prop := ∀ u, Span n m M u → NZ m u → d ≤ wtF m u
def Att (n m : Nat) (M : Nat → Nat → F) (d : Nat) : Prop := ∃ u, Span n m M u ∧ NZ m u ∧ wtF m u = d
theorem low_same {n n' m d : Nat} {A B : Nat → Nat → F} (h : Low n m A d) (hs : SameSpan n n' m A B) : Low n' m B d := fun u hu hz => h u (hu.trans hs.2) hz
theorem att_same {n n' m d : Nat} {A B : Nat → Nat → F} (h : Att n m A d) (hs : SameSpan n n' m A B) : Att n' m B d := by
  obtain ⟨u, h1, h2, h3⟩ := h
  exact ⟨u, h1.trans hs.1, h2, h3⟩
theorem min_uniq {n m d d' : Nat} {M : Nat → Nat → F} (h1 : Low n m M d) (h2 : Att n m M d) (h3 : Low n m M d') (h4 : Att n m M d') : d = d' := by
  obtain ⟨u, a1, a2, a3⟩ := h2
  obtain ⟨v, b1, b2, b3⟩ := h4
  have := h1 v b1 b2
  have := h3 u a1 a2
  omega
theorem wtF_parts (n m : Nat) (u : Nat → F) : wtF (n + m) u = wtF n u + wtF m (fun j => u (n + j)) := by
  rw [← wtF_join]
  exact wtF_congr (join_self u)
theorem sum_low {K1 K2 n m da db : Nat} {A B : Nat → Nat → F} (hA : Low K1 n A da) (hB : Low K2 m B db) : Low (K1 + K2) (n + m) (sumR K1 n A B) (min da db) := fun u hu hz => by
  obtain ⟨h1, h2⟩ := span_sum.1 hu
  rw [wtF_parts]
  rcases NZ_parts hz with h | h
  · have := hA _ h1 h; omega
  · have := hB _ h2 h; omega
theorem sum_att1 {K1 K2 n m d : Nat} {A B : Nat → Nat → F} (h : Att K1 n A d) : Att (K1 + K2) (n + m) (sumR K1 n A B) d := by
  obtain ⟨u, h1, ⟨j, hj, hu⟩, h3⟩ := h
  refine ⟨joinF n u (fun _ => 0), span_sum.2 ⟨h1.congr fun j hj => by (try dsimp only); rw [joinF_lo hj], (Span.zero _ _ _).congr fun j _ => by (try dsimp only); rw [joinF_hi]⟩, ⟨j, by omega, by (try dsimp only); rw [joinF_lo hj]; exact hu⟩, ?_⟩
  rw [wtF_join, h3, wtF_zero (u := fun _ => (0 : F)) fun _ _ => rfl, Nat.add_zero]
theorem sum_att2 {K1 K2 n m d : Nat} {A B : Nat → Nat → F} (h : Att K2 m B d) : Att (K1 + K2) (n + m) (sumR K1 n A B) d := by
  obtain ⟨u, h1, ⟨j, hj, hu⟩, h3⟩ := h
  refine ⟨joinF n (fun _ => 0) u, span_sum.2 ⟨(Span.zero _ _ _).congr fun j hj => by (try dsimp only); rw [joinF_lo hj], h1.congr fun j _ => by (try dsimp only); rw [joinF_hi]⟩, ⟨n + j, by omega, by (try dsimp only); rw [joinF_hi]; exact hu⟩, ?_⟩
  rw [wtF_join, h3, wtF_zero (u := fun _ => (0 : F)) fun _ _ => rfl, Nat.zero_add]
theorem plo_low {K1 K2 n da db : Nat} {A B : Nat → Nat → F} (hA : Low K1 n A da) (hB : Low K2 n B db) : Low (K1 + K2) (n + n) (ploR K1 n A B) (min (2 * da) db) := fun u hu hz => by
  obtain ⟨h1, h2⟩ := span_plo.1 hu
  rw [wtF_parts]
  by_cases hv : NZ n (fun j => u (n + j) + -(u j))
  · have h3 := hB _ h2 hv
    have h4 : wtF n (fun j => u (n + j) + -(u j)) ≤ wtF n u + wtF n (fun j => u (n + j)) := cn_add n fun j _ h => by
      have h := of_decide_eq_true h
      by_cases e : u j = 0
      · right; exact decide_eq_true fun c => h (by have c2 : u (n + j) = 0 := c; show u (n + j) + -(u j) = 0; rw [c2, e, neg_zero, add_zero])
      · left; exact decide_eq_true e
    omega
  · have h5 : ∀ j, j < n → u (n + j) = u j := fun j hj => by
      have := not_NZ hv j hj
      exact sub_eq_zero this
    have h6 : wtF n (fun j => u (n + j)) = wtF n u := wtF_congr h5
    have h7 : NZ n u := by
      rcases NZ_parts hz with h | h
      · exact h
      · exact h.congr h5
    have := hA _ h1 h7
    omega
theorem plo_att1 {K1 K2 n d : Nat} {A B : Nat → Nat → F} (h : Att K1 n A d) : Att (K1 + K2) (n + n) (ploR K1 n A B) (2 * d) := by
  obtain ⟨u, h1, ⟨j, hj, hu⟩, h3⟩ := h
  refine ⟨joinF n u u, span_plo.2 ⟨h1.congr fun j hj => by (try dsimp only); rw [joinF_lo hj], (Span.zero _ _ _).congr fun j hj => by (try dsimp only); rw [joinF_hi, joinF_lo hj, add_neg]⟩, ⟨j, by omega, by (try dsimp only); rw [joinF_lo hj]; exact hu⟩, ?_⟩
  rw [wtF_join, h3]; omega
theorem plo_att2 {K1 K2 n d : Nat} {A B : Nat → Nat → F} (h : Att K2 n B d) : Att (K1 + K2) (n + n) (ploR K1 n A B) d := by
  obtain ⟨u, h1, ⟨j, hj, hu⟩, h3⟩ := h
  refine ⟨joinF n (fun _ => 0) u, span_plo.2 ⟨(Span.zero _ _ _).congr fun j hj => by (try dsimp only); rw [joinF_lo hj], h1.congr fun j hj => by (try dsimp only); rw [joinF_hi, joinF_lo hj, neg_zero, add_zero]⟩, ⟨n + j, by omega, by (try dsimp only); rw [joinF_hi]; exact hu⟩, ?_⟩
  rw [wtF_join, h3, wtF_zero (u := fun _ => (0 : F)) fun _ _ => rfl, Nat.zero_add]
theorem prod_low {K1 K2 n1 n2 da db : Nat} {A B : Nat → Nat → F} (hA : Low K1 n1 A da) (hB : Low K2 n2 B db) : Low (K1 * K2) (n1 * n2) (prodR K2 n2 A B) (da * db) := fun u hu hz => by
  obtain ⟨h1, h2⟩ := prod_in hu
  obtain ⟨c, hc, hu0⟩ := hz
  have hn : 0 < n2 := by rcases Nat.eq_zero_or_pos n2 with h | h; · rw [h, Nat.mul_zero] at hc; omega
                         · exact h
  have hx : c / n2 < n1 := Nat.div_lt_of_lt_mul (by rw [Nat.mul_comm]; exact hc)
  have hy : c % n2 < n2 := Nat.mod_lt _ hn
  have ec : n2 * (c / n2) + c % n2 = c := Nat.div_add_mod c n2
  have h3 := hA _ (h1 _ hy) ⟨c / n2, hx, by dsimp only; rw [ec]; exact hu0⟩
  have h4 := cn_grid_low (P := fun j => decide (u j ≠ 0)) (Q := fun x => decide (u (n2 * x + c % n2) ≠ 0)) (n2 := n2) (d := db) n1 fun x hx2 hq =>
    hB _ (h2 x hx2) ⟨c % n2, hy, of_decide_eq_true hq⟩
  exact Nat.le_trans (Nat.mul_le_mul_right db h3) h4
theorem prod_att {K1 K2 n1 n2 da db : Nat} {A B : Nat → Nat → F} (hA : Att K1 n1 A da) (hB : Att K2 n2 B db) : Att (K1 * K2) (n1 * n2) (prodR K2 n2 A B) (da * db) := by
  obtain ⟨u, ⟨c1, e1⟩, ⟨j1, hj1, hu⟩, h3⟩ := hA
  obtain ⟨v, ⟨c2, e2⟩, ⟨j2, hj2, hv⟩, g3⟩ := hB
  have key : ∀ x y, x < n1 → y < n2 → (u x * v y) = rsum K1 (fun i => rsum K2 (fun j => (c1 i * c2 j) * (A i x * B j y))) := fun x y hx hy => by
    rw [e1 x hx, e2 y hy, ← rsum_mul_right]
    refine rsum_congr fun i _ => ?_
    rw [← rsum_mul_left]
    exact rsum_congr fun j _ => by ac_rfl
  refine ⟨fun c => u (c / n2) * v (c % n2), ⟨fun t => c1 (t / K2) * c2 (t % K2), fun c hc => ?_⟩, ⟨n2 * j1 + j2, idx_lt hj1 hj2, ?_⟩, ?_⟩
  · have hn : 0 < n2 := by omega
    have hx : c / n2 < n1 := Nat.div_lt_of_lt_mul (by rw [Nat.mul_comm]; exact hc)
    have hy : c % n2 < n2 := Nat.mod_lt _ hn
    have ec : n2 * (c / n2) + c % n2 = c := Nat.div_add_mod c n2
    (try dsimp only)
    rw [key _ _ hx hy, Nat.mul_comm K1 K2, rsum_mulk K2 K1]
    refine rsum_congr fun i _ => rsum_congr fun j hj => ?_
    (try dsimp only)
    rw [(divmod_mul hj).1, (divmod_mul hj).2]
    unfold prodR
    rw [(divmod_mul hj).1, (divmod_mul hj).2]
  · dsimp only
    rw [(divmod_mul hj2).1, (divmod_mul hj2).2]
    exact mul_ne_zero hu hv
  · rw [← h3, ← g3]
    refine cn_grid_eq n1 fun x hx => ?_
    by_cases e : u x = 0
    · rw [if_neg (by simp [e])]
      exact cn_zero n2 fun y hy => decide_eq_false fun c => c (by dsimp only; rw [(divmod_mul hy).1, e, zero_mul])
    · rw [if_pos (by simp [e])]
      refine cn_congr n2 fun y hy => ?_
      rw [decide_eq_decide]
      (try dsimp only)
      rw [(divmod_mul hy).1, (divmod_mul hy).2]
      exact ⟨fun h c => h (by rw [c, mul_zero]), fun h => mul_ne_zero e h⟩
/-- An interleaved word, part for part. -/
theorem wtF_iv_part {n s k : Nat} (u : Nat → F) (hk : k < s) : wtF (n * s) (iv s k u) = wtF n u := by
  unfold wtF
  have h := cn_grid_eq (P := fun j => decide (iv s k u j ≠ 0)) (Q := fun x => decide (u x ≠ 0)) (n2 := s) (d := 1) n fun x _ => by
    by_cases e : u x = 0
    · rw [if_neg (by simp [e])]
      exact cn_zero s fun y hy => decide_eq_false fun c => c (by unfold iv; rw [(divmod_mul hy).1, (divmod_mul hy).2]; split <;> simp_all)
    · rw [if_pos (by simp [e])]
      have h1 : cn (fun y => decide (iv s k u (s * x + y) ≠ 0)) s = cn (fun y => decide (y = k)) s := cn_congr s fun y hy => by
        rw [decide_eq_decide]
        unfold iv
        rw [(divmod_mul hy).1, (divmod_mul hy).2]
        by_cases h : y = k
        · rw [if_pos h]; exact ⟨fun _ => h, fun _ => e⟩
        · rw [if_neg h]; exact ⟨fun c => absurd rfl c, fun c => absurd c h⟩
      rw [h1]
      have h2 : ∀ s, cn (fun y => decide (y = k)) s = if k < s then 1 else 0 := fun s => by
        induction s with
        | zero => rfl
        | succ s ih =>
          rw [cn_succ, ih]
          by_cases h : s = k
          · rw [if_neg (by omega), if_pos (by simp [h]), if_pos (by omega)]
          · rw [if_neg (show ¬ decide (s = k) = true by simp [h])]
            by_cases h3 : k < s
            · rw [if_pos h3, if_pos (by omega)]
            · rw [if_neg h3, if_neg (by omega)]
      rw [h2, if_pos hk]
  rw [h, Nat.mul_one]
theorem iv_low {K n s d : Nat} {M : Nat → Nat → F} (hM : Low K n M d) : Low (K * s) (n * s) (ivP s M) d := fun u hu hz => by
  obtain ⟨p, hp, hne⟩ := hz
  have hs : 0 < s := by rcases Nat.eq_zero_or_pos s with h | h; · rw [h, Nat.mul_zero] at hp; omega
                        · exact h
  have hk : p % s < s := Nat.mod_lt _ hs
  have hj : p / s < n := Nat.div_lt_of_lt_mul (by rw [Nat.mul_comm]; exact hp)
  have ep : s * (p / s) + p % s = p := Nat.div_add_mod p s
  have h1 := hM _ (iv_part hu hk) ⟨p / s, hj, by dsimp only; rw [ep]; exact hne⟩
  refine Nat.le_trans h1 ?_
  have h2 := cn_grid_low (P := fun j => decide (u j ≠ 0)) (Q := fun x => decide (u (s * x + p % s) ≠ 0)) (n2 := s) (d := 1) n fun x _ hq => cn_pos hk hq
  rw [Nat.mul_one] at h2
  exact h2
theorem iv_att {K n s d : Nat} {M : Nat → Nat → F} (hs : 0 < s) (hM : Att K n M d) : Att (K * s) (n * s) (ivP s M) d := by
  obtain ⟨u, ⟨c, hc⟩, ⟨j, hj, hu⟩, h3⟩ := hM
  refine ⟨iv s 0 u, ⟨fun t => if t % s = 0 then c (t / s) else 0, fun t ht => ?_⟩, ⟨s * j + 0, idx_lt hj hs, by unfold iv; rw [(divmod_mul hs).1, (divmod_mul hs).2, if_pos rfl]; exact hu⟩, by rw [wtF_iv_part u hs, h3]⟩
  have h1 : t / s < n := Nat.div_lt_of_lt_mul (by rw [Nat.mul_comm]; exact ht)
  rw [Nat.mul_comm K s, rsum_mulk s K]
  unfold iv
  by_cases e : t % s = 0
  · rw [if_pos e, hc _ h1]
    refine rsum_congr fun i _ => ?_
    rw [rsum_single (k := 0) hs fun x hx hne => by dsimp only; rw [(divmod_mul hx).2, if_neg hne, zero_mul]]
    (try dsimp only)
    rw [(divmod_mul hs).2, if_pos rfl, (divmod_mul hs).1]
    unfold ivP iv
    rw [(divmod_mul hs).2, (divmod_mul hs).1, if_pos e]
  · rw [if_neg e]
    refine (rsum_eq_zero fun i _ => rsum_eq_zero fun x hx => ?_).symm
    by_cases hx0 : x = 0
    · subst hx0
      unfold ivP iv
      rw [(divmod_mul hs).2, if_neg e, mul_zero]
    · (try dsimp only); rw [(divmod_mul hx).2, if_neg hx0, zero_mul]
end wt
end Cw

/- Plain: least weights of direct sums, of words (u, u + v), of products and of interleaved codes. No Go here. Plain: the words of a code by their index; the least weight as the reference finds it; ranks of combined rows. No Go here. Distance of any code: its number, and what it says if it is at least 1; results as codes without an error. Numbers of words and distances of results of chapter 14. CombineDistances: what the functions answer, with no program in sight. -/
import Derived.Test.YtghgbjgoedlnjaaCmbS
import Derived.Test.YtghgbjgoedlnjaaDsS
import Derived.Test.YtghgbjgoedlnjaaCodO
import Derived.Test.YtghgbjgoedlnjaaCodR
/-! Plain: least weights of direct sums, of words (u, u + v), of products and of interleaved codes. No Go here -/
namespace Cw
theorem cn_congr {P Q : Nat → Bool} : ∀ n, (∀ j, j < n → P j = Q j) → cn P n = cn Q n
  | 0, _ => rfl
  | n + 1, h => by rw [cn_succ, cn_succ, cn_congr n fun j hj => h j (Nat.lt_succ_of_lt hj), h n (Nat.lt_succ_self n)]
theorem cn_split (P : Nat → Bool) (a : Nat) : ∀ b, cn P (a + b) = cn P a + cn (fun j => P (a + j)) b
  | 0 => by rw [Nat.add_zero]; rfl
  | b + 1 => by rw [← Nat.add_assoc, cn_succ, cn_succ, cn_split P a b, Nat.add_assoc]
theorem cn_pos {P : Nat → Bool} {j : Nat} : ∀ {n}, j < n → P j = true → 1 ≤ cn P n
  | 0, h, _ => absurd h (Nat.not_lt_zero _)
  | n + 1, h, hp => by
    rw [cn_succ]
    by_cases e : j = n
    · rw [← e, if_pos hp]; omega
    · have := cn_pos (n := n) (by omega) hp; omega
theorem cn_zero {P : Nat → Bool} : ∀ n, (∀ j, j < n → P j = false) → cn P n = 0
  | 0, _ => rfl
  | n + 1, h => by rw [cn_succ, cn_zero n fun j hj => h j (Nat.lt_succ_of_lt hj), h n (Nat.lt_succ_self n)]; rfl
theorem cn_add {P Q S : Nat → Bool} : ∀ n, (∀ j, j < n → P j = true → Q j = true ∨ S j = true) → cn P n ≤ cn Q n + cn S n
  | 0, _ => Nat.zero_le _
  | n + 1, h => by
    have ih := cn_add n fun j hj => h j (Nat.lt_succ_of_lt hj)
    have h1 := h n (Nat.lt_succ_self n)
    rw [cn_succ, cn_succ, cn_succ]
    by_cases e : P n = true
    · rw [if_pos e]
      rcases h1 e with h2 | h2
      · rw [if_pos h2]; omega
      · rw [if_pos h2]; omega
    · rw [if_neg e]; omega
theorem cn_grid_low {P Q : Nat → Bool} {n2 d : Nat} : ∀ n1, (∀ x, x < n1 → Q x = true → d ≤ cn (fun y => P (n2 * x + y)) n2) → cn Q n1 * d ≤ cn P (n1 * n2)
  | 0, _ => by rw [show cn Q 0 = 0 from rfl, Nat.zero_mul]; exact Nat.zero_le _
  | n1 + 1, h => by
    have ih := cn_grid_low n1 fun x hx => h x (Nat.lt_succ_of_lt hx)
    rw [Nat.add_mul, Nat.one_mul, cn_succ Q, cn_split P]
    rw [Nat.mul_comm n1 n2] at ih ⊢
    by_cases e : Q n1 = true
    · rw [if_pos e, Nat.add_mul, Nat.one_mul]
      have := h n1 (Nat.lt_succ_self n1) e
      omega
    · rw [if_neg e, Nat.add_zero]; omega
theorem cn_grid_eq {P Q : Nat → Bool} {n2 d : Nat} : ∀ n1, (∀ x, x < n1 → cn (fun y => P (n2 * x + y)) n2 = if Q x = true then d else 0) → cn P (n1 * n2) = cn Q n1 * d
  | 0, _ => by rw [show cn Q 0 = 0 from rfl, Nat.zero_mul, Nat.zero_mul]; rfl
  | n1 + 1, h => by
    have ih := cn_grid_eq n1 fun x hx => h x (Nat.lt_succ_of_lt hx)
    rw [Nat.add_mul, Nat.one_mul, cn_succ Q, cn_split P]
    have h1 := h n1 (Nat.lt_succ_self n1)
    rw [Nat.mul_comm n1 n2] at ih ⊢
    rw [h1, ih, Nat.add_mul]
    by_cases e : Q n1 = true
    · rw [if_pos e, if_pos e, Nat.one_mul]
    · rw [if_neg e, if_neg e, Nat.zero_mul]
open Go.Proofs.Ytghgbjgoedlnjaa (joinF)
open Go.Proofs.Ytghgbjgoedlnjaa (stackR sumR ploR)
section pl
variable {F : Type} [CField F]
theorem joinF_lo {X : Type} {n j : Nat} {u v : Nat → X} (h : j < n) : joinF n u v j = u j := if_pos h
theorem joinF_ge {X : Type} {n j : Nat} {u v : Nat → X} (h : ¬ j < n) : joinF n u v j = v (j - n) := if_neg h
theorem joinF_hi {X : Type} {n j : Nat} {u v : Nat → X} : joinF n u v (n + j) = v j := by rw [joinF_ge (by omega), Nat.add_sub_cancel_left]
/-- Not zero. -/
def NZ (m : Nat) (u : Nat → F) : Prop := ∃ j, j < m ∧ u j ≠ 0
theorem NZ.congr {m : Nat} {u v : Nat → F} (h : NZ m u) (e : ∀ j, j < m → u j = v j) : NZ m v := by
  obtain ⟨j, hj, hu⟩ := h
  exact ⟨j, hj, by rw [← e j hj]; exact hu⟩
theorem not_NZ {m : Nat} {u : Nat → F} (h : ¬ NZ m u) : ∀ j, j < m → u j = 0 := fun j hj => Classical.byContradiction fun c => h ⟨j, hj, c⟩
/-- A combination of stacked rows. -/
theorem span_stack {K1 K2 m : Nat} {A B : Nat → Nat → F} {u : Nat → F} : Span (K1 + K2) m (stackR K1 A B) u ↔ ∃ a b, Span K1 m A a ∧ Span K2 m B b ∧ ∀ j, j < m → u j = a j + b j := by
  constructor
  · rintro ⟨c, hc⟩
    refine ⟨_, _, ⟨c, fun j _ => rfl⟩, ⟨fun i => c (K1 + i), fun j _ => rfl⟩, fun j hj => ?_⟩
    rw [hc j hj, rsum_split]
    congr 1
    · exact rsum_congr fun i hi => by rw [Go.Proofs.Ytghgbjgoedlnjaa.stackR_lo _ _ hi]
    · exact rsum_congr fun i hi => by rw [Go.Proofs.Ytghgbjgoedlnjaa.stackR_hi]
  · rintro ⟨a, b, ⟨c1, h1⟩, ⟨c2, h2⟩, h⟩
    refine ⟨fun i => if i < K1 then c1 i else c2 (i - K1), fun j hj => ?_⟩
    rw [h j hj, h1 j hj, h2 j hj, rsum_split]
    congr 1
    · exact rsum_congr fun i hi => by rw [Go.Proofs.Ytghgbjgoedlnjaa.stackR_lo _ _ hi]; simp only [if_pos hi]
    · refine rsum_congr fun i hi => ?_
      rw [Go.Proofs.Ytghgbjgoedlnjaa.stackR_hi]
      simp only [if_neg (show ¬ K1 + i < K1 by omega), Nat.add_sub_cancel_left]
theorem span_joinL {K n m : Nat} {A : Nat → Nat → F} {u : Nat → F} : Span K (n + m) (fun i => joinF n (A i) fun _ => 0) u ↔ Span K n A u ∧ ∀ j, j < m → u (n + j) = 0 := by
  constructor
  · rintro ⟨c, hc⟩
    refine ⟨⟨c, fun j hj => ?_⟩, fun j hj => ?_⟩
    · rw [hc j (by omega)]; exact rsum_congr fun i _ => by (try dsimp only); rw [joinF_lo hj]
    · rw [hc (n + j) (by omega)]; exact rsum_eq_zero fun i _ => by (try dsimp only); rw [joinF_hi, mul_zero]
  · rintro ⟨⟨c, hc⟩, h0⟩
    refine ⟨c, fun j hj => ?_⟩
    by_cases h : j < n
    · rw [hc j h]; exact rsum_congr fun i _ => by (try dsimp only); rw [joinF_lo h]
    · have := h0 (j - n) (by omega)
      rw [Nat.add_sub_cancel' (by omega)] at this
      rw [this, rsum_eq_zero fun i _ => by (try dsimp only); rw [joinF_ge h, mul_zero]]
theorem span_joinR {K n m : Nat} {A : Nat → Nat → F} {u : Nat → F} : Span K (n + m) (fun i => joinF n (fun _ => 0) (A i)) u ↔ (∀ j, j < n → u j = 0) ∧ Span K m A (fun j => u (n + j)) := by
  constructor
  · rintro ⟨c, hc⟩
    refine ⟨fun j hj => ?_, ⟨c, fun j hj => ?_⟩⟩
    · rw [hc j (by omega)]; exact rsum_eq_zero fun i _ => by (try dsimp only); rw [joinF_lo hj, mul_zero]
    · (try dsimp only); rw [hc (n + j) (by omega)]; exact rsum_congr fun i _ => by (try dsimp only); rw [joinF_hi]
  · rintro ⟨h0, ⟨c, hc⟩⟩
    refine ⟨c, fun j hj => ?_⟩
    by_cases h : j < n
    · rw [h0 j h, rsum_eq_zero fun i _ => by (try dsimp only); rw [joinF_lo h, mul_zero]]
    · have := hc (j - n) (by omega)
      dsimp only at this
      rw [Nat.add_sub_cancel' (by omega)] at this
      rw [this]
      exact rsum_congr fun i _ => by (try dsimp only); rw [joinF_ge h]
theorem span_joinD {K n : Nat} {A : Nat → Nat → F} {u : Nat → F} : Span K (n + n) (fun i => joinF n (A i) (A i)) u ↔ Span K n A u ∧ ∀ j, j < n → u (n + j) = u j := by
  constructor
  · rintro ⟨c, hc⟩
    have h1 : ∀ j, j < n → u j = rsum K (fun i => c i * A i j) := fun j hj => by rw [hc j (by omega)]; exact rsum_congr fun i _ => by (try dsimp only); rw [joinF_lo hj]
    refine ⟨⟨c, h1⟩, fun j hj => ?_⟩
    rw [h1 j hj, hc (n + j) (by omega)]
    exact rsum_congr fun i _ => by (try dsimp only); rw [joinF_hi]
  · rintro ⟨⟨c, hc⟩, h0⟩
    refine ⟨c, fun j hj => ?_⟩
    by_cases h : j < n
    · rw [hc j h]; exact rsum_congr fun i _ => by (try dsimp only); rw [joinF_lo h]
    · have := h0 (j - n) (by omega)
      rw [Nat.add_sub_cancel' (by omega)] at this
      rw [this, hc (j - n) (by omega)]
      exact rsum_congr fun i _ => by (try dsimp only); rw [joinF_ge h]
theorem join_self {X : Type} {n m : Nat} (u : Nat → X) : ∀ j, j < n + m → u j = joinF n u (fun j => u (n + j)) j := fun j _ => by
  by_cases h : j < n
  · rw [joinF_lo h]
  · rw [joinF_ge h]
    show u j = u (n + (j - n))
    rw [Nat.add_sub_cancel' (by omega)]
theorem NZ_parts {n m : Nat} {u : Nat → F} (h : NZ (n + m) u) : NZ n u ∨ NZ m (fun j => u (n + j)) := by
  obtain ⟨j, hj, hu⟩ := h
  by_cases e : j < n
  · exact .inl ⟨j, e, hu⟩
  · exact .inr ⟨j - n, by omega, by show u (n + (j - n)) ≠ 0; rw [Nat.add_sub_cancel' (by omega)]; exact hu⟩
/-- The words of a direct sum. -/
theorem span_sum {K1 K2 n m : Nat} {A B : Nat → Nat → F} {u : Nat → F} : Span (K1 + K2) (n + m) (sumR K1 n A B) u ↔ Span K1 n A u ∧ Span K2 m B (fun j => u (n + j)) := by
  unfold sumR
  rw [span_stack]
  constructor
  · rintro ⟨a, b, ha, hb, h⟩
    rw [span_joinL] at ha
    rw [span_joinR] at hb
    refine ⟨ha.1.congr fun j hj => ?_, hb.2.congr fun j hj => ?_⟩
    · rw [h j (by omega), hb.1 j hj, add_zero]
    · (try dsimp only); rw [h (n + j) (by omega), ha.2 j hj, zero_add]
  · rintro ⟨ha, hb⟩
    refine ⟨joinF n u (fun _ => 0), joinF n (fun _ => 0) (fun j => u (n + j)), span_joinL.2 ⟨ha.congr fun j hj => by (try dsimp only); rw [joinF_lo hj], fun j _ => by (try dsimp only); rw [joinF_hi]⟩, span_joinR.2 ⟨fun j hj => by (try dsimp only); rw [joinF_lo hj], hb.congr fun j _ => by (try dsimp only); rw [joinF_hi]⟩, fun j hj => ?_⟩
    rw [join_self (n := n) (m := m) u j hj]
    by_cases e : j < n
    · rw [joinF_lo e, joinF_lo e, joinF_lo e, add_zero]
    · rw [joinF_ge e, joinF_ge e, joinF_ge e, zero_add]
/-- The words (u, u + v). -/
theorem span_plo {K1 K2 n : Nat} {A B : Nat → Nat → F} {u : Nat → F} : Span (K1 + K2) (n + n) (ploR K1 n A B) u ↔ Span K1 n A u ∧ Span K2 n B (fun j => u (n + j) + -(u j)) := by
  unfold ploR
  rw [span_stack]
  constructor
  · rintro ⟨a, b, ha, hb, h⟩
    rw [span_joinD] at ha
    rw [span_joinR] at hb
    have h1 : ∀ j, j < n → u j = a j := fun j hj => by rw [h j (by omega), hb.1 j hj, add_zero]
    refine ⟨ha.1.congr h1, hb.2.congr fun j hj => ?_⟩
    (try dsimp only)
    rw [h (n + j) (by omega), ha.2 j hj, h1 j hj, add_c (a j), add_a, add_neg, add_zero]
  · rintro ⟨ha, hb⟩
    refine ⟨joinF n u u, joinF n (fun _ => 0) (fun j => u (n + j) + -(u j)), span_joinD.2 ⟨ha.congr fun j hj => by (try dsimp only); rw [joinF_lo hj], fun j hj => by (try dsimp only); rw [joinF_hi, joinF_lo hj]⟩, span_joinR.2 ⟨fun j hj => by (try dsimp only); rw [joinF_lo hj], hb.congr fun j _ => by (try dsimp only); rw [joinF_hi]⟩, fun j hj => ?_⟩
    by_cases e : j < n
    · rw [joinF_lo e, joinF_lo e, add_zero]
    · rw [joinF_ge e, joinF_ge e]
      (try dsimp only)
      rw [Nat.add_sub_cancel' (by omega), add_lc, add_neg, add_zero]
end pl
section wt
variable {F : Type} [CField F] [DecidableEq F]
/-- The number of the nonzero entries. -/
def wtF (m : Nat) (u : Nat → F) : Nat := cn (fun j => decide (u j ≠ 0)) m
theorem wtF_congr {m : Nat} {u v : Nat → F} (h : ∀ j, j < m → u j = v j) : wtF m u = wtF m v := cn_congr m fun j hj => by rw [h j hj]
theorem wtF_pos {m : Nat} {u : Nat → F} (h : NZ m u) : 1 ≤ wtF m u := by
  obtain ⟨j, hj, hu⟩ := h
  exact cn_pos hj (decide_eq_true hu)
theorem wtF_zero {m : Nat} {u : Nat → F} (h : ∀ j, j < m → u j = 0) : wtF m u = 0 := cn_zero m fun j hj => decide_eq_false fun c => c (h j hj)
theorem wtF_NZ {m : Nat} {u : Nat → F} (h : 1 ≤ wtF m u) : NZ m u := Classical.byContradiction fun c => by rw [wtF_zero (not_NZ c)] at h; omega
theorem wtF_join (n m : Nat) (u v : Nat → F) : wtF (n + m) (joinF n u v) = wtF n u + wtF m v := by
  unfold wtF
  rw [cn_split]
  congr 1
  · exact cn_congr n fun j hj => by (try dsimp only); rw [joinF_lo hj]
  · exact cn_congr m fun j _ => by (try dsimp only); rw [joinF_hi]
/-- No nonzero word of the span has a weight below d; some has the weight d. -/
def Low (n m : Nat) (M : Nat → Nat → F) (d : Nat) : Prop := ∀ u, Span n m M u → NZ m u → d ≤ wtF m u
def Att (n m : Nat) (M : Nat → Nat → F) (d : Nat) : Prop := ∃ u, Span n m M u ∧ NZ m u ∧ wtF m u = d
theorem low_same {n n' m d : Nat} {A B : Nat → Nat → F} (h : Low n m A d) (hs : SameSpan n n' m A B) : Low n' m B d := fun u hu hz => h u (hu.trans hs.2) hz
theorem att_same {n n' m d : Nat} {A B : Nat → Nat → F} (h : Att n m A d) (hs : SameSpan n n' m A B) : Att n' m B d := by
  obtain ⟨u, h1, h2, h3⟩ := h
  exact ⟨u, h1.trans hs.1, h2, h3⟩
theorem min_uniq {n m d d' : Nat} {M : Nat → Nat → F} (h1 : Low n m M d) (h2 : Att n m M d) (h3 : Low n m M d') (h4 : Att n m M d') : d = d' := by
  obtain ⟨u, a1, a2, a3⟩ := h2
  obtain ⟨v, b1, b2, b3⟩ := h4
  have := h1 v b1 b2
  have := h3 u a1 a2
  omega
theorem wtF_parts (n m : Nat) (u : Nat → F) : wtF (n + m) u = wtF n u + wtF m (fun j => u (n + j)) := by
  rw [← wtF_join]
  exact wtF_congr (join_self u)
theorem sum_low {K1 K2 n m da db : Nat} {A B : Nat → Nat → F} (hA : Low K1 n A da) (hB : Low K2 m B db) : Low (K1 + K2) (n + m) (sumR K1 n A B) (min da db) := fun u hu hz => by
  obtain ⟨h1, h2⟩ := span_sum.1 hu
  rw [wtF_parts]
  rcases NZ_parts hz with h | h
  · have := hA _ h1 h; omega
  · have := hB _ h2 h; omega
theorem sum_att1 {K1 K2 n m d : Nat} {A B : Nat → Nat → F} (h : Att K1 n A d) : Att (K1 + K2) (n + m) (sumR K1 n A B) d := by
  obtain ⟨u, h1, ⟨j, hj, hu⟩, h3⟩ := h
  refine ⟨joinF n u (fun _ => 0), span_sum.2 ⟨h1.congr fun j hj => by (try dsimp only); rw [joinF_lo hj], (Span.zero _ _ _).congr fun j _ => by (try dsimp only); rw [joinF_hi]⟩, ⟨j, by omega, by (try dsimp only); rw [joinF_lo hj]; exact hu⟩, ?_⟩
  rw [wtF_join, h3, wtF_zero (u := fun _ => (0 : F)) fun _ _ => rfl, Nat.add_zero]
theorem sum_att2 {K1 K2 n m d : Nat} {A B : Nat → Nat → F} (h : Att K2 m B d) : Att (K1 + K2) (n + m) (sumR K1 n A B) d := by
  obtain ⟨u, h1, ⟨j, hj, hu⟩, h3⟩ := h
  refine ⟨joinF n (fun _ => 0) u, span_sum.2 ⟨(Span.zero _ _ _).congr fun j hj => by (try dsimp only); rw [joinF_lo hj], h1.congr fun j _ => by (try dsimp only); rw [joinF_hi]⟩, ⟨n + j, by omega, by (try dsimp only); rw [joinF_hi]; exact hu⟩, ?_⟩
  rw [wtF_join, h3, wtF_zero (u := fun _ => (0 : F)) fun _ _ => rfl, Nat.zero_add]
theorem plo_low {K1 K2 n da db : Nat} {A B : Nat → Nat → F} (hA : Low K1 n A da) (hB : Low K2 n B db) : Low (K1 + K2) (n + n) (ploR K1 n A B) (min (2 * da) db) := fun u hu hz => by
  obtain ⟨h1, h2⟩ := span_plo.1 hu
  rw [wtF_parts]
  by_cases hv : NZ n (fun j => u (n + j) + -(u j))
  · have h3 := hB _ h2 hv
    have h4 : wtF n (fun j => u (n + j) + -(u j)) ≤ wtF n u + wtF n (fun j => u (n + j)) := cn_add n fun j _ h => by
      have h := of_decide_eq_true h
      by_cases e : u j = 0
      · right; exact decide_eq_true fun c => h (by have c2 : u (n + j) = 0 := c; show u (n + j) + -(u j) = 0; rw [c2, e, neg_zero, add_zero])
      · left; exact decide_eq_true e
    omega
  · have h5 : ∀ j, j < n → u (n + j) = u j := fun j hj => by
      have := not_NZ hv j hj
      exact sub_eq_zero this
    have h6 : wtF n (fun j => u (n + j)) = wtF n u := wtF_congr h5
    have h7 : NZ n u := by
      rcases NZ_parts hz with h | h
      · exact h
      · exact h.congr h5
    have := hA _ h1 h7
    omega
theorem plo_att1 {K1 K2 n d : Nat} {A B : Nat → Nat → F} (h : Att K1 n A d) : Att (K1 + K2) (n + n) (ploR K1 n A B) (2 * d) := by
  obtain ⟨u, h1, ⟨j, hj, hu⟩, h3⟩ := h
  refine ⟨joinF n u u, span_plo.2 ⟨h1.congr fun j hj => by (try dsimp only); rw [joinF_lo hj], (Span.zero _ _ _).congr fun j hj => by (try dsimp only); rw [joinF_hi, joinF_lo hj, add_neg]⟩, ⟨j, by omega, by (try dsimp only); rw [joinF_lo hj]; exact hu⟩, ?_⟩
  rw [wtF_join, h3]; omega
theorem plo_att2 {K1 K2 n d : Nat} {A B : Nat → Nat → F} (h : Att K2 n B d) : Att (K1 + K2) (n + n) (ploR K1 n A B) d := by
  obtain ⟨u, h1, ⟨j, hj, hu⟩, h3⟩ := h
  refine ⟨joinF n (fun _ => 0) u, span_plo.2 ⟨(Span.zero _ _ _).congr fun j hj => by (try dsimp only); rw [joinF_lo hj], h1.congr fun j hj => by (try dsimp only); rw [joinF_hi, joinF_lo hj, neg_zero, add_zero]⟩, ⟨n + j, by omega, by (try dsimp only); rw [joinF_hi]; exact hu⟩, ?_⟩
  rw [wtF_join, h3, wtF_zero (u := fun _ => (0 : F)) fun _ _ => rfl, Nat.zero_add]
theorem prod_low {K1 K2 n1 n2 da db : Nat} {A B : Nat → Nat → F} (hA : Low K1 n1 A da) (hB : Low K2 n2 B db) : Low (K1 * K2) (n1 * n2) (prodR K2 n2 A B) (da * db) := fun u hu hz => by
  obtain ⟨h1, h2⟩ := prod_in hu
  obtain ⟨c, hc, hu0⟩ := hz
  have hn : 0 < n2 := by rcases Nat.eq_zero_or_pos n2 with h | h; · rw [h, Nat.mul_zero] at hc; omega
                         · exact h
  have hx : c / n2 < n1 := Nat.div_lt_of_lt_mul (by rw [Nat.mul_comm]; exact hc)
  have hy : c % n2 < n2 := Nat.mod_lt _ hn
  have ec : n2 * (c / n2) + c % n2 = c := Nat.div_add_mod c n2
  have h3 := hA _ (h1 _ hy) ⟨c / n2, hx, by dsimp only; rw [ec]; exact hu0⟩
  have h4 := cn_grid_low (P := fun j => decide (u j ≠ 0)) (Q := fun x => decide (u (n2 * x + c % n2) ≠ 0)) (n2 := n2) (d := db) n1 fun x hx2 hq =>
    hB _ (h2 x hx2) ⟨c % n2, hy, of_decide_eq_true hq⟩
  exact Nat.le_trans (Nat.mul_le_mul_right db h3) h4
theorem prod_att {K1 K2 n1 n2 da db : Nat} {A B : Nat → Nat → F} (hA : Att K1 n1 A da) (hB : Att K2 n2 B db) : Att (K1 * K2) (n1 * n2) (prodR K2 n2 A B) (da * db) := by
  obtain ⟨u, ⟨c1, e1⟩, ⟨j1, hj1, hu⟩, h3⟩ := hA
  obtain ⟨v, ⟨c2, e2⟩, ⟨j2, hj2, hv⟩, g3⟩ := hB
  have key : ∀ x y, x < n1 → y < n2 → (u x * v y) = rsum K1 (fun i => rsum K2 (fun j => (c1 i * c2 j) * (A i x * B j y))) := fun x y hx hy => by
    rw [e1 x hx, e2 y hy, ← rsum_mul_right]
    refine rsum_congr fun i _ => ?_
    rw [← rsum_mul_left]
    exact rsum_congr fun j _ => by ac_rfl
  refine ⟨fun c => u (c / n2) * v (c % n2), ⟨fun t => c1 (t / K2) * c2 (t % K2), fun c hc => ?_⟩, ⟨n2 * j1 + j2, idx_lt hj1 hj2, ?_⟩, ?_⟩
  · have hn : 0 < n2 := by omega
    have hx : c / n2 < n1 := Nat.div_lt_of_lt_mul (by rw [Nat.mul_comm]; exact hc)
    have hy : c % n2 < n2 := Nat.mod_lt _ hn
    have ec : n2 * (c / n2) + c % n2 = c := Nat.div_add_mod c n2
    (try dsimp only)
    rw [key _ _ hx hy, Nat.mul_comm K1 K2, rsum_mulk K2 K1]
    refine rsum_congr fun i _ => rsum_congr fun j hj => ?_
    (try dsimp only)
    rw [(divmod_mul hj).1, (divmod_mul hj).2]
    unfold prodR
    rw [(divmod_mul hj).1, (divmod_mul hj).2]
  · dsimp only
    rw [(divmod_mul hj2).1, (divmod_mul hj2).2]
    exact mul_ne_zero hu hv
  · rw [← h3, ← g3]
    refine cn_grid_eq n1 fun x hx => ?_
    by_cases e : u x = 0
    · rw [if_neg (by simp [e])]
      exact cn_zero n2 fun y hy => decide_eq_false fun c => c (by dsimp only; rw [(divmod_mul hy).1, e, zero_mul])
    · rw [if_pos (by simp [e])]
      refine cn_congr n2 fun y hy => ?_
      rw [decide_eq_decide]
      (try dsimp only)
      rw [(divmod_mul hy).1, (divmod_mul hy).2]
      exact ⟨fun h c => h (by rw [c, mul_zero]), fun h => mul_ne_zero e h⟩
/-- An interleaved word, part for part. -/
theorem wtF_iv_part {n s k : Nat} (u : Nat → F) (hk : k < s) : wtF (n * s) (iv s k u) = wtF n u := by
  unfold wtF
  have h := cn_grid_eq (P := fun j => decide (iv s k u j ≠ 0)) (Q := fun x => decide (u x ≠ 0)) (n2 := s) (d := 1) n fun x _ => by
    by_cases e : u x = 0
    · rw [if_neg (by simp [e])]
      exact cn_zero s fun y hy => decide_eq_false fun c => c (by unfold iv; rw [(divmod_mul hy).1, (divmod_mul hy).2]; split <;> simp_all)
    · rw [if_pos (by simp [e])]
      have h1 : cn (fun y => decide (iv s k u (s * x + y) ≠ 0)) s = cn (fun y => decide (y = k)) s := cn_congr s fun y hy => by
        rw [decide_eq_decide]
        unfold iv
        rw [(divmod_mul hy).1, (divmod_mul hy).2]
        by_cases h : y = k
        · rw [if_pos h]; exact ⟨fun _ => h, fun _ => e⟩
        · rw [if_neg h]; exact ⟨fun c => absurd rfl c, fun c => absurd c h⟩
      rw [h1]
      have h2 : ∀ s, cn (fun y => decide (y = k)) s = if k < s then 1 else 0 := fun s => by
        induction s with
        | zero => rfl
        | succ s ih =>
          rw [cn_succ, ih]
          by_cases h : s = k
          · rw [if_neg (by omega), if_pos (by simp [h]), if_pos (by omega)]
          · rw [if_neg (show ¬ decide (s = k) = true by simp [h])]
            by_cases h3 : k < s
            · rw [if_pos h3, if_pos (by omega)]
            · rw [if_neg h3, if_neg (by omega)]
      rw [h2, if_pos hk]
  rw [h, Nat.mul_one]
theorem iv_low {K n s d : Nat} {M : Nat → Nat → F} (hM : Low K n M d) : Low (K * s) (n * s) (ivP s M) d := fun u hu hz => by
  obtain ⟨p, hp, hne⟩ := hz
  have hs : 0 < s := by rcases Nat.eq_zero_or_pos s with h | h; · rw [h, Nat.mul_zero] at hp; omega
                        · exact h
  have hk : p % s < s := Nat.mod_lt _ hs
  have hj : p / s < n := Nat.div_lt_of_lt_mul (by rw [Nat.mul_comm]; exact hp)
  have ep : s * (p / s) + p % s = p := Nat.div_add_mod p s
  have h1 := hM _ (iv_part hu hk) ⟨p / s, hj, by dsimp only; rw [ep]; exact hne⟩
  refine Nat.le_trans h1 ?_
  have h2 := cn_grid_low (P := fun j => decide (u j ≠ 0)) (Q := fun x => decide (u (s * x + p % s) ≠ 0)) (n2 := s) (d := 1) n fun x _ hq => cn_pos hk hq
  rw [Nat.mul_one] at h2
  exact h2
theorem iv_att {K n s d : Nat} {M : Nat → Nat → F} (hs : 0 < s) (hM : Att K n M d) : Att (K * s) (n * s) (ivP s M) d := by
  obtain ⟨u, ⟨c, hc⟩, ⟨j, hj, hu⟩, h3⟩ := hM
  refine ⟨iv s 0 u, ⟨fun t => if t % s = 0 then c (t / s) else 0, fun t ht => ?_⟩, ⟨s * j + 0, idx_lt hj hs, by unfold iv; rw [(divmod_mul hs).1, (divmod_mul hs).2, if_pos rfl]; exact hu⟩, by rw [wtF_iv_part u hs, h3]⟩
  have h1 : t / s < n := Nat.div_lt_of_lt_mul (by rw [Nat.mul_comm]; exact ht)
  rw [Nat.mul_comm K s, rsum_mulk s K]
  unfold iv
  by_cases e : t % s = 0
  · rw [if_pos e, hc _ h1]
    refine rsum_congr fun i _ => ?_
    rw [rsum_single (k := 0) hs fun x hx hne => by dsimp only; rw [(divmod_mul hx).2, if_neg hne, zero_mul]]
    (try dsimp only)
    rw [(divmod_mul hs).2, if_pos rfl, (divmod_mul hs).1]
    unfold ivP iv
    rw [(divmod_mul hs).2, (divmod_mul hs).1, if_pos e]
  · rw [if_neg e]
    refine (rsum_eq_zero fun i _ => rsum_eq_zero fun x hx => ?_).symm
    by_cases hx0 : x = 0
    · subst hx0
      unfold ivP iv
      rw [(divmod_mul hs).2, if_neg e, mul_zero]
    · (try dsimp only); rw [(divmod_mul hx).2, if_neg hx0, zero_mul]
end wt
end Cw

/-! Plain: the words of a code by their index; the least weight as the reference finds it; ranks of combined rows. No Go here -/
namespace Go.Proofs.Ytghgbjgoedlnjaa
open Go.RowKit Cw

section rank
variable {F : Type} [CField F]
theorem RR.congr {m r : Nat} {p : Nat → Nat} {A B : Nat → Nat → F} (h : RR m r p A) (e : ∀ i, i < r → ∀ j, j < m → A i j = B i j) : RR m r p B where
  lt := h.lt
  mono := h.mono
  one := fun i hi => by rw [← e i hi _ (h.lt i hi)]; exact h.one i hi
  zero := fun i j hi hj hne => by rw [← e i hi _ (h.lt j hj)]; exact h.zero i j hi hj hne
  low := fun i hi j hj => by rw [← e i hi j (Nat.lt_trans hj (h.lt i hi))]; exact h.low i hi j hj
theorem RR.indep {m r : Nat} {p : Nat → Nat} {A : Nat → Nat → F} (h : RR m r p A) : Indep r m A := fun c hc i hi => by
  have := h.coef (v := fun _ => 0) (c := c) (fun j hj => (hc j hj).symm) hi
  exact this.symm
theorem iv_indep {K n s : Nat} {M : Nat → Nat → F} (h : Indep K n M) : Indep (K * s) (n * s) (ivP s M) := fun c hc t ht => by
  have hs : 0 < s := by rcases Nat.eq_zero_or_pos s with h | h; · rw [h, Nat.mul_zero] at ht; omega
                        · exact h
  have h1 : t / s < K := Nat.div_lt_of_lt_mul (by rw [Nat.mul_comm]; exact ht)
  have h2 : t % s < s := Nat.mod_lt _ hs
  have h3 := h (fun i => c (s * i + t % s)) (fun j hj => by
    have h4 := hc (s * j + t % s) (idx_lt hj h2)
    rw [Nat.mul_comm K s, rsum_mulk s K] at h4
    rw [← h4]
    refine (rsum_congr fun i hi => ?_).symm
    rw [rsum_single (k := t % s) h2 fun x hx hne => by
      unfold ivP iv
      rw [(divmod_mul hx).2, (divmod_mul h2).2, if_neg (Ne.symm hne), mul_zero]]
    unfold ivP iv
    rw [(divmod_mul h2).1, (divmod_mul h2).2, (divmod_mul h2).2, (divmod_mul h2).1, if_pos rfl]) (t / s) h1
  (try dsimp only at h3)
  rw [Nat.div_add_mod] at h3
  exact h3
theorem prod_indep {K1 K2 n1 n2 : Nat} {A B : Nat → Nat → F} (hA : Indep K1 n1 A) (hB : Indep K2 n2 B) : Indep (K1 * K2) (n1 * n2) (prodR K2 n2 A B) := fun c hc t ht => by
  have hK : 0 < K2 := by rcases Nat.eq_zero_or_pos K2 with h | h; · rw [h, Nat.mul_zero] at ht; omega
                         · exact h
  have h1 : t / K2 < K1 := Nat.div_lt_of_lt_mul (by rw [Nat.mul_comm]; exact ht)
  have h2 : t % K2 < K2 := Nat.mod_lt _ hK
  have key : ∀ x, x < n1 → ∀ j, j < K2 → rsum K1 (fun i => c (K2 * i + j) * A i x) = 0 := fun x hx => hB _ fun y hy => by
    have h4 := hc (n2 * x + y) (idx_lt hx hy)
    rw [Nat.mul_comm K1 K2, rsum_mulk K2 K1, rsum_swap] at h4
    rw [← h4]
    refine rsum_congr fun j hj => ?_
    rw [← rsum_mul_right]
    exact rsum_congr fun i hi => by rw [prodR_at hj hy, mul_a]
  have h3 := hA (fun i => c (K2 * i + t % K2)) (fun x hx => key x hx _ h2) (t / K2) h1
  (try dsimp only at h3)
  rw [Nat.div_add_mod] at h3
  exact h3
theorem sum_indep {K1 K2 n m : Nat} {A B : Nat → Nat → F} (hA : Indep K1 n A) (hB : Indep K2 m B) : Indep (K1 + K2) (n + m) (sumR K1 n A B) := fun c hc t ht => by
  have h1 := hA (fun i => c i) (fun j hj => by
    have h := hc j (by omega)
    rw [rsum_split] at h
    rw [← h, rsum_eq_zero (f := fun i => c (K1 + i) * sumR K1 n A B (K1 + i) j) fun i _ => by unfold sumR; rw [stackR_hi, joinF_lo hj, mul_zero], add_zero]
    exact rsum_congr fun i hi => by unfold sumR; rw [stackR_lo _ _ hi, joinF_lo hj])
  have h2 := hB (fun i => c (K1 + i)) (fun j hj => by
    have h := hc (n + j) (by omega)
    rw [rsum_split] at h
    rw [← h, rsum_eq_zero (f := fun i => c i * sumR K1 n A B i (n + j)) fun i hi => by unfold sumR; rw [stackR_lo _ _ hi, joinF_hi, mul_zero], zero_add]
    exact rsum_congr fun i hi => by unfold sumR; rw [stackR_hi, joinF_hi])
  by_cases e : t < K1
  · exact h1 t e
  · have := h2 (t - K1) (by omega)
    (try dsimp only at this)
    rwa [Nat.add_sub_cancel' (by omega)] at this
theorem plo_indep {K1 K2 n : Nat} {A B : Nat → Nat → F} (hA : Indep K1 n A) (hB : Indep K2 n B) : Indep (K1 + K2) (n + n) (ploR K1 n A B) := fun c hc t ht => by
  have h0 : ∀ j, j < n → rsum K1 (fun i => c i * A i j) = 0 := fun j hj => by
    have h := hc j (by omega)
    rw [rsum_split] at h
    rw [← h, rsum_eq_zero (f := fun i => c (K1 + i) * ploR K1 n A B (K1 + i) j) fun i _ => by unfold ploR; rw [stackR_hi, joinF_lo hj, mul_zero], add_zero]
    exact rsum_congr fun i hi => by unfold ploR; rw [stackR_lo _ _ hi, joinF_lo hj]
  have h1 := hA (fun i => c i) h0
  have h2 := hB (fun i => c (K1 + i)) (fun j hj => by
    have h := hc (n + j) (by omega)
    rw [rsum_split] at h
    rw [← h, rsum_eq_zero (f := fun i => c i * ploR K1 n A B i (n + j)) fun i hi => by have := h1 i hi; (try dsimp only at this); rw [this, zero_mul], zero_add]
    exact rsum_congr fun i hi => by unfold ploR; rw [stackR_hi, joinF_hi])
  by_cases e : t < K1
  · exact h1 t e
  · have := h2 (t - K1) (by omega)
    (try dsimp only at this)
    rwa [Nat.add_sub_cancel' (by omega)] at this
end rank

/-- A canonical code's rows are reduced. -/
theorem canl_RR {F : FD} {n m : Nat} {M : Nat → Nat → R F.toDesc} (h : Canl F n m M) : ∃ p, RR m n p M := by
  have h1 := elS_RR n m M
  have hk : (elS n M m).2.length = n := h.1
  rw [hk] at h1
  exact ⟨_, RR.congr h1 fun i hi j hj => rowL_inj (D := F.toDesc) (h.2 i hi) hj⟩
/-- A number from its digits. -/
def dgv (q : Nat) (f : Nat → Nat) : Nat → Nat
  | 0 => 0
  | d + 1 => dgv q f d + f d * q ^ d
theorem dgv_spec {q : Nat} (hq : 2 ≤ q) {f : Nat → Nat} : ∀ d, (∀ i, i < d → f i < q) → dgv q f d < q ^ d ∧ ∀ i, i < d → dgv q f d / q ^ i % q = f i
  | 0, _ => ⟨by show 0 < q ^ 0; rw [Nat.pow_zero]; omega, fun i hi => absurd hi (Nat.not_lt_zero _)⟩
  | d + 1, h => by
    obtain ⟨h1, h2⟩ := dgv_spec hq d fun i hi => h i (Nat.lt_succ_of_lt hi)
    have hd := h d (Nat.lt_succ_self d)
    have hp : 0 < q ^ d := Nat.pow_pos (by omega)
    refine ⟨?_, fun i hi => ?_⟩
    · show dgv q f d + f d * q ^ d < q ^ (d + 1)
      have : f d * q ^ d + q ^ d ≤ q * q ^ d := by rw [← Nat.succ_mul]; exact Nat.mul_le_mul_right _ hd
      rw [Nat.pow_succ, Nat.mul_comm (q ^ d) q]
      omega
    · show (dgv q f d + f d * q ^ d) / q ^ i % q = f i
      by_cases e : i = d
      · subst e
        rw [Nat.add_mul_div_right _ _ hp, Nat.div_eq_of_lt h1, Nat.zero_add, Nat.mod_eq_of_lt hd]
      · have hi2 : i < d := by omega
        have e2 : f d * q ^ d = (f d * q ^ (d - i - 1) * q) * q ^ i := by
          rw [Nat.mul_assoc, Nat.mul_assoc, ← Nat.pow_succ', ← Nat.pow_add]
          congr 2
          omega
        rw [e2, Nat.add_mul_div_right _ _ (Nat.pow_pos (by omega)), Nat.add_mul_mod_self_right]
        exact h2 i hi2
theorem digits_zero {q : Nat} (hq : 2 ≤ q) : ∀ n v, v < q ^ n → (∀ i, i < n → v / q ^ i % q = 0) → v = 0
  | 0, v, h, _ => by rw [Nat.pow_zero] at h; omega
  | n + 1, v, h, h0 => by
    have h1 := h0 0 (by omega)
    rw [Nat.pow_zero, Nat.div_one] at h1
    have h2 := digits_zero hq n (v / q) (by rw [Nat.div_lt_iff_lt_mul (by omega), ← Nat.pow_succ]; exact h) fun i hi => by
      have := h0 (i + 1) (by omega)
      rwa [Nat.pow_succ', ← Nat.div_div_eq_div_mul] at this
    have := Nat.div_add_mod v q
    rw [h1, h2] at this
    omega
section words
variable {F : FD} {n m : Nat} {M : Nat → Nat → R F.toDesc}
theorem atF_all (g : Nat → R F.toDesc) : ∃ v, v < F.q ^ n ∧ ∀ j, atF n M v j = cmb n g M j := by
  have hq := F.q2
  obtain ⟨h1, h2⟩ := dgv_spec (q := F.q) hq (f := fun t => rcode (g (n - 1 - t))) n fun i _ => rcode_lt _
  refine ⟨_, h1, fun j => ?_⟩
  unfold atF cmb
  refine rsum_congr fun p hp => ?_
  congr 1
  unfold msgF
  dsimp only
  rw [h2 (n - 1 - p) (by omega), show n - 1 - (n - 1 - p) = p by omega]
  exact eli_ci _
theorem atF_span (v : Nat) : Span n m M (atF n M v) := ⟨_, fun _ _ => rfl⟩
theorem atF_NZ (hc : Canl F n m M) {v : Nat} (h1 : 1 ≤ v) (h2 : v < F.q ^ n) : NZ m (atF n M v) := Classical.byContradiction fun hn => by
  have hq := F.q2
  obtain ⟨p, hR⟩ := canl_RR hc
  have h3 := RR.indep hR _ (not_NZ hn)
  have h4 : v = 0 := digits_zero (q := F.q) hq n v h2 fun i hi => by
    have h5 := h3 (n - 1 - i) (by omega)
    (try dsimp only at h5)
    have hlt : msgF F.q n v (n - 1 - i) < F.q := Nat.mod_lt _ (by omega)
    have h6 := ci_eli_in (D := F.toDesc) (x := (msgF F.q n v (n - 1 - i) : Nat)) ⟨by omega, by omega⟩
    rw [h5, ci_zero] at h6
    have h7 : msgF F.q n v (n - 1 - i) = 0 := by omega
    unfold msgF at h7
    rwa [show n - 1 - (n - 1 - i) = i by omega] at h7
  omega
theorem wtI_row (u : Nat → R F.toDesc) : wtI (rowL F.toDesc m u) = wtF m u := by
  unfold wtI wtF
  rw [rowL_length]
  have : ∀ k, k ≤ m → wtN (rowL F.toDesc m u) k = cn (fun j => decide (u j ≠ 0)) k := fun k => by
    induction k with
    | zero => intro _; rfl
    | succ k ih =>
      intro hk
      rw [cn_succ, ← ih (by omega)]
      show wtN (rowL F.toDesc m u) k + (if (rowL F.toDesc m u)[k]?.getD 0 = 0 then 0 else 1) = _
      rw [rowL_get F.toDesc u (show k < m by omega)]
      congr 1
      by_cases e : u k = 0
      · rw [if_pos (by rw [e, ci_zero]), if_neg (by simp [e])]
      · rw [if_neg (fun c => e (by rw [← eli_ci (u k), c, eli_zero])), if_pos (by simp [e])]
  exact this m (Nat.le_refl _)
theorem dmin_spec {f : Nat → Nat} : ∀ N, (∀ i, 1 ≤ i → i ≤ N → 1 ≤ f i) → 1 ≤ N → (∀ i, 1 ≤ i → i ≤ N → dmin f N ≤ f i) ∧ ∃ i, 1 ≤ i ∧ i ≤ N ∧ f i = dmin f N
  | 0, _, h => absurd h (by omega)
  | N + 1, h, _ => by
    have hd : dmin f (N + 1) = if dmin f N = 0 ∨ f (N + 1) < dmin f N then f (N + 1) else dmin f N := rfl
    by_cases hN : N = 0
    · subst hN
      rw [hd, if_pos (.inl rfl)]
      exact ⟨fun i h1 h2 => by obtain rfl : i = 1 := by omega
                               exact Nat.le_refl _, 1, by omega, by omega, rfl⟩
    · obtain ⟨h1, i0, h2, h3, h4⟩ := dmin_spec N (fun i a b => h i a (by omega)) (by omega)
      have h5 := h i0 h2 (by omega)
      rw [hd]
      by_cases hc : dmin f N = 0 ∨ f (N + 1) < dmin f N
      · rw [if_pos hc]
        refine ⟨fun i a b => ?_, N + 1, by omega, by omega, rfl⟩
        by_cases e : i = N + 1
        · rw [e]; exact Nat.le_refl _
        · have := h1 i a (by omega); omega
      · rw [if_neg hc]
        refine ⟨fun i a b => ?_, i0, h2, by omega, h4⟩
        by_cases e : i = N + 1
        · rw [e]; omega
        · exact h1 i a (by omega)
/-- The least weight as the reference finds it. -/
theorem dist_spec (hc : Canl F n m M) (hn : 1 ≤ n) : Low n m M (dmin (wtAt n m M) (F.q ^ n - 1)) ∧ Att n m M (dmin (wtAt n m M) (F.q ^ n - 1)) ∧ 1 ≤ dmin (wtAt n m M) (F.q ^ n - 1) := by
  have hq := F.q2
  have hqn : 2 ≤ F.q ^ n := Nat.le_trans hq (Nat.le_self_pow (by omega) _)
  have hw : ∀ v, wtAt n m M v = wtF m (atF n M v) := fun v => wtI_row _
  obtain ⟨h1, i0, h2, h3, h4⟩ := dmin_spec (f := wtAt n m M) (F.q ^ n - 1) (fun i a b => by rw [hw]; exact wtF_pos (atF_NZ hc a (by omega))) (by omega)
  refine ⟨fun u hu hz => ?_, ⟨atF n M i0, atF_span _, atF_NZ hc h2 (by omega), by rw [← hw]; exact h4⟩, ?_⟩
  · obtain ⟨g, hg⟩ := hu
    obtain ⟨v, hv, he⟩ := atF_all (n := n) (M := M) g
    have hag : ∀ j, j < m → u j = atF n M v j := fun j hj => by rw [hg j hj, he j]; rfl
    have hv1 : 1 ≤ v := Nat.one_le_iff_ne_zero.2 fun h0 => by
      obtain ⟨j, hj, hne⟩ := hz
      refine hne ?_
      rw [hag j hj, h0]
      unfold atF cmb
      exact rsum_eq_zero fun p _ => by
        unfold msgF
        dsimp only
        rw [Nat.zero_div, Nat.zero_mod]
        rw [show ((0 : Nat) : Int) = 0 from rfl, eli_zero, zero_mul]
    have := h1 v hv1 (by omega)
    rwa [hw, ← wtF_congr hag] at this
  · rw [← h4, hw]
    exact wtF_pos (atF_NZ hc h2 (by omega))
theorem dist_zero (h : n = 0) : dmin (wtAt n m M) (F.q ^ n - 1) = 0 := by
  subst h
  rw [Nat.pow_zero]
  rfl
/-- The word of a message is a word. -/
theorem ofF_span (msg : List Int) : Span n m M (ofF n M msg) := ⟨_, fun _ _ => rfl⟩
end words
end Go.Proofs.Ytghgbjgoedlnjaa

/-! Distance of any code: its number, and what it says if it is at least 1; results as codes without an error -/
namespace Go.Proofs.Ytghgbjgoedlnjaa
open Go.RowKit Cw

theorem dist_any (Pa Ma Na : Int) (mla : List Int) (na : Nat) (rowsa : Nat → List Int) (Aa Ra : Option Addr) (ca ka : Nat) (most : Int) (hPa : I64 Pa) (hMa : I64 Ma) (hla : mla.length ≤ maxLen) (hna : na ≤ 64) (hka : ∀ i, i < na → (rowsa i).length ≤ 4200) (hmo : I64 most) :
    ∃ V : Int, (-1 ≤ V ∧ V ≤ 64) ∧ (∀ W, Pre1 mla na rowsa Aa Ra W → Calls Try.prog 18 #[.agg #[.int .i64 Pa, .int .i64 Ma, .slice Aa mla.length ca, .int .i64 Na, .slice Ra na ka], .int .i64 most] W fun e w' => e = .returned (.int .i64 V) ∧ Below W.heap.size W w') ∧
      (V ≠ -1 → ∃ F : FD, ∃ m : Nat, ∃ M : Nat → Nat → R F.toDesc, VC Pa Ma Na mla na rowsa F m M ∧ ((F.q ^ na : Nat) : Int) ≤ most ∧ F.q ^ na ≤ 65536 ∧ (1 ≤ V ↔ 1 ≤ na) ∧ (1 ≤ V → Low na m M V.toNat ∧ Att na m M V.toNat)) := by
  by_cases h0 : cnV (cErr Pa Ma Na mla na rowsa) (qOf Pa Ma) na most = 0
  · exact ⟨-1, ⟨by omega, by omega⟩, fun W h => Dist_no Pa Ma Na mla na rowsa Aa Ra ca ka most W hPa hMa hla hna hka h.1 h.2 hmo h0, fun h => absurd rfl h⟩
  · obtain ⟨hE, h6, hm, hv⟩ := cnV_pos h0
    obtain ⟨F, m, M, va⟩ := cErr_zero hE
    have hqq : qOf Pa Ma = F.q := by rw [va.hP, va.hM]; exact qOf_D F.toDesc
    rw [hqq] at h6 hm hv
    have hm64 := va.m64
    have hle := dmin_le (f := wtAt na m M) (B := 64) (fun i => Nat.le_trans (wtAt_le na m M i) hm64) (F.q ^ na - 1)
    refine ⟨(dmin (wtAt na m M) (F.q ^ na - 1) : Nat), ⟨by omega, by omega⟩, fun W h => Dist_ok Pa Ma Na mla na rowsa Aa Ra ca ka most W hPa hMa hla hna hka h.1 h.2 hmo va (F.q ^ na) rfl (by rw [hqq]; exact hv) h6, fun _ => ⟨F, m, M, va, hm, h6, ?_, fun h1 => ?_⟩⟩
    · constructor
      · intro h1
        rcases Nat.eq_zero_or_pos na with hz | hz
        · rw [dist_zero hz] at h1; omega
        · exact hz
      · intro h1
        have := (dist_spec va.can h1).2.2
        omega
    · have hna1 : 1 ≤ na := by
        rcases Nat.eq_zero_or_pos na with hz | hz
        · rw [dist_zero hz] at h1; omega
        · exact hz
      obtain ⟨h2, h3, -⟩ := dist_spec va.can hna1
      rw [Int.toNat_natCast]
      exact ⟨h2, h3⟩
/-- A result is a code without an error. -/
theorem vc_res (F : FD) (hgood : Good F.p F.m (modL F.toDesc)) (n m : Nat) (M : Nat → Nat → R F.toDesc) (h1 : 1 ≤ m) (h2 : m ≤ 64) : VC F.p F.m m (modL F.toDesc) (rkS F n m M) (rowsL F.toDesc m (elS n M m).1) F m (elS n M m).1 :=
  ⟨rfl, rfl, rfl, hgood, rfl, h1, h2, fun _ _ => rfl, canl_elS F n m M⟩
theorem rk_full {F : FD} {n m : Nat} {M : Nat → Nat → R F.toDesc} (h : Indep n m M) : rkS F n m M = n := elS_rank h
end Go.Proofs.Ytghgbjgoedlnjaa

/-! Numbers of words and distances of results of chapter 14 -/
namespace Go.Proofs.Ytghgbjgoedlnjaa
open Go.RowKit Cw

theorem vc_err {P M N : Int} {ml : List Int} {n : Nat} {rows : Nat → List Int} {F : FD} {m : Nat} {A : Nat → Nat → R F.toDesc} (va : VC P M N ml n rows F m A) : cErr P M N ml n rows = 0 := by
  have h1 := va.m1; have h2 := va.m64; have h5 := va.le; have eN := va.hN
  have hs0 : ShpOk N n rows := ⟨by omega, by omega, by omega, fun i hi => by rw [va.hr i hi, rowsL_length, eN]⟩
  exact cErr_ok (D := F.toDesc) (by rw [va.hP, va.hM, va.hl]; exact va.good) va.hP va.hM va.hl (by omega) hs0 (fun i hi => by rw [va.hr i hi]; exact elB_rowL _ _ _) ⟨F, m, A, va.hP, va.hM, va.hl, va.hN, va.hr, va.can⟩
/-- Distance of a given valid code. -/
theorem dist_vc (Pa Ma Na : Int) (mla : List Int) (na : Nat) (rowsa : Nat → List Int) (Aa Ra : Option Addr) (ca ka : Nat) (most : Int) (hPa : I64 Pa) (hMa : I64 Ma) (hla : mla.length ≤ maxLen) (hna : na ≤ 64) (hka : ∀ i, i < na → (rowsa i).length ≤ 4200) (hmo : I64 most) {F : FD} {m : Nat} {M : Nat → Nat → R F.toDesc} (va : VC Pa Ma Na mla na rowsa F m M) :
    ∃ V : Int, (-1 ≤ V ∧ V ≤ 64) ∧ (∀ W, Pre1 mla na rowsa Aa Ra W → Calls Try.prog 18 #[.agg #[.int .i64 Pa, .int .i64 Ma, .slice Aa mla.length ca, .int .i64 Na, .slice Ra na ka], .int .i64 most] W fun e w' => e = .returned (.int .i64 V) ∧ Below W.heap.size W w') ∧
      (1 ≤ V → ((F.q ^ na : Nat) : Int) ≤ most ∧ 1 ≤ na ∧ Low na m M V.toNat ∧ Att na m M V.toNat) := by
  by_cases h0 : cnV (cErr Pa Ma Na mla na rowsa) (qOf Pa Ma) na most = 0
  · exact ⟨-1, ⟨by omega, by omega⟩, fun W h => Dist_no Pa Ma Na mla na rowsa Aa Ra ca ka most W hPa hMa hla hna hka h.1 h.2 hmo h0, fun h => by omega⟩
  · obtain ⟨hE, h6, hm, hv⟩ := cnV_pos h0
    have hqq : qOf Pa Ma = F.q := by rw [va.hP, va.hM]; exact qOf_D F.toDesc
    rw [hqq] at h6 hm hv
    have hm64 := va.m64
    have hle := dmin_le (f := wtAt na m M) (B := 64) (fun i => Nat.le_trans (wtAt_le na m M i) hm64) (F.q ^ na - 1)
    refine ⟨(dmin (wtAt na m M) (F.q ^ na - 1) : Nat), ⟨by omega, by omega⟩, fun W h => Dist_ok Pa Ma Na mla na rowsa Aa Ra ca ka most W hPa hMa hla hna hka h.1 h.2 hmo va (F.q ^ na) rfl (by rw [hqq]; exact hv) h6, fun h1 => ?_⟩
    have hna1 : 1 ≤ na := by
      rcases Nat.eq_zero_or_pos na with hz | hz
      · rw [dist_zero hz] at h1; omega
      · exact hz
    obtain ⟨h2, h3, -⟩ := dist_spec va.can hna1
    rw [Int.toNat_natCast]
    exact ⟨hm, hna1, h2, h3⟩
/-- Distance with at most 1024 words hands back d. -/
def DistC (P M N : Int) (ml : List Int) (n : Nat) (rows : Nat → List Int) (d : Int) : Prop := ∀ A c Ar cr W, Rd W W.heap.size A ml → RdM W W.heap.size Ar n rows → Calls Try.prog 18 #[.agg #[.int .i64 P, .int .i64 M, .slice A ml.length c, .int .i64 N, .slice Ar n cr], .int .i64 1024] W fun e w' => e = .returned (.int .i64 d) ∧ Below W.heap.size W w'
/-- Count with at most 1024 words hands back d. -/
def CntC (P M N : Int) (ml : List Int) (n : Nat) (rows : Nat → List Int) (d : Int) : Prop := ∀ A c Ar cr W, Rd W W.heap.size A ml → RdM W W.heap.size Ar n rows → Calls Try.prog 39 #[.agg #[.int .i64 P, .int .i64 M, .slice A ml.length c, .int .i64 N, .slice Ar n cr], .int .i64 1024] W fun e w' => e = .returned (.int .i64 d) ∧ Below W.heap.size W w'
section res
variable {F : FD} {n m : Nat} {M : Nat → Nat → R F.toDesc}
theorem fd_len (F : FD) : (modL F.toDesc).length ≤ maxLen := by have := F.hlen; have := F.m8; rw [modL_length, F.hlen]; unfold maxLen; split <;> omega
theorem fd_i64 (F : FD) : I64 F.p ∧ I64 F.m := by
  have h1 := F.m8
  have h2 : F.p ≤ 256 := Nat.le_trans (Nat.le_self_pow (by have := F.m1; omega) _) F.q256
  constructor <;> constructor <;> omega
theorem cnt_res (hgood : Good F.p F.m (modL F.toDesc)) (hI : Indep n m M) (h1 : 1 ≤ m) (h2 : m ≤ 64) : CntC F.p F.m m (modL F.toDesc) n (rowsL F.toDesc m (elS n M m).1) (if F.q ^ n ≤ 1024 then (F.q ^ n : Nat) else 0) := by
  intro A c Ar cr W g1 g2
  have hv := vc_res F hgood n m M h1 h2
  rw [rk_full hI] at hv
  have h := Count12_any F.p F.m m (modL F.toDesc) n (rowsL F.toDesc m (elS n M m).1) A Ar c cr 1024 W (fd_i64 F).1 (fd_i64 F).2 (fd_len F) (by have := hv.le; omega) (fun i _ => by rw [rowsL_length]; omega) g1 g2 ⟨by omega, by omega⟩
  rw [vc_err hv, qOf_D F.toDesc] at h
  unfold cnV at h
  by_cases hq : F.q ^ n ≤ 1024
  · rw [if_pos ⟨rfl, by omega, by omega⟩] at h
    rw [if_pos hq]; exact h
  · rw [if_neg (by rintro ⟨-, -, h⟩; omega)] at h
    rw [if_neg hq]; exact h
theorem dist_res (hgood : Good F.p F.m (modL F.toDesc)) (hI : Indep n m M) (h1 : 1 ≤ m) (h2 : m ≤ 64) (hn : 1 ≤ n) (hq : F.q ^ n ≤ 1024) {d : Nat} (hL : Low n m M d) (hA : Att n m M d) : DistC F.p F.m m (modL F.toDesc) n (rowsL F.toDesc m (elS n M m).1) d := by
  intro A c Ar cr W g1 g2
  have hv := vc_res F hgood n m M h1 h2
  rw [rk_full hI] at hv
  have hc : cnV (cErr F.p F.m m (modL F.toDesc) n (rowsL F.toDesc m (elS n M m).1)) (qOf F.p F.m) n 1024 = ((F.q ^ n : Nat) : Int) := by
    rw [vc_err hv, qOf_D F.toDesc]
    exact if_pos ⟨rfl, by omega, by omega⟩
  have h := Dist_ok F.p F.m m (modL F.toDesc) n (rowsL F.toDesc m (elS n M m).1) A Ar c cr 1024 W (fd_i64 F).1 (fd_i64 F).2 (fd_len F) (by have := hv.le; omega) (fun i _ => by rw [rowsL_length]; omega) g1 g2 ⟨by omega, by omega⟩ hv (F.q ^ n) rfl hc (by omega)
  obtain ⟨k1, k2, -⟩ := dist_spec hv.can hn
  have hs : SameSpan n n m (elS n M m).1 M := by
    have h7 := elS_span n m M
    have h8 : (elS n M m).2.length = n := rk_full hI
    rwa [h8] at h7
  rw [min_uniq (low_same k1 hs) (att_same k2 hs) hL hA] at h
  exact h
end res
/-- The function hands back a code with this distance. -/
def DisR (fp : Nat) (args : Array Value) (Pre : World → Prop) (d : Int) : Prop :=
  ∃ (P M N : Int) (ml : List Int) (n : Nat) (rows : Nat → List Int), (∀ W, Pre W → Calls Try.prog fp args W (ResC P M N ml n rows 0 W)) ∧ DistC P M N ml n rows d
/-- The function hands back a code; if it has at most 1024 words, it has this distance. -/
def CntR (fp : Nat) (args : Array Value) (Pre : World → Prop) (d : Int) : Prop :=
  ∃ (P M N : Int) (ml : List Int) (n : Nat) (rows : Nat → List Int) (c : Int), (∀ W, Pre W → Calls Try.prog fp args W (ResC P M N ml n rows 0 W)) ∧ CntC P M N ml n rows c ∧ (c = 0 ∨ 0 < c ∧ DistC P M N ml n rows d)
theorem dis_code {fp : Nat} {args : Array Value} {Pre : World → Prop} {F : FD} (hgood : Good F.p F.m (modL F.toDesc)) {n m : Nat} {M : Nat → Nat → R F.toDesc} (hI : Indep n m M) (h1 : 1 ≤ m) (h2 : m ≤ 64) (hn : 1 ≤ n) (hq : F.q ^ n ≤ 1024) {d : Nat} (hL : Low n m M d) (hA : Att n m M d) (D : Int) (hD : D = d) (h : ∀ W, Pre W → Calls Try.prog fp args W (ResCode F n m M W)) : DisR fp args Pre D := by
  unfold ResCode at h
  rw [rk_full hI] at h
  subst hD
  exact ⟨F.p, F.m, m, modL F.toDesc, n, _, h, dist_res hgood hI h1 h2 hn hq hL hA⟩
theorem cnt_code {fp : Nat} {args : Array Value} {Pre : World → Prop} {F : FD} (hgood : Good F.p F.m (modL F.toDesc)) {n m : Nat} {M : Nat → Nat → R F.toDesc} (hI : Indep n m M) (h1 : 1 ≤ m) (h2 : m ≤ 64) (hn : 1 ≤ n) {d : Nat} (hL : Low n m M d) (hA : Att n m M d) (D : Int) (hD : D = d) (h : ∀ W, Pre W → Calls Try.prog fp args W (ResCode F n m M W)) : CntR fp args Pre D := by
  unfold ResCode at h
  rw [rk_full hI] at h
  subst hD
  refine ⟨F.p, F.m, m, modL F.toDesc, n, _, _, h, cnt_res hgood hI h1 h2, ?_⟩
  by_cases hq : F.q ^ n ≤ 1024
  · rw [if_pos hq]
    exact .inr ⟨by have : 0 < F.q ^ n := Nat.pow_pos (by have := F.q2; omega); omega, dist_res hgood hI h1 h2 hn hq hL hA⟩
  · rw [if_neg hq]; exact .inl rfl
end Go.Proofs.Ytghgbjgoedlnjaa

/-! CombineDistances: what the functions answer, with no program in sight -/
namespace Go.Proofs.Ytghgbjgoedlnjaa
open Go.RowKit Cw

set_option maxHeartbeats 1000000 in
theorem dists_pack (Pa Ma Na : Int) (mla : List Int) (na : Nat) (rowsa : Nat → List Int) (Aa Ra : Option Addr) (ca ka : Nat) (Pb Mb Nb : Int) (mlb : List Int) (nb : Nat) (rowsb : Nat → List Int) (Ab Rb : Option Addr) (cb kb : Nat) (x : Int) (hPa : I64 Pa) (hMa : I64 Ma) (hla : mla.length ≤ maxLen) (hna : na ≤ 64) (hka : ∀ i, i < na → (rowsa i).length ≤ 4200) (hPb : I64 Pb) (hMb : I64 Mb) (hlb : mlb.length ≤ maxLen) (hnb : nb ≤ 64) (hkb : ∀ i, i < nb → (rowsb i).length ≤ 4200) :
    ∃ V V2 E : Int, (-1 ≤ V ∧ V ≤ 64) ∧ (-1 ≤ V2 ∧ V2 ≤ 64) ∧
      (∀ W, Pre1 mla na rowsa Aa Ra W → Calls Try.prog 18 #[.agg #[.int .i64 Pa, .int .i64 Ma, .slice Aa mla.length ca, .int .i64 Na, .slice Ra na ka], .int .i64 32] W fun e w' => e = .returned (.int .i64 V) ∧ Below W.heap.size W w') ∧
      (∀ W, Pre1 mlb nb rowsb Ab Rb W → Calls Try.prog 18 #[.agg #[.int .i64 Pb, .int .i64 Mb, .slice Ab mlb.length cb, .int .i64 Nb, .slice Rb nb kb], .int .i64 32] W fun e w' => e = .returned (.int .i64 V2) ∧ Below W.heap.size W w') ∧
      (∀ W, Pre2 mla na rowsa Aa Ra mlb nb rowsb Ab Rb W → Calls Try.prog 24 #[.agg #[.int .i64 Pa, .int .i64 Ma, .slice Aa mla.length ca, .int .i64 Na, .slice Ra na ka], .agg #[.int .i64 Pb, .int .i64 Mb, .slice Ab mlb.length cb, .int .i64 Nb, .slice Rb nb kb]] W fun e w' => e = .returned (.int .i64 E) ∧ Below W.heap.size W w') ∧
      (1 ≤ V → 1 ≤ V2 → E = 0 → Na ≤ 8 → Nb ≤ 8 →
        DisR 29 #[.agg #[.int .i64 Pa, .int .i64 Ma, .slice Aa mla.length ca, .int .i64 Na, .slice Ra na ka], .agg #[.int .i64 Pb, .int .i64 Mb, .slice Ab mlb.length cb, .int .i64 Nb, .slice Rb nb kb]] (Pre2 mla na rowsa Aa Ra mlb nb rowsb Ab Rb) (min V V2) ∧
        CntR 22 #[.agg #[.int .i64 Pa, .int .i64 Ma, .slice Aa mla.length ca, .int .i64 Na, .slice Ra na ka], .agg #[.int .i64 Pb, .int .i64 Mb, .slice Ab mlb.length cb, .int .i64 Nb, .slice Rb nb kb]] (Pre2 mla na rowsa Aa Ra mlb nb rowsb Ab Rb) (V * V2) ∧
        (Na = Nb → DisR 31 #[.agg #[.int .i64 Pa, .int .i64 Ma, .slice Aa mla.length ca, .int .i64 Na, .slice Ra na ka], .agg #[.int .i64 Pb, .int .i64 Mb, .slice Ab mlb.length cb, .int .i64 Nb, .slice Rb nb kb]] (Pre2 mla na rowsa Aa Ra mlb nb rowsb Ab Rb) (min (2 * V) V2)) ∧
        (1 ≤ x → x ≤ 3 → CntR 15 #[.agg #[.int .i64 Pa, .int .i64 Ma, .slice Aa mla.length ca, .int .i64 Na, .slice Ra na ka], .int .i64 x] (Pre1 mla na rowsa Aa Ra) V)) := by
  have hT := fun W (h : Pre2 mla na rowsa Aa Ra mlb nb rowsb Ab Rb W) => Two14_any Pa Ma Na mla na rowsa Aa Ra ca ka Pb Mb Nb mlb nb rowsb Ab Rb cb kb W hPa hMa hla hna hka h.1.1 h.1.2 hPb hMb hlb hnb hkb h.2.1 h.2.2
  by_cases hE : twoE Pa Ma Na mla na rowsa Aa Ra ca ka Pb Mb Nb mlb nb rowsb Ab Rb cb kb = 0
  rotate_left
  · obtain ⟨V, hV, hD, -⟩ := dist_any Pa Ma Na mla na rowsa Aa Ra ca ka 32 hPa hMa hla hna hka ⟨by omega, by omega⟩
    obtain ⟨V2, hV2, hD2, -⟩ := dist_any Pb Mb Nb mlb nb rowsb Ab Rb cb kb 32 hPb hMb hlb hnb hkb ⟨by omega, by omega⟩
    exact ⟨V, V2, _, hV, hV2, hD, hD2, hT, fun _ _ h => absurd h hE⟩
  obtain ⟨F, m1, m2, M1, M2, va, vb⟩ := twoE_zero hE
  obtain ⟨V, hV, hD, hA⟩ := dist_vc Pa Ma Na mla na rowsa Aa Ra ca ka 32 hPa hMa hla hna hka ⟨by omega, by omega⟩ va
  obtain ⟨V2, hV2, hD2, hB⟩ := dist_vc Pb Mb Nb mlb nb rowsb Ab Rb cb kb 32 hPb hMb hlb hnb hkb ⟨by omega, by omega⟩ vb
  refine ⟨V, V2, _, hV, hV2, hD, hD2, hT, fun hv1 hv2 _ hN8 hNb8 => ?_⟩
  obtain ⟨hq1, hn1, hL1, hA1⟩ := hA hv1
  obtain ⟨hq2, hn2, hL2, hA2⟩ := hB hv2
  have hgood := va.good
  have h1 := va.m1; have h2 := va.m64; have h3 := vb.m1; have h4 := vb.m64; have h5 := va.le; have h6 := vb.le
  have eNa := va.hN; have eNb := vb.hN
  have eP := va.hP; have eM := va.hM; have eL := va.hl
  obtain ⟨p1, hR1⟩ := canl_RR va.can
  obtain ⟨p2, hR2⟩ := canl_RR vb.can
  have hI1 := RR.indep hR1
  have hI2 := RR.indep hR2
  have hqs : F.q ^ (na + nb) ≤ 1024 := by
    rw [Nat.pow_add]
    exact Nat.mul_le_mul (show F.q ^ na ≤ 32 by omega) (show F.q ^ nb ≤ 32 by omega)
  have hv : V = V.toNat := by omega
  have hvv : V2 = V2.toNat := by omega
  generalize V.toNat = d1 at *
  generalize V2.toNat = d2 at *
  subst hv hvv
  refine ⟨?_, ?_, fun hne => ?_, fun hx1 hx3 => ?_⟩
  · have hcode : ∀ W, Pre2 mla na rowsa Aa Ra mlb nb rowsb Ab Rb W → Calls Try.prog 29 #[.agg #[.int .i64 Pa, .int .i64 Ma, .slice Aa mla.length ca, .int .i64 Na, .slice Ra na ka], .agg #[.int .i64 Pb, .int .i64 Mb, .slice Ab mlb.length cb, .int .i64 Nb, .slice Rb nb kb]] W (ResCode F (na + nb) (m1 + m2) (sumR na m1 M1 M2) W) := fun W h => by
      refine cSum_code Pa Ma Na mla na rowsa Aa Ra ca ka Pb Mb Nb mlb nb rowsb Ab Rb cb kb W hPa hMa hla hna hka h.1.1 h.1.2 hPb hMb hlb hnb hkb h.2.1 h.2.2 F m1 m2 M1 M2 va vb hE fun W2 Al cl g1 g2 => ?_
      subst eP eM eL
      exact gen_code F hgood _ m1 m2 _ Aa Al ca cl W2 g1 g2 (by omega) h1 (by omega)
    have hlow := sum_low hL1 hL2
    have hatt : Att (na + nb) (m1 + m2) (sumR na m1 M1 M2) (min d1 d2) := by
      rcases Nat.le_total d1 d2 with hc | hc
      · rw [Nat.min_eq_left hc]; exact sum_att1 hA1
      · rw [Nat.min_eq_right hc]; exact sum_att2 hA2
    exact dis_code hgood (sum_indep hI1 hI2) (by omega) (by omega) (by omega) hqs hlow hatt _ (by omega) hcode
  · have hm : m1 * m2 ≤ 64 := Nat.mul_le_mul (show m1 ≤ 8 by omega) (show m2 ≤ 8 by omega)
    have hcode : ∀ W, Pre2 mla na rowsa Aa Ra mlb nb rowsb Ab Rb W → Calls Try.prog 22 #[.agg #[.int .i64 Pa, .int .i64 Ma, .slice Aa mla.length ca, .int .i64 Na, .slice Ra na ka], .agg #[.int .i64 Pb, .int .i64 Mb, .slice Ab mlb.length cb, .int .i64 Nb, .slice Rb nb kb]] W (ResCode F (na * nb) (m1 * m2) (prodR nb m2 M1 M2) W) := fun W h => by
      refine cProduct_code Pa Ma Na mla na rowsa Aa Ra ca ka Pb Mb Nb mlb nb rowsb Ab Rb cb kb W hPa hMa hla hna hka h.1.1 h.1.2 hPb hMb hlb hnb hkb h.2.1 h.2.2 F m1 m2 M1 M2 va vb hE (m1 * m2) rfl hm fun W2 Al cl g1 g2 => ?_
      subst eP eM eL
      rw [Nat.mul_comm nb na] at g2 ⊢
      exact gen_codeN F hgood _ _ _ Aa Al ca cl W2 g1 g2 (Nat.le_trans (Nat.mul_le_mul (show na ≤ 8 by omega) (show nb ≤ 8 by omega)) (by omega)) (Nat.mul_pos h1 h3) hm
    exact cnt_code hgood (prod_indep hI1 hI2) (Nat.mul_pos h1 h3) hm (Nat.mul_pos hn1 hn2) (prod_low hL1 hL2) (prod_att hA1 hA2) _ (by push_cast; rfl) hcode
  · have hmm : m1 = m2 := by omega
    subst hmm
    have hcode : ∀ W, Pre2 mla na rowsa Aa Ra mlb nb rowsb Ab Rb W → Calls Try.prog 31 #[.agg #[.int .i64 Pa, .int .i64 Ma, .slice Aa mla.length ca, .int .i64 Na, .slice Ra na ka], .agg #[.int .i64 Pb, .int .i64 Mb, .slice Ab mlb.length cb, .int .i64 Nb, .slice Rb nb kb]] W (ResCode F (na + nb) (m1 + m1) (ploR na m1 M1 M2) W) := fun W h => by
      refine cPlotkin_code Pa Ma Na mla na rowsa Aa Ra ca ka Pb Mb Nb mlb nb rowsb Ab Rb cb kb W hPa hMa hla hna hka h.1.1 h.1.2 hPb hMb hlb hnb hkb h.2.1 h.2.2 F m1 m1 M1 M2 va vb hE rfl fun W2 Al cl g1 g2 => ?_
      subst eP eM eL
      exact gen_code F hgood _ m1 m1 _ Aa Al ca cl W2 g1 g2 (by omega) h1 (by omega)
    have hatt : Att (na + nb) (m1 + m1) (ploR na m1 M1 M2) (min (2 * d1) d2) := by
      rcases Nat.le_total (2 * d1) d2 with hc | hc
      · rw [Nat.min_eq_left hc]; exact plo_att1 hA1
      · rw [Nat.min_eq_right hc]; exact plo_att2 hA2
    exact dis_code hgood (plo_indep hI1 hI2) (by omega) (by omega) (by omega) hqs (plo_low hL1 hL2) hatt _ (by omega) hcode
  · obtain ⟨d, rfl⟩ : ∃ d : Nat, x = d := ⟨x.toNat, by omega⟩
    have hmd : m1 * d ≤ 64 := Nat.le_trans (Nat.mul_le_mul (show m1 ≤ 8 by omega) (show d ≤ 3 by omega)) (by omega)
    have hcode : ∀ W, Pre1 mla na rowsa Aa Ra W → Calls Try.prog 15 #[.agg #[.int .i64 Pa, .int .i64 Ma, .slice Aa mla.length ca, .int .i64 Na, .slice Ra na ka], .int .i64 (d : Int)] W (ResCode F (na * d) (m1 * d) (ivP d M1) W) := fun W h => by
      refine cInter_code Pa Ma Na mla na rowsa Aa Ra ca ka d W hPa hMa hla hna hka h.1 h.2 F m1 M1 va (vc_err va) (by omega) (m1 * d) rfl hmd fun W2 Al cl g1 g2 => ?_
      subst eP eM eL
      rw [Nat.mul_comm d na] at g2 ⊢
      exact gen_codeN F hgood _ (m1 * d) _ Aa Al ca cl W2 g1 g2 (Nat.le_trans (Nat.mul_le_mul (show na ≤ 8 by omega) (show d ≤ 3 by omega)) (by omega)) (Nat.mul_pos h1 (by omega)) hmd
    exact cnt_code hgood (iv_indep hI1) (Nat.mul_pos h1 (by omega)) hmd (Nat.mul_pos hn1 (by omega)) (iv_low hL1) (iv_att (by omega) hA1) _ rfl hcode
end Go.Proofs.Ytghgbjgoedlnjaa

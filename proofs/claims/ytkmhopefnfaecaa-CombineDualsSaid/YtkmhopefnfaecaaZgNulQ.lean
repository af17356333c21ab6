/- Plain: the dual spaces of sums, of interleaved words, of words (u, u + v). No Go here. -/
import Derived.Test.YtkmhopefnfaecaaZgNulP
import Derived.Test.YtkmhopefnfaecaaZgAsA
namespace Cw
theorem npv_step {p : Nat → Nat} {r m : Nat} : npv p (r + 1) m = (npv p r m).filter fun c => c != p r := by
  unfold npv
  rw [List.filter_filter]
  refine List.filter_congr fun c _ => ?_
  by_cases h : ∃ i, i < r ∧ p i = c
  · have h2 : ∃ i, i < r + 1 ∧ p i = c := by obtain ⟨i, h1, e⟩ := h; exact ⟨i, by omega, e⟩
    simp [h, h2]
  · by_cases e : p r = c
    · have h2 : ∃ i, i < r + 1 ∧ p i = c := ⟨r, by omega, e⟩
      subst e
      simp [h2]
    · have h2 : ¬ ∃ i, i < r + 1 ∧ p i = c := fun ⟨i, h1, e1⟩ => h ⟨i, by
        by_cases g : i = r
        · subst g; exact absurd e1 e
        · omega, e1⟩
      have e2 : (c != p r) = true := by rw [bne_iff_ne]; exact fun g => e g.symm
      simp only [h, h2, e2, decide_false, Bool.not_false, Bool.and_self]
theorem npv_len {p : Nat → Nat} {m : Nat} : ∀ r, (∀ i, i < r → p i < m) → (∀ i j, i < r → j < r → p i = p j → i = j) → (npv p r m).length + r = m
  | 0, _, _ => by
    have e : npv p 0 m = List.range m := by
      unfold npv
      refine List.filter_eq_self.2 fun c _ => ?_
      simp
    rw [e, List.length_range]; rfl
  | r + 1, h1, h2 => by
    have ih := npv_len r (fun i hi => h1 i (by omega)) (fun i j hi hj e => h2 i j (by omega) (by omega) e)
    have hm : p r ∈ npv p r m := npv_mem.2 ⟨h1 r (by omega), fun i hi e => by have := h2 i r (by omega) (by omega) e; omega⟩
    have h3 : (npv p (r + 1) m).length + 1 = (npv p r m).length := by
      rw [npv_step, ← List.Nodup.erase_eq_filter (npv_nodup p r m), List.length_erase_of_mem hm]
      have := List.length_pos_of_mem hm
      omega
    omega
end Cw
namespace Cw
open Go.Proofs.Ytkmhopefnfaecaa (joinF)
open Go.Proofs.Ytkmhopefnfaecaa (stackR sumR ploR stackR_lo stackR_hi)
section
variable {F : Type} [CField F]
theorem rsum_join (n m : Nat) (a b u : Nat → F) : rsum (n + m) (fun j => joinF n a b j * u j) = rsum n (fun j => a j * u j) + rsum m (fun j => b j * u (n + j)) := by
  rw [rsum_split]
  congr 1
  · exact rsum_congr fun j hj => by rw [joinF_lo hj]
  · exact rsum_congr fun j _ => by unfold joinF; rw [if_neg (by omega), Nat.add_sub_cancel_left]
theorem orth_stack {K1 K2 m : Nat} {A B : Nat → Nat → F} {u : Nat → F} : Orth (K1 + K2) m (stackR K1 A B) u ↔ Orth K1 m A u ∧ Orth K2 m B u := by
  constructor
  · intro h
    refine ⟨fun i hi => ?_, fun i hi => ?_⟩
    · have h1 := h i (by omega); rw [stackR_lo A B hi] at h1; exact h1
    · have h1 := h (K1 + i) (by omega); rw [stackR_hi A B] at h1; exact h1
  · rintro ⟨h1, h2⟩ i hi
    by_cases g : i < K1
    · rw [stackR_lo A B g]; exact h1 i g
    · have h3 := h2 (i - K1) (by omega)
      rw [← stackR_hi A B (K := K1), show K1 + (i - K1) = i by omega] at h3
      exact h3
theorem zero_row (n : Nat) (u : Nat → F) : rsum n (fun j => (0 : F) * u j) = 0 := rsum_eq_zero fun _ _ => zero_mul _
theorem orth_sum {K1 K2 n m : Nat} {A B : Nat → Nat → F} {u : Nat → F} : Orth (K1 + K2) (n + m) (sumR K1 n A B) u ↔ Orth K1 n A u ∧ Orth K2 m B (fun j => u (n + j)) := by
  unfold sumR
  rw [orth_stack]
  have e1 : ∀ i, rsum (n + m) (fun j => joinF n (A i) (fun _ => 0) j * u j) = rsum n fun j => A i j * u j := fun i => by rw [rsum_join, zero_row m (fun j => u (n + j)), add_zero]
  have e2 : ∀ i, rsum (n + m) (fun j => joinF n (fun _ => 0) (B i) j * u j) = rsum m fun j => B i j * u (n + j) := fun i => by rw [rsum_join, zero_row n u, zero_add]
  constructor
  · rintro ⟨h1, h2⟩
    exact ⟨fun i hi => (e1 i).symm.trans (h1 i hi), fun i hi => (e2 i).symm.trans (h2 i hi)⟩
  · rintro ⟨h1, h2⟩
    exact ⟨fun i hi => (e1 i).trans (h1 i hi), fun i hi => (e2 i).trans (h2 i hi)⟩
/-- Orthogonal to words (u, u + v): for u the sum of the halves counts, for v the second half. -/
theorem orth_plo {K1 K2 n : Nat} {A B : Nat → Nat → F} {u : Nat → F} : Orth (K1 + K2) (n + n) (ploR K1 n A B) u ↔ Orth K1 n A (fun j => u j + u (n + j)) ∧ Orth K2 n B (fun j => u (n + j)) := by
  unfold ploR
  rw [orth_stack]
  have e1 : ∀ i, rsum (n + n) (fun j => joinF n (A i) (A i) j * u j) = rsum n fun j => A i j * (u j + u (n + j)) := fun i => by
    rw [rsum_join, ← rsum_add]; exact rsum_congr fun j _ => by rw [mul_add]
  have e2 : ∀ i, rsum (n + n) (fun j => joinF n (fun _ => 0) (B i) j * u j) = rsum n fun j => B i j * u (n + j) := fun i => by rw [rsum_join, zero_row n u, zero_add]
  constructor
  · rintro ⟨h1, h2⟩
    exact ⟨fun i hi => (e1 i).symm.trans (h1 i hi), fun i hi => (e2 i).symm.trans (h2 i hi)⟩
  · rintro ⟨h1, h2⟩
    exact ⟨fun i hi => (e1 i).trans (h1 i hi), fun i hi => (e2 i).trans (h2 i hi)⟩
theorem ivP_at {s i k j x : Nat} {M : Nat → Nat → F} (hk : k < s) (hx : x < s) : ivP s M (s * i + k) (s * j + x) = if x = k then M i j else 0 := by
  unfold ivP iv
  rw [(divmod_mul hk).1, (divmod_mul hk).2, (divmod_mul hx).1, (divmod_mul hx).2]
theorem orth_iv {K n s : Nat} {M : Nat → Nat → F} {u : Nat → F} : Orth (K * s) (n * s) (ivP s M) u ↔ ∀ k, k < s → Orth K n M (fun j => u (s * j + k)) := by
  have e : ∀ i k, k < s → rsum (n * s) (fun c => ivP s M (s * i + k) c * u c) = rsum n fun j => M i j * u (s * j + k) := fun i k hk => by
    rw [Nat.mul_comm n s, rsum_mulk s n]
    refine rsum_congr fun j _ => ?_
    rw [rsum_single (k := k) hk fun x hx hne => by rw [ivP_at hk hx, if_neg hne, zero_mul], ivP_at hk hk, if_pos rfl]
  constructor
  · intro h k hk i hi
    rw [← e i k hk]
    exact h _ (idx_lt hi hk)
  · intro h t ht
    have hs : 0 < s := Nat.pos_of_ne_zero fun h0 => by rw [h0, Nat.mul_zero] at ht; omega
    have h2 : t % s < s := Nat.mod_lt _ hs
    have h1 : t / s < K := (Nat.div_lt_iff_lt_mul hs).2 ht
    have e3 : s * (t / s) + t % s = t := Nat.div_add_mod _ _
    have h4 := e (t / s) (t % s) h2
    rw [e3] at h4
    rw [h4]
    exact h _ h2 _ h1
theorem span_iv {K n s : Nat} {M : Nat → Nat → F} {u : Nat → F} : Span (K * s) (n * s) (ivP s M) u ↔ ∀ k, k < s → Span K n M (fun j => u (s * j + k)) := by
  constructor
  · exact fun h k hk => iv_part h hk
  · intro h
    have hc : ∀ k, ∃ c : Nat → F, k < s → ∀ j, j < n → u (s * j + k) = rsum K fun i => c i * M i j := fun k => by
      by_cases g : k < s
      · obtain ⟨c, hc⟩ := h k g; exact ⟨c, fun _ => hc⟩
      · exact ⟨fun _ => 0, fun g2 => absurd g2 g⟩
    refine ⟨fun t => (hc (t % s)).choose (t / s), fun c hcn => ?_⟩
    have hs : 0 < s := Nat.pos_of_ne_zero fun h0 => by rw [h0, Nat.mul_zero] at hcn; omega
    have h2 : c % s < s := Nat.mod_lt _ hs
    have h1 : c / s < n := (Nat.div_lt_iff_lt_mul hs).2 hcn
    have e3 : s * (c / s) + c % s = c := Nat.div_add_mod _ _
    have h5 := (hc (c % s)).choose_spec h2 (c / s) h1
    rw [e3] at h5
    rw [h5, Nat.mul_comm K s, rsum_mulk s K]
    refine rsum_congr fun i _ => ?_
    rw [rsum_single (k := c % s) h2 fun x hx hne => ?_]
    · have h6 : ivP s M (s * i + c % s) c = M i (c / s) := by
        have h7 := ivP_at (i := i) (j := c / s) (M := M) h2 h2
        rw [e3, if_pos rfl] at h7
        exact h7
      rw [h6]
      dsimp only
      rw [(divmod_mul h2).1, (divmod_mul h2).2]
    · have h7 := ivP_at (i := i) (j := c / s) (M := M) hx h2
      rw [e3, if_neg (Ne.symm hne)] at h7
      rw [h7, mul_zero]
/-- D spans the words orthogonal to A. -/
def DualM (K' K m : Nat) (D A : Nat → Nat → F) : Prop := ∀ u, Span K' m D u ↔ Orth K m A u
theorem DualM.same {K' K K2 m : Nat} {D A B : Nat → Nat → F} (h : DualM K' K m D A) (hs : SameSpan K2 K m B A) : DualM K' K2 m D B := fun u => (h u).trans (Orth.same hs u).symm
theorem dual_uniq {K1 K2 K m : Nat} {D E A : Nat → Nat → F} (h1 : DualM K1 K m D A) (h2 : DualM K2 K m E A) : SameSpan K1 K2 m D E := same_of_iff fun u => (h1 u).trans (h2 u).symm
theorem dual_sum {K1 K2 L1 L2 n m : Nat} {A B D E : Nat → Nat → F} (h1 : DualM L1 K1 n D A) (h2 : DualM L2 K2 m E B) : DualM (L1 + L2) (K1 + K2) (n + m) (sumR L1 n D E) (sumR K1 n A B) := fun u => by
  rw [span_sum, orth_sum, h1, h2]
theorem dual_iv {K L n s : Nat} {A D : Nat → Nat → F} (h : DualM L K n D A) : DualM (L * s) (K * s) (n * s) (ivP s D) (ivP s A) := fun u => by
  rw [span_iv, orth_iv]
  exact ⟨fun g k hk => (h _).1 (g k hk), fun g k hk => (h _).2 (g k hk)⟩
/-- (u - v, v) is orthogonal to the words (x, x + y). -/
theorem dual_plo {K1 K2 L n : Nat} {A B D : Nat → Nat → F} (h : DualM L (K1 + K2) (n + n) D (ploR K1 n A B)) {u v w : Nat → F} (hu : Orth K1 n A u) (hv : Orth K2 n B v) (hw1 : ∀ j, j < n → w j + v j = u j) (hw2 : ∀ j, j < n → w (n + j) = v j) : Span L (n + n) D w := by
  rw [h, orth_plo]
  exact ⟨hu.congr fun j hj => by rw [hw2 j hj]; exact hw1 j hj, hv.congr fun j hj => hw2 j hj⟩
end
end Cw

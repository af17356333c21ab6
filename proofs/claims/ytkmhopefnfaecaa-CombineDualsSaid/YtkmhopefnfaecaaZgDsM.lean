/- Plain: least weights of direct sums, of words (u, u + v), of products and of interleaved codes. No Go here. Plain: the words of a code by their index; the least weight as the reference finds it; ranks of combined rows. No Go here. Distance of any code: its number, and what it says if it is at least 1; results as codes without an error. Numbers of words and distances of results of chapter 14. CombineDistances: what the functions answer, with no program in sight. -/
import Derived.IntWalk
import Derived.Test.YtkmhopefnfaecaaZgCmbS
import Derived.Test.YtkmhopefnfaecaaZgT00
import Derived.Test.YtkmhopefnfaecaaZgDsS
import Derived.Test.YtkmhopefnfaecaaZgCodO
namespace Cw
open Go.Proofs.Ytkmhopefnfaecaa (joinF)
open Go.Proofs.Ytkmhopefnfaecaa (stackR sumR ploR)
section pl
variable {F : Type} [CField F]
theorem joinF_lo {X : Type} {n j : Nat} {u v : Nat → X} (h : j < n) : joinF n u v j = u j := if_pos h
theorem joinF_ge {X : Type} {n j : Nat} {u v : Nat → X} (h : ¬ j < n) : joinF n u v j = v (j - n) := if_neg h
theorem joinF_hi {X : Type} {n j : Nat} {u v : Nat → X} : joinF n u v (n + j) = v j := by rw [joinF_ge (by omega), Nat.add_sub_cancel_left]
/-- Not zero. -/
def NZ (m : Nat) (u : Nat → F) : Prop := ∃ j, j < m ∧ u j ≠ 0
theorem NZ.congr {m : Nat} {u v : Nat → F} (h : NZ m u) (e : ∀ j, j < m → u j = v j) : NZ m v := by
  obtain ⟨j, hj, hu⟩ := h
  exact ⟨j, hj, by rw [← e j hj]; exact hu⟩
/-- A combination of stacked rows. -/
theorem span_stack {K1 K2 m : Nat} {A B : Nat → Nat → F} {u : Nat → F} : Span (K1 + K2) m (stackR K1 A B) u ↔ ∃ a b, Span K1 m A a ∧ Span K2 m B b ∧ ∀ j, j < m → u j = a j + b j := by
  constructor
  · rintro ⟨c, hc⟩
    refine ⟨_, _, ⟨c, fun j _ => rfl⟩, ⟨fun i => c (K1 + i), fun j _ => rfl⟩, fun j hj => ?_⟩
    rw [hc j hj, rsum_split]
    congr 1
    · exact rsum_congr fun i hi => by rw [Go.Proofs.Ytkmhopefnfaecaa.stackR_lo _ _ hi]
    · exact rsum_congr fun i hi => by rw [Go.Proofs.Ytkmhopefnfaecaa.stackR_hi]
  · rintro ⟨a, b, ⟨c1, h1⟩, ⟨c2, h2⟩, h⟩
    refine ⟨fun i => if i < K1 then c1 i else c2 (i - K1), fun j hj => ?_⟩
    rw [h j hj, h1 j hj, h2 j hj, rsum_split]
    congr 1
    · exact rsum_congr fun i hi => by rw [Go.Proofs.Ytkmhopefnfaecaa.stackR_lo _ _ hi]; simp only [if_pos hi]
    · refine rsum_congr fun i hi => ?_
      rw [Go.Proofs.Ytkmhopefnfaecaa.stackR_hi]
      simp only [if_neg (show ¬ K1 + i < K1 by omega), Nat.add_sub_cancel_left]
theorem span_joinL {K n m : Nat} {A : Nat → Nat → F} {u : Nat → F} : Span K (n + m) (fun i => joinF n (A i) fun _ => 0) u ↔ Span K n A u ∧ ∀ j, j < m → u (n + j) = 0 := by
  constructor
  · rintro ⟨c, hc⟩
    refine ⟨⟨c, fun j hj => ?_⟩, fun j hj => ?_⟩
    · rw [hc j (by omega)]; exact rsum_congr fun i _ => by (try dsimp only); rw [joinF_lo hj]
    · rw [hc (n + j) (by omega)]; exact rsum_eq_zero fun i _ => by (try dsimp only); rw [joinF_hi, mul_zero]
  · rintro ⟨⟨c, hc⟩, h0⟩
    refine ⟨c, fun j hj => ?_⟩
    by_cases h : j < n
    · rw [hc j h]; exact rsum_congr fun i _ => by (try dsimp only); rw [joinF_lo h]
    · have := h0 (j - n) (by omega)
      rw [Nat.add_sub_cancel' (by omega)] at this
      rw [this, rsum_eq_zero fun i _ => by (try dsimp only); rw [joinF_ge h, mul_zero]]
theorem span_joinR {K n m : Nat} {A : Nat → Nat → F} {u : Nat → F} : Span K (n + m) (fun i => joinF n (fun _ => 0) (A i)) u ↔ (∀ j, j < n → u j = 0) ∧ Span K m A (fun j => u (n + j)) := by
  constructor
  · rintro ⟨c, hc⟩
    refine ⟨fun j hj => ?_, ⟨c, fun j hj => ?_⟩⟩
    · rw [hc j (by omega)]; exact rsum_eq_zero fun i _ => by (try dsimp only); rw [joinF_lo hj, mul_zero]
    · (try dsimp only); rw [hc (n + j) (by omega)]; exact rsum_congr fun i _ => by (try dsimp only); rw [joinF_hi]
  · rintro ⟨h0, ⟨c, hc⟩⟩
    refine ⟨c, fun j hj => ?_⟩
    by_cases h : j < n
    · rw [h0 j h, rsum_eq_zero fun i _ => by (try dsimp only); rw [joinF_lo h, mul_zero]]
    · have := hc (j - n) (by omega)
      dsimp only at this
      rw [Nat.add_sub_cancel' (by omega)] at this
      rw [this]
      exact rsum_congr fun i _ => by (try dsimp only); rw [joinF_ge h]
theorem join_self {X : Type} {n m : Nat} (u : Nat → X) : ∀ j, j < n + m → u j = joinF n u (fun j => u (n + j)) j := fun j _ => by
  by_cases h : j < n
  · rw [joinF_lo h]
  · rw [joinF_ge h]
    show u j = u (n + (j - n))
    rw [Nat.add_sub_cancel' (by omega)]
/-- The words of a direct sum. -/
theorem span_sum {K1 K2 n m : Nat} {A B : Nat → Nat → F} {u : Nat → F} : Span (K1 + K2) (n + m) (sumR K1 n A B) u ↔ Span K1 n A u ∧ Span K2 m B (fun j => u (n + j)) := by
  unfold sumR
  rw [span_stack]
  constructor
  · rintro ⟨a, b, ha, hb, h⟩
    rw [span_joinL] at ha
    rw [span_joinR] at hb
    refine ⟨ha.1.congr fun j hj => ?_, hb.2.congr fun j hj => ?_⟩
    · rw [h j (by omega), hb.1 j hj, add_zero]
    · (try dsimp only); rw [h (n + j) (by omega), ha.2 j hj, zero_add]
  · rintro ⟨ha, hb⟩
    refine ⟨joinF n u (fun _ => 0), joinF n (fun _ => 0) (fun j => u (n + j)), span_joinL.2 ⟨ha.congr fun j hj => by (try dsimp only); rw [joinF_lo hj], fun j _ => by (try dsimp only); rw [joinF_hi]⟩, span_joinR.2 ⟨fun j hj => by (try dsimp only); rw [joinF_lo hj], hb.congr fun j _ => by (try dsimp only); rw [joinF_hi]⟩, fun j hj => ?_⟩
    rw [join_self (n := n) (m := m) u j hj]
    by_cases e : j < n
    · rw [joinF_lo e, joinF_lo e, joinF_lo e, add_zero]
    · rw [joinF_ge e, joinF_ge e, joinF_ge e, zero_add]
end pl
section wt
variable {F : Type} [CField F] [DecidableEq F]
end wt
end Cw

namespace Go.Proofs.Ytkmhopefnfaecaa
open Go.RowKit Cw

section rank
variable {F : Type} [CField F]
theorem RR.congr {m r : Nat} {p : Nat → Nat} {A B : Nat → Nat → F} (h : RR m r p A) (e : ∀ i, i < r → ∀ j, j < m → A i j = B i j) : RR m r p B where
  lt := h.lt
  mono := h.mono
  one := fun i hi => by rw [← e i hi _ (h.lt i hi)]; exact h.one i hi
  zero := fun i j hi hj hne => by rw [← e i hi _ (h.lt j hj)]; exact h.zero i j hi hj hne
  low := fun i hi j hj => by rw [← e i hi j (Nat.lt_trans hj (h.lt i hi))]; exact h.low i hi j hj
theorem RR.indep {m r : Nat} {p : Nat → Nat} {A : Nat → Nat → F} (h : RR m r p A) : Indep r m A := fun c hc i hi => by
  have := h.coef (v := fun _ => 0) (c := c) (fun j hj => (hc j hj).symm) hi
  exact this.symm
theorem iv_indep {K n s : Nat} {M : Nat → Nat → F} (h : Indep K n M) : Indep (K * s) (n * s) (ivP s M) := fun c hc t ht => by
  have hs : 0 < s := by rcases Nat.eq_zero_or_pos s with h | h; · rw [h, Nat.mul_zero] at ht; omega
                        · exact h
  have h1 : t / s < K := Nat.div_lt_of_lt_mul (by rw [Nat.mul_comm]; exact ht)
  have h2 : t % s < s := Nat.mod_lt _ hs
  have h3 := h (fun i => c (s * i + t % s)) (fun j hj => by
    have h4 := hc (s * j + t % s) (idx_lt hj h2)
    rw [Nat.mul_comm K s, rsum_mulk s K] at h4
    rw [← h4]
    refine (rsum_congr fun i hi => ?_).symm
    rw [rsum_single (k := t % s) h2 fun x hx hne => by
      unfold ivP iv
      rw [(divmod_mul hx).2, (divmod_mul h2).2, if_neg (Ne.symm hne), mul_zero]]
    unfold ivP iv
    rw [(divmod_mul h2).1, (divmod_mul h2).2, (divmod_mul h2).2, (divmod_mul h2).1, if_pos rfl]) (t / s) h1
  (try dsimp only at h3)
  rw [Nat.div_add_mod] at h3
  exact h3
theorem sum_indep {K1 K2 n m : Nat} {A B : Nat → Nat → F} (hA : Indep K1 n A) (hB : Indep K2 m B) : Indep (K1 + K2) (n + m) (sumR K1 n A B) := fun c hc t ht => by
  have h1 := hA (fun i => c i) (fun j hj => by
    have h := hc j (by omega)
    rw [rsum_split] at h
    rw [← h, rsum_eq_zero (f := fun i => c (K1 + i) * sumR K1 n A B (K1 + i) j) fun i _ => by unfold sumR; rw [stackR_hi, joinF_lo hj, mul_zero], add_zero]
    exact rsum_congr fun i hi => by unfold sumR; rw [stackR_lo _ _ hi, joinF_lo hj])
  have h2 := hB (fun i => c (K1 + i)) (fun j hj => by
    have h := hc (n + j) (by omega)
    rw [rsum_split] at h
    rw [← h, rsum_eq_zero (f := fun i => c i * sumR K1 n A B i (n + j)) fun i hi => by unfold sumR; rw [stackR_lo _ _ hi, joinF_hi, mul_zero], zero_add]
    exact rsum_congr fun i hi => by unfold sumR; rw [stackR_hi, joinF_hi])
  by_cases e : t < K1
  · exact h1 t e
  · have := h2 (t - K1) (by omega)
    (try dsimp only at this)
    rwa [Nat.add_sub_cancel' (by omega)] at this
theorem plo_indep {K1 K2 n : Nat} {A B : Nat → Nat → F} (hA : Indep K1 n A) (hB : Indep K2 n B) : Indep (K1 + K2) (n + n) (ploR K1 n A B) := fun c hc t ht => by
  have h0 : ∀ j, j < n → rsum K1 (fun i => c i * A i j) = 0 := fun j hj => by
    have h := hc j (by omega)
    rw [rsum_split] at h
    rw [← h, rsum_eq_zero (f := fun i => c (K1 + i) * ploR K1 n A B (K1 + i) j) fun i _ => by unfold ploR; rw [stackR_hi, joinF_lo hj, mul_zero], add_zero]
    exact rsum_congr fun i hi => by unfold ploR; rw [stackR_lo _ _ hi, joinF_lo hj]
  have h1 := hA (fun i => c i) h0
  have h2 := hB (fun i => c (K1 + i)) (fun j hj => by
    have h := hc (n + j) (by omega)
    rw [rsum_split] at h
    rw [← h, rsum_eq_zero (f := fun i => c i * ploR K1 n A B i (n + j)) fun i hi => by have := h1 i hi; (try dsimp only at this); rw [this, zero_mul], zero_add]
    exact rsum_congr fun i hi => by unfold ploR; rw [stackR_hi, joinF_hi])
  by_cases e : t < K1
  · exact h1 t e
  · have := h2 (t - K1) (by omega)
    (try dsimp only at this)
    rwa [Nat.add_sub_cancel' (by omega)] at this
end rank

/-- A canonical code's rows are reduced. -/
theorem canl_RR {F : FD} {n m : Nat} {M : Nat → Nat → R F.toDesc} (h : Canl F n m M) : ∃ p, RR m n p M := by
  have h1 := elS_RR n m M
  have hk : (elS n M m).2.length = n := h.1
  rw [hk] at h1
  exact ⟨_, RR.congr h1 fun i hi j hj => rowL_inj (D := F.toDesc) (h.2 i hi) hj⟩
section words
variable {F : FD} {n m : Nat} {M : Nat → Nat → R F.toDesc}
/-- The word of a message is a word. -/
theorem ofF_span (msg : List Int) : Span n m M (ofF n M msg) := ⟨_, fun _ _ => rfl⟩
end words
end Go.Proofs.Ytkmhopefnfaecaa

namespace Go.Proofs.Ytkmhopefnfaecaa
open Go.RowKit Cw

/-- A result is a code without an error. -/
theorem vc_res (F : FD) (hgood : Good F.p F.m (modL F.toDesc)) (n m : Nat) (M : Nat → Nat → R F.toDesc) (h1 : 1 ≤ m) (h2 : m ≤ 64) : VC F.p F.m m (modL F.toDesc) (rkS F n m M) (rowsL F.toDesc m (elS n M m).1) F m (elS n M m).1 :=
  ⟨rfl, rfl, rfl, hgood, rfl, h1, h2, fun _ _ => rfl, canl_elS F n m M⟩
theorem rk_full {F : FD} {n m : Nat} {M : Nat → Nat → R F.toDesc} (h : Indep n m M) : rkS F n m M = n := elS_rank h
end Go.Proofs.Ytkmhopefnfaecaa

namespace Go.Proofs.Ytkmhopefnfaecaa
open Go.RowKit Cw

theorem vc_err {P M N : Int} {ml : List Int} {n : Nat} {rows : Nat → List Int} {F : FD} {m : Nat} {A : Nat → Nat → R F.toDesc} (va : VC P M N ml n rows F m A) : cErr P M N ml n rows = 0 := by
  have h1 := va.m1; have h2 := va.m64; have h5 := va.le; have eN := va.hN
  have hs0 : ShpOk N n rows := ⟨by omega, by omega, by omega, fun i hi => by rw [va.hr i hi, rowsL_length, eN]⟩
  exact cErr_ok (D := F.toDesc) (by rw [va.hP, va.hM, va.hl]; exact va.good) va.hP va.hM va.hl (by omega) hs0 (fun i hi => by rw [va.hr i hi]; exact elB_rowL _ _ _) ⟨F, m, A, va.hP, va.hM, va.hl, va.hN, va.hr, va.can⟩
section res
variable {F : FD} {n m : Nat} {M : Nat → Nat → R F.toDesc}
theorem fd_len (F : FD) : (modL F.toDesc).length ≤ maxLen := by have := F.hlen; have := F.m8; rw [modL_length, F.hlen]; unfold maxLen; split <;> omega
theorem fd_i64 (F : FD) : I64 F.p ∧ I64 F.m := by
  have h1 := F.m8
  have h2 : F.p ≤ 256 := Nat.le_trans (Nat.le_self_pow (by have := F.m1; omega) _) F.q256
  constructor <;> constructor <;> omega
end res
end Go.Proofs.Ytkmhopefnfaecaa

namespace Go.Proofs.Ytkmhopefnfaecaa
open Go.RowKit Cw

end Go.Proofs.Ytkmhopefnfaecaa

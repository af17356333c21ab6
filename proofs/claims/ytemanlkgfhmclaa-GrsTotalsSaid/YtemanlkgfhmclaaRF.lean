/- The reference's arithmetic of digits: prime, digits, Value, Order. The reference's field arithmetic over a valid description: Is, In, Digits, Add, Neg, Sub, Mul. The reference's field arithmetic over a valid description: Neg, Sub, Mul. The box of a field's description. The reference's inverse. The reference: equal fields. -/
import Derived.Test.YtemanlkgfhmclaaP2
import Derived.Test.YtemanlkgfhmclaaP1
import Derived.Deep.RegionHeld3
import Derived.StillTailTactics
/-! The reference's arithmetic of digits: prime, digits, Value, Order -/
namespace Go.Proofs.Ytemanlkgfhmclaa
open Go.RowKit Cw

/-- Digit i of x in base p. -/
def dgi (p x i : Nat) : Int := ((x / p ^ i % p : Nat) : Int)
theorem dgi_step (p x i : Nat) : ((x / p ^ i : Nat) : Int) % (p : Int) = dgi p x i := rfl
theorem div_step (p x i : Nat) : ((x / p ^ i : Nat) : Int) / (p : Int) = ((x / p ^ (i+1) : Nat) : Int) := by
  rw [Nat.pow_succ, ← Nat.div_div_eq_div_mul]; rfl

set_option maxHeartbeats 400000 in
theorem digits_any (x p n : Nat) (w : World) (hp : 1 ≤ p) (hp2 : p ≤ 256) (hn : n ≤ 8) (hx : x ≤ 65536) :
    Calls Try.prog 67 #[.int .i64 x, .int .i64 p, .int .i64 n] w (Gives w.heap.size (lst n (dgi p x)) w) := by
  have hmk := mk_ints n (by omega)
  go_enter Try.func67, Try.ntmps67
  go_wp2
  go_loopw [0, 8] (fun y i wr => ∃ k z : Nat, k ≤ n ∧ z ≤ 65536 ∧ i = .int .i64 k ∧ y = .int .i64 z ∧ Hid (z = x / p ^ k) ∧ IB wr w.heap.size (upd n k (dgi p x)) ∧ Below w.heap.size w wr) (fun _ i _ => n - (intOf i).toNat)
  case atStart => exact ⟨0, x, by omega, hx, rfl, rfl, by simp [Hid], by rw [upd_zero]; exact IB.newz _ _, (Below.refl _ _).alloc (Nat.le_refl _) _⟩
  case round =>
    obtain ⟨k, z, hk, hz, rfl, rfl, hzk, hib, hbw⟩ := hrel
    by_cases hlt : k < n
    · have hc := hib.cell (i := k) (by rw [upd_length]; exact hlt)
      have hf := hib.frozen k
      have hset := Lib.hid (hib.set_ k (dgi p x k))
      clear hib
      have hz1 : (0 : Int) ≤ (z : Int) / (p : Int) := Int.ediv_nonneg (by omega) (by omega)
      have hz2 : (z : Int) / (p : Int) ≤ 65536 := Int.le_trans (Int.ediv_le_self _ (by omega)) (by omega)
      go_wp2
      go_roundw
      case rel =>
        refine ⟨k+1, z / p, by omega, Nat.le_trans (Nat.div_le_self _ _) hz, by go_num, by go_num, ?_, ?_, hbw.setCell (Nat.le_refl _) _⟩
        · show z / p = x / p ^ (k+1)
          rw [hzk.out, Nat.pow_succ, Nat.div_div_eq_div_mul]
        · have h := hset.out
          rw [upd_set] at h
          have e : dgi p x k = (z : Int) % (p : Int) := by rw [hzk.out]; rfl
          rw [e] at h; exact h
      case measure => simp [intOf]; omega
    · go_wp2
      go_ret
      obtain rfl : k = n := by omega
      rw [upd_full] at hib
      exact ⟨w.heap.size, by simp [lst_length], Nat.le_refl _, hib, hbw⟩

/-- The value of the top j of m digits. -/
def hval (p : Nat) (f : Nat → Nat) (m : Nat) : Nat → Nat
  | 0 => 0
  | j+1 => hval p f m j * p + f (m - 1 - j)
theorem hval_nval (p : Nat) (f : Nat → Nat) (m : Nat) : ∀ j, j ≤ m → nval p f m = nval p f (m - j) + hval p f m j * p ^ (m - j)
  | 0, _ => by simp [hval]
  | j+1, h => by
    rw [hval_nval p f m j (by omega)]
    obtain ⟨k, hk⟩ : ∃ k, m - j = k + 1 := ⟨m - j - 1, by omega⟩
    have h1 : m - (j + 1) = k := by omega
    have h2 : m - 1 - j = k := by omega
    rw [hk, h1]
    show nval p f k + f k * p ^ k + hval p f m j * p ^ (k+1) = nval p f k + (hval p f m j * p + f (m - 1 - j)) * p ^ k
    rw [h2, Nat.add_mul, Nat.pow_succ]
    have : hval p f m j * (p ^ k * p) = hval p f m j * p * p ^ k := by ac_rfl
    omega
theorem hval_full (p : Nat) (f : Nat → Nat) (m : Nat) : hval p f m m = nval p f m := by
  have h := hval_nval p f m m (Nat.le_refl _)
  rw [Nat.sub_self, Nat.pow_zero, Nat.mul_one] at h
  rw [h]; exact (Nat.zero_add _).symm
theorem hval_lt {p : Nat} {f : Nat → Nat} {m : Nat} (h : ∀ i, i < m → f i < p) : ∀ j, j ≤ m → hval p f m j < p ^ j
  | 0, _ => Nat.one_pos
  | j+1, hj => by
    have h1 := hval_lt h j (by omega)
    have h2 := Nat.mul_le_mul_right p (Nat.succ_le_of_lt h1)
    rw [Nat.succ_mul] at h2
    have h3 := h (m - 1 - j) (by omega)
    show hval p f m j * p + f (m - 1 - j) < p ^ (j+1)
    rw [Nat.pow_succ]; omega
theorem hval_le {p : Nat} {f : Nat → Nat} {m : Nat} (h : ∀ i, i < m → f i < p) (hq : p ^ m ≤ 256) {j : Nat} (hj : j ≤ m) : hval p f m j ≤ 256 := by
  rcases Nat.eq_zero_or_pos p with h0 | h0
  · rcases Nat.eq_zero_or_pos j with hj0 | hj0
    · subst hj0; simp [hval]
    · have := h 0 (by omega); omega
  · exact Nat.le_trans (Nat.le_of_lt (hval_lt h j hj)) (Nat.le_trans (Nat.pow_le_pow_right h0 hj) hq)

set_option maxHeartbeats 400000 in
theorem Value_any (p m : Nat) (f : Nat → Nat) (M : Int) (A' A : Option Addr) (n' c' c : Nat) (w : World) (hp : 1 ≤ p) (hp2 : p ≤ 256) (hm : m ≤ 8) (hf : ∀ i, i < m → f i < p) (hq : p ^ m ≤ 256)
    (hr : Rd w w.heap.size A (lst m fun i => (f i : Int))) :
    Calls Try.prog 55 #[.agg #[.int .i64 p, .int .i64 M, .slice A' n' c'], .slice A m c] w fun e w' => e = .returned (.int .i64 (nval p f m : Nat)) ∧ Below w.heap.size w w' := by
  go_enter Try.func55, Try.ntmps55
  go_wp2
  go_loopw [5, 6] (fun x i wr => ∃ t j y : Nat, t ≤ m ∧ y ≤ 256 ∧ i = .int .i64 ((t : Int) - 1) ∧ x = .int .i64 y ∧ Hid (t + j = m) ∧ Hid (y = hval p f m j) ∧ wr.cell? ⟨w.heap.size, 0, none⟩ = some (.int .i64 p) ∧ Below w.heap.size w wr) (fun _ i _ => (intOf i + 1).toNat)
  case atStart => exact ⟨m, 0, 0, by omega, by omega, by simp, rfl, by simp [Hid], rfl, by simp [go_sem], (Below.refl _ _).alloc (Nat.le_refl _) _⟩
  case round =>
    obtain ⟨t, j, y, ht, hy, rfl, rfl, htj, hyk, hc, hbw⟩ := hrel
    cases t with
    | zero =>
      go_wp2
      go_ret
      obtain rfl : j = m := by have := htj.out; omega
      exact ⟨ret_int (by rw [hyk.out, hval_full]), hbw⟩
    | succ t =>
      rw [show ((t + 1 : Nat) : Int) - 1 = (t : Int) by omega]
      obtain ⟨b, off, rfl, hb, hcell⟩ := hr.at_ (k := t) (by rw [lst_length]; omega)
      rw [lst_get _ (by omega)] at hcell
      have hcell2 := (hbw.cell (p := ⟨b, off + t, none⟩) hb).trans hcell
      have hft := hf t (by omega)
      have hyp : (0 : Int) ≤ (y : Int) * (p : Int) ∧ (y : Int) * (p : Int) ≤ 65536 := by
        have h1 := Nat.mul_le_mul hy hp2
        have h2 : ((y * p : Nat) : Int) = (y : Int) * (p : Int) := by simp
        omega
      obtain ⟨hyp1, hyp2⟩ := hyp
      clear hcell hr
      go_wp2
      go_quiet (fail)
      go_wp2
      go_roundw
      case rel =>
        have hj1 : t + j + 1 = m := by have := htj.out; omega
        have hy1 : y * p + f t = hval p f m (j+1) := by
          show y * p + f t = hval p f m j * p + f (m - 1 - j)
          rw [hyk.out, show m - 1 - j = t by omega]
        exact ⟨t, j+1, y * p + f t, by omega, by rw [hy1]; exact hval_le hf hq (by omega), by go_num, by go_num, by unfold Hid; omega, hy1, hc, below_drewN' hbw _⟩
      case measure => simp [intOf]

/-- prime: no divisor d with 2 ≤ d < 2 + k. -/
def noDiv (n : Nat) : Nat → Bool
  | 0 => true
  | k+1 => noDiv n k && (n % (k+2) != 0)
theorem noDiv_succ (n k : Nat) : noDiv n (k+1) = (noDiv n k && (n % (k+2) != 0)) := rfl
theorem noDiv_mono (n k j : Nat) (h : noDiv n (k+j) = true) : noDiv n k = true := by
  induction j with
  | zero => exact h
  | succ j ih => rw [← Nat.add_assoc, noDiv_succ] at h; exact ih (by simp at h; exact h.1)
theorem noDiv_iff (n k : Nat) : noDiv n k = true ↔ ∀ d, 2 ≤ d → d < k + 2 → n % d ≠ 0 := by
  induction k with
  | zero => exact ⟨fun _ d h1 h2 => by omega, fun _ => rfl⟩
  | succ k ih =>
    rw [noDiv_succ, Bool.and_eq_true, ih]
    constructor
    · rintro ⟨h1, h2⟩ d hd1 hd2
      by_cases e : d = k + 2
      · subst e; simpa using h2
      · exact h1 d hd1 (by omega)
    · intro h
      exact ⟨fun d hd1 hd2 => h d hd1 (by omega), by simpa using h (k+2) (by omega) (by omega)⟩
theorem mod_cast' (n d : Nat) : (n : Int) % (d : Int) = ((n % d : Nat) : Int) := rfl
set_option maxHeartbeats 400000 in
theorem prime_any (n : Nat) (w : World) (h2 : 2 ≤ n) (hn : n ≤ 256) :
    Calls Try.prog 52 #[.int .i64 n] w fun e w' => e = .returned (.bool (noDiv n (n-2))) ∧ w = w' := by
  go_enter Try.func52, Try.ntmps52
  go_wp2
  go_loop [3] (fun d => ∃ k : Nat, k + 2 ≤ n ∧ d = .int .i64 (k+2 : Nat) ∧ Hid (noDiv n k = true)) (fun d => n - (intOf d).toNat)
  case atStart => exact ⟨0, by omega, rfl, rfl⟩
  case round =>
    obtain ⟨k, hk, rfl, hp⟩ := hrel
    have hs := Lib.hid (noDiv_succ n k)
    by_cases hlt : k + 2 < n
    · by_cases hd : n % (k+2) = 0
      · have hb : (((n : Int) % ((k : Int) + 2)) == 0) = true := by
          rw [beq_iff_eq]; exact (mod_cast' n (k+2)).trans (by rw [hd]; rfl)
        go_wp2
        go_ret
        refine ⟨ret_bool ?_, rfl⟩
        have h3 : noDiv n (k+1) = false := by rw [hs.out]; simp [hd]
        cases h5 : noDiv n (n-2) with
        | false => rfl
        | true =>
          rw [noDiv_mono n (k+1) (n-2-(k+1)) (by rw [show k+1+(n-2-(k+1)) = n-2 by omega]; exact h5)] at h3
          cases h3
      · have hb : (((n : Int) % ((k : Int) + 2)) == 0) = false := by
          rw [beq_eq_false_iff_ne]; intro e
          have := (mod_cast' n (k+2)).symm.trans e
          omega
        go_wp2
        go_round
        case rel =>
          refine ⟨k+1, by omega, by go_num, ?_⟩
          show noDiv n (k+1) = true
          rw [hs.out, hp.out]; simpa using hd
        case measure => simp [intOf]; omega
    · go_wp2
      go_ret
      have : n - 2 = k := by omega
      exact ⟨ret_bool (by rw [this, hp.out]), rfl⟩

/-! ### Order -/
/-- P^M if that is at most 256, else 0. -/
def ordN (p : Nat) : Nat → Nat
  | 0 => 1
  | k+1 => if ordN p k > 256 / p then 0 else ordN p k * p
def qOf (P M : Int) : Nat := if P < 2 ∨ M < 1 ∨ 8 < M ∨ 256 < P.toNat ^ M.toNat then 0 else P.toNat ^ M.toNat

set_option maxHeartbeats 400000 in
theorem Order_any (P M : Int) (A : Option Addr) (n c : Nat) (w : World) (hP : P ≤ 9223372036854775807) (hM : M ≤ 9223372036854775807) :
    Calls Try.prog 8 #[.agg #[.int .i64 P, .int .i64 M, .slice A n c]] w fun e w' => e = .returned (.int .i64 (qOf P M : Nat)) ∧ Below w.heap.size w w' := by
  by_cases hbad : P < 2 ∨ M < 1 ∨ 8 < M
  · have hq : qOf P M = 0 := by
      unfold qOf
      rw [if_pos (by omega)]
    rw [hq]
    clear hq
    go_enter Try.func8, Try.ntmps8
    go_wp2
    all_goals (go_ret; exact ⟨rfl, (Below.refl _ _).alloc (Nat.le_refl _) _⟩)
  · obtain ⟨h1, h2, h3⟩ : 2 ≤ P ∧ 1 ≤ M ∧ M ≤ 8 := by omega
    obtain ⟨p, rfl⟩ := Int.eq_ofNat_of_zero_le (show 0 ≤ P by omega)
    obtain ⟨m, rfl⟩ := Int.eq_ofNat_of_zero_le (show 0 ≤ M by omega)
    replace h1 : 2 ≤ p := by omega
    replace h2 : 1 ≤ m := by omega
    replace h3 : m ≤ 8 := by omega
    replace hP : p ≤ 9223372036854775807 := by omega
    clear hbad hM
    go_enter Try.func8, Try.ntmps8
    go_wp2
    go_loop [3, 4] (fun q i => ∃ k z : Nat, k ≤ m ∧ z ≤ 256 ∧ i = .int .i64 k ∧ q = .int .i64 z ∧ Hid (z = p ^ k)) (fun _ i => m - (intOf i).toNat)
    case atStart => exact ⟨0, 1, by omega, by omega, rfl, rfl, by simp [Hid]⟩
    case round =>
      obtain ⟨k, z, hk, hz, rfl, rfl, hzk⟩ := hrel
      have h256 : (256 : Int) / (p : Int) = ((256 / p : Nat) : Int) := rfl
      have hq1 : (0 : Int) ≤ 256 / (p : Int) := Int.ediv_nonneg (by decide) (by omega)
      have hq2 : (256 : Int) / (p : Int) ≤ 256 := Int.ediv_le_self _ (by omega)
      by_cases hlt : k < m
      · by_cases hd : 256 / p < z
        · have hb : (256 : Int) / (p : Int) < (z : Int) := by omega
          have hlt2 : 256 < p ^ (k+1) := by
            have h4 := (Nat.div_lt_iff_lt_mul (by omega : 0 < p)).1 hd
            rw [hzk.out] at h4; rw [Nat.pow_succ]; exact h4
          have hq : Hid (qOf p m = 0) := by
            unfold Hid qOf
            rw [if_pos]
            simp only [Int.toNat_natCast]
            have := Nat.pow_le_pow_right (n := p) (by omega) (show k + 1 ≤ m by omega)
            omega
          clear h256 hlt2
          go_wp2
          go_ret
          exact ⟨ret_int (by rw [hq.out]; rfl), (Below.refl _ _).alloc (Nat.le_refl _) _⟩
        · have hb : (z : Int) ≤ (256 : Int) / (p : Int) := by omega
          have hle : z * p ≤ 256 := Nat.le_trans (Nat.mul_le_mul_right p (Nat.le_of_not_lt hd)) (Nat.div_mul_le_self _ _)
          have hle' : ((z * p : Nat) : Int) = (z : Int) * (p : Int) := by simp
          have hm1 : (0 : Int) ≤ (z : Int) * (p : Int) := by omega
          have hm2 : (z : Int) * (p : Int) ≤ 256 := by omega
          clear h256 hle'
          go_wp2
          go_round
          case rel =>
            refine ⟨k+1, z * p, by omega, hle, by go_num, by go_num, ?_⟩
            show z * p = p ^ (k+1)
            rw [hzk.out, Nat.pow_succ]
          case measure => simp [intOf]; omega
      · obtain rfl : k = m := by omega
        have hq : Hid (qOf p k = z) := by
          unfold Hid qOf
          rw [if_neg, Int.toNat_natCast, Int.toNat_natCast, ← hzk.out]
          simp only [Int.toNat_natCast]
          rw [← hzk.out]; omega
        clear h256
        go_wp2
        go_ret
        exact ⟨ret_int (by rw [hq.out]), (Below.refl _ _).alloc (Nat.le_refl _) _⟩
end Go.Proofs.Ytemanlkgfhmclaa

/-! The reference's field arithmetic over a valid description: Is, In, Digits, Add, Neg, Sub, Mul -/
namespace Go.Proofs.Ytemanlkgfhmclaa
open Go.RowKit Cw

theorem qOf_D (D : Desc) : qOf D.p D.m = D.q := by
  have h1 := D.p2; have h2 := D.m1; have h3 := D.m8; have h4 := D.hq
  unfold qOf
  simp only [Int.toNat_natCast]
  rw [if_neg (by omega)]; rfl
def modL (D : Desc) : List Int := D.mod.map fun c : Nat => (c : Int)

set_option maxHeartbeats 400000 in
theorem Is_any (D : Desc) (x : Int) (A : Option Addr) (n c : Nat) (w : World) :
    Calls Try.prog 29 #[.agg #[.int .i64 D.p, .int .i64 D.m, .slice A n c], .int .i64 x] w fun e w' => e = .returned (.bool (decide (0 ≤ x ∧ x < D.q))) ∧ Below w.heap.size w w' := by
  have hp1 := D.p256; have hp2 := D.m8
  have hO := fun w => Lib.hid (Order_any D.p D.m A n c w (by omega) (by omega))
  have hq := Lib.hid (qOf_D D)
  have hq2 := D.q256
  by_cases h0 : 0 ≤ x
  · by_cases h1 : x < D.q
    · have hb : decide (x < (D.q : Int)) = true := by simpa using h1
      go_enter Try.func29, Try.ntmps29
      go_wp2_with (go_at_call 8; refine (hO _).out.mono ?_; rw [hq.out]; rintro e w1 ⟨rfl, hb1⟩)
      go_ret
      exact ⟨ret_bool (by simp [h0, h1]), ((Below.refl _ _).alloc (Nat.le_refl _) _).trans (hb1.mono (by simp))⟩
    · have hb : decide (x < (D.q : Int)) = false := by simpa using h1
      go_enter Try.func29, Try.ntmps29
      go_wp2_with (go_at_call 8; refine (hO _).out.mono ?_; rw [hq.out]; rintro e w1 ⟨rfl, hb1⟩)
      go_ret
      exact ⟨ret_bool (by simp [h1]), ((Below.refl _ _).alloc (Nat.le_refl _) _).trans (hb1.mono (by simp))⟩
  · go_enter Try.func29, Try.ntmps29
    go_wp2_with (fail)
    go_ret
    exact ⟨ret_bool (by simp; omega), (Below.refl _ _).alloc (Nat.le_refl _) _⟩

set_option maxHeartbeats 400000 in
theorem In_any (D : Desc) (x : Int) (A : Option Addr) (n c : Nat) (w : World) :
    Calls Try.prog 68 #[.agg #[.int .i64 D.p, .int .i64 D.m, .slice A n c], .int .i64 x] w fun e w' => e = .returned (.int .i64 (ci (eli D x))) ∧ Below w.heap.size w w' := by
  have hI := fun w => Lib.hid (Is_any D x A n c w)
  have he := Lib.hid (ci_eli (D := D) x)
  by_cases h : 0 ≤ x ∧ x < D.q
  · have hd := Lib.hid (decide_eq_true h)
    go_enter Try.func68, Try.ntmps68
    go_wp2_with (go_at_call 29; refine (hI _).out.mono ?_; rw [hd.out]; rintro e w1 ⟨rfl, hb1⟩)
    go_ret
    exact ⟨ret_int (by rw [he.out, if_pos h]), ((Below.refl _ _).alloc (Nat.le_refl _) _).trans (hb1.mono (by simp))⟩
  · have hd := Lib.hid (decide_eq_false h)
    go_enter Try.func68, Try.ntmps68
    go_wp2_with (go_at_call 29; refine (hI _).out.mono ?_; rw [hd.out]; rintro e w1 ⟨rfl, hb1⟩)
    go_ret
    exact ⟨ret_int (by rw [he.out, if_neg h]), ((Below.refl _ _).alloc (Nat.le_refl _) _).trans (hb1.mono (by simp))⟩

theorem dgi_ci (D : Desc) (x : Int) (i : Nat) (h : i < D.m) : dgi D.p (ci (eli D x)).toNat i = (di (eli D x) i : Nat) := by
  unfold dgi; rw [ci_toNat, di_rcode _ h]
def dl {D : Desc} (u : R D) : List Int := lst D.m fun i => (di u i : Nat)

set_option maxHeartbeats 800000 in
theorem Digits_any (D : Desc) (x : Int) (A : Option Addr) (n c : Nat) (w : World) :
    Calls Try.prog 54 #[.agg #[.int .i64 D.p, .int .i64 D.m, .slice A n c], .int .i64 x] w (Gives w.heap.size (dl (eli D x)) w) := by
  have hp0 := D.p2; have hp1 := D.p256; have hp2 := D.m8
  have hI := fun w => Lib.hid (In_any D x A n c w)
  have hn := ci_nonneg (eli D x); have hl := ci_le (eli D x)
  obtain ⟨y, hy⟩ := Int.eq_ofNat_of_zero_le hn
  have hd := fun w => Lib.hid (digits_any y D.p D.m w (by omega) (by omega) (by omega) (by omega))
  have he : Hid (lst D.m (dgi D.p y) = dl (eli D x)) := lst_congr fun i hi => by rw [← dgi_ci D x i hi, hy]; rfl
  have hy' := Lib.hid hy
  clear hy
  have k0 := Lib.hid (alloc3 w (.int .i64 D.p) (.int .i64 D.m) (.slice A n c) 24)
  go_enter Try.func54, Try.ntmps54
  go_wp2
  go_region_held3 (fun w' => w'.cell? ⟨w.heap.size, 0, none⟩ = some (.int .i64 D.p) ∧ w'.cell? ⟨w.heap.size, 1, none⟩ = some (.int .i64 D.m) ∧ w'.cell? ⟨w.heap.size, 2, none⟩ = some (.slice A n c)) (first | exact k0.out | exact k2.out | exact k1.out)
    (first
      | (go_at_call 68; refine (hI _).out.mono ?_; rw [hy'.out]; rintro e w1 ⟨rfl, hb1⟩; have k1 := Lib.hid (keep3 (b := w.heap.size) hb1 (by simp) k0.out); have hs1 := hb1.size; simp only [World.drew, World.size_alloc] at hs1)
      | (go_at_call 67; refine (hd _).out.mono ?_; rw [he.out]; rintro e w2 ⟨g, rfl, hg, hib, hb2⟩; have k2 := Lib.hid (keep3 (b := w.heap.size) hb2 (by omega) k1.out)))
  go_wp2
  go_ret
  exact ⟨g, by simp [dl, lst_length], by omega, hib, ((((Below.refl _ _).alloc (Nat.le_refl _) _).drew).trans (hb1.mono (by simp))).trans (hb2.mono (by omega))⟩

set_option maxHeartbeats 1000000 in
theorem Add_any (D : Desc) (x y : Int) (A : Option Addr) (n c : Nat) (w : World) :
    Calls Try.prog 56 #[.agg #[.int .i64 D.p, .int .i64 D.m, .slice A n c], .int .i64 x, .int .i64 y] w fun e w' =>
      e = .returned (.int .i64 (ci (eli D x + eli D y))) ∧ Below w.heap.size w w' := by
  have hp0 := D.p2; have hp1 := D.p256; have hp2 := D.m8
  have hD := fun z w => Lib.hid (Digits_any D z A n c w)
  generalize hu : eli D x = u
  generalize hv : eli D y = v
  have hDx := fun w => Lib.hid (hu ▸ (hD x w).out)
  have hDy := fun w => Lib.hid (hv ▸ (hD y w).out)
  clear hD hu hv
  have k0 := Lib.hid (alloc3 w (.int .i64 D.p) (.int .i64 D.m) (.slice A n c) 24)
  go_enter Try.func56, Try.ntmps56
  go_wp2_with (fail)
  refine (hDx _).out.mono ?_
  rintro e w1 ⟨g1, rfl, hg1, hib1, hb1⟩
  have k1 := Lib.hid (keep3 (b := w.heap.size) hb1 (by simp) k0.out)
  have hs1 := hb1.size
  simp only [World.size_alloc] at hs1 hg1
  have hl1 : (dl u).length = D.m := lst_length _ _
  simp only [hl1]
  obtain ⟨kc0, kc1, kc2⟩ := k1.out
  go_wp2_with (fail)
  refine (hDy _).out.mono ?_
  rintro e w2 ⟨g2, rfl, hg2, hib2, hb2⟩
  have k2 := Lib.hid (keep3 (b := w.heap.size) hb2 (by omega) k1.out)
  have hs2 := hb2.size
  have hl2 : (dl v).length = D.m := lst_length _ _
  simp only [hl2]
  have hg1l := hib1.lt
  have hib1' := hib1.below hb2 (by omega)
  have hbw2 : Below w.heap.size w w2 := (((Below.refl _ _).alloc (Nat.le_refl _) _).trans (hb1.mono (by simp))).trans (hb2.mono (by omega))
  clear kc0 kc1 kc2 hib1 hb1 hb2 k1 k0 hDx
  obtain ⟨kc0, kc1, kc2⟩ := k2.out
  go_wp2_with (fail)
  have hD2 := hDy
  clear kc0 kc1 kc2
  have hb0 : w.heap.size < g1 := by omega
  have hne : g1 < g2 := by omega
  go_loopw [9] (fun i wr => ∃ k : Nat, k ≤ D.m ∧ i = .int .i64 k ∧ IB wr g1 (mix D.m k (fun i => (di (u + v) i : Nat)) (fun i => (di u i : Nat))) ∧ IB wr g2 (dl v) ∧ Below w.heap.size w wr ∧
     Hid (wr.cell? ⟨w.heap.size, 0, none⟩ = some (.int .i64 D.p) ∧ wr.cell? ⟨w.heap.size, 1, none⟩ = some (.int .i64 D.m) ∧ wr.cell? ⟨w.heap.size, 2, none⟩ = some (.slice A n c))) (fun i _ => D.m - (intOf i).toNat)
  case atStart => exact ⟨0, by omega, rfl, by rw [mix_zero]; exact hib1', hib2, hbw2, k2⟩
  case round =>
    obtain ⟨k, hk, rfl, hi1, hi2, hbw, hkc⟩ := hrel
    by_cases hlt : k < D.m
    · have hc1 := hi1.cell (i := k) (by rw [mix_length]; exact hlt)
      rw [mix_get_at _ _ hlt] at hc1
      have hc2 := hi2.cell (i := k) (by rw [hl2]; exact hlt)
      unfold dl at hc2
      rw [lst_get _ hlt] at hc2
      have hf := hi1.frozen k
      have hset := Lib.hid (hi1.set_ k (di (u + v) k : Nat))
      have hd1 := di_lt u k
      have hd2 := di_lt v k
      obtain ⟨kc0, kc1, kc2⟩ := hkc.out
      go_wp2_with (fail)
      go_region
      all_goals go_wp2_with (fail)
      go_roundw
      case rel =>
        have h := hset.out
        rw [show ((di (u + v) k : Nat) : Int) = ((di u k : Int) + (di v k : Int)) % (D.p : Int) by rw [di_add]; simp] at h
        refine ⟨k+1, by omega, by go_num, ?_, ?_, (hbw.setCell (p := ⟨g1, k, none⟩) (Nat.le_of_lt hb0) _).drew, ?_⟩
        · rw [← mix_set]
          rw [show ((di (u + v) k : Nat) : Int) = ((di u k : Int) + (di v k : Int)) % (D.p : Int) by rw [di_add]; simp]
          exact h
        · exact hi2.far (p := ⟨g1, k, none⟩) (Nat.ne_of_gt hne) _
        · exact keep3 (B := w.heap.size + 1) ((Below.refl _ _).setCell (p := ⟨g1, k, none⟩) hb0 _).drew (by omega) hkc.out
      case measure => simp [intOf]; omega
    · obtain rfl : k = D.m := by omega
      rw [mix_full] at hi1
      obtain ⟨kc0, kc1, kc2⟩ := hkc.out
      have hV := Lib.hid (Value_any D.p D.m (di (u + v)) D.m A (some ⟨g1, 0, none⟩) n c D.m wr (by omega) hp1 hp2 (fun i _ => di_lt _ i) D.hq (hi1.rd))
      go_wp2_with (fail)
      refine hV.out.mono ?_
      rintro e w3 ⟨rfl, hb3⟩
      have hsr := hbw.size
      go_wp2_with (fail)
      go_ret
      exact ⟨rfl, hbw.trans (hb3.mono hsr)⟩
end Go.Proofs.Ytemanlkgfhmclaa

/-! The reference's field arithmetic over a valid description: Neg, Sub, Mul -/
namespace Go.Proofs.Ytemanlkgfhmclaa
open Go.RowKit Cw

theorem modL_get (D : Desc) {l : Nat} (h : l < D.mod.length) : (modL D)[l]?.getD 0 = ((D.mod.getD l 0 : Nat) : Int) := by
  simp [modL, h]
theorem modL_length (D : Desc) : (modL D).length = D.mod.length := by simp [modL]
/-- The state of Mul's loops: the digits' blocks, the product's block, the box, nothing old has turned. -/
structure MulSt (D : Desc) (u v : R D) (A : Option Addr) (n c g1 g2 g3 N : Nat) (w : World) (cf : Nat → Nat) (wr : World) : Prop where
  lt : ∀ t, cf t < D.p
  i1 : IB wr g1 (dl u)
  i2 : IB wr g2 (dl v)
  i3 : IB wr g3 (lst N fun t => (cf t : Nat))
  bw : Below w.heap.size w wr
  bx : wr.cell? ⟨w.heap.size, 0, none⟩ = some (.int .i64 D.p) ∧ wr.cell? ⟨w.heap.size, 1, none⟩ = some (.int .i64 D.m) ∧ wr.cell? ⟨w.heap.size, 2, none⟩ = some (.slice A n c)
theorem MulSt.step {D : Desc} {u v : R D} {A : Option Addr} {n c g1 g2 g3 N : Nat} {w wr : World} {cf : Nat → Nat} (h : MulSt D u v A n c g1 g2 g3 N w cf wr)
    (h1 : w.heap.size < g1) (h2 : g1 < g2) (h3 : g2 < g3) (k t : Nat) {z : Int} (hz : z = ((t % D.p : Nat) : Int)) :
    MulSt D u v A n c g1 g2 g3 N w (fup cf k (t % D.p)) (wr.setCell ⟨g3, k, none⟩ (.int .i64 z)).drew where
  lt i := by
    unfold fup
    by_cases e : i = k
    · rw [if_pos e]; exact Nat.mod_lt _ (by have := D.p2; omega)
    · rw [if_neg e]; exact h.lt i
  i1 := (h.i1.far (p := ⟨g3, k, none⟩) (by show g1 ≠ g3; omega) _).drew
  i2 := (h.i2.far (p := ⟨g3, k, none⟩) (by show g2 ≠ g3; omega) _).drew
  i3 := by
    have h4 := (h.i3.set_ k z).drew
    rw [lst_set] at h4
    have e : (fun i => if i = k then z else ((cf i : Nat) : Int)) = fun i => ((fup cf k (t % D.p) i : Nat) : Int) := funext fun i => by
      unfold fup
      by_cases e : i = k
      · rw [if_pos e, if_pos e, hz]
      · rw [if_neg e, if_neg e]
    rw [e] at h4; exact h4
  bw := (h.bw.setCell (p := ⟨g3, k, none⟩) (by show w.heap.size ≤ g3; omega) _).drew
  bx := keep3 (B := w.heap.size + 1) ((Below.refl _ _).setCell (p := ⟨g3, k, none⟩) (by show w.heap.size + 1 ≤ g3; omega) _).drew (by omega) h.bx

set_option maxRecDepth 100000 in
set_option maxHeartbeats 4000000 in
theorem Mul_any (D : Desc) (x y : Int) (A : Option Addr) (c : Nat) (w : World) (hr : Rd w w.heap.size A (modL D)) :
    Calls Try.prog 30 #[.agg #[.int .i64 D.p, .int .i64 D.m, .slice A D.mod.length c], .int .i64 x, .int .i64 y] w fun e w' =>
      e = .returned (.int .i64 (ci (eli D x * eli D y))) ∧ Below w.heap.size w w' := by
  have hp0 := D.p2; have hp1 := D.p256; have hp2 := D.m8; have hm1 := D.m1
  have hDx := fun w => Lib.hid (Digits_any D x A D.mod.length c w)
  have hDy := fun w => Lib.hid (Digits_any D y A D.mod.length c w)
  generalize eli D x = u at *
  generalize eli D y = v at *
  obtain ⟨N, hN⟩ : ∃ N : Nat, N + 1 = 2 * D.m := ⟨2 * D.m - 1, by omega⟩
  have hNe : 2 * (D.m : Int) - 1 = (N : Int) := by omega
  have hmk : ∀ w : World, (Instr.makeSlice 22 (.int .i64 (2 * (D.m : Int) - 1)) (.int .i64 (2 * (D.m : Int) - 1))).run Try.prog w =
      .ok (.slice (some ⟨w.heap.size, 0, none⟩) N N) (w.alloc (.cells (Array.replicate N (Value.int .i64 0)) 3)) := fun w => by
    rw [hNe]; exact mk_ints N (by omega) w
  have hN' := Lib.hid hN
  have hN1 : D.m ≤ N := by omega
  have hN2 : N ≤ 15 := by omega
  clear hN hNe
  have k0 := Lib.hid (alloc3 w (.int .i64 D.p) (.int .i64 D.m) (.slice A D.mod.length c) 24)
  have hl1 : (dl u).length = D.m := lst_length _ _
  have hl2 : (dl v).length = D.m := lst_length _ _
  go_enter Try.func30, Try.ntmps30
  go_wp2_with (fail)
  refine (hDx _).out.mono ?_
  rintro e w1 ⟨g1, rfl, hg1, hib1, hb1⟩
  have k1 := Lib.hid (keep3 (b := w.heap.size) hb1 (by simp) k0.out)
  have hs1 := hb1.size
  simp only [World.size_alloc] at hs1 hg1
  simp only [hl1]
  obtain ⟨kc0, kc1, kc2⟩ := k1.out
  go_wp2_with (fail)
  refine (hDy _).out.mono ?_
  rintro e w2 ⟨g2, rfl, hg2, hib2, hb2⟩
  have k2 := Lib.hid (keep3 (b := w.heap.size) hb2 (by omega) k1.out)
  have hs2 := hb2.size
  simp only [hl2]
  have hg1l := hib1.lt
  have hg2l := hib2.lt
  have hib1' := hib1.below hb2 (by omega)
  have hbw2 : Below w.heap.size w w2 := (((Below.refl _ _).alloc (Nat.le_refl _) _).trans (hb1.mono (by simp))).trans (hb2.mono (by omega))
  clear kc0 kc1 kc2 hib1 hb1 hb2 k1 k0 hDx hDy
  obtain ⟨kc0, kc1, kc2⟩ := k2.out
  have hst : Hid (MulSt D u v A D.mod.length c g1 g2 w2.heap.size N w (fun _ => 0) (w2.alloc (.cells (Array.replicate N (Value.int .i64 0)) 3))) :=
    ⟨fun _ => by omega, hib1'.alloc _, hib2.alloc _, by have := IB.newz w2 N; rw [lst_zero] at this; exact this, hbw2.alloc (by omega) _,
      keep3 (B := w2.heap.size) ((Below.refl _ _).alloc (Nat.le_refl _) _) (by omega) k2.out⟩
  have hb0 : w.heap.size < g1 := by omega
  have hne : g1 < g2 := by omega
  have hne2 : g2 < w2.heap.size := hg2l
  go_wp2_with (fail)
  clear kc0 kc1 kc2 k2 hmk
  generalize w2.heap.size = g3 at *
  go_loopw [10, 11] (fun i _ wr => ∃ (k : Nat) (cf : Nat → Nat), k ≤ D.m ∧ i = .int .i64 k ∧ Hid (MulSt D u v A D.mod.length c g1 g2 g3 N w cf wr) ∧ Hid (ev D cf N = pp u v k 0)) (fun i _ _ => D.m - (intOf i).toNat)
  case atStart => exact ⟨0, fun _ => 0, by omega, rfl, hst, by unfold Hid; rw [ev_zero, pp_zero]⟩
  case round =>
    obtain ⟨k, cf, hk, rfl, hms, hev⟩ := hrel
    obtain ⟨kc0, kc1, kc2⟩ := hms.out.bx
    by_cases hlt : k < D.m
    · go_wp2_with (fail)
      clear kc0 kc1 kc2
      obtain ⟨wo, rfl⟩ : ∃ wo : World, wo = wr := ⟨_, rfl⟩
      go_loopw [11] (fun j wr => ∃ (l : Nat) (cf : Nat → Nat), l ≤ D.m ∧ j = .int .i64 l ∧ Hid (MulSt D u v A D.mod.length c g1 g2 g3 N w cf wr) ∧ Hid (ev D cf N = pp u v k l)) (fun j _ => D.m - (intOf j).toNat)
      case atStart => exact ⟨0, cf, by omega, rfl, hms, hev⟩
      case round =>
        clear hms hev cf
        obtain ⟨l, cf, hl, rfl, hms, hev⟩ := hrel
        obtain ⟨kc0, kc1, kc2⟩ := hms.out.bx
        by_cases hlt2 : l < D.m
        · have hc3 := hms.out.i3.cell (i := k + l) (by rw [lst_length]; have := hN'.out; omega)
          rw [lst_get _ (by have := hN'.out; omega)] at hc3
          have hc1 := hms.out.i1.cell (i := k) (by rw [hl1]; exact hlt)
          have hc2 := hms.out.i2.cell (i := l) (by rw [hl2]; exact hlt2)
          unfold dl at hc1 hc2
          rw [lst_get _ hlt] at hc1
          rw [lst_get _ hlt2] at hc2
          have hf := hms.out.i3.frozen (k + l)
          have hd1 := di_lt u k
          have hd2 := di_lt v l
          have hd3 := hms.out.lt (k + l)
          have hkl : k + l < N := by have := hN'.out; omega
          obtain ⟨hm1a, hm1b⟩ : (0 : Int) ≤ (di u k : Int) * (di v l : Int) ∧ (di u k : Int) * (di v l : Int) ≤ 65536 := by
            have h1 := Nat.mul_le_mul (Nat.le_trans (Nat.le_of_lt hd1) hp1) (Nat.le_trans (Nat.le_of_lt hd2) hp1)
            have h2 : ((di u k * di v l : Nat) : Int) = (di u k : Int) * (di v l : Int) := by simp
            omega
          have hstep := Lib.hid (hms.out.step hb0 hne hne2 (k + l) (cf (k + l) + di u k * di v l) (z := ((cf (k + l) : Int) + (di u k : Int) * (di v l : Int)) % (D.p : Int)) (by simp))
          have hev2 : Hid (ev D (fup cf (k + l) ((cf (k + l) + di u k * di v l) % D.p)) N = pp u v k (l + 1)) := by
            unfold Hid; rw [ev_step _ _ hkl, hev.out, pp_step]
          clear hms hev
          go_wp2_with (fail)
          go_region
          all_goals go_wp2_with (fail)
          go_roundw
          case rel => exact ⟨l + 1, _, by omega, by go_num, hstep, hev2⟩
          case measure => simp [intOf]; omega
        · obtain rfl : l = D.m := by omega
          go_wp2_with (fail)
          go_roundw
          case rel => exact ⟨k + 1, cf, by omega, by go_num, hms, by unfold Hid; rw [hev.out, pp_row]⟩
          case measure => simp [intOf]; omega
    · obtain rfl : k = D.m := by omega
      have hev3 : Hid (ev D cf N = u * v) := by unfold Hid; rw [hev.out, pp_full]
      clear hev
      go_wp2_with (fail)
      clear kc0 kc1 kc2
      go_loopw [12, 13] (fun i _ wr => ∃ (t : Nat) (cf : Nat → Nat), t + 1 ≤ D.m ∧ i = .int .i64 ((t : Int) + (D.m : Int) - 1) ∧ Hid (MulSt D u v A D.mod.length c g1 g2 g3 N w cf wr) ∧ Hid (ev D cf (t + D.m) = u * v)) (fun i _ _ => (intOf i).toNat)
      case atStart => exact ⟨D.m - 1, cf, by omega, by congr 1; omega, hms, by have := hN'.out; rw [show D.m - 1 + D.m = N by omega]; exact hev3⟩
      case round =>
        clear hms hev3 cf
        obtain ⟨t, cf, ht, rfl, hms, hev⟩ := hrel
        obtain ⟨kc0, kc1, kc2⟩ := hms.out.bx
        cases t with
        | zero =>
          rw [Nat.zero_add] at hev
          have hV := Lib.hid (Value_any D.p D.m cf D.m A (some ⟨g3, 0, none⟩) D.mod.length c N wr.drew (by omega) hp1 hp2 (fun i _ => hms.out.lt i) D.hq
            (by have h4 := (hms.out.i3.rd).take D.m; rw [lst_take _ hN1] at h4; exact h4))
          have hsr : w.heap.size < wr.heap.size := Nat.lt_trans (Nat.lt_trans hb0 hne) (Nat.lt_trans hne2 hms.out.i3.lt)
          have hfin : Hid (((nval D.p cf D.m : Nat) : Int) = ci (u * v)) := by unfold Hid ci; rw [nval_ev _ (fun i _ => hms.out.lt i), hev.out]
          have hbw := hms.out.bw
          have hbx := Lib.hid hms.out.bx
          clear hms hev
          go_wp2_with (fail)
          go_region_held3 (fun w' => w'.cell? ⟨w.heap.size, 0, none⟩ = some (.int .i64 D.p) ∧ w'.cell? ⟨w.heap.size, 1, none⟩ = some (.int .i64 D.m) ∧ w'.cell? ⟨w.heap.size, 2, none⟩ = some (.slice A D.mod.length c)) (first | exact hbx.out | exact k2.out)
            (first
              | (go_at_call 55; refine hV.out.mono ?_; rintro e w3 ⟨rfl, hb3⟩; have k2 := Lib.hid (keep3 (b := w.heap.size) hb3 hsr hbx.out)))
          go_wp2_with (fail)
          go_ret
          exact ⟨ret_int hfin.out, hbw.drew.trans (hb3.mono (Nat.le_of_lt hsr))⟩
        | succ r =>
          rw [show ((r + 1 : Nat) : Int) + (D.m : Int) - 1 = (r : Int) + (D.m : Int) by omega]
          have hml : D.mod.length = D.m := by have := D.hlen; rw [if_neg (by omega)] at this; exact this
          obtain ⟨C, hC⟩ : ∃ C, C = cf (r + D.m) := ⟨_, rfl⟩
          have hCp : C < D.p := by rw [hC]; exact hms.out.lt _
          have hev4 : Hid (ev D cf (r + D.m) = u * v - sc (zp D.p C) * pw (Xc D) (r + D.m) + rd1 D C r 0) := by
            have h5 := hev.out
            rw [show r + 1 + D.m = r + D.m + 1 by omega, ev_succ, ← hC] at h5
            show ev D cf (r + D.m) = _
            rw [rd1_zero, add_zero, ← h5, add_sub_cancel]
          have hC' := Lib.hid hC
          clear hC hev
          have hbt : decide ((D.m : Int) ≤ (r : Int) + (D.m : Int)) = true := decide_eq_true (by omega)
          go_wp2_with (fail)
          clear kc0 kc1 kc2 hbt
          obtain ⟨wo, rfl⟩ : ∃ wo : World, wo = wr := ⟨_, rfl⟩
          go_loopw [13] (fun j wr => ∃ (l : Nat) (cf : Nat → Nat), l ≤ D.m ∧ j = .int .i64 l ∧ Hid (MulSt D u v A D.mod.length c g1 g2 g3 N w cf wr) ∧ Hid (C = cf (r + D.m)) ∧ Hid (ev D cf (r + D.m) = u * v - sc (zp D.p C) * pw (Xc D) (r + D.m) + rd1 D C r l)) (fun j _ => D.m - (intOf j).toNat)
          case atStart => exact ⟨0, cf, by omega, rfl, hms, hC', hev4⟩
          case round =>
            clear hms hev4 hC' cf
            obtain ⟨l, cf, hl, rfl, hms, hC, hev⟩ := hrel
            obtain ⟨kc0, kc1, kc2⟩ := hms.out.bx
            by_cases hlt2 : l < D.m
            · have hrl : r + l < N := by have := hN'.out; omega
              have hrm : r + D.m < N := by have := hN'.out; omega
              have hc3 := hms.out.i3.cell (i := r + l) (by rw [lst_length]; exact hrl)
              rw [lst_get _ hrl] at hc3
              have hc4 := hms.out.i3.cell (i := r + D.m) (by rw [lst_length]; exact hrm)
              rw [lst_get _ hrm, ← hC.out] at hc4
              obtain ⟨b, off, rfl, hb, hcm⟩ := hr.at_ (k := l) (by rw [modL_length, hml]; exact hlt2)
              rw [modL_get D (by rw [hml]; exact hlt2)] at hcm
              have hcm2 := (hms.out.bw.cell (p := ⟨b, off + l, none⟩) hb).trans hcm
              clear hcm
              obtain ⟨ml, hmle⟩ : ∃ ml, ml = D.mod.getD l 0 := ⟨_, rfl⟩
              have hmlp : ml < D.p := by rw [hmle]; exact D.hmod l
              rw [← hmle] at hcm2
              have hmll : l < D.mod.length := by omega
              have hf := hms.out.i3.frozen (r + l)
              have hd3 := hms.out.lt (r + l)
              obtain ⟨hm1a, hm1b⟩ : (0 : Int) ≤ ((D.p : Int) - (C : Int)) * (ml : Int) ∧ ((D.p : Int) - (C : Int)) * (ml : Int) ≤ 65536 := by
                have h1 := Nat.mul_le_mul (Nat.le_trans (Nat.sub_le D.p C) hp1) (Nat.le_trans (Nat.le_of_lt hmlp) hp1)
                have h2 : (((D.p - C) * ml : Nat) : Int) = ((D.p : Int) - (C : Int)) * (ml : Int) := by rw [Int.natCast_mul, Int.natCast_sub (Nat.le_of_lt hCp)]
                omega
              have hstep := Lib.hid (hms.out.step hb0 hne hne2 (r + l) (cf (r + l) + (D.p - C) * ml) (z := ((cf (r + l) : Int) + ((D.p : Int) - (C : Int)) * (ml : Int)) % (D.p : Int))
                (by rw [Int.natCast_emod, Int.natCast_add, Int.natCast_mul, Int.natCast_sub (Nat.le_of_lt hCp)]))
              have hev2 : Hid (ev D (fup cf (r + l) ((cf (r + l) + (D.p - C) * ml) % D.p)) (r + D.m) = u * v - sc (zp D.p C) * pw (Xc D) (r + D.m) + rd1 D C r (l + 1)) := by
                unfold Hid; rw [ev_step _ _ (by omega), hev.out, rd1_succ, hmle, add_a]
              have hC2 : Hid (C = fup cf (r + l) ((cf (r + l) + (D.p - C) * ml) % D.p) (r + D.m)) := by
                unfold Hid fup; rw [if_neg (by omega)]; exact hC.out
              clear hms hev hC hml hmle
              have hrl0 : (0 : Int) ≤ (r : Int) + (l : Int) := by omega
              have hrl1 : (r : Int) + (l : Int) < (N : Int) := by omega
              have hrl2 : ((r : Int) + (l : Int)).toNat = r + l := by omega
              have hrm0 : (0 : Int) ≤ (r : Int) + (D.m : Int) := by omega
              have hrm1 : (r : Int) + (D.m : Int) < (N : Int) := by omega
              have hrm2 : ((r : Int) + (D.m : Int)).toNat = r + D.m := by omega
              have hml3 : (l : Int) < (D.mod.length : Int) := by omega
              have e1 : IntKind.i64.wrap (r : Int) = (r : Int) := IntWalk.i64_in _ (by omega)
              have e2 : IntKind.i64.wrap ((r : Int) + (l : Int)) = (r : Int) + (l : Int) := IntWalk.i64_in _ (by omega)
              have e3 : IntKind.i64.wrap ((D.p : Int) - (C : Int)) = (D.p : Int) - (C : Int) := IntWalk.i64_in _ (by omega)
              have e4 : IntKind.i64.wrap (((D.p : Int) - (C : Int)) * (ml : Int)) = ((D.p : Int) - (C : Int)) * (ml : Int) := IntWalk.i64_in _ (by omega)
              have e5 : IntKind.i64.wrap ((cf (r + l) : Int) + ((D.p : Int) - (C : Int)) * (ml : Int)) = (cf (r + l) : Int) + ((D.p : Int) - (C : Int)) * (ml : Int) := IntWalk.i64_in _ (by omega)
              have hpz : ¬ D.p = 0 := by omega
              have hX0 : 0 ≤ (cf (r + l) : Int) + ((D.p : Int) - (C : Int)) * (ml : Int) := by omega
              have hXm := Int.emod_lt_of_pos ((cf (r + l) : Int) + ((D.p : Int) - (C : Int)) * (ml : Int)) (show (0 : Int) < D.p by omega)
              have hXn := Int.emod_nonneg ((cf (r + l) : Int) + ((D.p : Int) - (C : Int)) * (ml : Int)) (show (D.p : Int) ≠ 0 by omega)
              have e6 : ((cf (r + l) : Int) + ((D.p : Int) - (C : Int)) * (ml : Int)).tmod (D.p : Int) = ((cf (r + l) : Int) + ((D.p : Int) - (C : Int)) * (ml : Int)) % (D.p : Int) := Int.tmod_eq_emod_of_nonneg hX0
              have e7 : IntKind.i64.wrap (((cf (r + l) : Int) + ((D.p : Int) - (C : Int)) * (ml : Int)) % (D.p : Int)) = ((cf (r + l) : Int) + ((D.p : Int) - (C : Int)) * (ml : Int)) % (D.p : Int) := IntWalk.i64_in _ (by omega)
              go_wp2_with (fail)
              go_still_tail 34, (by kernel_rfl)
              change wpList _ _ _ _ _ wr.drew
              clear e1 e2 e3 e4 e5 e6 e7 hrl2 hrm2
              go_wp2_with (fail)
              go_roundw
              case rel => exact ⟨l + 1, _, by omega, by go_num, hstep, hC2, hev2⟩
              case measure => simp [intOf]; omega
            · obtain rfl : l = D.m := by omega
              go_wp2_with (fail)
              go_roundw
              case rel => exact ⟨r, cf, by omega, by first | rfl | go_num | (congr 1; omega), hms, by unfold Hid; rw [hev.out, rd1_full (Nat.le_of_lt hCp), sub_add_cancel]⟩
              case measure => simp [intOf]; omega
end Go.Proofs.Ytemanlkgfhmclaa

/-! The box of a field's description -/
namespace Go.Proofs.Ytemanlkgfhmclaa
open Go.RowKit Cw
open Cw.CField (inv)

/-- The box of a description, hidden from the walk. -/
def Bx (w : World) (b : Nat) (D : Desc) (A : Option Addr) (n c : Nat) : Prop :=
  w.cell? ⟨b, 0, none⟩ = some (.int .i64 D.p) ∧ w.cell? ⟨b, 1, none⟩ = some (.int .i64 D.m) ∧ w.cell? ⟨b, 2, none⟩ = some (.slice A n c)
theorem Bx.new (w : World) (D : Desc) (A : Option Addr) (n c : Nat) (t : TypeId) : Bx (w.alloc (.cells #[.int .i64 D.p, .int .i64 D.m, .slice A n c] t)) w.heap.size D A n c := alloc3 _ _ _ _ _
theorem Bx.below {B b : Nat} {W w1 : World} {D : Desc} {A : Option Addr} {n c : Nat} (h : Bx W b D A n c) (hb : Below B W w1) (hlt : b < B) : Bx w1 b D A n c := keep3 hb hlt h
theorem Bx.drew {b : Nat} {W : World} {D : Desc} {A : Option Addr} {n c : Nat} (h : Bx W b D A n c) : Bx W.drew b D A n c := h

theorem ci_beq {D : Desc} (u v : R D) : (ci u == ci v) = decide (u = v) := by
  by_cases h : u = v
  · rw [h]; simp
  · rw [decide_eq_false h, beq_eq_false_iff_ne]; exact fun e => h (ci_inj e)
end Go.Proofs.Ytemanlkgfhmclaa

/-! The reference's inverse -/
namespace Go.Proofs.Ytemanlkgfhmclaa
open Go.RowKit Cw
open Cw.CField (inv)
end Go.Proofs.Ytemanlkgfhmclaa

/-! The reference: equal fields -/
namespace Go.Proofs.Ytemanlkgfhmclaa
open Go.RowKit Cw
attribute [local go_sem] Oper.semAt_some

/-- The six cells of a description. -/
theorem keep3x2 {B b b' : Nat} {W w1 : World} {v0 v1 v2 u0 u1 u2 : Value} (hb : Below B W w1) (hlt : b < B) (hlt' : b' < B)
    (h : W.cell? ⟨b, 0, none⟩ = some v0 ∧ W.cell? ⟨b, 1, none⟩ = some v1 ∧ W.cell? ⟨b, 2, none⟩ = some v2 ∧ W.cell? ⟨b', 0, none⟩ = some u0 ∧ W.cell? ⟨b', 1, none⟩ = some u1 ∧ W.cell? ⟨b', 2, none⟩ = some u2) :
    w1.cell? ⟨b, 0, none⟩ = some v0 ∧ w1.cell? ⟨b, 1, none⟩ = some v1 ∧ w1.cell? ⟨b, 2, none⟩ = some v2 ∧ w1.cell? ⟨b', 0, none⟩ = some u0 ∧ w1.cell? ⟨b', 1, none⟩ = some u1 ∧ w1.cell? ⟨b', 2, none⟩ = some u2 :=
  have k := keep3 hb hlt ⟨h.1, h.2.1, h.2.2.1⟩
  have k' := keep3 hb hlt' ⟨h.2.2.2.1, h.2.2.2.2.1, h.2.2.2.2.2⟩
  ⟨k.1, k.2.1, k.2.2, k'.1, k'.2.1, k'.2.2⟩
end Go.Proofs.Ytemanlkgfhmclaa

/- The reference's arithmetic of digits: prime, digits, Value, Order. The reference's field arithmetic over a valid description: Is, In, Digits, Add, Neg, Sub, Mul. The reference's field arithmetic over a valid description: Neg, Sub, Mul. The box of a field's description. The reference's inverse. The reference: equal fields. -/
import Derived.Deep.RegionHeld3
import Derived.StillTailTactics
import Derived.Test.YtakonlfojblcmaaZdP1
import Derived.Test.YtakonlfojblcmaaZdOnce
namespace Go.Proofs.Ytakonlfojblcmaa
open Go.RowKit Cw

def dgi (p x i : Nat) : Int := ((x / p ^ i % p : Nat) : Int)
set_option maxHeartbeats 400000 in
theorem digits_any (x p n : Nat) (w : World) (hp : 1 ≤ p) (hp2 : p ≤ 256) (hn : n ≤ 8) (hx : x ≤ 65536) :
    Calls Try.prog 96 #[.int .i64 x, .int .i64 p, .int .i64 n] w (Gives w.heap.size (lst n (dgi p x)) w) := by
  have hmk := mk_ints n (by omega)
  go_enter Try.func96, Try.ntmps96
  go_wp2
  go_loopw [0, 8] (fun y i wr => ∃ k z : Nat, k ≤ n ∧ z ≤ 65536 ∧ i = .int .i64 k ∧ y = .int .i64 z ∧ Hid (z = x / p ^ k) ∧ IB wr w.heap.size (upd n k (dgi p x)) ∧ Below w.heap.size w wr) (fun _ i _ => n - (intOf i).toNat)
  case atStart => exact ⟨0, x, by omega, hx, rfl, rfl, by simp [Hid], by rw [upd_zero]; exact IB.newz _ _, (Below.refl _ _).alloc (Nat.le_refl _) _⟩
  case round =>
    obtain ⟨k, z, hk, hz, rfl, rfl, hzk, hib, hbw⟩ := hrel
    by_cases hlt : k < n
    · have hc := hib.cell (i := k) (by rw [upd_length]; exact hlt)
      have hf := hib.frozen k
      have hset := Lib.hid (hib.set_ k (dgi p x k))
      clear hib
      have hz1 : (0 : Int) ≤ (z : Int) / (p : Int) := Int.ediv_nonneg (by omega) (by omega)
      have hz2 : (z : Int) / (p : Int) ≤ 65536 := Int.le_trans (Int.ediv_le_self _ (by omega)) (by omega)
      go_wp2
      go_roundw
      case rel =>
        refine ⟨k+1, z / p, by omega, Nat.le_trans (Nat.div_le_self _ _) hz, by go_num, by go_num, ?_, ?_, hbw.setCell (Nat.le_refl _) _⟩
        · show z / p = x / p ^ (k+1)
          rw [hzk.out, Nat.pow_succ, Nat.div_div_eq_div_mul]
        · have h := hset.out
          rw [upd_set] at h
          have e : dgi p x k = (z : Int) % (p : Int) := by rw [hzk.out]; rfl
          rw [e] at h; exact h
      case measure => simp [intOf]; omega
    · go_wp2
      go_ret
      obtain rfl : k = n := by omega
      rw [upd_full] at hib
      exact ⟨w.heap.size, by simp [lst_length], Nat.le_refl _, hib, hbw⟩

def hval (p : Nat) (f : Nat → Nat) (m : Nat) : Nat → Nat
  | 0 => 0
  | j+1 => hval p f m j * p + f (m - 1 - j)
theorem hval_nval (p : Nat) (f : Nat → Nat) (m : Nat) : ∀ j, j ≤ m → nval p f m = nval p f (m - j) + hval p f m j * p ^ (m - j)
  | 0, _ => by simp [hval]
  | j+1, h => by
    rw [hval_nval p f m j (by omega)]
    obtain ⟨k, hk⟩ : ∃ k, m - j = k + 1 := ⟨m - j - 1, by omega⟩
    have h1 : m - (j + 1) = k := by omega
    have h2 : m - 1 - j = k := by omega
    rw [hk, h1]
    show nval p f k + f k * p ^ k + hval p f m j * p ^ (k+1) = nval p f k + (hval p f m j * p + f (m - 1 - j)) * p ^ k
    rw [h2, Nat.add_mul, Nat.pow_succ]
    have : hval p f m j * (p ^ k * p) = hval p f m j * p * p ^ k := by ac_rfl
    omega
theorem hval_full (p : Nat) (f : Nat → Nat) (m : Nat) : hval p f m m = nval p f m := by
  have h := hval_nval p f m m (Nat.le_refl _)
  rw [Nat.sub_self, Nat.pow_zero, Nat.mul_one] at h
  rw [h]; exact (Nat.zero_add _).symm
theorem hval_lt {p : Nat} {f : Nat → Nat} {m : Nat} (h : ∀ i, i < m → f i < p) : ∀ j, j ≤ m → hval p f m j < p ^ j
  | 0, _ => Nat.one_pos
  | j+1, hj => by
    have h1 := hval_lt h j (by omega)
    have h2 := Nat.mul_le_mul_right p (Nat.succ_le_of_lt h1)
    rw [Nat.succ_mul] at h2
    have h3 := h (m - 1 - j) (by omega)
    show hval p f m j * p + f (m - 1 - j) < p ^ (j+1)
    rw [Nat.pow_succ]; omega
theorem hval_le {p : Nat} {f : Nat → Nat} {m : Nat} (h : ∀ i, i < m → f i < p) (hq : p ^ m ≤ 256) {j : Nat} (hj : j ≤ m) : hval p f m j ≤ 256 := by
  rcases Nat.eq_zero_or_pos p with h0 | h0
  · rcases Nat.eq_zero_or_pos j with hj0 | hj0
    · subst hj0; simp [hval]
    · have := h 0 (by omega); omega
  · exact Nat.le_trans (Nat.le_of_lt (hval_lt h j hj)) (Nat.le_trans (Nat.pow_le_pow_right h0 hj) hq)

def noDiv (n : Nat) : Nat → Bool
  | 0 => true
  | k+1 => noDiv n k && (n % (k+2) != 0)
theorem noDiv_succ (n k : Nat) : noDiv n (k+1) = (noDiv n k && (n % (k+2) != 0)) := rfl
theorem noDiv_mono (n k j : Nat) (h : noDiv n (k+j) = true) : noDiv n k = true := by
  induction j with
  | zero => exact h
  | succ j ih => rw [← Nat.add_assoc, noDiv_succ] at h; exact ih (by simp at h; exact h.1)
theorem noDiv_iff (n k : Nat) : noDiv n k = true ↔ ∀ d, 2 ≤ d → d < k + 2 → n % d ≠ 0 := by
  induction k with
  | zero => exact ⟨fun _ d h1 h2 => by omega, fun _ => rfl⟩
  | succ k ih =>
    rw [noDiv_succ, Bool.and_eq_true, ih]
    constructor
    · rintro ⟨h1, h2⟩ d hd1 hd2
      by_cases e : d = k + 2
      · subst e; simpa using h2
      · exact h1 d hd1 (by omega)
    · intro h
      exact ⟨fun d hd1 hd2 => h d hd1 (by omega), by simpa using h (k+2) (by omega) (by omega)⟩
theorem mod_cast' (n d : Nat) : (n : Int) % (d : Int) = ((n % d : Nat) : Int) := rfl
set_option maxHeartbeats 400000 in
theorem prime_any (n : Nat) (w : World) (h2 : 2 ≤ n) (hn : n ≤ 256) :
    Calls Try.prog 68 #[.int .i64 n] w fun e w' => e = .returned (.bool (noDiv n (n-2))) ∧ w = w' := by
  go_enter Try.func68, Try.ntmps68
  go_wp2
  go_loop [3] (fun d => ∃ k : Nat, k + 2 ≤ n ∧ d = .int .i64 (k+2 : Nat) ∧ Hid (noDiv n k = true)) (fun d => n - (intOf d).toNat)
  case atStart => exact ⟨0, by omega, rfl, rfl⟩
  case round =>
    obtain ⟨k, hk, rfl, hp⟩ := hrel
    have hs := Lib.hid (noDiv_succ n k)
    by_cases hlt : k + 2 < n
    · by_cases hd : n % (k+2) = 0
      · have hb : (((n : Int) % ((k : Int) + 2)) == 0) = true := by
          rw [beq_iff_eq]; exact (mod_cast' n (k+2)).trans (by rw [hd]; rfl)
        go_wp2
        go_ret
        refine ⟨ret_bool ?_, rfl⟩
        have h3 : noDiv n (k+1) = false := by rw [hs.out]; simp [hd]
        cases h5 : noDiv n (n-2) with
        | false => rfl
        | true =>
          rw [noDiv_mono n (k+1) (n-2-(k+1)) (by rw [show k+1+(n-2-(k+1)) = n-2 by omega]; exact h5)] at h3
          cases h3
      · have hb : (((n : Int) % ((k : Int) + 2)) == 0) = false := by
          rw [beq_eq_false_iff_ne]; intro e
          have := (mod_cast' n (k+2)).symm.trans e
          omega
        go_wp2
        go_round
        case rel =>
          refine ⟨k+1, by omega, by go_num, ?_⟩
          show noDiv n (k+1) = true
          rw [hs.out, hp.out]; simpa using hd
        case measure => simp [intOf]; omega
    · go_wp2
      go_ret
      have : n - 2 = k := by omega
      exact ⟨ret_bool (by rw [this, hp.out]), rfl⟩

def qOf (P M : Int) : Nat := if P < 2 ∨ M < 1 ∨ 8 < M ∨ 256 < P.toNat ^ M.toNat then 0 else P.toNat ^ M.toNat

set_option maxHeartbeats 400000 in
theorem Order_any (P M : Int) (A : Option Addr) (n c : Nat) (w : World) (hP : P ≤ 9223372036854775807) (hM : M ≤ 9223372036854775807) :
    Calls Try.prog 10 #[.agg #[.int .i64 P, .int .i64 M, .slice A n c]] w fun e w' => e = .returned (.int .i64 (qOf P M : Nat)) ∧ Below w.heap.size w w' := by
  by_cases hbad : P < 2 ∨ M < 1 ∨ 8 < M
  · have hq : qOf P M = 0 := by
      unfold qOf
      rw [if_pos (by omega)]
    rw [hq]
    clear hq
    go_enter Try.func10, Try.ntmps10
    go_wp2
    all_goals (go_ret; exact ⟨rfl, (Below.refl _ _).alloc (Nat.le_refl _) _⟩)
  · obtain ⟨h1, h2, h3⟩ : 2 ≤ P ∧ 1 ≤ M ∧ M ≤ 8 := by omega
    obtain ⟨p, rfl⟩ := Int.eq_ofNat_of_zero_le (show 0 ≤ P by omega)
    obtain ⟨m, rfl⟩ := Int.eq_ofNat_of_zero_le (show 0 ≤ M by omega)
    replace h1 : 2 ≤ p := by omega
    replace h2 : 1 ≤ m := by omega
    replace h3 : m ≤ 8 := by omega
    replace hP : p ≤ 9223372036854775807 := by omega
    clear hbad hM
    go_enter Try.func10, Try.ntmps10
    go_wp2
    go_loop [3, 4] (fun q i => ∃ k z : Nat, k ≤ m ∧ z ≤ 256 ∧ i = .int .i64 k ∧ q = .int .i64 z ∧ Hid (z = p ^ k)) (fun _ i => m - (intOf i).toNat)
    case atStart => exact ⟨0, 1, by omega, by omega, rfl, rfl, by simp [Hid]⟩
    case round =>
      obtain ⟨k, z, hk, hz, rfl, rfl, hzk⟩ := hrel
      have h256 : (256 : Int) / (p : Int) = ((256 / p : Nat) : Int) := rfl
      have hq1 : (0 : Int) ≤ 256 / (p : Int) := Int.ediv_nonneg (by decide) (by omega)
      have hq2 : (256 : Int) / (p : Int) ≤ 256 := Int.ediv_le_self _ (by omega)
      by_cases hlt : k < m
      · by_cases hd : 256 / p < z
        · have hb : (256 : Int) / (p : Int) < (z : Int) := by omega
          have hlt2 : 256 < p ^ (k+1) := by
            have h4 := (Nat.div_lt_iff_lt_mul (by omega : 0 < p)).1 hd
            rw [hzk.out] at h4; rw [Nat.pow_succ]; exact h4
          have hq : Hid (qOf p m = 0) := by
            unfold Hid qOf
            rw [if_pos]
            simp only [Int.toNat_natCast]
            have := Nat.pow_le_pow_right (n := p) (by omega) (show k + 1 ≤ m by omega)
            omega
          clear h256 hlt2
          go_wp2
          go_ret
          exact ⟨ret_int (by rw [hq.out]; rfl), (Below.refl _ _).alloc (Nat.le_refl _) _⟩
        · have hb : (z : Int) ≤ (256 : Int) / (p : Int) := by omega
          have hle : z * p ≤ 256 := Nat.le_trans (Nat.mul_le_mul_right p (Nat.le_of_not_lt hd)) (Nat.div_mul_le_self _ _)
          have hle' : ((z * p : Nat) : Int) = (z : Int) * (p : Int) := by simp
          have hm1 : (0 : Int) ≤ (z : Int) * (p : Int) := by omega
          have hm2 : (z : Int) * (p : Int) ≤ 256 := by omega
          clear h256 hle'
          go_wp2
          go_round
          case rel =>
            refine ⟨k+1, z * p, by omega, hle, by go_num, by go_num, ?_⟩
            show z * p = p ^ (k+1)
            rw [hzk.out, Nat.pow_succ]
          case measure => simp [intOf]; omega
      · obtain rfl : k = m := by omega
        have hq : Hid (qOf p k = z) := by
          unfold Hid qOf
          rw [if_neg, Int.toNat_natCast, Int.toNat_natCast, ← hzk.out]
          simp only [Int.toNat_natCast]
          rw [← hzk.out]; omega
        clear h256
        go_wp2
        go_ret
        exact ⟨ret_int (by rw [hq.out]), (Below.refl _ _).alloc (Nat.le_refl _) _⟩
end Go.Proofs.Ytakonlfojblcmaa

namespace Go.Proofs.Ytakonlfojblcmaa
open Go.RowKit Cw

theorem qOf_D (D : Desc) : qOf D.p D.m = D.q := by
  have h1 := D.p2; have h2 := D.m1; have h3 := D.m8; have h4 := D.hq
  unfold qOf
  simp only [Int.toNat_natCast]
  rw [if_neg (by omega)]; rfl
def modL (D : Desc) : List Int := D.mod.map fun c : Nat => (c : Int)

set_option maxHeartbeats 400000 in
theorem Is_any (D : Desc) (x : Int) (A : Option Addr) (n c : Nat) (w : World) :
    Calls Try.prog 37 #[.agg #[.int .i64 D.p, .int .i64 D.m, .slice A n c], .int .i64 x] w fun e w' => e = .returned (.bool (decide (0 ≤ x ∧ x < D.q))) ∧ Below w.heap.size w w' := by
  have hp1 := D.p256; have hp2 := D.m8
  have hO := fun w => Lib.hid (Order_any D.p D.m A n c w (by omega) (by omega))
  have hq := Lib.hid (qOf_D D)
  have hq2 := D.q256
  by_cases h0 : 0 ≤ x
  · by_cases h1 : x < D.q
    · have hb : decide (x < (D.q : Int)) = true := by simpa using h1
      go_enter Try.func37, Try.ntmps37
      go_wp2_with (go_at_call 10; refine (hO _).out.mono ?_; rw [hq.out]; rintro e w1 ⟨rfl, hb1⟩)
      go_ret
      exact ⟨ret_bool (by simp [h0, h1]), ((Below.refl _ _).alloc (Nat.le_refl _) _).trans (hb1.mono (by simp))⟩
    · have hb : decide (x < (D.q : Int)) = false := by simpa using h1
      go_enter Try.func37, Try.ntmps37
      go_wp2_with (go_at_call 10; refine (hO _).out.mono ?_; rw [hq.out]; rintro e w1 ⟨rfl, hb1⟩)
      go_ret
      exact ⟨ret_bool (by simp [h1]), ((Below.refl _ _).alloc (Nat.le_refl _) _).trans (hb1.mono (by simp))⟩
  · go_enter Try.func37, Try.ntmps37
    go_wp2_with (fail)
    go_ret
    exact ⟨ret_bool (by simp; omega), (Below.refl _ _).alloc (Nat.le_refl _) _⟩

def dl {D : Desc} (u : R D) : List Int := lst D.m fun i => (di u i : Nat)

end Go.Proofs.Ytakonlfojblcmaa

namespace Go.Proofs.Ytakonlfojblcmaa
open Go.RowKit Cw

theorem modL_get (D : Desc) {l : Nat} (h : l < D.mod.length) : (modL D)[l]?.getD 0 = ((D.mod.getD l 0 : Nat) : Int) := by
  simp [modL, h]
theorem modL_length (D : Desc) : (modL D).length = D.mod.length := by simp [modL]
end Go.Proofs.Ytakonlfojblcmaa

namespace Go.Proofs.Ytakonlfojblcmaa
open Go.RowKit Cw
open Cw.CField (inv)

def Bx (w : World) (b : Nat) (D : Desc) (A : Option Addr) (n c : Nat) : Prop :=
  w.cell? ⟨b, 0, none⟩ = some (.int .i64 D.p) ∧ w.cell? ⟨b, 1, none⟩ = some (.int .i64 D.m) ∧ w.cell? ⟨b, 2, none⟩ = some (.slice A n c)
theorem Bx.new (w : World) (D : Desc) (A : Option Addr) (n c : Nat) (t : TypeId) : Bx (w.alloc (.cells #[.int .i64 D.p, .int .i64 D.m, .slice A n c] t)) w.heap.size D A n c := alloc3 _ _ _ _ _
theorem Bx.below {B b : Nat} {W w1 : World} {D : Desc} {A : Option Addr} {n c : Nat} (h : Bx W b D A n c) (hb : Below B W w1) (hlt : b < B) : Bx w1 b D A n c := keep3 hb hlt h
theorem Bx.drew {b : Nat} {W : World} {D : Desc} {A : Option Addr} {n c : Nat} (h : Bx W b D A n c) : Bx W.drew b D A n c := h

end Go.Proofs.Ytakonlfojblcmaa

namespace Go.Proofs.Ytakonlfojblcmaa
open Go.RowKit Cw
open Cw.CField (inv)
end Go.Proofs.Ytakonlfojblcmaa

namespace Go.Proofs.Ytakonlfojblcmaa
open Go.RowKit Cw
attribute [local go_sem] Oper.semAt_some

end Go.Proofs.Ytakonlfojblcmaa

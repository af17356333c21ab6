/- The program's arithmetic of digits and the shape of a description. -/
import Derived.Test.YtnbkmkeiophjoaaRefC
import Derived.Test.YtnbkmkeiophjoaaApp
namespace Go.Proofs.Ytnbkmkeiophjoaa
open Go.RowKit Cw

set_option maxHeartbeats 400000 in
theorem digitsOf_any (x p n : Nat) (w : World) (hp : 1 ≤ p) (hp2 : p ≤ 256) (hn : n ≤ 8) (hx : x ≤ 65536) :
    Calls Try.prog 142 #[.int .i64 x, .int .i64 p, .int .i64 n] w (Gives w.heap.size (lst n (dgi p x)) w) := by
  have hmk := mk_ints n (by omega)
  go_enter Try.func142, Try.ntmps142
  go_wp2
  go_loopw [0, 8, 13] (fun y _ i wr => ∃ k z : Nat, k ≤ n ∧ z ≤ 65536 ∧ i = .int .i64 k ∧ y = .int .i64 z ∧ Hid (z = x / p ^ k) ∧ IB wr w.heap.size (upd n k (dgi p x)) ∧ Below w.heap.size w wr) (fun _ _ i _ => n - (intOf i).toNat)
  case atStart => exact ⟨0, x, by omega, hx, rfl, rfl, by simp [Hid], by rw [upd_zero]; exact IB.newz _ _, (Below.refl _ _).alloc (Nat.le_refl _) _⟩
  case round =>
    obtain ⟨k, z, hk, hz, rfl, rfl, hzk, hib, hbw⟩ := hrel
    by_cases hlt : k < n
    · have hc := hib.cell (i := k) (by rw [upd_length]; exact hlt)
      have hf := hib.frozen k
      have hset := Lib.hid (hib.set_ k (dgi p x k))
      clear hib
      have hz1 : (0 : Int) ≤ (z : Int) / (p : Int) := Int.ediv_nonneg (by omega) (by omega)
      have hz2 : (z : Int) / (p : Int) ≤ 65536 := Int.le_trans (Int.ediv_le_self _ (by omega)) (by omega)
      go_wp2
      go_roundw
      case rel =>
        refine ⟨k+1, z / p, by omega, Nat.le_trans (Nat.div_le_self _ _) hz, by go_num, by go_num, ?_, ?_, hbw.setCell (Nat.le_refl _) _⟩
        · show z / p = x / p ^ (k+1)
          rw [hzk.out, Nat.pow_succ, Nat.div_div_eq_div_mul]
        · have h := hset.out
          rw [upd_set] at h
          have e : dgi p x k = (z : Int) % (p : Int) := by rw [hzk.out]; rfl
          rw [e] at h; exact h
      case measure => simp [intOf]; omega
    · go_wp2
      go_ret
      obtain rfl : k = n := by omega
      rw [upd_full] at hib
      exact ⟨w.heap.size, by simp [lst_length], Nat.le_refl _, hib, hbw⟩

set_option maxHeartbeats 400000 in
theorem valueOf_any (p m : Nat) (f : Nat → Nat) (A : Option Addr) (c : Nat) (w : World) (hp : 1 ≤ p) (hp2 : p ≤ 256) (hm : m ≤ 8) (hf : ∀ i, i < m → f i < p) (hq : p ^ m ≤ 256)
    (hr : Rd w w.heap.size A (lst m fun i => (f i : Int))) :
    Calls Try.prog 143 #[.slice A m c, .int .i64 p] w fun e w' => e = .returned (.int .i64 (nval p f m : Nat)) ∧ w = w' := by
  go_enter Try.func143, Try.ntmps143
  go_wp2
  go_loop [5, 6] (fun x i => ∃ t j y : Nat, t ≤ m ∧ y ≤ 256 ∧ i = .int .i64 ((t : Int) - 1) ∧ x = .int .i64 y ∧ Hid (t + j = m) ∧ Hid (y = hval p f m j)) (fun _ i => (intOf i + 1).toNat)
  case atStart => exact ⟨m, 0, 0, by omega, by omega, by simp, rfl, by simp [Hid], rfl⟩
  case round =>
    obtain ⟨t, j, y, ht, hy, rfl, rfl, htj, hyk⟩ := hrel
    cases t with
    | zero =>
      go_wp2
      go_ret
      obtain rfl : j = m := by have := htj.out; omega
      exact ⟨ret_int (by rw [hyk.out, hval_full]), rfl⟩
    | succ t =>
      rw [show ((t + 1 : Nat) : Int) - 1 = (t : Int) by omega]
      obtain ⟨b, off, rfl, hb, hcell⟩ := hr.at_ (k := t) (by rw [lst_length]; omega)
      rw [lst_get _ (by omega)] at hcell
      have hft := hf t (by omega)
      have hyp : (0 : Int) ≤ (y : Int) * (p : Int) ∧ (y : Int) * (p : Int) ≤ 65536 := by
        have h1 := Nat.mul_le_mul hy hp2
        have h2 : ((y * p : Nat) : Int) = (y : Int) * (p : Int) := by simp
        omega
      obtain ⟨hyp1, hyp2⟩ := hyp
      clear hr
      go_wp2
      go_round
      case rel =>
        have hj1 : t + j + 1 = m := by have := htj.out; omega
        have hy1 : y * p + f t = hval p f m (j+1) := by
          show y * p + f t = hval p f m j * p + f (m - 1 - j)
          rw [hyk.out, show m - 1 - j = t by omega]
        exact ⟨t, j+1, y * p + f t, by omega, by rw [hy1]; exact hval_le hf hq (by omega), by go_num, by go_num, by unfold Hid; omega, hy1⟩
      case measure => simp [intOf]


set_option maxHeartbeats 400000 in
theorem order_any (P M : Int) (w : World) (hP : P ≤ 9223372036854775807) (hM : M ≤ 9223372036854775807) :
    Calls Try.prog 99 #[.int .i64 P, .int .i64 M] w fun e w' => e = .returned (.int .i64 (qOf P M : Nat)) ∧ w = w' := by
  by_cases hbad : P < 2 ∨ 256 < P ∨ M < 1 ∨ 8 < M
  · have hq : qOf P M = 0 := by
      unfold qOf
      by_cases h : P < 2 ∨ M < 1 ∨ 8 < M
      · rw [if_pos (by omega)]
      · rw [if_pos]
        right; right; right
        have h1 := Nat.pow_le_pow_right (n := P.toNat) (by omega) (show 1 ≤ M.toNat by omega)
        rw [Nat.pow_one] at h1; omega
    rw [hq]
    clear hq
    go_enter Try.func99, Try.ntmps99
    go_wp2
    all_goals (go_ret; exact ⟨rfl, rfl⟩)
  · obtain ⟨h1, h2, h3, h4⟩ : 2 ≤ P ∧ 1 ≤ M ∧ M ≤ 8 ∧ P ≤ 256 := by omega
    obtain ⟨p, rfl⟩ := Int.eq_ofNat_of_zero_le (show 0 ≤ P by omega)
    obtain ⟨m, rfl⟩ := Int.eq_ofNat_of_zero_le (show 0 ≤ M by omega)
    replace h1 : 2 ≤ p := by omega
    replace h2 : 1 ≤ m := by omega
    replace h3 : m ≤ 8 := by omega
    replace h4 : p ≤ 256 := by omega
    clear hbad hM hP
    go_enter Try.func99, Try.ntmps99
    go_wp2
    go_loop [5, 21] (fun q i => ∃ k z : Nat, k ≤ m ∧ z ≤ 256 ∧ i = .int .i64 k ∧ q = .int .i64 z ∧ Hid (z = p ^ k)) (fun _ i => m - (intOf i).toNat)
    case atStart => exact ⟨0, 1, by omega, by omega, rfl, rfl, by simp [Hid]⟩
    case round =>
      obtain ⟨k, z, hk, hz, rfl, rfl, hzk⟩ := hrel
      by_cases hlt : k < m
      · have hzp := Nat.mul_le_mul hz h4
        have hle' : ((z * p : Nat) : Int) = (z : Int) * (p : Int) := by simp
        have hm1 : (0 : Int) ≤ (z : Int) * (p : Int) := by omega
        have hm2 : (z : Int) * (p : Int) ≤ 65536 := by omega
        have hpw : Hid (z * p = p ^ (k+1)) := by unfold Hid; rw [hzk.out, Nat.pow_succ]
        by_cases hd : 256 < z * p
        · have hb : (256 : Int) < (z : Int) * (p : Int) := by omega
          have hq : Hid (qOf p m = 0) := by
            unfold Hid qOf
            rw [if_pos]
            simp only [Int.toNat_natCast]
            have := Nat.pow_le_pow_right (n := p) (by omega) (show k + 1 ≤ m by omega)
            have := hpw.out
            omega
          clear hle'
          go_wp2
          go_ret
          exact ⟨ret_int (by rw [hq.out]; rfl), rfl⟩
        · have hb : (z : Int) * (p : Int) ≤ 256 := by omega
          clear hle'
          go_wp2
          go_round
          case rel => exact ⟨k+1, z * p, by omega, by omega, by go_num, by go_num, hpw⟩
          case measure => simp [intOf]; omega
      · obtain rfl : k = m := by omega
        have hq : Hid (qOf p k = z) := by
          unfold Hid qOf
          rw [if_neg, Int.toNat_natCast, Int.toNat_natCast, ← hzk.out]
          simp only [Int.toNat_natCast]
          rw [← hzk.out]; omega
        go_wp2
        go_ret
        exact ⟨ret_int (by rw [hq.out]), rfl⟩

theorem noDiv_sqrt {n k : Nat} (hn : 2 ≤ n) (h : noDiv n k = true) (hk : n < (k + 2) * (k + 2)) : noDiv n (n - 2) = true := by
  rw [noDiv_iff] at h ⊢
  intro d h2 hd hm
  by_cases h3 : d < k + 2
  · exact h d h2 h3 hm
  · obtain ⟨e, he⟩ := Nat.dvd_of_mod_eq_zero hm
    have he2 : 2 ≤ e := by
      rcases Nat.lt_or_ge e 2 with h4 | h4
      · have : e = 0 ∨ e = 1 := by omega
        rcases this with rfl | rfl
        · omega
        · omega
      · exact h4
    have he3 : e < k + 2 := by
      rcases Nat.lt_or_ge e (k + 2) with h4 | h4
      · exact h4
      · have := Nat.mul_le_mul (show k + 2 ≤ d by omega) h4
        omega
    exact h e he2 he3 (by rw [he, Nat.mul_comm]; exact Nat.mul_mod_right _ _)

set_option maxHeartbeats 400000 in
theorem isPrime_any (n : Nat) (w : World) (h2 : 2 ≤ n) (hn : n ≤ 256) :
    Calls Try.prog 127 #[.int .i64 n] w fun e w' => e = .returned (.bool (noDiv n (n-2))) ∧ w = w' := by
  go_enter Try.func127, Try.ntmps127
  go_wp2
  go_loop [3] (fun d => ∃ k : Nat, k ≤ 15 ∧ d = .int .i64 ((k : Int) + 2) ∧ Hid (noDiv n k = true)) (fun d => 300 - (intOf d).toNat)
  case atStart => exact ⟨0, by omega, rfl, rfl⟩
  case round =>
    obtain ⟨k, hk, rfl, hp⟩ := hrel
    have hs := Lib.hid (noDiv_succ n k)
    have hsq1 : ((k : Int) + 2) * ((k : Int) + 2) ≤ 65536 := by
      have h1 := Nat.mul_le_mul (show k + 2 ≤ 17 by omega) (show k + 2 ≤ 17 by omega)
      have h3 : (((k + 2) * (k + 2) : Nat) : Int) = ((k : Int) + 2) * ((k : Int) + 2) := by simp
      omega
    have hsq0 : 0 ≤ ((k : Int) + 2) * ((k : Int) + 2) := Int.mul_nonneg (by omega) (by omega)
    have hsqe : (((k + 2) * (k + 2) : Nat) : Int) = ((k : Int) + 2) * ((k : Int) + 2) := by simp
    by_cases hlt : (k + 2) * (k + 2) ≤ n
    · have hlt' : ((k : Int) + 2) * ((k : Int) + 2) ≤ (n : Int) := by omega
      have hk2 : k + 2 < n := by
        have := Nat.mul_le_mul (show 2 ≤ k + 2 by omega) (Nat.le_refl (k + 2)); omega
      have hk3 : k ≤ 14 := by
        rcases Nat.lt_or_ge k 15 with h | h
        · omega
        · have := Nat.mul_le_mul (show 17 ≤ k + 2 by omega) (show 17 ≤ k + 2 by omega); omega
      clear hsqe
      by_cases hd : n % (k+2) = 0
      · have hb : (((n : Int) % ((k : Int) + 2)) == 0) = true := by
          rw [beq_iff_eq]; exact (mod_cast' n (k+2)).trans (by rw [hd]; rfl)
        have h4 : Hid (noDiv n (n-2) = false) := by
          have h3 : noDiv n (k+1) = false := by rw [hs.out]; simp [hd]
          unfold Hid
          cases h5 : noDiv n (n-2) with
          | false => rfl
          | true =>
            rw [noDiv_mono n (k+1) (n-2-(k+1)) (by rw [show k+1+(n-2-(k+1)) = n-2 by omega]; exact h5)] at h3
            cases h3
        clear hd
        go_wp2
        go_ret
        exact ⟨ret_bool h4.out.symm, rfl⟩
      · have hb : (((n : Int) % ((k : Int) + 2)) == 0) = false := by
          rw [beq_eq_false_iff_ne]; intro e
          have h9 := (mod_cast' n (k+2)).symm.trans e
          exact hd (Int.ofNat.inj h9)
        have h4 : Hid (noDiv n (k+1) = true) := by unfold Hid; rw [hs.out, hp.out]; simpa using hd
        clear hd
        go_wp2
        go_round
        case rel => exact ⟨k+1, by omega, by go_num, h4⟩
        case measure => simp [intOf]; omega
    · have hlt' : (n : Int) < ((k : Int) + 2) * ((k : Int) + 2) := by omega
      have h4 := Lib.hid (noDiv_sqrt h2 hp.out (Nat.lt_of_not_le hlt))
      have hb : decide (((k : Int) + 2) * ((k : Int) + 2) ≤ (n : Int)) = false := decide_eq_false (by omega)
      clear hsqe hlt hlt' hs hp
      go_wp2
      go_ret
      exact ⟨ret_bool (by rw [h4.out]; exact decide_eq_true (by omega)), rfl⟩

/-! ### validity of a description -/
def Valid (P M : Int) (ml : List Int) : Prop := ∃ D : Desc, P = D.p ∧ M = D.m ∧ ml = modL D
theorem noDiv_prime {n : Nat} (h2 : 2 ≤ n) : noDiv n (n - 2) = true ↔ Prime n := by
  rw [noDiv_iff]
  constructor
  · intro h
    refine ⟨h2, fun d hd => ?_⟩
    have hle := Nat.le_of_dvd (by omega) hd
    have hpos := Nat.pos_of_dvd_of_pos hd (by omega)
    by_cases h1 : d = 1
    · exact .inl h1
    by_cases h3 : d = n
    · exact .inr h3
    exact absurd (Nat.mod_eq_zero_of_dvd hd) (h d (by omega) (by omega))
  · intro h d h3 h4 hm
    rcases h.2 d (Nat.dvd_of_mod_eq_zero hm) with h5 | h5 <;> omega
theorem Valid.mk' {p m : Nat} {ml : List Int} (hp : Prime p) (h1 : 1 ≤ m) (h8 : m ≤ 8) (hq : p ^ m ≤ 256) (hl : ml.length = if m = 1 then 0 else m) (hc : ∀ j, j < ml.length → 0 ≤ ml[j]?.getD 0 ∧ ml[j]?.getD 0 < p) : Valid p m ml := by
  have hl2 : (ml.map Int.toNat).length = ml.length := by simp
  refine ⟨⟨p, m, ml.map Int.toNat, hp, h1, h8, hq, by rw [hl2, hl], fun j => ?_⟩, rfl, rfl, ?_⟩
  · by_cases hj : j < ml.length
    · have h := hc j hj
      have e1 : (ml.map Int.toNat).getD j 0 = (ml[j]?.getD 0).toNat := by simp [hj]
      rw [e1]; omega
    · have e1 : (ml.map Int.toNat).getD j 0 = 0 := by simp [Nat.le_of_not_lt hj]
      rw [e1]; have := hp.1; omega
  · unfold modL
    apply List.ext_getElem
    · simp
    · intro i h1 h2
      have h := (hc i h1).1
      have e1 : ml[i]?.getD 0 = ml[i] := by simp [h1]
      rw [e1] at h
      simp; omega
theorem modL_bd (D : Desc) (j : Nat) : 0 ≤ (modL D)[j]?.getD 0 ∧ (modL D)[j]?.getD 0 < D.p := by
  by_cases h : j < D.mod.length
  · rw [modL_get D h]; have := D.hmod j; omega
  · have : (modL D)[j]? = none := List.getElem?_eq_none (by rw [modL_length]; omega)
    rw [this]; have := D.p2; simp; omega
end Go.Proofs.Ytnbkmkeiophjoaa

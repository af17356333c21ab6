/- The program's arithmetic of digits and the shape of a description. The program's shape: it accepts just the valid descriptions. The program's product of two residues. The program's product of two residues at M = 1, and in general. The program's powers of a residue and its search for a primitive element. The program's search for a primitive element. The program's New: what a field's value in memory is, and that New makes it. -/
import Derived.Test.YtemanlkgfhmclaaRF
import Derived.Test.YtemanlkgfhmclaaP2
import Derived.Laws.CopyOwn
import Derived.StillTailTactics
import Derived.Test.YtemanlkgfhmclaaP1
import Derived.Deep.Onto
import Derived.Deep.DeepCutAuto
/-! The program's arithmetic of digits and the shape of a description -/
namespace Go.Proofs.Ytemanlkgfhmclaa
open Go.RowKit Cw

set_option maxHeartbeats 400000 in
theorem digitsOf_any (x p n : Nat) (w : World) (hp : 1 ≤ p) (hp2 : p ≤ 256) (hn : n ≤ 8) (hx : x ≤ 65536) :
    Calls Try.prog 72 #[.int .i64 x, .int .i64 p, .int .i64 n] w (Gives w.heap.size (lst n (dgi p x)) w) := by
  have hmk := mk_ints n (by omega)
  go_enter Try.func72, Try.ntmps72
  go_wp2
  go_loopw [0, 8, 13] (fun y _ i wr => ∃ k z : Nat, k ≤ n ∧ z ≤ 65536 ∧ i = .int .i64 k ∧ y = .int .i64 z ∧ Hid (z = x / p ^ k) ∧ IB wr w.heap.size (upd n k (dgi p x)) ∧ Below w.heap.size w wr) (fun _ _ i _ => n - (intOf i).toNat)
  case atStart => exact ⟨0, x, by omega, hx, rfl, rfl, by simp [Hid], by rw [upd_zero]; exact IB.newz _ _, (Below.refl _ _).alloc (Nat.le_refl _) _⟩
  case round =>
    obtain ⟨k, z, hk, hz, rfl, rfl, hzk, hib, hbw⟩ := hrel
    by_cases hlt : k < n
    · have hc := hib.cell (i := k) (by rw [upd_length]; exact hlt)
      have hf := hib.frozen k
      have hset := Lib.hid (hib.set_ k (dgi p x k))
      clear hib
      have hz1 : (0 : Int) ≤ (z : Int) / (p : Int) := Int.ediv_nonneg (by omega) (by omega)
      have hz2 : (z : Int) / (p : Int) ≤ 65536 := Int.le_trans (Int.ediv_le_self _ (by omega)) (by omega)
      go_wp2
      go_roundw
      case rel =>
        refine ⟨k+1, z / p, by omega, Nat.le_trans (Nat.div_le_self _ _) hz, by go_num, by go_num, ?_, ?_, hbw.setCell (Nat.le_refl _) _⟩
        · show z / p = x / p ^ (k+1)
          rw [hzk.out, Nat.pow_succ, Nat.div_div_eq_div_mul]
        · have h := hset.out
          rw [upd_set] at h
          have e : dgi p x k = (z : Int) % (p : Int) := by rw [hzk.out]; rfl
          rw [e] at h; exact h
      case measure => simp [intOf]; omega
    · go_wp2
      go_ret
      obtain rfl : k = n := by omega
      rw [upd_full] at hib
      exact ⟨w.heap.size, by simp [lst_length], Nat.le_refl _, hib, hbw⟩

set_option maxHeartbeats 400000 in
theorem valueOf_any (p m : Nat) (f : Nat → Nat) (A : Option Addr) (c : Nat) (w : World) (hp : 1 ≤ p) (hp2 : p ≤ 256) (hm : m ≤ 8) (hf : ∀ i, i < m → f i < p) (hq : p ^ m ≤ 256)
    (hr : Rd w w.heap.size A (lst m fun i => (f i : Int))) :
    Calls Try.prog 73 #[.slice A m c, .int .i64 p] w fun e w' => e = .returned (.int .i64 (nval p f m : Nat)) ∧ w = w' := by
  go_enter Try.func73, Try.ntmps73
  go_wp2
  go_loop [5, 6] (fun x i => ∃ t j y : Nat, t ≤ m ∧ y ≤ 256 ∧ i = .int .i64 ((t : Int) - 1) ∧ x = .int .i64 y ∧ Hid (t + j = m) ∧ Hid (y = hval p f m j)) (fun _ i => (intOf i + 1).toNat)
  case atStart => exact ⟨m, 0, 0, by omega, by omega, by simp, rfl, by simp [Hid], rfl⟩
  case round =>
    obtain ⟨t, j, y, ht, hy, rfl, rfl, htj, hyk⟩ := hrel
    cases t with
    | zero =>
      go_wp2
      go_ret
      obtain rfl : j = m := by have := htj.out; omega
      exact ⟨ret_int (by rw [hyk.out, hval_full]), rfl⟩
    | succ t =>
      rw [show ((t + 1 : Nat) : Int) - 1 = (t : Int) by omega]
      obtain ⟨b, off, rfl, hb, hcell⟩ := hr.at_ (k := t) (by rw [lst_length]; omega)
      rw [lst_get _ (by omega)] at hcell
      have hft := hf t (by omega)
      have hyp : (0 : Int) ≤ (y : Int) * (p : Int) ∧ (y : Int) * (p : Int) ≤ 65536 := by
        have h1 := Nat.mul_le_mul hy hp2
        have h2 : ((y * p : Nat) : Int) = (y : Int) * (p : Int) := by simp
        omega
      obtain ⟨hyp1, hyp2⟩ := hyp
      clear hr
      go_wp2
      go_round
      case rel =>
        have hj1 : t + j + 1 = m := by have := htj.out; omega
        have hy1 : y * p + f t = hval p f m (j+1) := by
          show y * p + f t = hval p f m j * p + f (m - 1 - j)
          rw [hyk.out, show m - 1 - j = t by omega]
        exact ⟨t, j+1, y * p + f t, by omega, by rw [hy1]; exact hval_le hf hq (by omega), by go_num, by go_num, by unfold Hid; omega, hy1⟩
      case measure => simp [intOf]


set_option maxHeartbeats 400000 in
theorem order_any (P M : Int) (w : World) (hP : P ≤ 9223372036854775807) (hM : M ≤ 9223372036854775807) :
    Calls Try.prog 58 #[.int .i64 P, .int .i64 M] w fun e w' => e = .returned (.int .i64 (qOf P M : Nat)) ∧ w = w' := by
  by_cases hbad : P < 2 ∨ 256 < P ∨ M < 1 ∨ 8 < M
  · have hq : qOf P M = 0 := by
      unfold qOf
      by_cases h : P < 2 ∨ M < 1 ∨ 8 < M
      · rw [if_pos (by omega)]
      · rw [if_pos]
        right; right; right
        have h1 := Nat.pow_le_pow_right (n := P.toNat) (by omega) (show 1 ≤ M.toNat by omega)
        rw [Nat.pow_one] at h1; omega
    rw [hq]
    clear hq
    go_enter Try.func58, Try.ntmps58
    go_wp2
    all_goals (go_ret; exact ⟨rfl, rfl⟩)
  · obtain ⟨h1, h2, h3, h4⟩ : 2 ≤ P ∧ 1 ≤ M ∧ M ≤ 8 ∧ P ≤ 256 := by omega
    obtain ⟨p, rfl⟩ := Int.eq_ofNat_of_zero_le (show 0 ≤ P by omega)
    obtain ⟨m, rfl⟩ := Int.eq_ofNat_of_zero_le (show 0 ≤ M by omega)
    replace h1 : 2 ≤ p := by omega
    replace h2 : 1 ≤ m := by omega
    replace h3 : m ≤ 8 := by omega
    replace h4 : p ≤ 256 := by omega
    clear hbad hM hP
    go_enter Try.func58, Try.ntmps58
    go_wp2
    go_loop [5, 21] (fun q i => ∃ k z : Nat, k ≤ m ∧ z ≤ 256 ∧ i = .int .i64 k ∧ q = .int .i64 z ∧ Hid (z = p ^ k)) (fun _ i => m - (intOf i).toNat)
    case atStart => exact ⟨0, 1, by omega, by omega, rfl, rfl, by simp [Hid]⟩
    case round =>
      obtain ⟨k, z, hk, hz, rfl, rfl, hzk⟩ := hrel
      by_cases hlt : k < m
      · have hzp := Nat.mul_le_mul hz h4
        have hle' : ((z * p : Nat) : Int) = (z : Int) * (p : Int) := by simp
        have hm1 : (0 : Int) ≤ (z : Int) * (p : Int) := by omega
        have hm2 : (z : Int) * (p : Int) ≤ 65536 := by omega
        have hpw : Hid (z * p = p ^ (k+1)) := by unfold Hid; rw [hzk.out, Nat.pow_succ]
        by_cases hd : 256 < z * p
        · have hb : (256 : Int) < (z : Int) * (p : Int) := by omega
          have hq : Hid (qOf p m = 0) := by
            unfold Hid qOf
            rw [if_pos]
            simp only [Int.toNat_natCast]
            have := Nat.pow_le_pow_right (n := p) (by omega) (show k + 1 ≤ m by omega)
            have := hpw.out
            omega
          clear hle'
          go_wp2
          go_ret
          exact ⟨ret_int (by rw [hq.out]; rfl), rfl⟩
        · have hb : (z : Int) * (p : Int) ≤ 256 := by omega
          clear hle'
          go_wp2
          go_round
          case rel => exact ⟨k+1, z * p, by omega, by omega, by go_num, by go_num, hpw⟩
          case measure => simp [intOf]; omega
      · obtain rfl : k = m := by omega
        have hq : Hid (qOf p k = z) := by
          unfold Hid qOf
          rw [if_neg, Int.toNat_natCast, Int.toNat_natCast, ← hzk.out]
          simp only [Int.toNat_natCast]
          rw [← hzk.out]; omega
        go_wp2
        go_ret
        exact ⟨ret_int (by rw [hq.out]), rfl⟩

theorem noDiv_sqrt {n k : Nat} (hn : 2 ≤ n) (h : noDiv n k = true) (hk : n < (k + 2) * (k + 2)) : noDiv n (n - 2) = true := by
  rw [noDiv_iff] at h ⊢
  intro d h2 hd hm
  by_cases h3 : d < k + 2
  · exact h d h2 h3 hm
  · obtain ⟨e, he⟩ := Nat.dvd_of_mod_eq_zero hm
    have he2 : 2 ≤ e := by
      rcases Nat.lt_or_ge e 2 with h4 | h4
      · have : e = 0 ∨ e = 1 := by omega
        rcases this with rfl | rfl
        · omega
        · omega
      · exact h4
    have he3 : e < k + 2 := by
      rcases Nat.lt_or_ge e (k + 2) with h4 | h4
      · exact h4
      · have := Nat.mul_le_mul (show k + 2 ≤ d by omega) h4
        omega
    exact h e he2 he3 (by rw [he, Nat.mul_comm]; exact Nat.mul_mod_right _ _)

set_option maxHeartbeats 400000 in
theorem isPrime_any (n : Nat) (w : World) (h2 : 2 ≤ n) (hn : n ≤ 256) :
    Calls Try.prog 69 #[.int .i64 n] w fun e w' => e = .returned (.bool (noDiv n (n-2))) ∧ w = w' := by
  go_enter Try.func69, Try.ntmps69
  go_wp2
  go_loop [3] (fun d => ∃ k : Nat, k ≤ 15 ∧ d = .int .i64 ((k : Int) + 2) ∧ Hid (noDiv n k = true)) (fun d => 300 - (intOf d).toNat)
  case atStart => exact ⟨0, by omega, rfl, rfl⟩
  case round =>
    obtain ⟨k, hk, rfl, hp⟩ := hrel
    have hs := Lib.hid (noDiv_succ n k)
    have hsq1 : ((k : Int) + 2) * ((k : Int) + 2) ≤ 65536 := by
      have h1 := Nat.mul_le_mul (show k + 2 ≤ 17 by omega) (show k + 2 ≤ 17 by omega)
      have h3 : (((k + 2) * (k + 2) : Nat) : Int) = ((k : Int) + 2) * ((k : Int) + 2) := by simp
      omega
    have hsq0 : 0 ≤ ((k : Int) + 2) * ((k : Int) + 2) := Int.mul_nonneg (by omega) (by omega)
    have hsqe : (((k + 2) * (k + 2) : Nat) : Int) = ((k : Int) + 2) * ((k : Int) + 2) := by simp
    by_cases hlt : (k + 2) * (k + 2) ≤ n
    · have hlt' : ((k : Int) + 2) * ((k : Int) + 2) ≤ (n : Int) := by omega
      have hk2 : k + 2 < n := by
        have := Nat.mul_le_mul (show 2 ≤ k + 2 by omega) (Nat.le_refl (k + 2)); omega
      have hk3 : k ≤ 14 := by
        rcases Nat.lt_or_ge k 15 with h | h
        · omega
        · have := Nat.mul_le_mul (show 17 ≤ k + 2 by omega) (show 17 ≤ k + 2 by omega); omega
      clear hsqe
      by_cases hd : n % (k+2) = 0
      · have hb : (((n : Int) % ((k : Int) + 2)) == 0) = true := by
          rw [beq_iff_eq]; exact (mod_cast' n (k+2)).trans (by rw [hd]; rfl)
        have h4 : Hid (noDiv n (n-2) = false) := by
          have h3 : noDiv n (k+1) = false := by rw [hs.out]; simp [hd]
          unfold Hid
          cases h5 : noDiv n (n-2) with
          | false => rfl
          | true =>
            rw [noDiv_mono n (k+1) (n-2-(k+1)) (by rw [show k+1+(n-2-(k+1)) = n-2 by omega]; exact h5)] at h3
            cases h3
        clear hd
        go_wp2
        go_ret
        exact ⟨ret_bool h4.out.symm, rfl⟩
      · have hb : (((n : Int) % ((k : Int) + 2)) == 0) = false := by
          rw [beq_eq_false_iff_ne]; intro e
          have h9 := (mod_cast' n (k+2)).symm.trans e
          exact hd (Int.ofNat.inj h9)
        have h4 : Hid (noDiv n (k+1) = true) := by unfold Hid; rw [hs.out, hp.out]; simpa using hd
        clear hd
        go_wp2
        go_round
        case rel => exact ⟨k+1, by omega, by go_num, h4⟩
        case measure => simp [intOf]; omega
    · have hlt' : (n : Int) < ((k : Int) + 2) * ((k : Int) + 2) := by omega
      have h4 := Lib.hid (noDiv_sqrt h2 hp.out (Nat.lt_of_not_le hlt))
      have hb : decide (((k : Int) + 2) * ((k : Int) + 2) ≤ (n : Int)) = false := decide_eq_false (by omega)
      clear hsqe hlt hlt' hs hp
      go_wp2
      go_ret
      exact ⟨ret_bool (by rw [h4.out]; exact decide_eq_true (by omega)), rfl⟩

/-! ### validity of a description -/
def Valid (P M : Int) (ml : List Int) : Prop := ∃ D : Desc, P = D.p ∧ M = D.m ∧ ml = modL D
theorem noDiv_prime {n : Nat} (h2 : 2 ≤ n) : noDiv n (n - 2) = true ↔ Prime n := by
  rw [noDiv_iff]
  constructor
  · intro h
    refine ⟨h2, fun d hd => ?_⟩
    have hle := Nat.le_of_dvd (by omega) hd
    have hpos := Nat.pos_of_dvd_of_pos hd (by omega)
    by_cases h1 : d = 1
    · exact .inl h1
    by_cases h3 : d = n
    · exact .inr h3
    exact absurd (Nat.mod_eq_zero_of_dvd hd) (h d (by omega) (by omega))
  · intro h d h3 h4 hm
    rcases h.2 d (Nat.dvd_of_mod_eq_zero hm) with h5 | h5 <;> omega
theorem Valid.mk' {p m : Nat} {ml : List Int} (hp : Prime p) (h1 : 1 ≤ m) (h8 : m ≤ 8) (hq : p ^ m ≤ 256) (hl : ml.length = if m = 1 then 0 else m) (hc : ∀ j, j < ml.length → 0 ≤ ml[j]?.getD 0 ∧ ml[j]?.getD 0 < p) : Valid p m ml := by
  have hl2 : (ml.map Int.toNat).length = ml.length := by simp
  refine ⟨⟨p, m, ml.map Int.toNat, hp, h1, h8, hq, by rw [hl2, hl], fun j => ?_⟩, rfl, rfl, ?_⟩
  · by_cases hj : j < ml.length
    · have h := hc j hj
      have e1 : (ml.map Int.toNat).getD j 0 = (ml[j]?.getD 0).toNat := by simp [hj]
      rw [e1]; omega
    · have e1 : (ml.map Int.toNat).getD j 0 = 0 := by simp [Nat.le_of_not_lt hj]
      rw [e1]; have := hp.1; omega
  · unfold modL
    apply List.ext_getElem
    · simp
    · intro i h1 h2
      have h := (hc i h1).1
      have e1 : ml[i]?.getD 0 = ml[i] := by simp [h1]
      rw [e1] at h
      simp; omega
theorem modL_bd (D : Desc) (j : Nat) : 0 ≤ (modL D)[j]?.getD 0 ∧ (modL D)[j]?.getD 0 < D.p := by
  by_cases h : j < D.mod.length
  · rw [modL_get D h]; have := D.hmod j; omega
  · have : (modL D)[j]? = none := List.getElem?_eq_none (by rw [modL_length]; omega)
    rw [this]; have := D.p2; simp; omega
end Go.Proofs.Ytemanlkgfhmclaa

/-! The program's shape: it accepts just the valid descriptions -/
namespace Go.Proofs.Ytemanlkgfhmclaa
open Go.RowKit Cw

open Classical in
noncomputable def validB (P M : Int) (ml : List Int) : Bool := decide (Valid P M ml)
open Classical in
theorem validB_true {P M : Int} {ml : List Int} (h : Valid P M ml) : validB P M ml = true := decide_eq_true h
open Classical in
theorem validB_false {P M : Int} {ml : List Int} (h : ¬ Valid P M ml) : validB P M ml = false := decide_eq_false h
open Classical in
theorem validB_iff {P M : Int} {ml : List Int} : validB P M ml = true ↔ Valid P M ml := ⟨fun h => of_decide_eq_true h, validB_true⟩
theorem Valid.q {P M : Int} {ml : List Int} (h : Valid P M ml) : qOf P M ≠ 0 := by
  obtain ⟨D, rfl, rfl, rfl⟩ := h
  rw [qOf_D]; have := D.q2; omega
theorem qOf_pos {P M : Int} (h : qOf P M ≠ 0) : ∃ p m : Nat, P = p ∧ M = m ∧ 2 ≤ p ∧ p ≤ 256 ∧ 1 ≤ m ∧ m ≤ 8 ∧ p ^ m ≤ 256 ∧ qOf P M = p ^ m := by
  unfold qOf at h ⊢
  by_cases hc : P < 2 ∨ M < 1 ∨ 8 < M ∨ 256 < P.toNat ^ M.toNat
  · rw [if_pos hc] at h; exact absurd rfl h
  · rw [if_neg hc]
    obtain ⟨p, rfl⟩ := Int.eq_ofNat_of_zero_le (show 0 ≤ P by omega)
    obtain ⟨m, rfl⟩ := Int.eq_ofNat_of_zero_le (show 0 ≤ M by omega)
    simp only [Int.toNat_natCast] at hc ⊢
    have h1 := Nat.pow_le_pow_right (n := p) (by omega) (show 1 ≤ m by omega)
    rw [Nat.pow_one] at h1
    exact ⟨p, m, rfl, rfl, by omega, by omega, by omega, by omega, by omega, rfl⟩

set_option maxHeartbeats 1000000 in
theorem shape_any (P M : Int) (ml : List Int) (A : Option Addr) (c : Nat) (w : World) (hP : P ≤ 9223372036854775807) (hM : M ≤ 9223372036854775807) (_hl : ml.length ≤ maxLen)
    (hr : Rd w w.heap.size A ml) :
    Calls Try.prog 57 #[.agg #[.int .i64 P, .int .i64 M, .slice A ml.length c]] w fun e w' => e = .returned (.bool (validB P M ml)) ∧ Below w.heap.size w w' := by
  unfold maxLen at _hl
  have hO := fun w => Lib.hid (order_any P M w hP hM)
  by_cases hq : qOf P M = 0
  · have hv := Lib.hid (validB_false (P := P) (M := M) (ml := ml) fun h => h.q hq)
    have hq := Lib.hid hq
    go_enter Try.func57, Try.ntmps57
    go_wp2_with (go_at_call 58; refine (hO _).out.mono ?_; rw [hq.out]; rintro e w1 ⟨rfl, rfl⟩)
    go_ret
    exact ⟨ret_bool hv.out.symm, (Below.refl _ _).alloc (Nat.le_refl _) _⟩
  · have hq0 : ((((qOf P M : Nat) : Int)) == 0) = false := by rw [beq_eq_false_iff_ne]; omega
    obtain ⟨p, m, rfl, rfl, hp2, hp256, hm1, hm8, hq3, hqe⟩ := qOf_pos hq
    clear hqe hq
    generalize qOf p m = q at *
    have hI := fun w => Lib.hid (isPrime_any p w hp2 hp256)
    by_cases hpr : noDiv p (p - 2) = true
    · have hpp := (noDiv_prime hp2).1 hpr
      have hpr := Lib.hid hpr
      by_cases hm : m = 1
      · subst hm
        by_cases hl0 : ml.length = 0
        · have hv := Lib.hid (validB_true (Valid.mk' (ml := ml) hpp hm1 hm8 hq3 (by simpa using hl0) (fun j hj => by omega)))
          have hl0' : ((ml.length : Int) == 0) = true := by rw [beq_iff_eq]; omega
          clear hl0
          go_enter Try.func57, Try.ntmps57
          go_wp2_with (first | (go_at_call 58; refine (hO _).out.mono ?_; rintro e w1 ⟨rfl, rfl⟩) | (go_at_call 69; refine (hI _).out.mono ?_; rw [hpr.out]; rintro e w1 ⟨rfl, rfl⟩))
          go_ret
          exact ⟨ret_bool hv.out.symm, (Below.refl _ _).alloc (Nat.le_refl _) _⟩
        · have hv := Lib.hid (validB_false (P := p) (M := (1 : Nat)) (ml := ml) fun ⟨D, _, h2, h3⟩ => hl0 (by rw [h3, modL_length, D.hlen, if_pos (by omega)]))
          have hl0' : ((ml.length : Int) == 0) = false := by rw [beq_eq_false_iff_ne]; omega
          clear hl0
          go_enter Try.func57, Try.ntmps57
          go_wp2_with (first | (go_at_call 58; refine (hO _).out.mono ?_; rintro e w1 ⟨rfl, rfl⟩) | (go_at_call 69; refine (hI _).out.mono ?_; rw [hpr.out]; rintro e w1 ⟨rfl, rfl⟩))
          go_ret
          exact ⟨ret_bool hv.out.symm, (Below.refl _ _).alloc (Nat.le_refl _) _⟩
      · have hm' : ((m : Int) == 1) = false := by rw [beq_eq_false_iff_ne]; omega
        by_cases hlm : ml.length = m
        · have hlm' : ((ml.length : Int) != (m : Int)) = false := by simp [hlm]
          have hlm2 : m ≤ ml.length := by omega
          have hlm3 : ml.length ≤ m := by omega
          have hlmH := Lib.hid hlm
          clear hlm
          go_enter Try.func57, Try.ntmps57
          go_wp2_with (first | (go_at_call 58; refine (hO _).out.mono ?_; rintro e w1 ⟨rfl, rfl⟩) | (go_at_call 69; refine (hI _).out.mono ?_; rw [hpr.out]; rintro e w1 ⟨rfl, rfl⟩))
          go_loop [33, 4] (fun i _ => ∃ k : Nat, k ≤ ml.length ∧ i = .int .i64 k ∧ Hid (∀ j, j < k → 0 ≤ ml[j]?.getD 0 ∧ ml[j]?.getD 0 < p)) (fun i _ => ml.length - (intOf i).toNat)
          case atStart => exact ⟨0, by omega, rfl, fun j hj => by omega⟩
          case round =>
            obtain ⟨k, hk, rfl, hall⟩ := hrel
            by_cases hlt : k < ml.length
            · obtain ⟨b, off, rfl, hb, hc⟩ := hr.at_ hlt
              obtain ⟨x, hx⟩ : ∃ x, x = ml[k]?.getD 0 := ⟨_, rfl⟩
              rw [← hx] at hc
              have hc2 := (((Below.refl w.heap.size w).alloc (Nat.le_refl _) (.cells #[.int .i64 p, .int .i64 m, .slice (some ⟨b, off, none⟩) ml.length c] 24)).cell (p := ⟨b, off + k, none⟩) hb).trans hc
              by_cases hx1 : x < 0
              · have hv := Lib.hid (validB_false (P := p) (M := m) (ml := ml) fun ⟨D, _, _, h3⟩ => by have := (modL_bd D k).1; rw [← h3, ← hx] at this; omega)
                clear hx hc hr
                go_wp2_with (fail)
                go_ret
                exact ⟨ret_bool hv.out.symm, (Below.refl _ _).alloc (Nat.le_refl _) _⟩
              · by_cases hx2 : x < p
                · have hall2 : Hid (∀ j, j < k + 1 → 0 ≤ ml[j]?.getD 0 ∧ ml[j]?.getD 0 < p) := fun j hj => by
                    by_cases e : j = k
                    · subst e; rw [← hx]; omega
                    · exact hall.out j (by omega)
                  clear hx hc hr hall
                  go_wp2_with (fail)
                  go_round
                  case rel => exact ⟨k + 1, by omega, by go_num, hall2⟩
                  case measure => simp [intOf]; omega
                · have hv := Lib.hid (validB_false (P := p) (M := m) (ml := ml) fun ⟨D, h1, _, h3⟩ => by have := (modL_bd D k).2; rw [← h3, ← hx] at this; omega)
                  clear hx hc hr
                  go_wp2_with (fail)
                  go_ret
                  exact ⟨ret_bool hv.out.symm, (Below.refl _ _).alloc (Nat.le_refl _) _⟩
            · have hv := Lib.hid (validB_true (Valid.mk' (ml := ml) hpp hm1 hm8 hq3 (by rw [if_neg hm]; exact hlmH.out) (fun j hj => hall.out j (by omega))))
              go_wp2_with (fail)
              go_ret
              exact ⟨ret_bool hv.out.symm, (Below.refl _ _).alloc (Nat.le_refl _) _⟩
        · have hlm' : ((ml.length : Int) != (m : Int)) = true := by rw [bne_iff_ne]; omega
          have hv := Lib.hid (validB_false (P := p) (M := m) (ml := ml) fun ⟨D, _, h2, h3⟩ => hlm (by rw [h3, modL_length, D.hlen, if_neg (by omega)]; omega))
          clear hlm
          go_enter Try.func57, Try.ntmps57
          go_wp2_with (first | (go_at_call 58; refine (hO _).out.mono ?_; rintro e w1 ⟨rfl, rfl⟩) | (go_at_call 69; refine (hI _).out.mono ?_; rw [hpr.out]; rintro e w1 ⟨rfl, rfl⟩))
          go_ret
          exact ⟨ret_bool hv.out.symm, (Below.refl _ _).alloc (Nat.le_refl _) _⟩
    · have hv := Lib.hid (validB_false (P := p) (M := m) (ml := ml) fun ⟨D, h1, _, _⟩ => hpr ((noDiv_prime hp2).2 (by rw [show p = D.p by omega]; exact D.hp)))
      have hpr : Hid (noDiv p (p - 2) = false) := by unfold Hid; simpa using hpr
      go_enter Try.func57, Try.ntmps57
      go_wp2_with (first | (go_at_call 58; refine (hO _).out.mono ?_; rintro e w1 ⟨rfl, rfl⟩) | (go_at_call 69; refine (hI _).out.mono ?_; rw [hpr.out]; rintro e w1 ⟨rfl, rfl⟩))
      go_ret
      exact ⟨ret_bool hv.out.symm, (Below.refl _ _).alloc (Nat.le_refl _) _⟩
end Go.Proofs.Ytemanlkgfhmclaa

/-! The program's product of two residues -/
namespace Go.Proofs.Ytemanlkgfhmclaa
open Go.RowKit Cw

theorem digitsOf_ci (D : Desc) (u : R D) (w : World) : Calls Try.prog 72 #[.int .i64 (ci u), .int .i64 D.p, .int .i64 D.m] w fun e w' =>
    ∃ g, e = .returned (.slice (some ⟨g, 0, none⟩) D.m D.m) ∧ w.heap.size ≤ g ∧ IB w' g (dl u) ∧ Below w.heap.size w w' := by
  have hp0 := D.p2; have hp1 := D.p256; have hp2 := D.m8
  have hl := ci_le u
  have hy := ci_toNat u
  have h := digitsOf_any (rcode u) D.p D.m w (by omega) (by omega) (by omega) (by have := rcode_lt u; have := D.q256; omega)
  rw [show lst D.m (dgi D.p (rcode u)) = dl u from lst_congr fun i hi => by unfold dgi; rw [di_rcode _ hi]] at h
  refine h.mono ?_
  rintro e w' ⟨g, rfl, h1, h2, h3⟩
  have hl : (dl u).length = D.m := lst_length _ _
  rw [hl]
  exact ⟨g, rfl, h1, h2, h3⟩

/-- The list shifted by one place. -/
def shl {D : Desc} (h : R D) : List Int := lst D.m fun j => if j = 0 then 0 else (di h (j - 1) : Nat)
/-- One step of Horner's rule. -/
def hstep {D : Desc} (h u : R D) (b : Nat) : R D := T h + sc (zp D.p b) * u
theorem hstep_di {D : Desc} (h u : R D) (b : Nat) {j : Nat} (hj : j < D.m) :
    di (hstep h u b) j = ((if j = 0 then 0 else di h (j - 1)) + (D.p - di h (D.m - 1)) * D.mod.getD j 0 + b * di u j) % D.p := by
  have hlt := di_lt h (D.m - 1)
  rw [← zp_val (p := D.p)]
  unfold di hstep
  congr 1
  show (T h).v j + (sc (zp D.p b) * u).v j = _
  rw [sc_mul_v _ _ hj, T_v hj, zp_add, zp_add, zp_mul, zp_mul, zp_neg (Nat.le_of_lt (Zp.lt _)), zp_of_val, zp_of_val]
  congr 1
  rw [sub_d, neg_mul]
  congr 1
  by_cases e : j = 0
  · rw [if_pos e, if_pos e]; rfl
  · rw [if_neg e, if_neg e, zp_of_val]
/-- Horner's values, from the top. -/
def hor {D : Desc} (u v : R D) : Nat → R D
  | 0 => 0
  | k+1 => hstep (hor u v k) u (di v (D.m - 1 - k))
theorem hor_eq {D : Desc} (u v : R D) : ∀ k, k ≤ D.m → hor u v k * pw (Xc D) (D.m - k) + u * ev D (di v) (D.m - k) = u * v
  | 0, _ => by rw [Nat.sub_zero, ev_digits]; show 0 * _ + _ = _; rw [zero_mul, zero_add]
  | k+1, hk => by
    have ih := hor_eq u v k (by omega)
    obtain ⟨t, ht⟩ : ∃ t, D.m - k = t + 1 := ⟨D.m - k - 1, by omega⟩
    rw [ht, ev_succ, pw_succ] at ih
    rw [show D.m - (k + 1) = t by omega, ← ih]
    show (T (hor u v k) + sc (zp D.p (di v (D.m - 1 - k))) * u) * pw (Xc D) t + _ = _
    rw [show D.m - 1 - k = t by omega, T_eq, add_mul, mul_add]
    show hor u v k * Xc D * pw (Xc D) t + _ + _ = _
    ac_rfl
theorem hor_full {D : Desc} (u v : R D) : hor u v D.m = u * v := by
  have h := hor_eq u v D.m (Nat.le_refl _)
  rw [Nat.sub_self, pw_zero, mul_one] at h
  show hor u v D.m = u * v
  rw [← h]
  show _ = _ + u * rsum 0 _
  rw [rsum_zero, mul_zero, add_zero]

structure MuSt (D : Desc) (u v : R D) (A : Option Addr) (n c g1 g2 g3 : Nat) (w : World) (l : List Int) (wr : World) : Prop where
  i1 : IB wr g1 (dl u)
  i2 : IB wr g2 (dl v)
  i3 : IB wr g3 l
  bw : Below w.heap.size w wr
  bx : wr.cell? ⟨w.heap.size, 0, none⟩ = some (.int .i64 D.p) ∧ wr.cell? ⟨w.heap.size, 1, none⟩ = some (.int .i64 D.m) ∧ wr.cell? ⟨w.heap.size, 2, none⟩ = some (.slice A n c)
theorem MuSt.set_ {D : Desc} {u v : R D} {A : Option Addr} {n c g1 g2 g3 : Nat} {w wr : World} {l : List Int} (h : MuSt D u v A n c g1 g2 g3 w l wr)
    (h1 : w.heap.size < g1) (h2 : g1 < g2) (h3 : g2 < g3) (k : Nat) (z : Int) : MuSt D u v A n c g1 g2 g3 w (l.set k z) (wr.setCell ⟨g3, k, none⟩ (.int .i64 z)) where
  i1 := h.i1.far (p := ⟨g3, k, none⟩) (by show g1 ≠ g3; omega) _
  i2 := h.i2.far (p := ⟨g3, k, none⟩) (by show g2 ≠ g3; omega) _
  i3 := h.i3.set_ k z
  bw := h.bw.setCell (p := ⟨g3, k, none⟩) (by show w.heap.size ≤ g3; omega) _
  bx := keep3 (B := w.heap.size + 1) ((Below.refl _ _).setCell (p := ⟨g3, k, none⟩) (by show w.heap.size + 1 ≤ g3; omega) _) (by omega) h.bx
theorem MuSt.drew {D : Desc} {u v : R D} {A : Option Addr} {n c g1 g2 g3 : Nat} {w wr : World} {l : List Int} (h : MuSt D u v A n c g1 g2 g3 w l wr) : MuSt D u v A n c g1 g2 g3 w l wr.drew :=
  ⟨h.i1, h.i2, h.i3, h.bw.drew, h.bx⟩

theorem sizeInt : (Try.prog.info? 3).map (·.size) = some 1 := by kernel_rfl
theorem copy_len {D : Desc} (h : R D) : (((dl h).take (D.m - 1)).map (Value.int .i64)).length = Nat.min (D.m - 1) (D.m - 1) := by
  rw [List.length_map, List.length_take, show (dl h).length = D.m from lst_length _ _]
  show min (D.m - 1) D.m = min (D.m - 1) (D.m - 1)
  omega
theorem copy_fit {D : Desc} (h : R D) : 1 + (((dl h).take (D.m - 1)).map (Value.int .i64)).length ≤ ((dl h).map (Value.int .i64)).length := by
  have := D.m1
  rw [List.length_map, List.length_take, List.length_map, show (dl h).length = D.m from lst_length _ _]; omega
theorem copy_src {D : Desc} (h : R D) {w : World} {g : Nat} (hi : IB w g (dl h)) : 0 < (((dl h).take (D.m - 1)).map (Value.int .i64)).length →
    some (⟨g, 1, none⟩ : Addr) = some ⟨g, 1, none⟩ ∧ ∃ ad, some (⟨g, 0, none⟩ : Addr) = some ad ∧ ∀ j v, (((dl h).take (D.m - 1)).map (Value.int .i64))[j]? = some v → w.cell? (ad.add j) = some v := fun _ => by
  refine ⟨rfl, _, rfl, fun j v hv => ?_⟩
  rw [List.getElem?_map, List.getElem?_take] at hv
  by_cases hj : j < D.m - 1
  · rw [if_pos hj] at hv
    have hl : j < (dl h).length := by rw [show (dl h).length = D.m from lst_length _ _]; omega
    have hc := hi.cell hl
    rw [List.getElem?_eq_getElem hl] at hv hc
    have hv2 : Value.int .i64 ((dl h)[j]) = v := by simpa using hv
    rw [← hv2]
    have e : (⟨g, 0, none⟩ : Addr).add j = ⟨g, j, none⟩ := by unfold Addr.add; split <;> simp_all
    rw [e, hc]; rfl
  · rw [if_neg hj] at hv; simp at hv
theorem copy_splice {D : Desc} (h : R D) : splice ((dl h).map (Value.int .i64)) 1 (((dl h).take (D.m - 1)).map (Value.int .i64)) =
    (lst D.m fun j => if j = 0 then (di h 0 : Nat) else (di h (j - 1) : Nat)).map (Value.int .i64) := by
  have hm := D.m1
  unfold splice dl
  rw [lst_take _ (by omega), ← List.map_take, ← List.map_drop, ← List.map_append, ← List.map_append]
  congr 1
  apply List.ext_getElem
  · simp [lst]; omega
  · intro i h1 h2
    have hi : i < D.m := by simpa [lst] using h2
    simp only [lst, List.getElem_append, List.getElem_map, List.getElem_range, List.length_take, List.length_map, List.length_range, List.getElem_take, List.getElem_drop]
    by_cases e : i = 0
    · subst e; simp [hm]
    · rw [if_neg e]
      have h3 : i - min 1 D.m < D.m - 1 := by omega
      have h4 : min 1 D.m = 1 := by omega
      have h5 : i < min 1 D.m + (D.m - 1) := by omega
      have h6 : ¬ i < min 1 D.m := by omega
      simp only [h4]
      rw [dif_neg (by omega), dif_pos (by omega)]
theorem MuSt.copied {D : Desc} {u v : R D} {A : Option Addr} {n c g1 g2 g3 : Nat} {w wr w' : World} {l l' : List Int} (h : MuSt D u v A n c g1 g2 g3 w l wr)
    (h1 : w.heap.size < g1) (h2 : g1 < g2) (h3 : g2 < g3) (hb : Below g3 wr w') (hi : IB w' g3 l') : MuSt D u v A n c g1 g2 g3 w l' w' where
  i1 := h.i1.below hb (by omega)
  i2 := h.i2.below hb h3
  i3 := hi
  bw := h.bw.trans (hb.mono (by omega))
  bx := keep3 hb (by omega) h.bx

set_option maxRecDepth 100000 in
set_option maxHeartbeats 4000000 in
theorem multiply_two (D : Desc) (hm : 2 ≤ D.m) (u v : R D) (A : Option Addr) (c : Nat) (w : World) (hr : Rd w w.heap.size A (modL D)) :
    Calls Try.prog 71 #[.agg #[.int .i64 D.p, .int .i64 D.m, .slice A D.mod.length c], .int .i64 (ci u), .int .i64 (ci v)] w fun e w' =>
      e = .returned (.int .i64 (ci (u * v))) ∧ Below w.heap.size w w' := by
  have hp0 := D.p2; have hp1 := D.p256; have hp2 := D.m8
  have hml : D.mod.length = D.m := by have := D.hlen; rw [if_neg (by omega)] at this; exact this
  have hml1 : D.mod.length ≤ D.m := by omega
  have hml2 : D.m ≤ D.mod.length := by omega
  clear hml
  have hDx := fun w => Lib.hid (digitsOf_ci D u w)
  have hDy := fun w => Lib.hid (digitsOf_ci D v w)
  have hmk := mk_ints D.m (by omega)
  have k0 := Lib.hid (alloc3 w (.int .i64 D.p) (.int .i64 D.m) (.slice A D.mod.length c) 24)
  have hl1 : (dl u).length = D.m := lst_length _ _
  have hl2 : (dl v).length = D.m := lst_length _ _
  have hl1H := Lib.hid hl1
  have hl2H := Lib.hid hl2
  clear hl1 hl2
  go_enter Try.func71, Try.ntmps71
  go_wp2_with (fail)
  go_region_held3 (fun w' => w'.cell? ⟨w.heap.size, 0, none⟩ = some (.int .i64 D.p) ∧ w'.cell? ⟨w.heap.size, 1, none⟩ = some (.int .i64 D.m) ∧ w'.cell? ⟨w.heap.size, 2, none⟩ = some (.slice A D.mod.length c)) (first | exact k0.out | exact k1.out | exact k2.out)
    (first
      | (go_at_call 72; refine (hDx _).out.mono ?_; clear hDx; rintro e w1 ⟨g1, rfl, hg1, hib1, hb1⟩; have k1 := Lib.hid (keep3 (b := w.heap.size) hb1 (by simp) k0.out); have hs1 := hb1.size; simp only [World.drew, World.size_alloc] at hs1 hg1)
      | (go_at_call 72; refine (hDy _).out.mono ?_; rintro e w2 ⟨g2, rfl, hg2, hib2, hb2⟩; have k2 := Lib.hid (keep3 (b := w.heap.size) hb2 (by omega) k1.out)))
  have hs2 := hb2.size
  have hg1l := hib1.lt
  have hg2l := hib2.lt
  have hib1' := hib1.below hb2 (by omega)
  have hbw2 : Below w.heap.size w w2 := ((((Below.refl _ _).alloc (Nat.le_refl _) _).drew).trans (hb1.mono (by simp))).trans (hb2.mono (by omega))
  have hb0 : w.heap.size < g1 := by omega
  have hne : g1 < g2 := by omega
  have hst : Hid (MuSt D u v A D.mod.length c g1 g2 w2.heap.size w (dl (hor u v 0)) (w2.alloc (.cells (Array.replicate D.m (Value.int .i64 0)) 3))) :=
    ⟨hib1'.alloc _, hib2.alloc _, by
      have := IB.newz w2 D.m; rw [lst_zero] at this
      have e : dl (hor u v 0) = lst D.m fun _ => 0 := lst_congr fun i hi => rfl
      rw [e]; exact this, hbw2.alloc (by omega) _, keep3 (B := w2.heap.size) ((Below.refl _ _).alloc (Nat.le_refl _) _) (by omega) k2.out⟩
  have hne2 : g2 < w2.heap.size := hg2l
  have kc := k2.out
  obtain ⟨kc0, kc1, kc2⟩ := kc
  have hlt0 : w.heap.size < w2.heap.size := by omega
  clear hib1 hb1 hb2 k1 k0 hib2 hib1' hbw2
  go_wp2_with (fail)
  clear kc0 kc1 kc2 k2 hmk
  generalize w2.heap.size = g3 at *
  go_loopw [10, 11, 12, 13, 54] (fun i _ _ _ _ wr => ∃ t k : Nat, t ≤ D.m ∧ i = .int .i64 ((t : Int) - 1) ∧ Hid (t + k = D.m) ∧ Hid (MuSt D u v A D.mod.length c g1 g2 g3 w (dl (hor u v k)) wr)) (fun i _ _ _ _ _ => (intOf i + 1).toNat)
  case atStart => exact ⟨D.m, 0, by omega, rfl, by simp [Hid], hst⟩
  case round =>
    obtain ⟨t, k, ht, rfl, htk, hms⟩ := hrel
    obtain ⟨kc0, kc1, kc2⟩ := hms.out.bx
    cases t with
    | zero =>
      have hfin : Hid (hor u v k = u * v) := by
        have : k = D.m := by have := htk.out; omega
        unfold Hid; rw [this, hor_full]
      have hV := Lib.hid (valueOf_any D.p D.m (di (u * v)) (some ⟨g3, 0, none⟩) D.m wr (by omega) hp1 hp2 (fun i _ => di_lt _ i) D.hq
        (by have h4 := hms.out.i3.rd; rw [hfin.out] at h4; exact h4))
      have hbw := hms.out.bw
      clear hms hfin htk
      go_wp2_with (fail)
      refine hV.out.mono ?_
      rintro e w4 ⟨rfl, rfl⟩
      go_wp2_with (fail)
      go_ret
      exact ⟨rfl, hbw⟩
    | succ s =>
      rw [show ((s + 1 : Nat) : Int) - 1 = (s : Int) by omega]
      obtain ⟨h, hh⟩ : ∃ h, h = hor u v k := ⟨_, rfl⟩
      rw [← hh] at hms
      replace hh := Lib.hid hh
      have hsm : s < D.m := by omega
      obtain ⟨tp, htp⟩ : ∃ tp, tp = di h (D.m - 1) := ⟨_, rfl⟩
      have htpp : tp < D.p := by rw [htp]; exact di_lt _ _
      obtain ⟨bs, hbs⟩ : ∃ bs, bs = di v s := ⟨_, rfl⟩
      have hbsp : bs < D.p := by rw [hbs]; exact di_lt _ _
      have hct := hms.out.i3.cell (i := D.m - 1) (by rw [show (dl h).length = D.m from lst_length _ _]; omega)
      unfold dl at hct
      rw [lst_get _ (by omega), ← htp] at hct
      replace htp := Lib.hid htp
      replace hbs := Lib.hid hbs
      have hm0 : D.m - 1 < D.m := by omega
      go_wp2_with (fail)
      have hd1 : (1 : Int) ≤ (D.m : Int) := by omega
      have hd2 : (0 : Int) ≤ (D.m : Int) - 1 := by omega
      have hd3 : (D.m : Int) - 1 ≤ (D.m : Int) := by omega
      have hd4 : ((D.m : Int) - 1).toNat = D.m - 1 := by omega
      have hd5 : ¬ D.m = 1 := by omega
      have e1 : IntKind.i64.wrap ((D.m : Int) - 1) = (D.m : Int) - 1 := IntWalk.i64_in _ (by omega)
      go_still_tail 7, (by kernel_rfl)
      change wpList _ _ _ _ _ wr.drew
      clear e1 hd4 hd5
      refine wpList_copy_splice rfl (.tmp 43) (.tmp 48) 22 22 rfl 3 Try.underlying22 sizeInt (some ⟨g3, 1, none⟩) (some ⟨g3, 0, none⟩) (D.m - 1) (D.m - 1) (D.m - 1) D.m rfl rfl g3 1 ((dl h).map (Value.int .i64)) 3 hms.out.drew.i3
        (((dl h).take (D.m - 1)).map (Value.int .i64)) (copy_len h) (copy_src h hms.out.drew.i3) (copy_fit h) (by intro x hx; obtain ⟨y, _, rfl⟩ := List.mem_map.1 hx; rfl) g3 wr.drew (Below.refl _ _) (Nat.le_refl _) ?_
      intro w4 hg4 hb4
      have hms4 := Lib.hid (hms.out.drew.copied hb0 hne hne2 hb4 (by have := hg4.out; rw [copy_splice] at this; exact this))
      clear hg4 hb4 hms kc0 kc1 kc2 hct
      obtain ⟨kc0, kc1, kc2⟩ := hms4.out.bx
      have hf := hms4.out.i3.frozen 0
      have hc0 := hms4.out.i3.cell (i := 0) (by rw [lst_length]; omega)
      have hms3 := Lib.hid (hms4.out.set_ hb0 hne hne2 0 0)
      replace hms3 : Hid (MuSt D u v A D.mod.length c g1 g2 g3 w (lst D.m (fun j => if j = 0 then 0 else (di h (j - 1) : Nat))) (w4.setCell ⟨g3, 0, none⟩ (.int .i64 0))) := by
        have h5 := hms3.out
        rw [lst_set] at h5
        rw [show (fun j => if j = 0 then (0 : Int) else ((di h (j - 1) : Nat) : Int)) = fun j => if j = 0 then (0 : Int) else if j = 0 then ((di h 0 : Nat) : Int) else ((di h (j - 1) : Nat) : Int) from funext fun j => by by_cases e : j = 0 <;> simp [e]]
        exact h5
      clear hms4
      have hm0 : 0 < D.m := by omega
      go_wp2_with (fail)
      clear hf hc0 kc0 kc1 kc2
      have hmb : decide ((1 : Int) < (D.m : Int)) = true := decide_eq_true (by omega)
      go_loopw [12, 13, 54] (fun _ _ i wr => ∃ l : Nat, l ≤ D.m ∧ i = .int .i64 l ∧ Hid (MuSt D u v A D.mod.length c g1 g2 g3 w (mix D.m l (fun j => (di (hstep h u bs) j : Nat)) (fun j => if j = 0 then 0 else (di h (j - 1) : Nat))) wr)) (fun _ _ i _ => D.m - (intOf i).toNat)
      case atStart => exact ⟨0, by omega, rfl, by rw [mix_zero]; exact hms3⟩
      case round =>
        clear hms3
        obtain ⟨l, hl, rfl, hms⟩ := hrel
        obtain ⟨kc0, kc1, kc2⟩ := hms.out.bx
        by_cases hlt : l < D.m
        · obtain ⟨z, hz⟩ : ∃ z : Nat, z = if l = 0 then 0 else di h (l - 1) := ⟨_, rfl⟩
          have hzp : z < D.p := by
            rw [hz]; by_cases e : l = 0
            · rw [if_pos e]; omega
            · rw [if_neg e]; exact di_lt _ _
          have hc3 := hms.out.i3.cell (i := l) (by rw [mix_length]; exact hlt)
          rw [mix_get_at _ _ hlt, show (if l = 0 then (0 : Int) else (di h (l - 1) : Nat)) = (z : Int) by rw [hz]; by_cases e : l = 0 <;> simp [e]] at hc3
          have hc1 := hms.out.i1.cell (i := l) (by rw [hl1H.out]; exact hlt)
          unfold dl at hc1
          rw [lst_get _ hlt] at hc1
          have hc2 := hms.out.i2.cell (i := s) (by rw [hl2H.out]; exact hsm)
          unfold dl at hc2
          rw [lst_get _ hsm, ← hbs.out] at hc2
          have hf := hms.out.i3.frozen l
          obtain ⟨al, hal⟩ : ∃ al, al = di u l := ⟨_, rfl⟩
          rw [← hal] at hc1
          have halp : al < D.p := by rw [hal]; exact di_lt _ _
          obtain ⟨b, off, rfl, hb, hcm⟩ := hr.at_ (k := l) (by rw [modL_length]; omega)
          rw [modL_get D (by omega)] at hcm
          have hcm2 := (hms.out.bw.cell (p := ⟨b, off + l, none⟩) hb).trans hcm
          clear hcm
          obtain ⟨ml, hmle⟩ : ∃ ml, ml = D.mod.getD l 0 := ⟨_, rfl⟩
          have hmlp : ml < D.p := by rw [hmle]; exact D.hmod l
          rw [← hmle] at hcm2
          have hmll : l < D.mod.length := by omega
          obtain ⟨hm1a, hm1b⟩ : (0 : Int) ≤ ((D.p : Int) - (tp : Int)) * (ml : Int) ∧ ((D.p : Int) - (tp : Int)) * (ml : Int) ≤ 65536 := by
            have h1 := Nat.mul_le_mul (Nat.le_trans (Nat.sub_le D.p tp) hp1) (Nat.le_trans (Nat.le_of_lt hmlp) hp1)
            have h2 : (((D.p - tp) * ml : Nat) : Int) = ((D.p : Int) - (tp : Int)) * (ml : Int) := by rw [Int.natCast_mul, Int.natCast_sub (Nat.le_of_lt htpp)]
            omega
          obtain ⟨hm2a, hm2b⟩ : (0 : Int) ≤ (bs : Int) * (al : Int) ∧ (bs : Int) * (al : Int) ≤ 65536 := by
            have h1 := Nat.mul_le_mul (Nat.le_trans (Nat.le_of_lt hbsp) hp1) (Nat.le_trans (Nat.le_of_lt halp) hp1)
            have h2 : ((bs * al : Nat) : Int) = (bs : Int) * (al : Int) := by simp
            omega
          have hval : ((di (hstep h u bs) l : Nat) : Int) = ((z : Int) + ((D.p : Int) - (tp : Int)) * (ml : Int) + (bs : Int) * (al : Int)) % (D.p : Int) := by
            rw [hstep_di _ _ _ hlt, ← hz, ← htp.out, ← hal, ← hmle]
            rw [Int.natCast_emod, Int.natCast_add, Int.natCast_add, Int.natCast_mul, Int.natCast_mul, Int.natCast_sub (Nat.le_of_lt htpp)]
          have hset := (hms.out.set_ hb0 hne hne2 l ((di (hstep h u bs) l : Nat) : Int)).drew
          rw [mix_set D.m l (fun j => ((di (hstep h u bs) j : Nat) : Int)), hval] at hset
          have hset := Lib.hid hset
          clear hms hz hal hval hmle
          have hl0 : (l : Int) < (D.m : Int) := by omega
          have hs0 : (s : Int) < (D.m : Int) := by omega
          have hpz : ¬ D.p = 0 := by omega
          have hX0 : 0 ≤ ((z : Int) + ((D.p : Int) - (tp : Int)) * (ml : Int) + (bs : Int) * (al : Int)) := by omega
          have hXm := Int.emod_lt_of_pos ((z : Int) + ((D.p : Int) - (tp : Int)) * (ml : Int) + (bs : Int) * (al : Int)) (show (0 : Int) < D.p by omega)
          have hXn := Int.emod_nonneg ((z : Int) + ((D.p : Int) - (tp : Int)) * (ml : Int) + (bs : Int) * (al : Int)) (show (D.p : Int) ≠ 0 by omega)
          have e1 : IntKind.i64.wrap ((D.p : Int) - (tp : Int)) = (D.p : Int) - (tp : Int) := IntWalk.i64_in _ (by omega)
          have e2 : IntKind.i64.wrap (((D.p : Int) - (tp : Int)) * (ml : Int)) = ((D.p : Int) - (tp : Int)) * (ml : Int) := IntWalk.i64_in _ (by omega)
          have e3 : IntKind.i64.wrap ((z : Int) + ((D.p : Int) - (tp : Int)) * (ml : Int)) = (z : Int) + ((D.p : Int) - (tp : Int)) * (ml : Int) := IntWalk.i64_in _ (by omega)
          have e4 : IntKind.i64.wrap ((bs : Int) * (al : Int)) = (bs : Int) * (al : Int) := IntWalk.i64_in _ (by omega)
          have e5 : IntKind.i64.wrap ((z : Int) + ((D.p : Int) - (tp : Int)) * (ml : Int) + (bs : Int) * (al : Int)) = ((z : Int) + ((D.p : Int) - (tp : Int)) * (ml : Int) + (bs : Int) * (al : Int)) := IntWalk.i64_in _ (by omega)
          have e6 : ((z : Int) + ((D.p : Int) - (tp : Int)) * (ml : Int) + (bs : Int) * (al : Int)).tmod (D.p : Int) = ((z : Int) + ((D.p : Int) - (tp : Int)) * (ml : Int) + (bs : Int) * (al : Int)) % (D.p : Int) := Int.tmod_eq_emod_of_nonneg hX0
          go_wp2_with (fail)
          go_still_tail 27, (by kernel_rfl)
          change wpList _ _ _ _ _ wr.drew
          clear e1 e2 e3 e4 e5 e6 hpz
          go_wp2_with (fail)
          go_roundw
          case rel => exact ⟨l + 1, by omega, by go_num, hset⟩
          case measure => simp [intOf]; omega
        · obtain rfl : l = D.m := by omega
          go_wp2_with (fail)
          go_roundw
          case rel =>
            refine ⟨s, k + 1, by omega, by first | rfl | go_num | (congr 1; omega), by have := htk.out; unfold Hid; omega, ?_⟩
            have h5 := hms.out
            rw [mix_full] at h5
            rw [hh.out, hbs.out] at h5
            show MuSt D u v A D.mod.length c g1 g2 g3 w (dl (hstep (hor u v k) u (di v (D.m - 1 - k)))) wr
            rw [show D.m - 1 - k = s by have := htk.out; omega]
            exact h5
          case measure => simp [intOf]
end Go.Proofs.Ytemanlkgfhmclaa

/-! The program's product of two residues at M = 1, and in general -/
namespace Go.Proofs.Ytemanlkgfhmclaa
open Go.RowKit Cw

theorem ci_one_digit (D : Desc) (hm : D.m = 1) (u : R D) : ci u = (di u 0 : Nat) := by
  unfold ci rcode
  rw [hm]
  show ((0 + di u 0 * D.p ^ 0 : Nat) : Int) = _
  rw [Nat.pow_zero, Nat.mul_one, Nat.zero_add]
theorem dl_one (D : Desc) (hm : D.m = 1) (u : R D) : dl u = [ci u] := by
  unfold dl; rw [hm, ci_one_digit D hm]; rfl
theorem mul_one_digit (D : Desc) (hm : D.m = 1) (u v : R D) : ci (u * v) = (ci v * ci u) % (D.p : Int) := by
  rw [ci_one_digit D hm, ci_one_digit D hm, ci_one_digit D hm]
  have e : di (u * v) 0 = (di u 0 * di v 0) % D.p := by
    unfold di
    rw [mul_v _ _ (by omega), hm, rsum_succ, rsum_zero, zero_add]; rfl
  rw [e, Nat.mul_comm, Int.natCast_emod, Int.natCast_mul]
theorem digitsOf_one (D : Desc) (hm : D.m = 1) (u : R D) (w : World) : Calls Try.prog 72 #[.int .i64 (ci u), .int .i64 D.p, .int .i64 1] w fun e w' =>
    ∃ g, e = .returned (.slice (some ⟨g, 0, none⟩) 1 1) ∧ w.heap.size ≤ g ∧ IB w' g [ci u] ∧ Below w.heap.size w w' := by
  have h := digitsOf_ci D u w
  rw [hm, dl_one D hm] at h
  exact h
theorem valueOf_one (D : Desc) (hm : D.m = 1) (u : R D) (A : Option Addr) (w : World) (hr : Rd w w.heap.size A [ci u]) :
    Calls Try.prog 73 #[.slice A 1 1, .int .i64 D.p] w fun e w' => e = .returned (.int .i64 (ci u)) ∧ w = w' := by
  have hp0 := D.p2
  have h := valueOf_any D.p D.m (di u) A 1 w (by omega) D.p256 D.m8 (fun i _ => di_lt _ i) D.hq (by rw [← dl_one D hm] at hr; exact hr)
  rw [show ((nval D.p (di u) D.m : Nat) : Int) = ci u from rfl, hm] at h
  exact h

structure M1St (D : Desc) (u v : R D) (A : Option Addr) (n c g1 g2 g3 : Nat) (w : World) (l : List Int) (wr : World) : Prop where
  i1 : IB wr g1 [ci u]
  i2 : IB wr g2 [ci v]
  i3 : IB wr g3 l
  bw : Below w.heap.size w wr
  bx : wr.cell? ⟨w.heap.size, 0, none⟩ = some (.int .i64 D.p) ∧ wr.cell? ⟨w.heap.size, 1, none⟩ = some (.int .i64 1) ∧ wr.cell? ⟨w.heap.size, 2, none⟩ = some (.slice A n c)
theorem M1St.set_ {D : Desc} {u v : R D} {A : Option Addr} {n c g1 g2 g3 : Nat} {w wr : World} {l : List Int} (h : M1St D u v A n c g1 g2 g3 w l wr)
    (h1 : w.heap.size < g1) (h2 : g1 < g2) (h3 : g2 < g3) (k : Nat) (z : Int) : M1St D u v A n c g1 g2 g3 w (l.set k z) (wr.setCell ⟨g3, k, none⟩ (.int .i64 z)) where
  i1 := h.i1.far (p := ⟨g3, k, none⟩) (by show g1 ≠ g3; omega) _
  i2 := h.i2.far (p := ⟨g3, k, none⟩) (by show g2 ≠ g3; omega) _
  i3 := h.i3.set_ k z
  bw := h.bw.setCell (p := ⟨g3, k, none⟩) (by show w.heap.size ≤ g3; omega) _
  bx := keep3 (B := w.heap.size + 1) ((Below.refl _ _).setCell (p := ⟨g3, k, none⟩) (by show w.heap.size + 1 ≤ g3; omega) _) (by omega) h.bx
theorem M1St.drew {D : Desc} {u v : R D} {A : Option Addr} {n c g1 g2 g3 : Nat} {w wr : World} {l : List Int} (h : M1St D u v A n c g1 g2 g3 w l wr) : M1St D u v A n c g1 g2 g3 w l wr.drew :=
  ⟨h.i1, h.i2, h.i3, h.bw.drew, h.bx⟩

set_option maxRecDepth 100000 in
set_option maxHeartbeats 4000000 in
theorem multiply_one (D : Desc) (hm : D.m = 1) (u v : R D) (A : Option Addr) (n c : Nat) (w : World) :
    Calls Try.prog 71 #[.agg #[.int .i64 D.p, .int .i64 1, .slice A n c], .int .i64 (ci u), .int .i64 (ci v)] w fun e w' =>
      e = .returned (.int .i64 (ci (u * v))) ∧ Below w.heap.size w w' := by
  have hp0 := D.p2; have hp1 := D.p256
  have hDx := fun w => Lib.hid (digitsOf_one D hm u w)
  have hDy := fun w => Lib.hid (digitsOf_one D hm v w)
  have hV := fun A w hr => Lib.hid (valueOf_one D hm (u * v) A w hr)
  have hprod := Lib.hid (mul_one_digit D hm u v)
  have hu0 := ci_nonneg u; have hu1 := ci_le u
  have hv0 := ci_nonneg v; have hv1 := ci_le v
  have hmk : ∀ w : World, (Instr.makeSlice 22 (.int .i64 1) (.int .i64 1)).run Try.prog w =
    .ok (.slice (some ⟨w.heap.size, 0, none⟩) 1 1) (w.alloc (.cells #[Value.int .i64 0] 3)) := mk_ints 1 (by omega)
  clear hm
  have k0 := Lib.hid (alloc3 w (.int .i64 D.p) (.int .i64 1) (.slice A n c) 24)
  go_enter Try.func71, Try.ntmps71
  go_wp2_with (fail)
  go_region_held3 (fun w' => w'.cell? ⟨w.heap.size, 0, none⟩ = some (.int .i64 D.p) ∧ w'.cell? ⟨w.heap.size, 1, none⟩ = some (.int .i64 1) ∧ w'.cell? ⟨w.heap.size, 2, none⟩ = some (.slice A n c)) (first | exact k0.out | exact k1.out | exact k2.out)
    (first
      | (go_at_call 72; refine (hDx _).out.mono ?_; clear hDx; rintro e w1 ⟨g1, rfl, hg1, hib1, hb1⟩; have k1 := Lib.hid (keep3 (b := w.heap.size) hb1 (by simp) k0.out); have hs1 := hb1.size; simp only [World.drew, World.size_alloc] at hs1 hg1)
      | (go_at_call 72; refine (hDy _).out.mono ?_; rintro e w2 ⟨g2, rfl, hg2, hib2, hb2⟩; have k2 := Lib.hid (keep3 (b := w.heap.size) hb2 (by omega) k1.out)))
  have hs2 := hb2.size
  have hg1l := hib1.lt
  have hg2l := hib2.lt
  have hib1' := hib1.below hb2 (by omega)
  have hbw2 : Below w.heap.size w w2 := ((((Below.refl _ _).alloc (Nat.le_refl _) _).drew).trans (hb1.mono (by simp))).trans (hb2.mono (by omega))
  have hb0 : w.heap.size < g1 := by omega
  have hne : g1 < g2 := by omega
  have hst : Hid (M1St D u v A n c g1 g2 w2.heap.size w [0] (w2.alloc (.cells #[Value.int .i64 0] 3))) :=
    ⟨hib1'.alloc _, hib2.alloc _, IB.new w2 [0], hbw2.alloc (by omega) _, keep3 (B := w2.heap.size) ((Below.refl _ _).alloc (Nat.le_refl _) _) (by omega) k2.out⟩
  have hne2 : g2 < w2.heap.size := hg2l
  have kc := k2.out
  obtain ⟨kc0, kc1, kc2⟩ := kc
  have hlt0 : w.heap.size < w2.heap.size := by omega
  clear hib1 hb1 hb2 k1 k0 hib2 hib1' hbw2
  go_wp2_with (fail)
  clear kc0 kc1 kc2 k2 hmk
  generalize w2.heap.size = g3 at *
  generalize (w2.alloc (.cells #[Value.int .i64 0] 3)) = w3 at *
  obtain ⟨kc0, kc1, kc2⟩ := hst.out.bx
  have hc3 : w3.cell? ⟨g3, 0, none⟩ = some (.int .i64 0) := hst.out.i3.cell (i := 0) (by simp)
  have hc1 : w3.cell? ⟨g1, 0, none⟩ = some (.int .i64 (ci u)) := hst.out.i1.cell (i := 0) (by simp)
  have hc2 : w3.cell? ⟨g2, 0, none⟩ = some (.int .i64 (ci v)) := hst.out.i2.cell (i := 0) (by simp)
  refine wp_loop_rounds 2 ?_
  rw [rounds_succ]
  go_wp2_with (fail)
  have ew : IntKind.i64.wrap 0 = 0 := rfl
  go_still_tail 7, (by kernel_rfl)
  change wpList _ _ _ _ _ w3.drew
  clear ew
  refine wpList_copy_nothing rfl (.tmp 43) (.tmp 48) 22 22 rfl 3 Try.underlying22 sizeInt _ _ 0 _ 0 _ rfl rfl rfl ?_
  have hf := hst.out.i3.frozen 0
  have hst2 := Lib.hid (hst.out.set_ hb0 hne hne2 0 0).drew
  clear hst
  go_wp2_with (fail)
  clear kc0 kc1 kc2 hc1 hc2 hc3 hf
  generalize (w3.setCell ⟨g3, 0, none⟩ (.int .i64 0)).drew = w4 at *
  obtain ⟨kc0, kc1, kc2⟩ := hst2.out.bx
  have hc3 : w4.cell? ⟨g3, 0, none⟩ = some (.int .i64 0) := hst2.out.i3.cell (i := 0) (by simp)
  have hc1 : w4.cell? ⟨g1, 0, none⟩ = some (.int .i64 (ci u)) := hst2.out.i1.cell (i := 0) (by simp)
  have hc2 : w4.cell? ⟨g2, 0, none⟩ = some (.int .i64 (ci v)) := hst2.out.i2.cell (i := 0) (by simp)
  have hf := hst2.out.i3.frozen 0
  refine wp_loop_rounds 2 ?_
  rw [rounds_succ]
  go_wp2_with (fail)
  obtain ⟨hm2a, hm2b⟩ : (0 : Int) ≤ ci v * ci u ∧ ci v * ci u ≤ 65536 := by
    have h1 := Nat.mul_le_mul (show (ci v).toNat ≤ 256 by omega) (show (ci u).toNat ≤ 256 by omega)
    have h2 : (((ci v).toNat * (ci u).toNat : Nat) : Int) = ci v * ci u := by rw [Int.natCast_mul, Int.toNat_of_nonneg hv0, Int.toNat_of_nonneg hu0]
    omega
  have hset := Lib.hid (hst2.out.set_ hb0 hne hne2 0 (ci (u * v))).drew
  have hpz : ¬ D.p = 0 := by omega
  have e1 : IntKind.i64.wrap (D.p : Int) = (D.p : Int) := IntWalk.i64_in _ (by omega)
  have e2 : IntKind.i64.wrap (0 : Int) = 0 := rfl
  have e4 : IntKind.i64.wrap (ci v * ci u) = ci v * ci u := IntWalk.i64_in _ (by omega)
  have e6 : (ci v * ci u).tmod (D.p : Int) = ci v * ci u % (D.p : Int) := Int.tmod_eq_emod_of_nonneg hm2a
  go_still_tail 27, (by kernel_rfl)
  change wpList _ _ _ _ _ w4.drew
  clear e1 e2 e4 e6 hpz
  rw [hprod.out] at hset
  go_wp2_with (fail)
  generalize (w4.setCell ⟨g3, 0, none⟩ (.int .i64 (ci v * ci u % (D.p : Int)))).drew = w5 at *
  clear hst2 kc0 kc1 kc2 hc1 hc2 hc3 hf hm2a hm2b
  obtain ⟨kc0, kc1, kc2⟩ := hset.out.bx
  have hV2 := Lib.hid (hV (some ⟨g3, 0, none⟩) w5 (by have h4 := hset.out.i3.rd; simp only [List.set_cons_zero] at h4; rw [← hprod.out] at h4; exact h4)).out
  rw [rounds_succ]
  go_wp2_with (fail)
  rw [rounds_succ]
  go_wp2_with (fail)
  refine hV2.out.mono ?_
  rintro e w6 ⟨rfl, rfl⟩
  go_wp2_with (fail)
  go_ret
  exact ⟨rfl, hset.out.bw⟩

theorem multiply_any (D : Desc) (u v : R D) (A : Option Addr) (c : Nat) (w : World) (hr : Rd w w.heap.size A (modL D)) :
    Calls Try.prog 71 #[.agg #[.int .i64 D.p, .int .i64 D.m, .slice A D.mod.length c], .int .i64 (ci u), .int .i64 (ci v)] w fun e w' =>
      e = .returned (.int .i64 (ci (u * v))) ∧ Below w.heap.size w w' := by
  by_cases hm : D.m = 1
  · have h := multiply_one D hm u v A D.mod.length c w
    rw [hm]; exact h
  · exact multiply_two D (by have := D.m1; omega) u v A c w hr
end Go.Proofs.Ytemanlkgfhmclaa

/-! The program's powers of a residue and its search for a primitive element -/
namespace Go.Proofs.Ytemanlkgfhmclaa
open Go.RowKit Cw

/-- Block g holds just the n marks f. -/
def BB (w : World) (g n : Nat) (f : Nat → Bool) : Prop := w.heap[g]? = some (.cells ((List.range n).map fun i => Value.bool (f i)).toArray 4 (0, 0))
section
variable {w w' : World} {g n : Nat} {f : Nat → Bool}
theorem BB.lt (h : BB w g n f) : g < w.heap.size := by
  rcases Nat.lt_or_ge g w.heap.size with hlt | hge
  · exact hlt
  · unfold BB at h; rw [Array.getElem?_eq_none hge] at h; cases h
theorem BB.cell (h : BB w g n f) {i : Nat} (hi : i < n) : w.cell? ⟨g, i, none⟩ = some (.bool (f i)) := by
  rw [cell_of_row w g i _ _ (0, 0) h]
  simp [hi]
theorem BB.frozen (h : BB w g n f) (i : Nat) : w.frozen? ⟨g, i, none⟩ = false := by
  unfold BB at h
  simp [World.frozen?, h]
theorem BB.set_ (h : BB w g n f) (k : Nat) (b : Bool) : BB (w.setCell ⟨g, k, none⟩ (.bool b)) g n (fun i => if i = k then b else f i) := by
  unfold BB at h ⊢
  simp only [World.setCell, Array.getElem?_modify, h]
  simp
  apply List.ext_getElem
  · simp
  · intro i h1 h2
    simp only [List.getElem_set, List.getElem_map, List.getElem_range]
    by_cases e : k = i
    · subst e; simp
    · rw [if_neg e, if_neg (fun e' => e e'.symm)]
theorem BB.below {B : Nat} (h : BB w g n f) (hb : Below B w w') (hg : g < B) : BB w' g n f := (hb.block g hg).trans h
theorem BB.kept {row : Option Nat} (h : BB w g n f) (hg : w.grownBy w' row) (hne : row ≠ some g) : BB w' g n f := (hg.block g h.lt (fun e => hne e.symm)).trans h
theorem BB.newz (w : World) (n : Nat) : BB (w.alloc (.cells (Array.replicate n (Value.bool false)) 4)) w.heap.size n (fun _ => false) := by
  have h := heap_alloc_new w (.cells (Array.replicate n (Value.bool false)) 4)
  unfold BB
  rw [h]
  have e : ((List.range n).map fun _ => Value.bool false) = List.replicate n (Value.bool false) := by
    apply List.ext_getElem
    · simp
    · intro i h1 h2; simp
  rw [e]; simp
theorem BB.newz1 (w : World) (n : Nat) : BB (w.alloc (.cells ((Array.replicate n (Value.bool false)).setIfInBounds 1 (Value.bool true)) 4)) w.heap.size n (fun i => if i = 1 then true else false) := by
  have h := heap_alloc_new w (.cells ((Array.replicate n (Value.bool false)).setIfInBounds 1 (Value.bool true)) 4)
  unfold BB
  rw [h]
  rw [show Array.replicate n (Value.bool false) = (List.replicate n (Value.bool false)).toArray by simp, List.setIfInBounds_toArray]
  congr 3
  apply List.ext_getElem
  · simp
  · intro i h1 h2
    simp only [List.getElem_set, List.getElem_map, List.getElem_range, List.getElem_replicate]
    by_cases e : 1 = i
    · subst e; simp
    · rw [if_neg e, if_neg (fun e' => e e'.symm)]
end
theorem made_bools (n : Nat) : madeCells #[Value.bool false] n = Array.replicate n (Value.bool false) := by
  apply Array.ext
  · simp [madeCells]
  · intro i h1 h2
    simp [madeCells, Nat.mod_one]
theorem infoBool : (Try.prog.info? 4).map (fun i => (i.zero, i.size, i.bytes)) = some (some (.bool false), 1, 1) := by kernel_rfl
theorem mk_bools (n : Nat) (h : n ≤ 70000) (w : World) : (Instr.makeSlice 95 (.int .i64 (n : Int)) (.int .i64 (n : Int))).run Try.prog w =
    .ok (.slice (some ⟨w.heap.size, 0, none⟩) n n) (w.alloc (.cells (Array.replicate n (Value.bool false)) 4)) := by
  rw [← made_bools]
  exact run_make_row' 95 4 (.bool false) 1 Try.underlying95 infoBool rfl .i64 .i64 n (by omega) (by omega) w

def lenV : Value → Nat | .slice _ n _ => n | _ => 0
theorem Own.lenV {w : World} {B : Nat} {v : Value} {l : List Int} (h : Own w B v l) : lenV v = l.length := by
  obtain ⟨A, c, rfl, _⟩ := h.form; rfl

/-- The list of the powers of u below N. -/
def pwl {D : Desc} (u : R D) (N : Nat) : List Int := lst N fun i => ci (pw u i)
structure PowSt (D : Desc) (u : R D) (A : Option Addr) (c g : Nat) (w : World) (v : Value) (k : Nat) (f : Nat → Bool) (wr : World) : Prop where
  own : Own wr (w.heap.size + 1) v (pwl u (k + 1))
  seen : BB wr g D.q f
  mark : ∀ n, n < D.q → (f n = true ↔ ∃ i, i < k + 1 ∧ rcode (pw u i) = n)
  ne : v.ownBlock ≠ some g
  gl : w.heap.size < g
  bw : Below w.heap.size w wr
  sz : w.heap.size < wr.heap.size
  bx : wr.cell? ⟨w.heap.size, 0, none⟩ = some (.int .i64 D.p) ∧ wr.cell? ⟨w.heap.size, 1, none⟩ = some (.int .i64 D.m) ∧ wr.cell? ⟨w.heap.size, 2, none⟩ = some (.slice A D.mod.length c)
  lst : PwList u (k + 1)

theorem PowSt.step {D : Desc} {u : R D} {A : Option Addr} {c g : Nat} {w wr w3 w4 : World} {v v' : Value} {k y : Nat} {f : Nat → Bool} (h : PowSt D u A c g w v k f wr)
    (hy : y = rcode (pw u (k + 1))) (_hyq : y < D.q) (hl : PwList u (k + 1 + 1))
    (hown : Own w3 (w.heap.size + 1) v' (pwl u (k + 1) ++ [ci (pw u (k + 1))])) (hb3 : Below (w.heap.size + 1) (wr.setCell ⟨g, y, none⟩ (.bool true)) w3)
    (hg : (wr.setCell ⟨g, y, none⟩ (.bool true)).grownBy w3 v.ownBlock) (hv : v'.ownBlock = v.ownBlock ∨ ∀ k, v'.ownBlock = some k → (wr.setCell ⟨g, y, none⟩ (.bool true)).heap.size ≤ k)
    (hb4 : Below w3.heap.size w3 w4) : PowSt D u A c g w v' (k + 1) (fun i => if i = y then true else f i) w4 := by
  have hsz : (wr.setCell ⟨g, y, none⟩ (.bool true)).heap.size = wr.heap.size := by simp [World.setCell]
  have hgl := h.seen.lt
  have hs3 := hb3.size
  rw [hsz] at hs3
  have hsw := h.sz
  have hbs : Below (w.heap.size + 1) wr (wr.setCell ⟨g, y, none⟩ (.bool true)) := (Below.refl _ _).setCell (p := ⟨g, y, none⟩) h.gl _
  refine ⟨?_, ?_, fun n hn => ?_, ?_, h.gl, ?_, ?_, ?_, hl⟩
  · rw [show pwl u (k + 1 + 1) = pwl u (k + 1) ++ [ci (pw u (k + 1))] from lst_succ _ _]
    exact hown.below hb4 (Nat.le_refl _)
  · exact ((h.seen.set_ y true).kept hg h.ne).below hb4 (by omega)
  · by_cases e : n = y
    · rw [if_pos e]; simp; exact ⟨k + 1, by omega, by rw [e, hy]⟩
    · rw [if_neg e, h.mark n hn]
      constructor
      · rintro ⟨i, hi, e1⟩; exact ⟨i, by omega, e1⟩
      · rintro ⟨i, hi, e1⟩
        by_cases e2 : i = k + 1
        · subst e2; rw [← hy] at e1; exact absurd e1.symm e
        · exact ⟨i, by omega, e1⟩
  · intro e
    rcases hv with h1 | h1
    · exact h.ne (by rw [← h1, e])
    · have := h1 g e; rw [hsz] at this; omega
  · exact ((h.bw.trans (hbs.mono (by omega))).trans (hb3.mono (by omega))).trans (hb4.mono (by omega))
  · have := hb4.size; omega
  · exact keep3 hb4 (by omega) (keep3 hb3 (by omega) (keep3 hbs (by omega) h.bx))

set_option maxRecDepth 100000 in
set_option maxHeartbeats 2000000 in
theorem powers_any (D : Desc) (u : R D) (A : Option Addr) (c : Nat) (w : World) (hr : Rd w w.heap.size A (modL D)) :
    Calls Try.prog 70 #[.agg #[.int .i64 D.p, .int .i64 D.m, .slice A D.mod.length c], .int .i64 D.q, .int .i64 (ci u)] w fun e w' =>
      ∃ N v, PwList u N ∧ PwStop u N ∧ e = .returned v ∧ Own w' (w.heap.size + 1) v (pwl u N) ∧ Below w.heap.size w w' := by
  have hq2 := D.q2; have hq3 := D.q256; have hp1 := D.p256; have hp2 := D.m8
  have hmk := mk_bools D.q (by omega)
  have k0 := Lib.hid (alloc3 w (.int .i64 D.p) (.int .i64 D.m) (.slice A D.mod.length c) 24)
  have hq1 : 1 < D.q := by omega
  have hM := fun k w hr => Lib.hid (multiply_any D (pw u k) u A c w hr)
  have hst : Hid (PowSt D u A c (w.heap.size + 1 + 1) w (.slice (some ⟨w.heap.size + 1, 0, none⟩) 1 1) 0 (fun i => if i = 1 then true else false)
      (((w.alloc (.cells #[.int .i64 D.p, .int .i64 D.m, .slice A D.mod.length c] 24)).alloc (.cells #[Value.int .i64 1] 3)).alloc (.cells ((Array.replicate D.q (Value.bool false)).setIfInBounds 1 (Value.bool true)) 4))) := by
    have h1 : IB ((w.alloc (.cells #[.int .i64 D.p, .int .i64 D.m, .slice A D.mod.length c] 24)).alloc (.cells #[Value.int .i64 1] 3)) (w.heap.size + 1) [1] := by
      have := IB.new (w.alloc (.cells #[.int .i64 D.p, .int .i64 D.m, .slice A D.mod.length c] 24)) [1]
      simpa using this
    have h2 := BB.newz1 ((w.alloc (.cells #[.int .i64 D.p, .int .i64 D.m, .slice A D.mod.length c] 24)).alloc (.cells #[Value.int .i64 1] 3)) D.q
    refine ⟨?_, by simpa using h2, fun n hn => ?_, by simp [Value.ownBlock], by omega, (((Below.refl _ _).alloc (Nat.le_refl _) _).alloc (by simp) _).alloc (by simp; omega) _, by simp; omega, ?_, PwList.one u⟩
    · have h3 := Own.of_IB (B := w.heap.size + 1) (h1.alloc (.cells ((Array.replicate D.q (Value.bool false)).setIfInBounds 1 (Value.bool true)) 4)) (Nat.le_refl _) (by simp [maxLen])
      rw [show pwl u (0 + 1) = [1] by unfold pwl; rw [lst_succ, pw_zero, ci_one]; rfl]
      exact h3
    · constructor
      · intro h
        have h4 : n = 1 := by
          apply Classical.byContradiction; intro e; simp [e] at h
        exact ⟨0, by omega, by rw [pw_zero, rcode_one, h4]⟩
      · rintro ⟨i, hi, e⟩
        obtain rfl : i = 0 := by omega
        rw [pw_zero, rcode_one] at e
        simp [← e]
    · exact keep3 (B := w.heap.size + 1) ((Below.refl _ _).alloc (by simp) _) (by omega) (keep3 (B := w.heap.size + 1) ((Below.refl _ _).alloc (by simp) _) (by omega) k0.out)
  go_enter Try.func70, Try.ntmps70
  go_wp2_with (fail)
  obtain ⟨g, hg⟩ : ∃ g, g = w.heap.size + 1 + 1 := ⟨_, rfl⟩
  rw [← hg] at hst ⊢
  clear hmk k0 hg
  go_loopw [7, 9] (fun o y wr => ∃ (k : Nat) (f : Nat → Bool), y = .int .i64 (ci (pw u (k + 1))) ∧ Hid (PowSt D u A c g w o k f wr)) (fun o _ _ => D.q - lenV o)
  case atStart => exact ⟨0, _, by rw [pw_one], hst⟩
  case round =>
    clear hst
    obtain ⟨k, f, rfl, hst⟩ := hrel
    have hy0 := ci_nonneg (pw u (k + 1))
    have hy1 := ci_lt (pw u (k + 1))
    obtain ⟨y, hy⟩ := Int.eq_ofNat_of_zero_le hy0
    have hyr : y = rcode (pw u (k + 1)) := by unfold ci at hy; omega
    have hyq : y < D.q := by omega
    have hlen := hst.out.own.lenV
    rw [show (pwl u (k + 1)).length = k + 1 from lst_length _ _] at hlen
    have hle := hst.out.lst.le
    have hlen1 := Lib.hid hlen
    have hlen2 := hst.out.own.lenV
    clear hlen2 hlen
    obtain ⟨kc0, kc1, kc2⟩ := hst.out.bx
    have hcs := hst.out.seen.cell hyq
    have hf := hst.out.seen.frozen y
    by_cases hz : pw u (k + 1) = 0
    · have hy' : y = 0 := by rw [hyr, hz, rcode_zero]
      have hstop : PwStop u (k + 1) := .inl hz
      subst hy'
      rw [hy]
      clear hy hyr hz
      go_wp2_with (fail)
      go_ret
      exact ⟨k + 1, _, hst.out.lst, hstop, rfl, hst.out.own, hst.out.bw⟩
    · have hyne : ((y : Int) != 0) = true := by
        rw [bne_iff_ne]; intro e
        exact hz (rcode_inj (by rw [← hyr, rcode_zero]; omega))
      by_cases hs : f y = true
      · have hstop : PwStop u (k + 1) := by
          obtain ⟨i, hi, e⟩ := (hst.out.mark y hyq).1 hs
          exact .inr ⟨i, hi, rcode_inj (by rw [← hyr, e])⟩
        rw [hs] at hcs
        rw [hy]
        clear hy hyr hz
        go_wp2_with (fail)
        go_ret
        exact ⟨k + 1, _, hst.out.lst, hstop, rfl, hst.out.own, hst.out.bw⟩
      · have hs' : f y = false := by simpa using hs
        rw [hs'] at hcs
        have hnstop : ¬ PwStop u (k + 1) := by
          rintro (h | ⟨i, hi, e⟩)
          · exact hz h
          · exact hs ((hst.out.mark y hyq).2 ⟨i, hi, by rw [hyr, e]⟩)
        have hl2 := Lib.hid (hst.out.lst.succ hnstop)
        have hkk := hl2.out.le
        have hyc : ci (pw u (k + 1)) = (y : Int) := hy
        have hown2 := hst.out.own.far (p := ⟨g, y, none⟩) hst.out.ne (.bool true)
        have hszs : (wr.setCell ⟨g, y, none⟩ (.bool true)).heap.size = wr.heap.size := by simp [World.setCell]
        have hszw := hst.out.sz
        have hsl : (pwl u (k + 1)).length ≤ 1000000 := by rw [show (pwl u (k + 1)).length = k + 1 from lst_length _ _]; omega
        have hszB : w.heap.size + 1 ≤ (wr.setCell ⟨g, y, none⟩ (.bool true)).heap.size := by rw [hszs]; omega
        have hbs : Below (w.heap.size + 1) wr (wr.setCell ⟨g, y, none⟩ (.bool true)) := (Below.refl _ _).setCell (p := ⟨g, y, none⟩) hst.out.gl _
        have hbxs := Lib.hid (keep3 hbs (Nat.lt_succ_self _) hst.out.bx)
        have hM2 := hM (k + 1)
        have hps : Hid (pw u (k + 1) * u = pw u (k + 1 + 1)) := rfl
        have hyr' := Lib.hid hyr
        have hyc' := Lib.hid hyc
        replace hszs := Lib.hid hszs
        have hbws : Below w.heap.size w (wr.setCell ⟨g, y, none⟩ (.bool true)) := hst.out.bw.setCell (p := ⟨g, y, none⟩) (Nat.le_of_lt hst.out.gl) _
        rw [hy]
        clear hy hyr hz hs hs' hnstop hyc hy0 hy1
        go_wp2_with (at_builtin; go_loud (refine wpList_app1 rfl _ _ rfl (w.heap.size + 1) _ _ _ hown2 rfl rfl hszs.out hsl hszB ?_); intro v' w3 hown3 hb3 hgr3 hv3; obtain ⟨kd0, kd1, kd2⟩ := keep3 (b := w.heap.size) hb3 (Nat.lt_succ_self _) hbxs.out)
        rw [← hyc'.out]
        refine (hM2 _ ((hr.below (hbws.trans (hb3.mono (Nat.le_succ _)))).more (Nat.le_trans (Nat.le_of_lt (Nat.lt_of_lt_of_le (Nat.lt_succ_self _) hszB)) hb3.size))).out.mono ?_
        rw [hps.out]
        rintro e w4 ⟨rfl, hb4⟩
        go_wp2_with (fail)
        have hown3' : Own w3 (w.heap.size + 1) v' (pwl u (k + 1) ++ [ci (pw u (k + 1))]) := by rw [hyc'.out]; exact hown3
        have hnew := hst.out.step hyr'.out hyq hl2.out hown3' hb3 hgr3 hv3 hb4
        have hlen2 := hown3.lenV
        rw [List.length_append, show (pwl u (k + 1)).length = k + 1 from lst_length _ _] at hlen2
        go_roundw
        case rel => exact ⟨k + 1, _, rfl, hnew⟩
        case measure =>
          have h1 := hlen1.out
          show D.q - lenV v' < D.q - lenV u7
          rw [hlen2, h1, List.length_singleton]
          omega
end Go.Proofs.Ytemanlkgfhmclaa

/-! The program's search for a primitive element -/
namespace Go.Proofs.Ytemanlkgfhmclaa
open Go.RowKit Cw

theorem isGen_pos {D : Desc} {u : R D} (h : IsGen u) : 1 ≤ rcode u := by
  rcases Nat.eq_zero_or_pos (rcode u) with h0 | h0
  · have hu : u = 0 := rcode_inj (h0.trans rcode_zero.symm)
    have h1 := h.2
    have := D.q2
    rw [hu, zero_pw (by omega)] at h1
    exact absurd h1.symm one_ne_R
  · exact h0

theorem bx4 {B b : Nat} {W w1 : World} {D : Desc} {A : Option Addr} {n c : Nat} {p : Addr} {v : Option Value} (h : Bx W b D A n c) (hc : W.cell? p = v) (hb : Below B W w1) (h1 : b < B) (h2 : p.block < B) :
    w1.cell? ⟨b, 0, none⟩ = some (.int .i64 D.p) ∧ w1.cell? ⟨b, 1, none⟩ = some (.int .i64 D.m) ∧ w1.cell? ⟨b, 2, none⟩ = some (.slice A n c) ∧ w1.cell? p = v := by
  obtain ⟨h3, h4, h5⟩ := h.below hb h1
  exact ⟨h3, h4, h5, (hb.cell h2).trans hc⟩
theorem bx40 {b : Nat} {W : World} {D : Desc} {A : Option Addr} {n c : Nat} {p : Addr} {v : Option Value} (h : Bx W b D A n c) (hc : W.cell? p = v) :
    W.cell? ⟨b, 0, none⟩ = some (.int .i64 D.p) ∧ W.cell? ⟨b, 1, none⟩ = some (.int .i64 D.m) ∧ W.cell? ⟨b, 2, none⟩ = some (.slice A n c) ∧ W.cell? p = v :=
  ⟨h.1, h.2.1, h.2.2, hc⟩
def GenPost (D : Desc) (w : World) (e : Ending) (w' : World) : Prop :=
  ∃ v, e = .returned v ∧ Below w.heap.size w w' ∧ ((∃ u : R D, IsGen u ∧ Own w' (w.heap.size + 1) v (pwl u (D.q - 1))) ∨ ((∀ u : R D, ¬ IsGen u) ∧ v = .slice none 0 0))

set_option maxRecDepth 100000 in
set_option maxHeartbeats 2000000 in
theorem generator_any (D : Desc) (A : Option Addr) (c : Nat) (w : World) (hr : Rd w w.heap.size A (modL D)) :
    Calls Try.prog 59 #[.agg #[.int .i64 D.p, .int .i64 D.m, .slice A D.mod.length c], .int .i64 D.q] w (GenPost D w) := by
  have hq2 := D.q2; have hq3 := D.q256; have hp1 := D.p256; have hp2 := D.m8
  have hbx0 := Bx.new w D A D.mod.length c 24
  go_enter Try.func59, Try.ntmps59
  go_wp2_with (fail)
  go_loopw [5, 6] (fun x _ wr => ∃ k : Nat, 1 ≤ k ∧ k ≤ D.q ∧ x = .int .i64 k ∧ Bx wr w.heap.size D A D.mod.length c ∧ Below w.heap.size w wr ∧ w.heap.size < wr.heap.size ∧ Hid (∀ u : R D, rcode u < k → ¬ IsGen u)) (fun x _ _ => D.q - (intOf x).toNat)
  case atStart => exact ⟨1, by omega, by omega, rfl, hbx0, (Below.refl _ _).alloc (Nat.le_refl _) _, by simp, fun u hu h => by have := isGen_pos h; omega⟩
  case round =>
    obtain ⟨k, hk1, hk2, rfl, hbx, hbw, hsz, hno⟩ := hrel
    have kc := hbx
    obtain ⟨kc0, kc1, kc2⟩ := kc
    by_cases hlt : k < D.q
    · obtain ⟨u, hu⟩ : ∃ u : R D, u = rel D k := ⟨_, rfl⟩
      have huk : ci u = (k : Int) := by rw [hu, ci_rel hlt]
      have hur : rcode u = k := by rw [hu, rcode_rel hlt]
      have hP := powers_any D u A c wr ((hr.below hbw).more (by omega))
      rw [huk] at hP
      replace hP := Lib.hid hP
      replace huk := Lib.hid huk
      replace hu := Lib.hid hu
      replace hur := Lib.hid hur
      go_wp2_with (fail)
      refine hP.out.mono ?_
      rintro e w1 ⟨N, v, hpl, hps, rfl, hown, hb1⟩
      have hs1 := hb1.size
      have hbx1 := hbx.below hb1 hsz
      have hbw1 := hbw.trans (hb1.mono (Nat.le_of_lt hsz))
      have hle := hpl.le
      have hN1 := hpl.1
      obtain ⟨Av, cv, rfl, hcv, hrv, hAv⟩ := hown.form
      have hll : (pwl u N).length = N := lst_length _ _
      rw [hll] at hcv ⊢
      replace hll := Lib.hid hll
      by_cases hN : N = D.q - 1
      · have hNb : ((N : Int) == (D.q : Int) - 1) = true := by rw [beq_iff_eq]; omega
        have hN2 : D.q - 2 < N := by omega
        obtain ⟨b, off, rfl, hb, hcell⟩ := hrv.at_ (k := D.q - 2) (by rw [hll.out]; exact hN2)
        rw [show (pwl u N)[D.q - 2]?.getD 0 = ci (pw u (D.q - 2)) from lst_get _ hN2] at hcell
        have hM : ∀ W : World, Rd W W.heap.size A (modL D) → Hid (Calls Try.prog 71 #[.agg #[.int .i64 D.p, .int .i64 D.m, .slice A D.mod.length c], .int .i64 (ci (pw u (D.q - 2))), .int .i64 k] W fun e w' =>
            e = .returned (.int .i64 (ci (pw u (D.q - 1)))) ∧ Below W.heap.size W w') := fun W hW => by
          have h := multiply_any D (pw u (D.q - 2)) u A c W hW
          rw [huk.out, ← pw_succ, show D.q - 2 + 1 = D.q - 1 by omega] at h
          exact h
        have hpl' : Hid (PwList u (D.q - 1)) := by rw [hN] at hpl; exact hpl
        have hown' : Hid (Own w1 (wr.heap.size + 1) (.slice (some ⟨b, off, none⟩) N cv) (pwl u (D.q - 1))) := by have h := hown; rw [hll.out] at h; rw [← hN]; exact h
        have hr1 := Lib.hid ((hr.below hbw1).more (show w.heap.size ≤ w1.heap.size by omega))
        have hbxH := Lib.hid hbx1
        have hcellH := Lib.hid hcell
        have hq0 : (0 : Int) ≤ (D.q : Int) - 2 := by omega
        have hq1 : (D.q : Int) - 2 < (N : Int) := by omega
        have hq5 : (2 : Int) ≤ (D.q : Int) := by omega
        have hq6 : (D.q : Int) < (N : Int) + 2 := by omega
        have hq4 : ((D.q : Int) - 2).toNat = D.q - 2 := by omega
        have hnstop : Hid (¬ pw u (D.q - 1) = 1 → ∀ u : R D, rcode u < k + 1 → ¬ IsGen u) := fun hne u' hu' => by
          by_cases e : rcode u' = k
          · have : u' = u := rcode_inj (by rw [e, hur.out])
            subst this
            exact fun h => hne h.2
          · exact hno.out u' (by omega)
        have ew1 : IntKind.i64.wrap ((D.q : Int) - 1) = (D.q : Int) - 1 := IntWalk.i64_in _ (by omega)
        have ew2 : IntKind.i64.wrap ((D.q : Int) - 2) = (D.q : Int) - 2 := IntWalk.i64_in _ (by omega)
        have hsz1 : w.heap.size < w1.heap.size := Nat.lt_of_lt_of_le hsz hs1
        have hbb : b < w1.heap.size := hb
        clear hN hrv hAv hcell hown hpl hps hle hbx1 hcv
        by_cases hy : pw u (D.q - 1) = 1
        · have hcb : (ci (pw u (D.q - 1)) == 1) = true := by rw [beq_iff_eq]; exact ci_eq_one.2 hy
          replace hy := Lib.hid hy
          go_wp2_with (fail)
          go_region_held3 (fun w' => w'.cell? ⟨w.heap.size, 0, none⟩ = some (.int .i64 D.p) ∧ w'.cell? ⟨w.heap.size, 1, none⟩ = some (.int .i64 D.m) ∧ w'.cell? ⟨w.heap.size, 2, none⟩ = some (.slice A D.mod.length c) ∧ w'.cell? ⟨b, off + (D.q - 2), none⟩ = some (.int .i64 (ci (pw u (D.q - 2)))))
            (first | exact bx40 hbxH.out hcellH.out | exact k2.out)
            (first
              | (go_at_call 71; refine (hM _ hr1.out.drew).out.mono ?_; rintro e w2 ⟨rfl, hb2⟩; have k2 := Lib.hid (bx4 (W := w1.drew) hbxH.out hcellH.out hb2 hsz1 hbb)))
          clear ew1 ew2
          go_wp2_with (fail)
          go_ret
          exact ⟨_, rfl, hbw1.drew.trans (hb2.mono (Nat.le_of_lt hsz1)), .inl ⟨u, hpl'.out.gen hy.out, by
            have h6 := (hown'.out.drew.below hb2 (Nat.le_refl _))
            exact World.ownsRow.mono h6 (by omega)⟩⟩
        · have hcb : (ci (pw u (D.q - 1)) == 1) = false := by rw [beq_eq_false_iff_ne]; exact fun h => hy (ci_eq_one.1 h)
          have hng := Lib.hid (hnstop.out hy)
          clear hy
          go_wp2_with (fail)
          go_region_held3 (fun w' => w'.cell? ⟨w.heap.size, 0, none⟩ = some (.int .i64 D.p) ∧ w'.cell? ⟨w.heap.size, 1, none⟩ = some (.int .i64 D.m) ∧ w'.cell? ⟨w.heap.size, 2, none⟩ = some (.slice A D.mod.length c) ∧ w'.cell? ⟨b, off + (D.q - 2), none⟩ = some (.int .i64 (ci (pw u (D.q - 2)))))
            (first | exact bx40 hbxH.out hcellH.out | exact k2.out)
            (first
              | (go_at_call 71; refine (hM _ hr1.out.drew).out.mono ?_; rintro e w2 ⟨rfl, hb2⟩; have k2 := Lib.hid (bx4 (W := w1.drew) hbxH.out hcellH.out hb2 hsz1 hbb)))
          clear ew1 ew2
          go_wp2_with (fail)
          go_roundw
          case rel => exact ⟨k + 1, by omega, by omega, by go_num, hbxH.out.drew.below hb2 hsz1, hbw1.drew.trans (hb2.mono (Nat.le_of_lt hsz1)), Nat.lt_of_lt_of_le hsz1 hb2.size, hng⟩
          case measure => simp [intOf]; omega
      · have hNb : ((N : Int) == (D.q : Int) - 1) = false := by rw [beq_eq_false_iff_ne]; omega
        have hng : Hid (∀ u : R D, rcode u < k + 1 → ¬ IsGen u) := fun u' hu' => by
          by_cases e : rcode u' = k
          · have : u' = u := rcode_inj (by rw [e, hur.out])
            subst this
            exact fun h => hN (h.pwlist hpl hps)
          · exact hno.out u' (by omega)
        have hew : IntKind.i64.wrap ((D.q : Int) - 1) = (D.q : Int) - 1 := IntWalk.i64_in _ (by omega)
        clear hN
        go_wp2_with (fail)
        go_quiet (fail)
        clear hew
        go_wp2_with (fail)
        go_roundw
        case rel => exact ⟨k + 1, by omega, by omega, by go_num, hbx1, below_drewN' hbw1 _, Nat.lt_of_lt_of_le hsz hs1, hng⟩
        case measure => simp [intOf]; omega
    · have hk : k = D.q := by omega
      have hng : Hid (∀ u : R D, ¬ IsGen u) := fun u => hno.out u (by have := rcode_lt u; omega)
      go_wp2_with (fail)
      go_ret
      exact ⟨_, rfl, hbw, .inr ⟨hng.out, rfl⟩⟩
end Go.Proofs.Ytemanlkgfhmclaa

/-! The program's New: what a field's value in memory is, and that New makes it -/
namespace Go.Proofs.Ytemanlkgfhmclaa
open Go.RowKit Cw

/-- The exponent of an element other than 0 to the primitive element. -/
noncomputable def lg (D : FD) (x : R D.toDesc) : Nat :=
  open Classical in if h : x ≠ 0 then Classical.choose (D.g_all x h) else 0
theorem lg_zero (D : FD) : lg D 0 = 0 := by unfold lg; rw [dif_neg (fun h => h rfl)]
theorem lg_lt (D : FD) (x : R D.toDesc) : lg D x < D.q - 1 := by
  have := D.q2
  unfold lg
  by_cases h : x ≠ 0
  · rw [dif_pos h]; exact (Classical.choose_spec (D.g_all x h)).1
  · rw [dif_neg h]; omega
theorem pw_lg (D : FD) {x : R D.toDesc} (h : x ≠ 0) : pw D.g (lg D x) = x := by
  unfold lg; rw [dif_pos h]; exact (Classical.choose_spec (D.g_all x h)).2.symm
theorem g_ne (D : FD) (i : Nat) : pw D.g i ≠ 0 := pw_ne_zero (gen_ne (F := R D.toDesc)) i
theorem lg_pw (D : FD) {i : Nat} (h : i < D.q - 1) : lg D (pw D.g i) = i :=
  D.g_inj _ _ (lg_lt _ _) h (pw_lg D (g_ne D i))
/-- The table of the exponents. -/
noncomputable def lgl (D : FD) : List Int := lst D.q fun n => (lg D (rel D.toDesc n) : Nat)
def expl (D : FD) : List Int := pwl D.g (D.q - 1)

/-- The pointer ⟨g, 0⟩ leads to the field of D, below block B. -/
structure GF (w : World) (B g : Nat) (D : FD) : Prop where
  lt : g < B
  c0 : w.cell? ⟨g, 0, none⟩ = some (.int .i64 D.p)
  c1 : w.cell? ⟨g, 1, none⟩ = some (.int .i64 D.m)
  md : ∃ A c, w.cell? ⟨g, 2, none⟩ = some (.slice A D.mod.length c) ∧ Rd w B A (modL D.toDesc)
  c3 : w.cell? ⟨g, 3, none⟩ = some (.int .i64 D.q)
  ex : ∃ A c, w.cell? ⟨g, 4, none⟩ = some (.slice A (D.q - 1) c) ∧ Rd w B A (expl D)
  lo : ∃ A c, w.cell? ⟨g, 5, none⟩ = some (.slice A D.q c) ∧ Rd w B A (lgl D)
theorem GF.keep {w w' : World} {B g : Nat} {D : FD} (h : GF w B g D) (hk : ∀ p : Addr, p.block < B → w'.cell? p = w.cell? p) : GF w' B g D where
  lt := h.lt
  c0 := (hk _ h.lt).trans h.c0
  c1 := (hk _ h.lt).trans h.c1
  md := by obtain ⟨A, c, h1, h2⟩ := h.md; exact ⟨A, c, (hk _ h.lt).trans h1, h2.keep hk⟩
  c3 := (hk _ h.lt).trans h.c3
  ex := by obtain ⟨A, c, h1, h2⟩ := h.ex; exact ⟨A, c, (hk _ h.lt).trans h1, h2.keep hk⟩
  lo := by obtain ⟨A, c, h1, h2⟩ := h.lo; exact ⟨A, c, (hk _ h.lt).trans h1, h2.keep hk⟩
theorem GF.below {w w' : World} {B g : Nat} {D : FD} (h : GF w B g D) (hb : Below B w w') : GF w' B g D := h.keep fun _ hp => hb.cell hp
theorem GF.more {w : World} {B B' g : Nat} {D : FD} (h : GF w B g D) (hB : B ≤ B') : GF w B' g D where
  lt := by have := h.lt; omega
  c0 := h.c0
  c1 := h.c1
  md := by obtain ⟨A, c, h1, h2⟩ := h.md; exact ⟨A, c, h1, h2.more hB⟩
  c3 := h.c3
  ex := by obtain ⟨A, c, h1, h2⟩ := h.ex; exact ⟨A, c, h1, h2.more hB⟩
  lo := by obtain ⟨A, c, h1, h2⟩ := h.lo; exact ⟨A, c, h1, h2.more hB⟩
theorem GF.drew {w : World} {B g : Nat} {D : FD} (h : GF w B g D) : GF w.drew B g D := h.keep fun _ _ => rfl

/-- What New hands back for a valid description. -/
def NewPost (D : Desc) (w : World) (e : Ending) (w' : World) : Prop :=
  Below w.heap.size w w' ∧ ((∃ g, ∃ F : FD, F.toDesc = D ∧ e = .returned (.tuple #[.pointer (some ⟨g, 0, none⟩), .int .i64 0]) ∧ w.heap.size ≤ g ∧ GF w' w'.heap.size g F) ∨
    ((∀ u : R D, ¬ IsGen u) ∧ e = .returned (.tuple #[.pointer none, .int .i64 1])))

/-- The world behind the making of the field's cells. -/
def NewSt (D : Desc) (w : World) (v : Value) (s6 : Value) (wx : World) : Prop :=
  ∃ g gl A c, s6 = .pointer (some ⟨g, 0, none⟩) ∧ w.heap.size ≤ g ∧ w.heap.size ≤ gl ∧ g < wx.heap.size ∧ g ≠ gl ∧ IB wx gl (List.replicate D.q 0) ∧ Below w.heap.size w wx ∧
    wx.heap[g]? = some (.cells #[.int .i64 D.p, .int .i64 D.m, .slice A D.mod.length c, .int .i64 D.q, v, .slice (some ⟨gl, 0, none⟩) D.q D.q] 79 (0, 0)) ∧
    Rd wx wx.heap.size A (modL D) ∧ (∀ b, A = some b → b.block ≠ gl)

theorem NewSt.of {D : Desc} {w2 w4 : World} {A3 : Option Addr} {c3 gl H : Nat} {v : Value} (hi : IB w4 gl (List.replicate D.q 0)) (hr : Rd w4 w4.heap.size A3 (modL D)) (hne : ∀ b, A3 = some b → b.block ≠ gl)
    (hb : Below w2.heap.size w2 w4) (hgl : w2.heap.size ≤ gl) (hH : w4.heap.size = H) :
    NewSt D w2 v (.pointer (some ⟨H, 0, none⟩)) (w4.alloc (.cells #[.int .i64 D.p, .int .i64 D.m, .slice A3 D.mod.length c3, .int .i64 D.q, v, .slice (some ⟨gl, 0, none⟩) D.q D.q] 79)) := by
  subst hH
  have hl := hi.lt
  exact ⟨w4.heap.size, gl, A3, c3, rfl, hb.size, hgl, by simp, by omega, hi.alloc _, hb.alloc hb.size _, heap_alloc_new w4 _, (hr.alloc (Nat.le_refl _) _).more (by simp), hne⟩
theorem Bx.alloc {b : Nat} {W : World} {D : Desc} {A : Option Addr} {n c : Nat} (h : Bx W b D A n c) (hlt : b < W.heap.size) (o : Obj) : Bx (W.alloc o) b D A n c := h.below ((Below.refl _ _).alloc (Nat.le_refl _) o) hlt
theorem own_empty {W : World} {B g : Nat} (h : W.heap[g]? = some (.cells #[] 3 (0, 0))) (hB : B ≤ g) : Own W B (.slice (some ⟨g, 0, none⟩) 0 0) [] :=
  Own.of_IB (l := []) h hB (by simp [maxLen])

/-- The table of exponents below k. -/
noncomputable def logP (F : FD) (k : Nat) : List Int := lst F.q fun n => if rel F.toDesc n ≠ 0 ∧ lg F (rel F.toDesc n) < k then (lg F (rel F.toDesc n) : Nat) else 0
theorem logP_zero (F : FD) : logP F 0 = List.replicate F.q 0 := by
  rw [lst_zero]; exact lst_congr fun i _ => by simp
theorem logP_full (F : FD) : logP F (F.q - 1) = lgl F := lst_congr fun n hn => by
  by_cases h : rel F.toDesc n = 0
  · rw [if_neg (fun h1 => h1.1 h), h, lg_zero]; rfl
  · rw [if_pos ⟨h, lg_lt _ _⟩]
theorem logP_set (F : FD) {k : Nat} (hk : k < F.q - 1) : (logP F k).set (rcode (pw F.g k)) (k : Int) = logP F (k + 1) := by
  unfold logP
  rw [lst_set]
  refine lst_congr fun n hn => ?_
  by_cases e : n = rcode (pw F.g k)
  · have h1 : rel F.toDesc n = pw F.g k := by rw [e, rel_rcode]
    rw [if_pos e, h1, lg_pw F hk, if_pos ⟨g_ne F k, by omega⟩]
  · rw [if_neg e]
    by_cases h0 : rel F.toDesc n = 0
    · rw [if_neg (fun h1 => h1.1 h0), if_neg (fun h1 => h1.1 h0)]
    · have h2 : lg F (rel F.toDesc n) ≠ k := fun h2 => e (by
        rw [← h2, pw_lg F h0, rcode_rel hn])
      by_cases h3 : lg F (rel F.toDesc n) < k
      · rw [if_pos ⟨h0, h3⟩, if_pos ⟨h0, by omega⟩]
      · rw [if_neg (fun h1 => h3 h1.2), if_neg (fun h1 => by omega)]

set_option maxRecDepth 100000 in
set_option maxHeartbeats 2000000 in
theorem New_valid (D : Desc) (A : Option Addr) (c : Nat) (w : World) (hr : Rd w w.heap.size A (modL D)) :
    Calls Try.prog 36 #[.agg #[.int .i64 D.p, .int .i64 D.m, .slice A D.mod.length c]] w (NewPost D w) := by
  have hq2 := D.q2; have hq3 := D.q256; have hp1 := D.p256; have hp2 := D.m8
  have hml : D.mod.length ≤ 8 := by have := D.hlen; rw [this]; split <;> omega
  have hbx0 := Bx.new w D A D.mod.length c 24
  have hS := fun w hr => Lib.hid (shape_any D.p D.m (modL D) A c w (by omega) (by omega) (by rw [modL_length]; simp only [maxLen]; omega) hr)
  rw [modL_length, validB_true ⟨D, rfl, rfl, rfl⟩] at hS
  have hO := fun w => Lib.hid (order_any D.p D.m w (by omega) (by omega))
  rw [qOf_D] at hO
  have hG := fun w hr => Lib.hid (generator_any D A c w hr)
  have hmk := mk_ints D.q (by omega)
  have hnil := fun (W : World) (a : Option Addr) (n c : Nat) => Lib.run_eql_slice_nil (P := Try.prog) W 22 3 a n c 0 0 Try.underlying22
  have hr0 := hr.alloc (Nat.le_refl _) (.cells #[.int .i64 D.p, .int .i64 D.m, .slice A D.mod.length c] 24)
  go_enter Try.func36, Try.ntmps36
  go_wp2_with (fail)
  refine (hS _ (hr0.more (by simp))).out.mono ?_
  rintro e w1 ⟨rfl, hb1⟩
  have hs1 := hb1.size
  simp only [World.size_alloc] at hs1
  have hbx1 := hbx0.below hb1 (by simp)
  have hbw1 : Below w.heap.size w w1 := ((Below.refl _ _).alloc (Nat.le_refl _) _).trans (hb1.mono (by simp))
  have kc := hbx1
  obtain ⟨kc0, kc1, kc2⟩ := kc
  go_wp2_with (go_at_call 58; refine (hO _).out.mono ?_; rintro e w9 ⟨rfl, rfl⟩)
  refine (hG _ ((hr.below hbw1).more (by omega))).out.mono ?_
  rintro e w2 ⟨v, rfl, hb2, hcase⟩
  have hs2 := hb2.size
  have hbx2 := hbx1.below hb2 (by omega)
  have hbw2 := hbw1.trans (hb2.mono (by omega))
  clear kc0 kc1 kc2
  have kc := hbx2
  obtain ⟨kc0, kc1, kc2⟩ := kc
  rcases hcase with ⟨u, hu, hown⟩ | ⟨hno, rfl⟩
  · obtain ⟨Av, cv, rfl, hcv, hrv, hAv⟩ := hown.form
    have hll : (pwl u (D.q - 1)).length = D.q - 1 := lst_length _ _
    rw [hll] at hcv ⊢
    obtain ⟨be, oe, rfl, hbe, hce⟩ := hrv (by rw [hll]; omega)
    rw [hll] at hce
    have hr2 := (hr.below hbw2).more (show w.heap.size ≤ w2.heap.size by omega)
    have hwlt : w.heap.size < w2.heap.size := by omega
    obtain ⟨W, hW⟩ : ∃ W, W = w2.heap.size := ⟨_, rfl⟩
    replace hce := Lib.hid hce
    replace hcv := Lib.hid hcv
    replace hown := Lib.hid hown
    replace hll := Lib.hid hll
    clear hAv hS hO hG hbx0 hbx1 hb1 hb2 hr0 hrv
    go_wp2_with (fail)
    go_upto_region 7 with (fail)
    go_cut [6] (fun s6 wx => NewSt D w2 (.slice (some ⟨be, oe, none⟩) (D.q - 1) cv) s6 wx)
    case first =>
      have o1 : Hid (Own (w2.alloc (.cells #[] 3)).drew w2.heap.size (.slice (some ⟨w2.heap.size, 0, none⟩) 0 0) []) := own_empty (heap_alloc_new w2 _) (Nat.le_refl _)
      have o2 : Hid (Own ((w2.alloc (.cells #[] 3)).alloc (.cells (Array.replicate D.q (Value.int .i64 0)) 3)).drew w2.heap.size (.slice (some ⟨w2.heap.size, 0, none⟩) 0 0) []) := o1.out.alloc _
      have o3 : Hid (Own ((w2.alloc (.cells (Array.replicate D.q (Value.int .i64 0)) 3)).alloc (.cells #[] 3)).drew w2.heap.size (.slice (some ⟨w2.heap.size + 1, 0, none⟩) 0 0) []) :=
        own_empty (by have := heap_alloc_new (w2.alloc (.cells (Array.replicate D.q (Value.int .i64 0)) 3)) (.cells #[] 3); rw [World.size_alloc] at this; exact this) (by omega)
      have r1 : Hid (Rd (w2.alloc (.cells #[] 3)).drew w2.heap.size A (modL D)) := hr2.alloc (Nat.le_refl _) _
      have r2 : Hid (Rd ((w2.alloc (.cells #[] 3)).alloc (.cells (Array.replicate D.q (Value.int .i64 0)) 3)).drew w2.heap.size A (modL D)) := r1.out.alloc (by simp) _
      have r3 : Hid (Rd ((w2.alloc (.cells (Array.replicate D.q (Value.int .i64 0)) 3)).alloc (.cells #[] 3)).drew w2.heap.size A (modL D)) := (hr2.alloc (Nat.le_refl _) _).alloc (by simp) _
      have hmn : D.mod.length = (modL D).length := (modL_length D).symm
      have hmn' : Hid ((([] : List Int) ++ modL D).length = D.mod.length) := by unfold Hid; rw [List.nil_append, modL_length]
      have hm8 : ([] : List Int).length + (modL D).length ≤ 1000000000 := by rw [modL_length]; simp; omega
      have b1 : w2.heap.size ≤ (w2.alloc (.cells #[] 3)).drew.heap.size := by simp
      have b2 : w2.heap.size ≤ ((w2.alloc (.cells #[] 3)).alloc (.cells (Array.replicate D.q (Value.int .i64 0)) 3)).drew.heap.size := by simp; omega
      have b3 : w2.heap.size ≤ ((w2.alloc (.cells (Array.replicate D.q (Value.int .i64 0)) 3)).alloc (.cells #[] 3)).drew.heap.size := by simp; omega
      replace hmn := Lib.hid hmn
      have kb := Lib.hid hbx2
      have x1 := Lib.hid (hbx2.alloc hwlt (.cells #[] 3))
      have x2 := Lib.hid (hbx2.alloc hwlt (.cells (Array.replicate D.q (Value.int .i64 0)) 3))
      have x3 := Lib.hid (x1.out.alloc (by simp; omega) (.cells (Array.replicate D.q (Value.int .i64 0)) 3))
      have x4 := Lib.hid (x2.out.alloc (by simp; omega) (.cells #[] 3))
      clear hbx2
      go_region_held3 (fun w' => w'.cell? ⟨w.heap.size, 0, none⟩ = some (.int .i64 D.p) ∧ w'.cell? ⟨w.heap.size, 1, none⟩ = some (.int .i64 D.m) ∧ w'.cell? ⟨w.heap.size, 2, none⟩ = some (.slice A D.mod.length c))
        (first | exact kb.out | exact x1.out | exact x2.out | exact x3.out | exact x4.out | exact y.out | exact y.out.alloc hwlt3 _ | exact (y.out.alloc hwlt3 _).alloc (by simp; omega) _)
        (first
          | (refine step_appN rfl (.tmp 26) (.tmp 28) rfl w2.heap.size _ [] w2.heap.size A c (modL D) o1.out r1.out rfl rfl hmn.out hm8 b1 ?_; intro v3 w3 hown3 hb3 hg3 hv3; obtain ⟨A3, c3, rfl, hc3, hr3, hA3⟩ := hown3.form; rw [hmn'.out]; have y := Lib.hid (Bx.below (W := (w2.alloc (.cells #[] 3)).drew) x1.out hb3 hwlt); have hwlt3 : w.heap.size < w3.heap.size := Nat.lt_of_lt_of_le hwlt (Nat.le_trans b1 hb3.size))
          | (refine step_appN rfl (.tmp 26) (.tmp 28) rfl w2.heap.size _ [] w2.heap.size A c (modL D) o2.out r2.out rfl rfl hmn.out hm8 b2 ?_; intro v3 w3 hown3 hb3 hg3 hv3; obtain ⟨A3, c3, rfl, hc3, hr3, hA3⟩ := hown3.form; rw [hmn'.out]; have y := Lib.hid (Bx.below (W := ((w2.alloc (.cells #[] 3)).alloc (.cells (Array.replicate D.q (Value.int .i64 0)) 3)).drew) x3.out hb3 hwlt); have hwlt3 : w.heap.size < w3.heap.size := Nat.lt_of_lt_of_le hwlt (Nat.le_trans b2 hb3.size))
          | (refine step_appN rfl (.tmp 26) (.tmp 28) rfl w2.heap.size _ [] w2.heap.size A c (modL D) o3.out r3.out rfl rfl hmn.out hm8 b3 ?_; intro v3 w3 hown3 hb3 hg3 hv3; obtain ⟨A3, c3, rfl, hc3, hr3, hA3⟩ := hown3.form; rw [hmn'.out]; have y := Lib.hid (Bx.below (W := ((w2.alloc (.cells (Array.replicate D.q (Value.int .i64 0)) 3)).alloc (.cells #[] 3)).drew) x4.out hb3 hwlt); have hwlt3 : w.heap.size < w3.heap.size := Nat.lt_of_lt_of_le hwlt (Nat.le_trans b3 hb3.size)))
      all_goals go_wp2_with (fail)
      all_goals go_meet
      all_goals rw [List.nil_append] at hr3
      · have hx : Below w2.heap.size w2 (w2.alloc (.cells #[] 3)).drew := ((Below.refl _ _).alloc (Nat.le_refl _) _).drew
        have h4 : Below w2.heap.size w2 w3 := hx.trans hb3
        exact NewSt.of (w4 := w3.alloc (.cells (Array.replicate D.q (Value.int .i64 0)) 3)) (IB.newz w3 D.q) ((hr3.alloc (Nat.le_refl _) _).more (by simp)) (fun b hb => by have := (hA3 b hb).2; omega) (h4.alloc h4.size _) h4.size (by simp)
      · have hx : Below w2.heap.size w2 ((w2.alloc (.cells #[] 3)).alloc (.cells (Array.replicate D.q (Value.int .i64 0)) 3)).drew := (((Below.refl _ _).alloc (Nat.le_refl _) _).alloc (by simp) _).drew
        have h4 : Below w2.heap.size w2 w3 := hx.trans hb3
        have hz : IB ((w2.alloc (.cells #[] 3)).alloc (.cells (Array.replicate D.q (Value.int .i64 0)) 3)).drew (w2.heap.size + 1) (List.replicate D.q 0) := by
          have := IB.newz (w2.alloc (.cells #[] 3)) D.q; rw [World.size_alloc] at this; exact this
        refine NewSt.of (w4 := w3) (gl := w2.heap.size + 1) (hz.kept hg3 (by simp [Value.ownBlock])) hr3 (fun b hb => ?_) h4 (Nat.le_succ _) rfl
        subst hb
        rcases hv3 with h5 | h5
        · have : b.block = w2.heap.size := by simpa [Value.ownBlock] using h5
          omega
        · have := h5 b.block rfl
          simp at this; omega
      · have hx : Below w2.heap.size w2 ((w2.alloc (.cells (Array.replicate D.q (Value.int .i64 0)) 3)).alloc (.cells #[] 3)).drew := (((Below.refl _ _).alloc (Nat.le_refl _) _).alloc (by simp) _).drew
        have h4 : Below w2.heap.size w2 w3 := hx.trans hb3
        have hz : IB ((w2.alloc (.cells (Array.replicate D.q (Value.int .i64 0)) 3)).alloc (.cells #[] 3)).drew w2.heap.size (List.replicate D.q 0) := (IB.newz w2 D.q).alloc _
        refine NewSt.of (w4 := w3) (gl := w2.heap.size) (hz.kept hg3 (by simp [Value.ownBlock])) hr3 (fun b hb => ?_) h4 (Nat.le_refl _) rfl
        subst hb
        rcases hv3 with h5 | h5
        · have : b.block = w2.heap.size + 1 := by simpa [Value.ownBlock] using h5
          omega
        · have := h5 b.block rfl
          simp at this; omega
    case rest =>
      obtain ⟨g, gl, A3, c3, rfl, hg, hgl, hglt, hne, hib, hb3, hhp, hr3, hA3⟩ := hcut
      have hq1 : D.q - 1 ≤ 255 := by omega
      obtain ⟨F, hFD, hFg⟩ : ∃ F : FD, ∃ h : F.toDesc = D, F.g = h ▸ u := ⟨mkFD D u hu, rfl, rfl⟩
      subst hFD
      replace hFg : F.g = u := hFg
      subst hFg
      replace hhp := Lib.hid hhp
      have hbcut := hb3
      clear hu hmk hnil hbx2 hr2 kc0 kc1 kc2
      go_wp2_with (fail)
      go_loopw [39, 7, 8] (fun i _ _ wr => ∃ k : Nat, k ≤ F.q - 1 ∧ i = .int .i64 k ∧ IB wr gl (logP F k) ∧ Hid (wr.heap[g]? = some (.cells #[.int .i64 F.p, .int .i64 F.m, .slice A3 F.mod.length c3, .int .i64 F.q, .slice (some ⟨be, oe, none⟩) (F.q - 1) cv, .slice (some ⟨gl, 0, none⟩) F.q F.q] 79 (0, 0))) ∧
         Below w2.heap.size w2 wr ∧ Rd wr wr.heap.size A3 (modL F.toDesc) ∧ g < wr.heap.size) (fun i _ _ _ => F.q - 1 - (intOf i).toNat)
      case atStart => exact ⟨0, by omega, rfl, by rw [logP_zero]; exact hib, hhp, hb3, hr3, hglt⟩
      case round =>
        clear hhp hib hb3 hr3
        obtain ⟨k, hk, rfl, hib, hhp, hb3, hr3, hglt2⟩ := hrel
        by_cases hlt : k < F.q - 1
        · have hce2 := (hb3.cell (p := ⟨be, oe + k, none⟩) hbe).trans (hce.out k hlt)
          rw [show (pwl F.g (F.q - 1))[k]?.getD 0 = ci (pw F.g k) from lst_get _ hlt] at hce2
          have hy0 := ci_nonneg (pw F.g k)
          have hy1 := ci_lt (pw F.g k)
          obtain ⟨y, hy⟩ := Int.eq_ofNat_of_zero_le hy0
          have hyr : y = rcode (pw F.g k) := by unfold ci at hy; omega
          have hyq : y < F.q := by omega
          rw [hy] at hce2
          have hc := hib.cell (i := y) (by unfold logP; rw [lst_length]; exact hyq)
          have hf := hib.frozen y
          have hc5 : wr.cell? ⟨g, 5, none⟩ = some (.slice (some ⟨gl, 0, none⟩) F.q F.q) := by rw [cell_of_row wr g 5 _ _ _ hhp.out]; rfl
          have hset := hib.set_ y (k : Int)
          rw [hyr, logP_set F hlt, ← hyr] at hset
          replace hset := Lib.hid hset
          clear hy hyr hy0 hy1 hib
          have hk0 : (k : Int) < ((F.q - 1 : Nat) : Int) := by omega
          go_wp2_with (fail)
          go_roundw
          case rel => exact ⟨k + 1, by omega, by go_num, hset.out, (Below.heap_setCell _ _ _ _ hne).trans hhp.out, hb3.setCell (p := ⟨gl, y, none⟩) hgl _, fun hn => by
            obtain ⟨b, off, e, hbl, hcell⟩ := hr3 hn
            exact ⟨b, off, e, by simpa [World.setCell] using hbl, fun j hj => (World.cell?_setCell_other _ _ _ _ (fun e2 => by
              have h8 := hA3 _ e
              have h9 := congrArg Addr.block e2
              exact h8 (by first | exact h9 | exact h9.symm))).trans (hcell j hj)⟩, by simpa [World.setCell] using hglt2⟩
          case measure => simp [intOf]; omega
        · obtain rfl : k = F.q - 1 := by omega
          rw [logP_full] at hib
          go_wp2_with (fail)
          go_ret2
          have hcell := fun i => cell_of_row wr g i _ _ _ hhp.out
          refine ⟨hbw2.trans (hb3.mono (Nat.le_of_lt hwlt)), .inl ⟨g, F, rfl, rfl, by omega, hglt2, ?_, ?_, ⟨A3, c3, ?_, hr3⟩, ?_, ⟨some ⟨be, oe, none⟩, cv, ?_, fun hn => ⟨be, oe, rfl, by have := hb3.size; omega, fun j hj => ?_⟩⟩, ⟨some ⟨gl, 0, none⟩, F.q, ?_, hib.rd⟩⟩⟩
          · rw [hcell]; rfl
          · rw [hcell]; rfl
          · rw [hcell]; rfl
          · rw [hcell]; rfl
          · rw [hcell]; rfl
          · have hj' : j < F.q - 1 := by rw [show (expl F).length = F.q - 1 from lst_length _ _] at hj; exact hj
            exact (hb3.cell (p := ⟨be, oe + j, none⟩) hbe).trans (hce.out j hj')
          · rw [hcell]; rfl
  · go_wp2_with (fail)
    go_ret2
    exact ⟨hbw2, .inr ⟨hno, rfl⟩⟩
end Go.Proofs.Ytemanlkgfhmclaa

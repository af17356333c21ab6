/- The program's shape: it accepts just the valid descriptions. -/
import Derived.Test.YtnbkmkeiophjoaaPrgA
namespace Go.Proofs.Ytnbkmkeiophjoaa
open Go.RowKit Cw

open Classical in
noncomputable def validB (P M : Int) (ml : List Int) : Bool := decide (Valid P M ml)
open Classical in
theorem validB_true {P M : Int} {ml : List Int} (h : Valid P M ml) : validB P M ml = true := decide_eq_true h
open Classical in
theorem validB_false {P M : Int} {ml : List Int} (h : ¬ Valid P M ml) : validB P M ml = false := decide_eq_false h
open Classical in
theorem validB_iff {P M : Int} {ml : List Int} : validB P M ml = true ↔ Valid P M ml := ⟨fun h => of_decide_eq_true h, validB_true⟩
theorem Valid.q {P M : Int} {ml : List Int} (h : Valid P M ml) : qOf P M ≠ 0 := by
  obtain ⟨D, rfl, rfl, rfl⟩ := h
  rw [qOf_D]; have := D.q2; omega
theorem qOf_pos {P M : Int} (h : qOf P M ≠ 0) : ∃ p m : Nat, P = p ∧ M = m ∧ 2 ≤ p ∧ p ≤ 256 ∧ 1 ≤ m ∧ m ≤ 8 ∧ p ^ m ≤ 256 ∧ qOf P M = p ^ m := by
  unfold qOf at h ⊢
  by_cases hc : P < 2 ∨ M < 1 ∨ 8 < M ∨ 256 < P.toNat ^ M.toNat
  · rw [if_pos hc] at h; exact absurd rfl h
  · rw [if_neg hc]
    obtain ⟨p, rfl⟩ := Int.eq_ofNat_of_zero_le (show 0 ≤ P by omega)
    obtain ⟨m, rfl⟩ := Int.eq_ofNat_of_zero_le (show 0 ≤ M by omega)
    simp only [Int.toNat_natCast] at hc ⊢
    have h1 := Nat.pow_le_pow_right (n := p) (by omega) (show 1 ≤ m by omega)
    rw [Nat.pow_one] at h1
    exact ⟨p, m, rfl, rfl, by omega, by omega, by omega, by omega, by omega, rfl⟩

set_option maxHeartbeats 1000000 in
theorem shape_any (P M : Int) (ml : List Int) (A : Option Addr) (c : Nat) (w : World) (hP : P ≤ 9223372036854775807) (hM : M ≤ 9223372036854775807) (_hl : ml.length ≤ maxLen)
    (hr : Rd w w.heap.size A ml) :
    Calls Try.prog 98 #[.agg #[.int .i64 P, .int .i64 M, .slice A ml.length c]] w fun e w' => e = .returned (.bool (validB P M ml)) ∧ Below w.heap.size w w' := by
  unfold maxLen at _hl
  have hO := fun w => Lib.hid (order_any P M w hP hM)
  by_cases hq : qOf P M = 0
  · have hv := Lib.hid (validB_false (P := P) (M := M) (ml := ml) fun h => h.q hq)
    have hq := Lib.hid hq
    go_enter Try.func98, Try.ntmps98
    go_wp2_with (go_at_call 99; refine (hO _).out.mono ?_; rw [hq.out]; rintro e w1 ⟨rfl, rfl⟩)
    go_ret
    exact ⟨ret_bool hv.out.symm, (Below.refl _ _).alloc (Nat.le_refl _) _⟩
  · have hq0 : ((((qOf P M : Nat) : Int)) == 0) = false := by rw [beq_eq_false_iff_ne]; omega
    obtain ⟨p, m, rfl, rfl, hp2, hp256, hm1, hm8, hq3, hqe⟩ := qOf_pos hq
    clear hqe hq
    generalize qOf p m = q at *
    have hI := fun w => Lib.hid (isPrime_any p w hp2 hp256)
    by_cases hpr : noDiv p (p - 2) = true
    · have hpp := (noDiv_prime hp2).1 hpr
      have hpr := Lib.hid hpr
      by_cases hm : m = 1
      · subst hm
        by_cases hl0 : ml.length = 0
        · have hv := Lib.hid (validB_true (Valid.mk' (ml := ml) hpp hm1 hm8 hq3 (by simpa using hl0) (fun j hj => by omega)))
          have hl0' : ((ml.length : Int) == 0) = true := by rw [beq_iff_eq]; omega
          clear hl0
          go_enter Try.func98, Try.ntmps98
          go_wp2_with (first | (go_at_call 99; refine (hO _).out.mono ?_; rintro e w1 ⟨rfl, rfl⟩) | (go_at_call 127; refine (hI _).out.mono ?_; rw [hpr.out]; rintro e w1 ⟨rfl, rfl⟩))
          go_ret
          exact ⟨ret_bool hv.out.symm, (Below.refl _ _).alloc (Nat.le_refl _) _⟩
        · have hv := Lib.hid (validB_false (P := p) (M := (1 : Nat)) (ml := ml) fun ⟨D, _, h2, h3⟩ => hl0 (by rw [h3, modL_length, D.hlen, if_pos (by omega)]))
          have hl0' : ((ml.length : Int) == 0) = false := by rw [beq_eq_false_iff_ne]; omega
          clear hl0
          go_enter Try.func98, Try.ntmps98
          go_wp2_with (first | (go_at_call 99; refine (hO _).out.mono ?_; rintro e w1 ⟨rfl, rfl⟩) | (go_at_call 127; refine (hI _).out.mono ?_; rw [hpr.out]; rintro e w1 ⟨rfl, rfl⟩))
          go_ret
          exact ⟨ret_bool hv.out.symm, (Below.refl _ _).alloc (Nat.le_refl _) _⟩
      · have hm' : ((m : Int) == 1) = false := by rw [beq_eq_false_iff_ne]; omega
        by_cases hlm : ml.length = m
        · have hlm' : ((ml.length : Int) != (m : Int)) = false := by simp [hlm]
          have hlm2 : m ≤ ml.length := by omega
          have hlm3 : ml.length ≤ m := by omega
          have hlmH := Lib.hid hlm
          clear hlm
          go_enter Try.func98, Try.ntmps98
          go_wp2_with (first | (go_at_call 99; refine (hO _).out.mono ?_; rintro e w1 ⟨rfl, rfl⟩) | (go_at_call 127; refine (hI _).out.mono ?_; rw [hpr.out]; rintro e w1 ⟨rfl, rfl⟩))
          go_loop [33, 4] (fun i _ => ∃ k : Nat, k ≤ ml.length ∧ i = .int .i64 k ∧ Hid (∀ j, j < k → 0 ≤ ml[j]?.getD 0 ∧ ml[j]?.getD 0 < p)) (fun i _ => ml.length - (intOf i).toNat)
          case atStart => exact ⟨0, by omega, rfl, fun j hj => by omega⟩
          case round =>
            obtain ⟨k, hk, rfl, hall⟩ := hrel
            by_cases hlt : k < ml.length
            · obtain ⟨b, off, rfl, hb, hc⟩ := hr.at_ hlt
              obtain ⟨x, hx⟩ : ∃ x, x = ml[k]?.getD 0 := ⟨_, rfl⟩
              rw [← hx] at hc
              have hc2 := (((Below.refl w.heap.size w).alloc (Nat.le_refl _) (.cells #[.int .i64 p, .int .i64 m, .slice (some ⟨b, off, none⟩) ml.length c] 24)).cell (p := ⟨b, off + k, none⟩) hb).trans hc
              by_cases hx1 : x < 0
              · have hv := Lib.hid (validB_false (P := p) (M := m) (ml := ml) fun ⟨D, _, _, h3⟩ => by have := (modL_bd D k).1; rw [← h3, ← hx] at this; omega)
                clear hx hc hr
                go_wp2_with (fail)
                go_ret
                exact ⟨ret_bool hv.out.symm, (Below.refl _ _).alloc (Nat.le_refl _) _⟩
              · by_cases hx2 : x < p
                · have hall2 : Hid (∀ j, j < k + 1 → 0 ≤ ml[j]?.getD 0 ∧ ml[j]?.getD 0 < p) := fun j hj => by
                    by_cases e : j = k
                    · subst e; rw [← hx]; omega
                    · exact hall.out j (by omega)
                  clear hx hc hr hall
                  go_wp2_with (fail)
                  go_round
                  case rel => exact ⟨k + 1, by omega, by go_num, hall2⟩
                  case measure => simp [intOf]; omega
                · have hv := Lib.hid (validB_false (P := p) (M := m) (ml := ml) fun ⟨D, h1, _, h3⟩ => by have := (modL_bd D k).2; rw [← h3, ← hx] at this; omega)
                  clear hx hc hr
                  go_wp2_with (fail)
                  go_ret
                  exact ⟨ret_bool hv.out.symm, (Below.refl _ _).alloc (Nat.le_refl _) _⟩
            · have hv := Lib.hid (validB_true (Valid.mk' (ml := ml) hpp hm1 hm8 hq3 (by rw [if_neg hm]; exact hlmH.out) (fun j hj => hall.out j (by omega))))
              go_wp2_with (fail)
              go_ret
              exact ⟨ret_bool hv.out.symm, (Below.refl _ _).alloc (Nat.le_refl _) _⟩
        · have hlm' : ((ml.length : Int) != (m : Int)) = true := by rw [bne_iff_ne]; omega
          have hv := Lib.hid (validB_false (P := p) (M := m) (ml := ml) fun ⟨D, _, h2, h3⟩ => hlm (by rw [h3, modL_length, D.hlen, if_neg (by omega)]; omega))
          clear hlm
          go_enter Try.func98, Try.ntmps98
          go_wp2_with (first | (go_at_call 99; refine (hO _).out.mono ?_; rintro e w1 ⟨rfl, rfl⟩) | (go_at_call 127; refine (hI _).out.mono ?_; rw [hpr.out]; rintro e w1 ⟨rfl, rfl⟩))
          go_ret
          exact ⟨ret_bool hv.out.symm, (Below.refl _ _).alloc (Nat.le_refl _) _⟩
    · have hv := Lib.hid (validB_false (P := p) (M := m) (ml := ml) fun ⟨D, h1, _, _⟩ => hpr ((noDiv_prime hp2).2 (by rw [show p = D.p by omega]; exact D.hp)))
      have hpr : Hid (noDiv p (p - 2) = false) := by unfold Hid; simpa using hpr
      go_enter Try.func98, Try.ntmps98
      go_wp2_with (first | (go_at_call 99; refine (hO _).out.mono ?_; rintro e w1 ⟨rfl, rfl⟩) | (go_at_call 127; refine (hI _).out.mono ?_; rw [hpr.out]; rintro e w1 ⟨rfl, rfl⟩))
      go_ret
      exact ⟨ret_bool hv.out.symm, (Below.refl _ _).alloc (Nat.le_refl _) _⟩
end Go.Proofs.Ytnbkmkeiophjoaa

/- The reference's numbers: Trim. -/
import Derived.Test.YtemanlkgfhmclaaNatA
namespace Go.Proofs.Ytemanlkgfhmclaa
open Go.RowKit Cw
attribute [local go_sem] Oper.semAt_some

set_option maxHeartbeats 1000000 in
/-- The reference: a copy without the zero limbs at its end. -/
theorem Trim1_any (l : List Nat) (hlm : Lm l) (A : Option Addr) (c : Nat) (w : World) (hr : U.Rd w w.heap.size A l) (hn : l.length ≤ 1000000) (hc : l.length ≤ c) :
    Calls Try.prog 32 #[.slice A l.length c] w (U.GivesA w.heap.size (nL (nv l)) w) := by
  have hle : ([] : List Nat).length + (nL (nv l)).length ≤ 1000000000 := by have := nlen_le (nv_lt hlm); rw [nL_length]; simp; omega
  have hib : U.Own (w.alloc (.cells #[] 64)) w.heap.size (.slice (some ⟨w.heap.size, 0, none⟩) 0 0) [] := U.Own.of_IB (U.IB.new w []) (Nat.le_refl _) (by simp)
  have hBa : Below w.heap.size w (w.alloc (.cells #[] 64)) := (Below.refl _ _).alloc (Nat.le_refl _) _
  have hcI : (c : Int) ≤ (c : Int) := Int.le_refl _
  obtain ⟨n, hln⟩ : ∃ n, n = l.length := ⟨_, rfl⟩
  rw [← hln] at hn hc ⊢
  have hend : ∀ k, k ≤ n → (∀ j, k ≤ j → j < l.length → l[j]?.getD 0 = 0) → (k = 0 ∨ l[k - 1]?.getD 0 ≠ 0) → k = nlen (nv l) ∧ U.Rd w w.heap.size A (nL (nv l)) := fun k hk h1 h2 => by
    have h3 := nL_take hlm (by rw [← hln]; exact hk) h1 h2
    have h4 : k = nlen (nv l) := by rw [← nL_length, ← h3, List.length_take, ← hln]; omega
    exact ⟨h4, by rw [← h3]; exact hr.take k⟩
  have hat : ∀ k, k < n → ∃ b off, A = some ⟨b, off, none⟩ ∧ b < w.heap.size ∧ w.cell? ⟨b, off + k, none⟩ = some (.int .u32 ((l[k]?.getD 0 : Nat) : Int)) := fun k hk => hr.at_ (by rw [← hln]; exact hk)
  have h0 : Hid (∀ j, n ≤ j → j < l.length → l[j]?.getD 0 = 0) := fun j h1 h2 => absurd h2 (by omega)
  replace hln := Lib.hid hln
  go_enter Try.func32, Try.ntmps32
  go_wp2_with (fail)
  go_loop [3] (fun v => ∃ k : Nat, k ≤ n ∧ v = .int .i64 k ∧ Hid (∀ j, k ≤ j → j < l.length → l[j]?.getD 0 = 0)) (fun v => (intOf v).toNat)
  case atStart => exact ⟨n, Nat.le_refl _, rfl, h0⟩
  case round =>
    obtain ⟨k, hk, rfl, hd⟩ := hrel
    rcases Nat.eq_zero_or_pos k with hz | hpos
    · subst hz
      obtain ⟨e1, e2⟩ := hend 0 hk hd.out (.inl rfl)
      replace e1 := Lib.hid e1
      have hnl : 0 = (nL (nv l)).length := by rw [nL_length]; exact e1.out
      replace hnl := Lib.hid hnl
      go_wp2_with (first
        | (at_builtin; refine U.wpList_appN rfl ty_nat _ _ rfl w.heap.size _ [] w.heap.size A _ (nL (nv l)) hib (e2.below hBa) rfl rfl hnl.out hle hBa.size ?_; intro v4 w4 ho4 hb4 _ _; rw [List.nil_append] at ho4))
      go_ret
      exact ⟨_, rfl, ho4, hBa.trans hb4⟩
    · obtain ⟨k', hk'⟩ : ∃ k', k = k' + 1 := ⟨k - 1, by omega⟩
      have hwr := wrap_predN hk' (by omega)
      obtain ⟨b, o, rfl, -, hcell⟩ := hat k' (by omega)
      have hk0 : (0 : Int) < (k : Int) := by omega
      have hj0 : (0 : Int) ≤ (k' : Int) := by omega
      have hj1 : (k' : Int) < (n : Int) := by omega
      obtain ⟨y, hy⟩ : ∃ y, y = l[k']?.getD 0 := ⟨_, rfl⟩
      rw [← hy] at hcell
      by_cases hz : y = 0
      · have hzb : ((y : Int) == 0) = true := by rw [beq_iff_eq, hz]; rfl
        have hd2 : Hid (∀ j, k' ≤ j → j < l.length → l[j]?.getD 0 = 0) := fun j h1 h2 => by
          by_cases e : j = k'
          · rw [e, ← hy, hz]
          · exact hd.out j (by omega) h2
        replace hk' := Lib.hid hk'
        clear hz hy hd
        go_wp2_with (fail)
        go_round
        case rel => exact ⟨k', by have := hk'.out; omega, rfl, hd2⟩
        case measure => simp [intOf]; have := hk'.out; omega
      · have hzb : ((y : Int) == 0) = false := by rw [beq_eq_false_iff_ne]; omega
        obtain ⟨e1, e2⟩ := hend k hk hd.out (.inr (by rw [hk', Nat.add_sub_cancel, ← hy]; exact hz))
        replace hk' := Lib.hid hk'
        replace e1 := Lib.hid e1
        have hkn : (k : Int) ≤ (c : Int) := by omega
        clear hz hy hd
        have hnl : k = (nL (nv l)).length := by rw [nL_length]; exact e1.out
        replace hnl := Lib.hid hnl
        go_wp2_with (first
          | (at_builtin; refine U.wpList_appN rfl ty_nat _ _ rfl w.heap.size _ [] w.heap.size (some ⟨b, o, none⟩) _ (nL (nv l)) hib (e2.below hBa) rfl rfl hnl.out hle hBa.size ?_; intro v4 w4 ho4 hb4 _ _; rw [List.nil_append] at ho4))
        go_ret
        exact ⟨_, rfl, ho4, hBa.trans hb4⟩


set_option maxHeartbeats 1000000 in
theorem Of1_any (n : Nat) (w : World) (h : n < 18446744073709551616) :
    Calls Try.prog 12 #[.int .u64 (n : Int)] w (U.GivesA w.heap.size (nL n) w) := by
  obtain ⟨hl, hv⟩ := two_limbs h
  have hib := two_block n w
  have hT := Trim1_any _ hl (some ⟨w.heap.size, 0, none⟩) 2 _ hib.rd (by simp) (by simp)
  have hB : Below w.heap.size w (w.alloc (.cells #[.int .u32 ((n : Int) % 4294967296), .int .u32 ((n : Int) / 4294967296)] 64)) := (Below.refl _ _).alloc (Nat.le_refl _) _
  rw [hv] at hT
  clear hl hv hib
  go_enter Try.func12, Try.ntmps12
  go_wp2_with (fail)
  refine hT.mono ?_
  rintro e w1 ⟨v, rfl, ho, hb⟩
  go_wp2_with (fail)
  go_ret
  exact ⟨_, rfl, ho.base hB.size, hB.trans (hb.mono hB.size)⟩
end Go.Proofs.Ytemanlkgfhmclaa

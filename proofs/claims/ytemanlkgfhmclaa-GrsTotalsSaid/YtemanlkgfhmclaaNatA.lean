/- Package nat: short. -/
import Derived.Test.YtemanlkgfhmclaaU2
import Derived.Test.YtemanlkgfhmclaaNatC
import Derived.IntWalk
namespace Go.Proofs.Ytemanlkgfhmclaa
open Go.RowKit Cw
attribute [local go_sem] Oper.semAt_some

theorem wrap_predN {k k' : Nat} (h : k = k' + 1) (hk : k ≤ 1000000) : IntKind.i64.wrap ((k : Int) - 1) = (k' : Int) := by
  rw [IntWalk.i64_in _ (by omega)]; omega
set_option maxHeartbeats 1000000 in
/-- The slice without the zero limbs at its end. -/
theorem nShort_any (l : List Nat) (hlm : Lm l) (A : Option Addr) (c : Nat) (w : World) (hr : U.Rd w w.heap.size A l) (hn : l.length ≤ 1000000) (hc : l.length ≤ c) :
    Calls Try.prog 47 #[.slice A l.length c] w fun e w' => e = .returned (.slice A (nlen (nv l)) (nlen (nv l))) ∧ U.Rd w w.heap.size A (nL (nv l)) ∧ w = w' := by
  obtain ⟨n, hln⟩ : ∃ n, n = l.length := ⟨_, rfl⟩
  rw [← hln] at hn hc ⊢
  have hend : ∀ k, k ≤ n → (∀ j, k ≤ j → j < l.length → l[j]?.getD 0 = 0) → (k = 0 ∨ l[k - 1]?.getD 0 ≠ 0) → k = nlen (nv l) ∧ U.Rd w w.heap.size A (nL (nv l)) := fun k hk h1 h2 => by
    have h3 := nL_take hlm (by rw [← hln]; exact hk) h1 h2
    have h4 : k = nlen (nv l) := by rw [← nL_length, ← h3, List.length_take, ← hln]; omega
    exact ⟨h4, by rw [← h3]; exact hr.take k⟩
  have hat : ∀ k, k < n → ∃ b off, A = some ⟨b, off, none⟩ ∧ b < w.heap.size ∧ w.cell? ⟨b, off + k, none⟩ = some (.int .u32 ((l[k]?.getD 0 : Nat) : Int)) := fun k hk => hr.at_ (by rw [← hln]; exact hk)
  have h0 : Hid (∀ j, n ≤ j → j < l.length → l[j]?.getD 0 = 0) := fun j h1 h2 => absurd h2 (by omega)
  replace hln := Lib.hid hln
  go_enter Try.func47, Try.ntmps47
  go_wp2_with (fail)
  go_loop [3] (fun v => ∃ k : Nat, k ≤ n ∧ v = .int .i64 k ∧ Hid (∀ j, k ≤ j → j < l.length → l[j]?.getD 0 = 0)) (fun v => (intOf v).toNat)
  case atStart => exact ⟨n, Nat.le_refl _, rfl, h0⟩
  case round =>
    obtain ⟨k, hk, rfl, hd⟩ := hrel
    rcases Nat.eq_zero_or_pos k with hz | hpos
    · subst hz
      obtain ⟨e1, e2⟩ := hend 0 hk hd.out (.inl rfl)
      replace e1 := Lib.hid e1
      go_wp2_with (fail)
      go_ret
      exact ⟨by rw [← e1.out]; rfl, rfl⟩
    · obtain ⟨k', hk'⟩ : ∃ k', k = k' + 1 := ⟨k - 1, by omega⟩
      have hwr := wrap_predN hk' (by omega)
      obtain ⟨b, o, rfl, -, hcell⟩ := hat k' (by omega)
      have hk0 : (0 : Int) < (k : Int) := by omega
      have hj0 : (0 : Int) ≤ (k' : Int) := by omega
      have hj1 : (k' : Int) < (n : Int) := by omega
      obtain ⟨y, hy⟩ : ∃ y, y = l[k']?.getD 0 := ⟨_, rfl⟩
      rw [← hy] at hcell
      by_cases hz : y = 0
      · have hzb : ((y : Int) == 0) = true := by rw [beq_iff_eq, hz]; rfl
        have hd2 : Hid (∀ j, k' ≤ j → j < l.length → l[j]?.getD 0 = 0) := fun j h1 h2 => by
          by_cases e : j = k'
          · rw [e, ← hy, hz]
          · exact hd.out j (by omega) h2
        replace hk' := Lib.hid hk'
        clear hz hy hd
        go_wp2_with (fail)
        go_round
        case rel => exact ⟨k', by have := hk'.out; omega, rfl, hd2⟩
        case measure => simp [intOf]; have := hk'.out; omega
      · have hzb : ((y : Int) == 0) = false := by rw [beq_eq_false_iff_ne]; omega
        obtain ⟨e1, e2⟩ := hend k hk hd.out (.inr (by rw [hk', Nat.add_sub_cancel, ← hy]; exact hz))
        replace hk' := Lib.hid hk'
        replace e1 := Lib.hid e1
        have hkn : (k : Int) ≤ (c : Int) := by omega
        clear hz hy hd
        go_wp2_with (fail)
        go_ret
        exact ⟨by rw [← e1.out]; rfl, rfl⟩

theorem ty_nat : Try.prog.underlying 38 = some (.slice 64) := by kernel_rfl
set_option maxHeartbeats 1000000 in
/-- A copy without the zero limbs at its end. -/
theorem nTrim_any (l : List Nat) (hlm : Lm l) (A : Option Addr) (c : Nat) (w : World) (hr : U.Rd w w.heap.size A l) (hn : l.length ≤ 1000000) (hc : l.length ≤ c) :
    Calls Try.prog 45 #[.slice A l.length c] w (U.GivesA w.heap.size (nL (nv l)) w) := by
  have hS := nShort_any l hlm A c w hr hn hc
  have hlen : nlen (nv l) ≤ 1000000 := Nat.le_trans (nlen_le (nv_lt hlm)) hn
  have hle : ([] : List Nat).length + (nL (nv l)).length ≤ 1000000000 := by rw [nL_length]; simp; omega
  have hnl : nlen (nv l) = (nL (nv l)).length := (nL_length _).symm
  replace hnl := Lib.hid hnl
  go_enter Try.func45, Try.ntmps45
  go_wp2_with (fail)
  refine hS.mono ?_
  rintro e w1 ⟨rfl, hr1, rfl⟩
  go_wp2_with (first
    | (at_builtin; refine U.wpList_appN rfl ty_nat _ _ rfl w.heap.size _ [] w.heap.size A (nlen (nv l)) (nL (nv l)) (U.Own.nil _ _) hr1 rfl rfl hnl.out hle (Nat.le_refl _) ?_; intro v4 w4 ho4 hb4 _ _; rw [List.nil_append] at ho4))
  go_ret
  exact ⟨_, rfl, ho4, hb4⟩

theorem U.Own.base {w : World} {B B' : Nat} {v : Value} {l : List Nat} (h : U.Own w B v l) (hB : B' ≤ B) : U.Own w B' v l := by
  refine ⟨h.1, ?_⟩
  rcases h.2 with hn | ⟨g, cap, cur, rfl, hb, rest⟩
  · exact .inl hn
  · exact .inr ⟨g, cap, cur, rfl, Nat.le_trans hB hb, rest⟩
theorem two_limbs {n : Nat} (h : n < 18446744073709551616) : Lm [n % nB, n / nB] ∧ nv [n % nB, n / nB] = n := by
  have e : nB = 4294967296 := nB_eq
  constructor
  · intro x hx
    rw [e] at hx ⊢
    rcases List.mem_cons.1 hx with rfl | hx
    · omega
    · rcases List.mem_cons.1 hx with rfl | hx
      · omega
      · cases hx
  · show n % nB + nB * (n / nB + nB * 0) = n
    rw [Nat.mul_zero, Nat.add_zero]
    exact Nat.mod_add_div n nB
theorem two_block (n : Nat) (w : World) : U.IB (w.alloc (.cells #[.int .u32 ((n : Int) % 4294967296), .int .u32 ((n : Int) / 4294967296)] 64)) w.heap.size [n % nB, n / nB] := by
  have h := U.IB.new w [n % nB, n / nB]
  rw [nB_eq] at h ⊢
  exact h
set_option maxHeartbeats 1000000 in
theorem nOf_any (n : Nat) (w : World) (h : n < 18446744073709551616) :
    Calls Try.prog 21 #[.int .u64 (n : Int)] w (U.GivesA w.heap.size (nL n) w) := by
  obtain ⟨hl, hv⟩ := two_limbs h
  have hib := two_block n w
  have hT := nTrim_any _ hl (some ⟨w.heap.size, 0, none⟩) 2 _ hib.rd (by simp) (by simp)
  have hB : Below w.heap.size w (w.alloc (.cells #[.int .u32 ((n : Int) % 4294967296), .int .u32 ((n : Int) / 4294967296)] 64)) := (Below.refl _ _).alloc (Nat.le_refl _) _
  rw [hv] at hT
  clear hl hv hib
  go_enter Try.func21, Try.ntmps21
  go_wp2_with (fail)
  refine hT.mono ?_
  rintro e w1 ⟨v, rfl, ho, hb⟩
  go_wp2_with (fail)
  go_ret
  exact ⟨_, rfl, ho.base hB.size, hB.trans (hb.mono hB.size)⟩
end Go.Proofs.Ytemanlkgfhmclaa

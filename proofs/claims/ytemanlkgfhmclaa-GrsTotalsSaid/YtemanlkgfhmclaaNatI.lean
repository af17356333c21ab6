/- Package nat: Cmp of a number and one that is not greater. -/
import Derived.Test.YtemanlkgfhmclaaNatH
namespace Go.Proofs.Ytemanlkgfhmclaa
open Go.RowKit Cw
attribute [local go_sem] Oper.semAt_some

theorem nlen_mono {p q : Nat} (h : q ≤ p) : nlen q ≤ nlen p := by
  rcases (nlen_spec q).2 with e | e
  · omega
  · have h1 := (nlen_spec p).1
    have h2 : nB ^ (nlen q - 1) < nB ^ nlen p := by omega
    have h3 := (Nat.pow_lt_pow_iff_right nB_gt).1 h2
    omega
theorem cmp_step {P Q m x y : Nat} (h : Q ≤ P) (he : P / nB ^ (m + 1) = Q / nB ^ (m + 1)) (hx : x = P / nB ^ m % nB) (hy : y = Q / nB ^ m % nB) : y ≤ x ∧ (x = y → P / nB ^ m = Q / nB ^ m) := by
  rw [Nat.pow_succ, ← Nat.div_div_eq_div_mul, ← Nat.div_div_eq_div_mul] at he
  have h1 := Nat.div_add_mod (P / nB ^ m) nB
  have h2 := Nat.div_add_mod (Q / nB ^ m) nB
  have h3 : Q / nB ^ m ≤ P / nB ^ m := Nat.div_le_div_right h
  rw [he, ← hx] at h1
  rw [← hy] at h2
  exact ⟨by omega, fun e => by omega⟩

set_option maxHeartbeats 4000000 in
theorem nCmp_ge (a b : List Nat) (ha : Lm a) (hb : Lm b) (A1 A2 : Option Addr) (c1 c2 : Nat) (w : World) (h1 : U.Rd w w.heap.size A1 a) (h2 : U.Rd w w.heap.size A2 b) (hn1 : a.length ≤ 60000) (hn2 : b.length ≤ 60000) (hc1 : a.length ≤ c1) (hc2 : b.length ≤ c2) (hle : nv b ≤ nv a) :
    Calls Try.prog 49 #[.slice A1 a.length c1, .slice A2 b.length c2] w fun e w' => ∃ v : Nat, e = .returned (.int .i64 (v : Int)) ∧ v ≤ 1 ∧ Below w.heap.size w w' := by
  have hS1 := nShort_any a ha A1 c1 w h1 (by omega) hc1
  have hS2 := nShort_any b hb A2 c2 w h2 (by omega) hc2
  have hl1 : nlen (nv a) ≤ 60000 := Nat.le_trans (nlen_le (nv_lt ha)) hn1
  have hl2 : nlen (nv b) ≤ nlen (nv a) := nlen_mono hle
  obtain ⟨P, hPe⟩ : ∃ P, P = nv a := ⟨_, rfl⟩
  obtain ⟨Q, hQe⟩ : ∃ Q, Q = nv b := ⟨_, rfl⟩
  rw [← hPe] at hS1 hl1 hl2 hle; rw [← hQe] at hS2 hl2 hle
  clear hPe hQe h1 h2 ha hb
  obtain ⟨n, hne⟩ : ∃ n, n = nlen P := ⟨_, rfl⟩
  obtain ⟨m, hme⟩ : ∃ m, m = nlen Q := ⟨_, rfl⟩
  have hsp := (nlen_spec P).1
  have hsq := (nlen_spec Q).1
  rw [← hne] at hS1 hl1 hl2 hsp; rw [← hme] at hS2 hl2 hsq
  replace hne := Lib.hid hne
  replace hme := Lib.hid hme
  replace hS1 := Lib.hid hS1
  replace hS2 := Lib.hid hS2
  go_enter Try.func49, Try.ntmps49
  go_wp2_with (fail)
  refine hS1.out.mono ?_
  rintro e w1 ⟨rfl, hr1, rfl⟩
  go_wp2_with (fail)
  refine hS2.out.mono ?_
  rintro e w1 ⟨rfl, hr2, rfl⟩
  by_cases hnm : n = m
  · subst hnm
    have hat : ∀ k, k < n → ∃ p off, A1 = some ⟨p, off, none⟩ ∧ p < w.heap.size ∧ w.cell? ⟨p, off + k, none⟩ = some (.int .u32 (((nL P)[k]?.getD 0 : Nat) : Int)) := fun k hk => hr1.at_ (by rw [nL_length, ← hne.out]; exact hk)
    have hbt : ∀ k, k < n → ∃ p off, A2 = some ⟨p, off, none⟩ ∧ p < w.heap.size ∧ w.cell? ⟨p, off + k, none⟩ = some (.int .u32 (((nL Q)[k]?.getD 0 : Nat) : Int)) := fun k hk => hr2.at_ (by rw [nL_length, ← hme.out]; exact hk)
    clear hr1 hr2
    go_wp2_with (fail)
    go_loopw [5] (fun i wr => ∃ k : Nat, k ≤ n ∧ i = .int .i64 ((k : Int) - 1) ∧ Hid (P / nB ^ k = Q / nB ^ k) ∧ Below w.heap.size w wr) (fun i _ => (intOf i + 1).toNat)
    case atStart => exact ⟨n, Nat.le_refl _, rfl, Lib.hid (by rw [Nat.div_eq_of_lt hsp, Nat.div_eq_of_lt hsq]), Below.refl _ _⟩
    case round =>
      obtain ⟨k, hk, rfl, hpq, hbw⟩ := hrel
      obtain ⟨w2, rfl⟩ : ∃ w2 : World, w2 = wr := ⟨_, rfl⟩
      rcases Nat.eq_zero_or_pos k with h | h
      · subst h
        clear hat hbt hsp hsq hle hpq
        go_wp2_with (fail)
        go_ret
        exact ⟨0, rfl, Nat.zero_le _, hbw⟩
      · obtain ⟨j, rfl⟩ : ∃ j, k = j + 1 := ⟨k - 1, by omega⟩
        obtain ⟨p1, o1, rfl, hp1, hc⟩ := hat j (by omega)
        obtain ⟨p2, o2, rfl, hp2, hd⟩ := hbt j (by omega)
        rw [← hbw.cell (p := ⟨p1, o1 + j, none⟩) hp1] at hc
        rw [← hbw.cell (p := ⟨p2, o2 + j, none⟩) hp2] at hd
        obtain ⟨x, hxe⟩ : ∃ x, x = (nL P)[j]?.getD 0 := ⟨_, rfl⟩
        obtain ⟨y, hye⟩ : ∃ y, y = (nL Q)[j]?.getD 0 := ⟨_, rfl⟩
        rw [← hxe] at hc; rw [← hye] at hd
        rw [nv_get (nL_lm P), nv_nL] at hxe
        rw [nv_get (nL_lm Q), nv_nL] at hye
        obtain ⟨hyx, hst⟩ := cmp_step hle hpq.out hxe hye
        have hmi : ((j + 1 : Nat) : Int) - 1 = (j : Int) := by omega
        rw [hmi]
        have hj0 : (0 : Int) ≤ (j : Int) := by omega
        have hj1 : (j : Int) < (n : Int) := by omega
        have hn1 : ¬ (x : Int) < (y : Int) := by omega
        clear hat hbt hxe hye hsp hsq hle hpq
        by_cases hxy : x = y
        · have hnx := Lib.hid (hst hxy)
          have hn2 : ¬ (y : Int) < (x : Int) := by omega
          replace hxy := Lib.hid hxy
          clear hst hyx
          go_wp2_with (fail)
          go_quiet (fail)
          go_wp2_with (fail)
          go_quiet (fail)
          go_wp2_with (fail)
          exact ⟨⟨j, by omega, rfl, hnx, ⟨hbw.os, hbw.tape, hbw.output, hbw.size, hbw.block⟩⟩, by simp [intOf]⟩
        · have hn2 : (y : Int) < (x : Int) := by omega
          clear hst hyx hxy
          go_wp2_with (fail)
          go_quiet (fail)
          go_wp2_with (fail)
          go_quiet (fail)
          go_wp2_with (fail)
          go_ret
          exact ⟨1, rfl, Nat.le_refl _, ⟨hbw.os, hbw.tape, hbw.output, hbw.size, hbw.block⟩⟩
  · have hlt : m < n := by omega
    have hd : ¬ (n : Int) = (m : Int) := by omega
    have hd2 : ¬ (n : Int) < (m : Int) := by omega
    clear hnm hl2 hr1 hr2
    go_wp2_with (fail)
    go_ret
    exact ⟨1, rfl, Nat.le_refl _, Below.refl _ _⟩
end Go.Proofs.Ytemanlkgfhmclaa

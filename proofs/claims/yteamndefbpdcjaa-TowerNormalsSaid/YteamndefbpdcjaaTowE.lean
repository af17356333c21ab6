/- Layer 7: Conjugates, of the program and of the reference. -/
import Derived.Test.YteamndefbpdcjaaTowD
namespace Go.Proofs.Yteamndefbpdcjaa
open Go.RowKit Go.Shelf Cw
attribute [local go_sem] Oper.semAt_some

/-- n is the least number of steps of d that lead u back to itself. -/
def IsPer {D : FD} (d : Nat) (u : R D.toDesc) (n : Nat) : Prop := 1 ≤ n ∧ frob (d * n) u = u ∧ ∀ j, 1 ≤ j → j < n → frob (d * j) u ≠ u
theorem IsPer.dvd {D : FD} {d n : Nat} {u : R D.toDesc} (h : IsPer d u n) {k : Nat} (hk : frob (d * k) u = u) : n ∣ k := by
  have h1 : frob (d * (k % n)) u = u := by
    have e : frob (d * (k % n)) (frob (d * n * (k / n)) u) = frob (d * k) u := by
      rw [frob_frob, Nat.mul_assoc, ← Nat.mul_add, Nat.mod_add_div]
    rw [frob_fix_mul h.2.1, hk] at e
    exact e
  rcases Nat.eq_zero_or_pos (k % n) with h0 | h0
  · exact Nat.dvd_of_mod_eq_zero h0
  · exact absurd h1 (h.2.2 _ h0 (Nat.mod_lt _ h.1))
theorem IsPer.dvd_M {D : FD} {d n : Nat} {u : R D.toDesc} (h : IsPer d u n) (hd : d ∣ D.m) : n ∣ D.m / d := h.dvd (by
  rw [Nat.mul_div_cancel' hd]; exact frob_M (F := R D.toDesc) u)
theorem IsPer.uniq {D : FD} {d n n' : Nat} {u : R D.toDesc} (h : IsPer d u n) (h' : IsPer d u n') : n = n' :=
  Nat.dvd_antisymm (h.dvd h'.2.1) (h'.dvd h.2.1)
def vlen : Value → Nat
  | .slice _ n _ => n
  | _ => 0
theorem Own.vlen {w : World} {B : Nat} {v : Value} {l : List Int} (h : Own w B v l) : vlen v = l.length := by
  obtain ⟨A, c, rfl, -⟩ := h.form
  rfl
theorem frobs_succ {D : FD} (d : Nat) (u : R D.toDesc) (n : Nat) : frobs d u (n + 1) = frobs d u n ++ [ci (frob (d * n) u)] := lst_succ _ _
theorem frobs_one {D : FD} (d : Nat) (u : R D.toDesc) : frobs d u 1 = [ci u] := by
  rw [frobs_succ, Nat.mul_zero, frob_zero_k]; rfl
theorem frobs_length {D : FD} (d : Nat) (u : R D.toDesc) (n : Nat) : (frobs d u n).length = n := lst_length _ _

set_option maxHeartbeats 1000000 in
theorem tConj_no (D : FD) (x d : Int) (g : Nat) (w : World) (hg : GF w w.heap.size g D) (hd : divB D.m d = false) :
    Calls Try.prog 39 #[.pointer (some ⟨g, 0, none⟩), .int .i64 x, .int .i64 d] w fun e w' => e = .returned (.tuple #[.slice none 0 0, .int .i64 6]) ∧ Below w.heap.size w w' := by
  have hI := isDegree_any D d g w hg
  rw [hd] at hI
  replace hI := Lib.hid hI
  clear hg hd
  go_enter Try.func39, Try.ntmps39
  go_wp2_with (fail)
  refine hI.out.mono ?_
  rintro e w1 ⟨rfl, hb1⟩
  go_wp2_with (fail)
  go_ret2
  exact ⟨rfl, hb1⟩

set_option maxHeartbeats 1000000 in
theorem tConj_yes (D : FD) (x : Int) (d : Nat) (g : Nat) (w : World) (hg : GF w w.heap.size g D) (hd1 : 1 ≤ d) (hd2 : d ∣ D.m) :
    Calls Try.prog 39 #[.pointer (some ⟨g, 0, none⟩), .int .i64 x, .int .i64 d] w fun e w' => ∃ n v, IsPer d (eli D.toDesc x) n ∧ e = .returned (.tuple #[v, .int .i64 0]) ∧ Own w' w.heap.size v (frobs d (eli D.toDesc x) n) ∧ Below w.heap.size w w' := by
  have hm8 := D.m8; have hm1 := D.m1
  have hd8 : d ≤ 8 := Nat.le_trans (Nat.le_of_dvd hm1 hd2) hm8
  have hI := isDegree_any D d g w hg
  rw [divB_of hd1 hd2 D.m1] at hI
  replace hI := Lib.hid hI
  have hA := fun W hg => Lib.hid (gAdd_any D x 0 g W hg)
  have hF := fun y W hg => Lib.hid (tFrob_any D y d g W hg (by omega) (by omega))
  generalize hu : eli D.toDesc x = u at *
  rw [eli_zero, add_zero] at hA
  have hF0 := fun W hg => (hF (ci u) W hg).out
  rw [eli_ci, frob_kmod] at hF0
  replace hF0 := fun W hg => Lib.hid (hF0 W hg)
  have hfM : Hid (frob (d * (D.m / d)) u = u) := by
    unfold Hid; rw [Nat.mul_div_cancel' hd2]; exact frob_M (F := R D.toDesc) u
  obtain ⟨N, hN⟩ : ∃ N, N = D.m / d := ⟨_, rfl⟩
  have hN1 : 1 ≤ N := by rw [hN]; exact Nat.div_pos (Nat.le_of_dvd hm1 hd2) hd1
  have hN8 : N ≤ 8 := by rw [hN]; exact Nat.le_trans (Nat.div_le_self _ _) hm8
  rw [← hN] at hfM
  clear hu hd2 hN
  go_enter Try.func39, Try.ntmps39
  go_wp2_with (fail)
  refine hI.out.mono ?_
  rintro e w1 ⟨rfl, hb1⟩
  have hg1 := (hg.below hb1).more hb1.size
  go_wp2_with (fail)
  (with_reducible refine (hA _ hg1).out.mono ?_)
  rintro e w2 ⟨rfl, hb2⟩
  have hg2 := (hg1.below hb2).more hb2.size
  have hB2 := hb1.trans (hb2.mono hb1.size)
  have hB3 : Below w.heap.size w (w2.alloc (.cells #[.int .i64 (ci u)] 3)) := hB2.alloc hB2.size _
  have hg3 : GF (w2.alloc (.cells #[.int .i64 (ci u)] 3)) (w2.alloc (.cells #[.int .i64 (ci u)] 3)).heap.size g D := (hg2.below ((Below.refl _ _).alloc (Nat.le_refl _) _)).more (by simp)
  have hown3 : Own (w2.alloc (.cells #[.int .i64 (ci u)] 3)) w.heap.size (.slice (some ⟨w2.heap.size, 0, none⟩) 1 1) (frobs d u 1) := by
    rw [frobs_one]
    exact Own.of_IB (IB.new w2 [ci u]) hB2.size (by simp [maxLen])
  go_wp2_with (fail)
  (with_reducible refine (hF0 _ hg3).out.mono ?_)
  rintro e w4 ⟨rfl, hb4⟩
  have hB4 := hB3.trans (hb4.mono hB3.size)
  have hown4 := hown3.below hb4 (Nat.le_refl _)
  have hg4 := (hg3.below hb4).more hb4.size
  clear hF0 hA hI hg3 hg2 hg1 hB3 hB2 hown3 hb1 hb2 hb4
  go_wp2_with (fail)
  go_loopw [8, 9] (fun o y wr => ∃ k : Nat, 1 ≤ k ∧ k ≤ N ∧ y = .int .i64 (ci (frob (d * k) u)) ∧ Own wr w.heap.size o (frobs d u k) ∧ Below w.heap.size w wr ∧ Hid (∀ j, 1 ≤ j → j < k → frob (d * j) u ≠ u)) (fun o _ _ => N - vlen o)
  case atStart => exact ⟨1, by omega, hN1, by rw [Nat.mul_one], hown4, hB4, fun j h1 h2 => by omega⟩
  case round =>
    clear hown4 hB4
    obtain ⟨k, hk1, hk2, rfl, hown, hbw, hno⟩ := hrel
    have hvl := Lib.hid (hown.vlen.trans (frobs_length d u k))
    by_cases hfk : frob (d * k) u = u
    · have hper : Hid (IsPer d u k) := ⟨hk1, hfk, hno.out⟩
      rw [hfk]
      clear hfk hno
      go_wp2_with (fail)
      go_ret2
      exact ⟨k, _, hper.out, rfl, hown, hbw⟩
    · have hne : (ci (frob (d * k) u) != ci u) = true := by rw [bne_iff_ne]; exact fun e => hfk (ci_inj e)
      have hkN : k < N := by
        rcases Nat.lt_or_ge k N with h | h
        · exact h
        · exact absurd (by rw [show k = N by omega]; exact hfM.out) hfk
      have hno2 : Hid (∀ j, 1 ≤ j → j < k + 1 → frob (d * j) u ≠ u) := fun j h1 h2 => by
        by_cases e : j = k
        · subst e; exact hfk
        · exact hno.out j h1 (by omega)
      have hF2 := fun W hg => (hF (ci (frob (d * k) u)) W hg).out
      rw [eli_ci, frob_kmod, frob_frob, show d + d * k = d * (k + 1) by rw [Nat.mul_succ]; omega] at hF2
      replace hF2 := fun W hg => Lib.hid (hF2 W hg)
      have hsc := Lib.hid (frobs_succ d u k)
      have hle : (frobs d u k).length ≤ 1000000 := by rw [frobs_length]; omega
      clear hfk hno
      generalize ci (frob (d * k) u) = y at *
      go_wp2_with (at_builtin; refine wpList_app1 rfl _ _ rfl w.heap.size _ _ _ hown rfl rfl rfl hle hbw.size ?_; intro v' w3 hown3 hb3 _ _)
      have hbw3 := hbw.trans hb3
      have hg3 := (hg.below hbw3).more hbw3.size
      go_wp2_with (fail)
      (with_reducible refine (hF2 _ hg3).out.mono ?_)
      rintro e w4 ⟨rfl, hb4⟩
      go_wp2_with (fail)
      go_roundw
      case rel => exact ⟨k + 1, by omega, by omega, rfl, by rw [hsc.out]; exact hown3.below hb4 (Nat.le_refl _), hbw3.trans (hb4.mono hbw3.size), hno2⟩
      case measure => rw [hvl.out, hown3.vlen]; simp [frobs_length]; omega

set_option maxHeartbeats 1000000 in
theorem Conj7_any (D : FD) (x : Int) (d : Nat) (A : Option Addr) (c : Nat) (w : World) (hr : Rd w w.heap.size A (modL D.toDesc)) (hd1 : 1 ≤ d) (hd2 : d ∣ D.m) :
    Calls Try.prog 40 #[.agg #[.int .i64 D.p, .int .i64 D.m, .slice A D.mod.length c], .int .i64 x, .int .i64 d] w fun e w' => ∃ n v, IsPer d (eli D.toDesc x) n ∧ e = .returned v ∧ Own w' w.heap.size v (frobs d (eli D.toDesc x) n) ∧ Below w.heap.size w w' := by
  have hm8 := D.m8; have hm1 := D.m1
  have hd8 : d ≤ 8 := Nat.le_trans (Nat.le_of_dvd hm1 hd2) hm8
  have hI := fun W => Lib.hid (In_any D.toDesc x A D.mod.length c W)
  have hF := fun y W hr => Lib.hid (Frob7_any D y d A c W hr (by omega))
  generalize hu : eli D.toDesc x = u at *
  have hF0 := fun W hr => (hF (ci u) W hr).out
  rw [eli_ci] at hF0
  replace hF0 := fun W hr => Lib.hid (hF0 W hr)
  have hfM : Hid (frob (d * (D.m / d)) u = u) := by
    unfold Hid; rw [Nat.mul_div_cancel' hd2]; exact frob_M (F := R D.toDesc) u
  obtain ⟨N, hN⟩ : ∃ N, N = D.m / d := ⟨_, rfl⟩
  have hN1 : 1 ≤ N := by rw [hN]; exact Nat.div_pos (Nat.le_of_dvd hm1 hd2) hd1
  have hN8 : N ≤ 8 := by rw [hN]; exact Nat.le_trans (Nat.div_le_self _ _) hm8
  rw [← hN] at hfM
  have hbx0 := Bx.new w D.toDesc A D.mod.length c 24
  have hB0 : Below w.heap.size w (w.alloc (.cells #[.int .i64 D.p, .int .i64 D.m, .slice A D.mod.length c] 24)) := (Below.refl _ _).alloc (Nat.le_refl _) _
  clear hu hd2 hN
  go_enter Try.func40, Try.ntmps40
  go_wp2_with (fail)
  (with_reducible refine (hI _).out.mono ?_)
  rintro e w1 ⟨rfl, hb1⟩
  have hbx1 := hbx0.below hb1 (by simp)
  have hB1 := hB0.trans (hb1.mono hB0.size)
  have hs1 : w.heap.size < w1.heap.size := by have := hb1.size; simp only [World.size_alloc] at this; omega
  have hbA : Below w1.heap.size w1 (w1.alloc (.cells #[.int .i64 (ci u)] 3)) := (Below.refl _ _).alloc (Nat.le_refl _) _
  have hB2 := hB1.trans (hbA.mono hB1.size)
  have hbx2 := hbx1.below hbA hs1
  have hown2 : Own (w1.alloc (.cells #[.int .i64 (ci u)] 3)) (w.heap.size + 1) (.slice (some ⟨w1.heap.size, 0, none⟩) 1 1) (frobs d u 1) := by
    rw [frobs_one]
    exact Own.of_IB (IB.new w1 [ci u]) hs1 (by simp [maxLen])
  have hr2 := (hr.below hB2).more hB2.size
  have hs2 : w.heap.size < (w1.alloc (.cells #[.int .i64 (ci u)] 3)).heap.size := by simp only [World.size_alloc]; omega
  obtain ⟨kc0, kc1, kc2⟩ := hbx1
  go_wp2_with (fail)
  (with_reducible refine (hF0 _ hr2).out.mono ?_)
  rintro e w3 ⟨rfl, hb3⟩
  have hB3 := hB2.trans (hb3.mono hB2.size)
  have hown3 := hown2.below hb3 (Nat.le_refl _)
  have hbx3 := hbx2.below hb3 hs2
  have hs3 : w.heap.size < w3.heap.size := Nat.lt_of_lt_of_le hs2 hb3.size
  clear hF0 hI hB2 hbx2 hown2 hb1 hb3 kc0 kc1 kc2 hbA hr2 hs2 hB0 hbx0
  go_wp2_with (fail)
  go_loopw [7, 8] (fun o y wr => ∃ k : Nat, 1 ≤ k ∧ k ≤ N ∧ y = .int .i64 (ci (frob (d * k) u)) ∧ Own wr (w.heap.size + 1) o (frobs d u k) ∧ Bx wr w.heap.size D.toDesc A D.mod.length c ∧ w.heap.size < wr.heap.size ∧ Below w.heap.size w wr ∧ Hid (∀ j, 1 ≤ j → j < k → frob (d * j) u ≠ u)) (fun o _ _ => N - vlen o)
  case atStart => exact ⟨1, by omega, hN1, by rw [Nat.mul_one], hown3, hbx3, hs3, hB3, fun j h1 h2 => by omega⟩
  case round =>
    clear hown3 hB3 hbx3
    obtain ⟨k, hk1, hk2, rfl, hown, hbx, hsz, hbw, hno⟩ := hrel
    have hvl := Lib.hid (hown.vlen.trans (frobs_length d u k))
    by_cases hfk : frob (d * k) u = u
    · have hper : Hid (IsPer d u k) := ⟨hk1, hfk, hno.out⟩
      rw [hfk]
      clear hfk hno hbx
      go_wp2_with (fail)
      go_ret
      exact ⟨k, _, hper.out, rfl, World.ownsRow.mono hown (Nat.le_succ _), hbw⟩
    · have hne : (ci (frob (d * k) u) != ci u) = true := by rw [bne_iff_ne]; exact fun e => hfk (ci_inj e)
      have hkN : k < N := by
        rcases Nat.lt_or_ge k N with h | h
        · exact h
        · exact absurd (by rw [show k = N by omega]; exact hfM.out) hfk
      have hno2 : Hid (∀ j, 1 ≤ j → j < k + 1 → frob (d * j) u ≠ u) := fun j h1 h2 => by
        by_cases e : j = k
        · subst e; exact hfk
        · exact hno.out j h1 (by omega)
      have hF2 := fun W hr => (hF (ci (frob (d * k) u)) W hr).out
      rw [eli_ci, frob_frob, show d + d * k = d * (k + 1) by rw [Nat.mul_succ]; omega] at hF2
      replace hF2 := fun W hr => Lib.hid (hF2 W hr)
      have hsc := Lib.hid (frobs_succ d u k)
      have hle : (frobs d u k).length ≤ 1000000 := by rw [frobs_length]; omega
      clear hfk hno
      generalize ci (frob (d * k) u) = y at *
      go_wp2_with (at_builtin; refine wpList_app1 rfl _ _ rfl (w.heap.size + 1) _ _ _ hown rfl rfl rfl hle hsz ?_; intro v' w4 hown4 hb4 _ _; have hbx4 := hbx.below hb4 (Nat.lt_succ_self _); have kc := hbx4; obtain ⟨kc0, kc1, kc2⟩ := kc)
      have hbw4 := hbw.trans (hb4.mono (Nat.le_succ _))
      have hr4 := (hr.below hbw4).more hbw4.size
      have hs4 : w.heap.size < w4.heap.size := Nat.lt_of_lt_of_le hsz hb4.size
      clear hbx
      go_wp2_with (fail)
      (with_reducible refine (hF2 _ hr4).out.mono ?_)
      rintro e w5 ⟨rfl, hb5⟩
      clear kc0 kc1 kc2
      go_wp2_with (fail)
      go_roundw
      case rel => exact ⟨k + 1, by omega, by omega, rfl, by rw [hsc.out]; exact hown4.below hb5 (Nat.le_refl _), hbx4.below hb5 hs4, Nat.lt_of_lt_of_le hs4 hb5.size, hbw4.trans (hb5.mono hbw4.size), hno2⟩
      case measure => rw [hvl.out, hown4.vlen]; simp [frobs_length]; omega
end Go.Proofs.Yteamndefbpdcjaa

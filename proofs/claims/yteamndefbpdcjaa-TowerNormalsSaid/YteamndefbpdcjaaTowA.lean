/- Layer 7 of the program: prime, isDegree, Frobenius, Degree. -/
import Derived.Test.YteamndefbpdcjaaGA
import Derived.Test.YteamndefbpdcjaaGfP
import Derived.Test.YteamndefbpdcjaaRefE
namespace Go.Proofs.Yteamndefbpdcjaa
open Go.RowKit Cw

set_option maxHeartbeats 1000000 in
theorem tprime_any (D : FD) (g : Nat) (w : World) (hg : GF w w.heap.size g D) :
    Calls Try.prog 59 #[.pointer (some ⟨g, 0, none⟩)] w fun e w' => e = .returned (.tuple #[.int .i64 D.p, .int .i64 D.m]) ∧ Below w.heap.size w w' := by
  have hF := Lib.hid (gField_any D g w hg)
  clear hg
  go_enter Try.func59, Try.ntmps59
  go_wp2_with (fail)
  refine hF.out.mono ?_
  rintro e w1 ⟨A3, c3, rfl, hr, hA, hb1⟩
  have hs1 := hb1.size
  go_wp2_with (fail)
  go_quiet (fail)
  go_wp2_with (fail)
  go_ret2
  exact ⟨rfl, below_drewN' (hb1.alloc hs1 _) _⟩

set_option maxHeartbeats 1000000 in
theorem isDegree_any (D : FD) (d : Int) (g : Nat) (w : World) (hg : GF w w.heap.size g D) :
    Calls Try.prog 65 #[.pointer (some ⟨g, 0, none⟩), .int .i64 d] w fun e w' => e = .returned (.bool (divB D.m d)) ∧ Below w.heap.size w w' := by
  have hp2 := D.m8
  have hP := Lib.hid (tprime_any D g w hg)
  clear hg
  by_cases h1 : 1 ≤ d
  · by_cases h2 : d ≤ D.m
    · by_cases h3 : (D.m : Int) % d = 0
      · have hb : ((D.m : Int) % d == 0) = true := beq_iff_eq.2 h3
        have hfin : Hid (divB D.m d = true) := decide_eq_true ⟨h1, h2, h3⟩
        clear h3
        go_enter Try.func65, Try.ntmps65
        go_wp2_with (go_at_call 59; refine hP.out.mono ?_; rintro e w1 ⟨rfl, hb1⟩)
        go_ret
        exact ⟨ret_bool hfin.out.symm, hb1⟩
      · have hb : ((D.m : Int) % d == 0) = false := beq_eq_false_iff_ne.2 h3
        have hfin : Hid (divB D.m d = false) := decide_eq_false fun h => h3 h.2.2
        clear h3
        go_enter Try.func65, Try.ntmps65
        go_wp2_with (go_at_call 59; refine hP.out.mono ?_; rintro e w1 ⟨rfl, hb1⟩)
        go_ret
        exact ⟨ret_bool hfin.out.symm, hb1⟩
    · have hfin : Hid (divB D.m d = false) := decide_eq_false fun h => h2 h.2.1
      go_enter Try.func65, Try.ntmps65
      go_wp2_with (go_at_call 59; refine hP.out.mono ?_; rintro e w1 ⟨rfl, hb1⟩)
      go_ret
      exact ⟨ret_bool hfin.out.symm, hb1⟩
  · have hfin : Hid (divB D.m d = false) := decide_eq_false fun h => h1 h.1
    go_enter Try.func65, Try.ntmps65
    go_wp2_with (go_at_call 59; refine hP.out.mono ?_; rintro e w1 ⟨rfl, hb1⟩)
    go_ret
    exact ⟨ret_bool hfin.out.symm, hb1⟩

/-- The exponent k modulo M. -/
def kmod (m : Nat) (k : Int) : Nat := (k % (m : Int)).toNat
theorem kmod_eq {m : Nat} (hm : 1 ≤ m) (k : Int) : (k.tmod m + m).tmod m = (kmod m k : Int) := by
  have h1 : (0 : Int) < m := by omega
  have h2 := Int.emod_nonneg k (show (m : Int) ≠ 0 by omega)
  have h3 := Int.emod_lt_of_pos k h1
  have e : (kmod m k : Int) = k % (m : Int) := Int.toNat_of_nonneg h2
  rw [e]
  have h5 := Int.lt_tmod_of_pos k h1
  rw [Int.tmod_eq_emod_of_nonneg (by omega), Int.add_emod_right]
  rw [Int.tmod_eq_emod]
  split <;> simp

set_option maxHeartbeats 1000000 in
theorem tFrob_any (D : FD) (x k : Int) (g : Nat) (w : World) (hg : GF w w.heap.size g D) (_hk1 : -9223372036854775808 ≤ k) (_hk2 : k ≤ 9223372036854775807) :
    Calls Try.prog 22 #[.pointer (some ⟨g, 0, none⟩), .int .i64 x, .int .i64 k] w fun e w' => e = .returned (.int .i64 (ci (frob (kmod D.m k) (eli D.toDesc x)))) ∧ Below w.heap.size w w' := by
  have hp2 := D.m8; have hm1 := D.m1; have hpp := D.p2; have hp3 := D.p256
  have hP := Lib.hid (tprime_any D g w hg)
  have hkm := kmod_eq hm1 k
  have hkl : kmod D.m k ≤ 8 := by
    have h3 := Int.emod_lt_of_pos k (show (0 : Int) < D.m by omega)
    unfold kmod; omega
  have hW := fun y W hg => Lib.hid (gPow_any D y D.p g W hg (by omega) (by omega))
  have hA := fun y W hg => Lib.hid (gAdd_any D y 0 g W hg)
  have htl := Int.lt_tmod_of_pos k (show (0 : Int) < D.m by omega)
  have htu : k.tmod D.m < D.m := Int.tmod_lt_of_pos k (by omega)
  generalize kmod D.m k = K at *
  go_enter Try.func22, Try.ntmps22
  go_wp2_with (fail)
  refine hP.out.mono ?_
  rintro e w1 ⟨rfl, hb1⟩
  go_wp2_with (fail)

  have hs1 := hb1.size
  have hg1 := (hg.below hb1).more hs1
  replace hkm := Lib.hid hkm
  clear htl htu hP
  go_loopw [1, 21, 23] (fun y i _ wr => ∃ j : Nat, ∃ z : Int, j ≤ K ∧ i = .int .i64 j ∧ y = .int .i64 z ∧ Hid (eli D.toDesc z = frob j (eli D.toDesc x)) ∧ Below w.heap.size w wr ∧ Hid (GF wr wr.heap.size g D)) (fun _ i _ _ => K - (intOf i).toNat)
  case atStart => exact ⟨0, x, by omega, rfl, rfl, (frob_zero_k _).symm, hb1, hg1⟩
  case round =>
    obtain ⟨j, z, hj, rfl, rfl, hz, hbw, hgr⟩ := hrel
    by_cases hlt : j < K
    · have hW2 := Lib.hid (hW z wr hgr.out).out
      have hz2 : Hid (eli D.toDesc (ci (pw (eli D.toDesc z) D.p)) = frob (j + 1) (eli D.toDesc x)) := by
        unfold Hid; rw [eli_ci, hz.out]; exact (frob_succ j _).symm
      go_wp2_with (fail)
      refine hW2.out.mono ?_
      rintro e w2 ⟨rfl, hb2⟩
      go_wp2_with (fail)
      go_roundw
      case rel => exact ⟨j + 1, _, by omega, by go_num, rfl, hz2, hbw.trans (hb2.mono hbw.size), (hgr.out.below hb2).more hb2.size⟩
      case measure => simp [intOf]; omega
    · obtain rfl : j = K := by omega
      have hA2 := Lib.hid (hA z wr hgr.out).out
      have hfin : Hid (ci (eli D.toDesc z + eli D.toDesc 0) = ci (frob j (eli D.toDesc x))) := by
        unfold Hid; rw [eli_zero, add_zero, hz.out]
      go_wp2_with (fail)
      refine hA2.out.mono ?_
      rintro e w2 ⟨rfl, hb2⟩
      go_wp2_with (fail)
      go_ret
      exact ⟨ret_int hfin.out, hbw.trans (hb2.mono hbw.size)⟩
end Go.Proofs.Yteamndefbpdcjaa

/- Layer 7 of the program: Degree, Sum, each, Trace, Norm. -/
import Derived.Test.YteamndefbpdcjaaTowA
namespace Go.Proofs.Yteamndefbpdcjaa
open Go.RowKit Cw

theorem kmod_nat (m d : Nat) : kmod m (d : Int) = d % m := by
  unfold kmod; rw [← Int.natCast_emod]; exact Int.toNat_natCast _
theorem frob_kmod (D : FD) (d : Nat) (u : R D.toDesc) : frob (kmod D.m (d : Int)) u = frob d u := by
  rw [kmod_nat]; exact frob_mod (F := R D.toDesc) d u

set_option maxHeartbeats 1000000 in
theorem tDegree_any (D : FD) (x : Int) (g : Nat) (w : World) (hg : GF w w.heap.size g D) :
    Calls Try.prog 35 #[.pointer (some ⟨g, 0, none⟩), .int .i64 x] w fun e w' => ∃ d : Nat, IsDeg (eli D.toDesc x) d ∧ e = .returned (.int .i64 d) ∧ Below w.heap.size w w' := by
  have hm8 := D.m8; have hm1 := D.m1
  have hF := fun (d : Nat) W hg (h : d ≤ 8) => Lib.hid (tFrob_any D x d g W hg (by omega) (by omega))
  have hA := fun W hg => Lib.hid (gAdd_any D x 0 g W hg)
  generalize hu : eli D.toDesc x = u at *
  rw [eli_zero, add_zero] at hA
  have hfM : Hid (frob D.m u = u) := frob_M (F := R D.toDesc) u
  clear hu
  go_enter Try.func35, Try.ntmps35
  go_wp2_with (fail)
  go_loopw [5] (fun d wr => ∃ k : Nat, 1 ≤ k ∧ k ≤ D.m ∧ d = .int .i64 k ∧ Below w.heap.size w wr ∧ Hid (GF wr wr.heap.size g D) ∧ Hid (∀ j, 1 ≤ j → j < k → frob j u ≠ u)) (fun d _ => D.m - (intOf d).toNat)
  case atStart => exact ⟨1, by omega, by omega, rfl, Below.refl _ _, hg, fun j h1 h2 => by omega⟩
  case round =>
    clear hg
    obtain ⟨k, hk1, hk2, rfl, hbw, hg, hno⟩ := hrel
    have hF2 := (hF k wr hg.out (by omega)).out
    rw [frob_kmod] at hF2
    replace hF2 := Lib.hid hF2
    by_cases hfk : frob k u = u
    · have hdeg : Hid (IsDeg u k) := ⟨hk1, hfk, hno.out⟩
      rw [hfk] at hF2
      clear hfk
      go_wp2_with (fail)
      refine hF2.out.mono ?_
      rintro e w1 ⟨rfl, hb1⟩
      have hA2 := hA w1 ((hg.out.below hb1).more hb1.size)
      go_wp2_with (fail)
      refine hA2.out.mono ?_
      rintro e w2 ⟨rfl, hb2⟩
      go_wp2_with (fail)
      go_ret
      exact ⟨k, hdeg.out, rfl, (hbw.trans (hb1.mono hbw.size)).trans (hb2.mono (Nat.le_trans hbw.size hb1.size))⟩
    · have hne : (ci (frob k u) != ci u) = true := by rw [bne_iff_ne]; exact fun e => hfk (ci_inj e)
      have hkM : k < D.m := by
        rcases Nat.lt_or_ge k D.m with h | h
        · exact h
        · exact absurd (by rw [show k = D.m by omega]; exact hfM.out) hfk
      have hno2 : Hid (∀ j, 1 ≤ j → j < k + 1 → frob j u ≠ u) := fun j h1 h2 => by
        by_cases e : j = k
        · subst e; exact hfk
        · exact hno.out j h1 (by omega)
      clear hfk
      go_wp2_with (fail)
      refine hF2.out.mono ?_
      rintro e w1 ⟨rfl, hb1⟩
      have hA2 := hA w1 ((hg.out.below hb1).more hb1.size)
      go_wp2_with (fail)
      refine hA2.out.mono ?_
      rintro e w2 ⟨rfl, hb2⟩
      go_wp2_with (fail)
      go_roundw
      case rel => exact ⟨k + 1, by omega, by omega, by go_num, (hbw.trans (hb1.mono hbw.size)).trans (hb2.mono (Nat.le_trans hbw.size hb1.size)), (((hg.out.below hb1).more hb1.size).below hb2).more hb2.size, hno2⟩
      case measure => simp [intOf]; omega

set_option maxHeartbeats 1000000 in
theorem teach_any (D : FD) (x : Int) (d : Nat) (g : Nat) (w : World) (hg : GF w w.heap.size g D) (hd1 : 1 ≤ d) (hd2 : d ≤ 8) :
    Calls Try.prog 68 #[.pointer (some ⟨g, 0, none⟩), .int .i64 x, .int .i64 d] w fun e w' =>
      ∃ g1, e = .returned (.slice (some ⟨g1, 0, none⟩) (D.m / d) (D.m / d)) ∧ w.heap.size ≤ g1 ∧ IB w' g1 (frobs d (eli D.toDesc x) (D.m / d)) ∧ Below w.heap.size w w' := by
  have hm8 := D.m8; have hm1 := D.m1
  have hN : D.m / d ≤ 8 := Nat.le_trans (Nat.div_le_self _ _) hm8
  obtain ⟨N, hNe⟩ : ∃ N, N = D.m / d := ⟨_, rfl⟩
  rw [← hNe] at hN ⊢
  have hdiv : (D.m : Int) / (d : Int) = (N : Int) := by rw [hNe]; rfl
  have hmk := mk_ints N (by omega)
  have hP := Lib.hid (tprime_any D g w hg)
  have hF := fun y W hg => Lib.hid (tFrob_any D y d g W hg (by omega) (by omega))
  have hA := fun W hg => Lib.hid (gAdd_any D x 0 g W hg)
  generalize hu : eli D.toDesc x = u at *
  rw [eli_zero, add_zero] at hA
  clear hu hNe
  go_enter Try.func68, Try.ntmps68
  go_wp2_with (fail)
  refine hP.out.mono ?_
  rintro e w1 ⟨rfl, hb1⟩
  have hg1 := (hg.below hb1).more hb1.size
  go_wp2_with (fail)
  have hA2 := hA (w1.alloc (.cells (Array.replicate N (Value.int .i64 0)) 3)) ((hg1.below ((Below.refl _ _).alloc (Nat.le_refl _) _)).more (by simp))
  refine hA2.out.mono ?_
  rintro e w2 ⟨rfl, hb2⟩
  obtain ⟨g1, hg1e⟩ : ∃ t, t = w1.heap.size := ⟨_, rfl⟩
  have hib : IB w2 g1 (upd N 0 (fun i => ci (frob (d * i) u))) := by
    rw [upd_zero, hg1e]; exact (IB.newz w1 N).below hb2 (by simp)
  have hbw2 : Below w.heap.size w w2 := (hb1.alloc hb1.size _).trans (hb2.mono (by have := hb1.size; simp; omega))
  have hg2 := (hg.below hbw2).more hbw2.size
  have hgl : w.heap.size ≤ g1 := by rw [hg1e]; exact hb1.size
  rw [← hg1e]
  clear hg1e hA2 hA hP hmk hb1 hb2 hg1
  go_wp2_with (fail)
  clear hdiv
  go_loopw [26, 11, 10] (fun i _ y wr => ∃ k : Nat, k ≤ N ∧ i = .int .i64 k ∧ y = .int .i64 (ci (frob (d * k) u)) ∧ IB wr g1 (upd N k (fun i => ci (frob (d * i) u))) ∧ Below w.heap.size w wr) (fun i _ _ _ => N - (intOf i).toNat)
  case atStart => exact ⟨0, by omega, rfl, by rw [Nat.mul_zero, frob_zero_k], hib, hbw2⟩
  case round =>
    clear hib
    obtain ⟨k, hk, rfl, rfl, hib, hbw⟩ := hrel
    by_cases hlt : k < N
    · have hc := hib.cell (i := k) (by rw [upd_length]; exact hlt)
      have hf := hib.frozen k
      have hset := hib.set_ k (ci (frob (d * k) u))
      rw [upd_set N k (fun i => ci (frob (d * i) u))] at hset
      replace hset := Lib.hid hset
      have hbs : Below w.heap.size w (wr.setCell ⟨g1, k, none⟩ (.int .i64 (ci (frob (d * k) u)))) := hbw.setCell (p := ⟨g1, k, none⟩) hgl _
      have hF2 := (hF (ci (frob (d * k) u)) _ ((hg.below hbs).more hbs.size)).out
      rw [eli_ci, frob_kmod, frob_frob, show d + d * k = d * (k + 1) by rw [Nat.mul_succ]; omega] at hF2
      replace hF2 := Lib.hid hF2
      have hgk := hib.lt
      clear hib
      go_wp2_with (fail)
      refine hF2.out.mono ?_
      rintro e w3 ⟨rfl, hb3⟩
      go_wp2_with (fail)
      go_roundw
      case rel => exact ⟨k + 1, by omega, by go_num, rfl, hset.out.below hb3 (by simpa [World.setCell] using hgk), hbs.trans (hb3.mono hbs.size)⟩
      case measure => simp [intOf]; omega
    · obtain rfl : k = N := by omega
      rw [upd_full] at hib
      go_wp2_with (fail)
      go_ret
      exact ⟨g1, rfl, hgl, hib, hbw⟩

set_option maxHeartbeats 1000000 in
theorem gSum_any (D : FD) (l : List Int) (A : Option Addr) (c : Nat) (g : Nat) (w : World) (hg : GF w w.heap.size g D) (hr : Rd w w.heap.size A l) (hl : l.length ≤ 1000000) :
    Calls Try.prog 67 #[.pointer (some ⟨g, 0, none⟩), .slice A l.length c] w fun e w' =>
      e = .returned (.int .i64 (ci (rsum l.length fun i => eli D.toDesc (l[i]?.getD 0)))) ∧ Below w.heap.size w w' := by
  have hA := fun y z W hg => Lib.hid (gAdd_any D y z g W hg)
  go_enter Try.func67, Try.ntmps67
  go_wp2_with (fail)
  go_loopw [10, 5, 7] (fun i s _ wr => ∃ k : Nat, k ≤ l.length ∧ i = .int .i64 k ∧ s = .int .i64 (ci (rsum k fun i => eli D.toDesc (l[i]?.getD 0))) ∧ Below w.heap.size w wr) (fun i _ _ _ => l.length - (intOf i).toNat)
  case atStart => exact ⟨0, by omega, rfl, by rw [rsum_zero, ci_zero], Below.refl _ _⟩
  case round =>
    obtain ⟨k, hk, rfl, rfl, hbw⟩ := hrel
    by_cases hlt : k < l.length
    · obtain ⟨b, off, rfl, hb, hc⟩ := hr.at_ hlt
      have hc2 := (hbw.cell (p := ⟨b, off + k, none⟩) hb).trans hc
      obtain ⟨y, hy⟩ : ∃ y, y = l[k]?.getD 0 := ⟨_, rfl⟩
      rw [← hy] at hc2
      have hA2 := (hA (ci (rsum k fun i => eli D.toDesc (l[i]?.getD 0))) y wr ((hg.below hbw).more hbw.size)).out
      rw [eli_ci] at hA2
      have hs : rsum k (fun i => eli D.toDesc (l[i]?.getD 0)) + eli D.toDesc y = rsum (k + 1) (fun i => eli D.toDesc (l[i]?.getD 0)) := by rw [rsum_succ, hy]
      rw [hs] at hA2
      replace hA2 := Lib.hid hA2
      clear hc hy hs
      go_wp2_with (fail)
      refine hA2.out.mono ?_
      rintro e w3 ⟨rfl, hb3⟩
      go_wp2_with (fail)
      go_roundw
      case rel => exact ⟨k + 1, by omega, by go_num, rfl, hbw.trans (hb3.mono hbw.size)⟩
      case measure => simp [intOf]; omega
    · obtain rfl : k = l.length := by omega
      go_wp2_with (fail)
      go_ret
      exact ⟨rfl, hbw⟩

theorem sum_frobs {D : FD} (d : Nat) (u : R D.toDesc) : rsum (frobs d u (D.m / d)).length (fun i => eli D.toDesc ((frobs d u (D.m / d))[i]?.getD 0)) = tr d u := by
  rw [show (frobs d u (D.m / d)).length = D.m / d from lst_length _ _]
  unfold tr
  exact rsum_congr fun i hi => by unfold frobs; rw [lst_get _ hi, eli_ci]
theorem prod_frobs {D : FD} (d : Nat) (u : R D.toDesc) : rprod (frobs d u (D.m / d)).length (fun i => eli D.toDesc ((frobs d u (D.m / d))[i]?.getD 0)) = nm d u := by
  rw [show (frobs d u (D.m / d)).length = D.m / d from lst_length _ _]
  unfold nm
  exact rprod_congr fun i hi => by unfold frobs; rw [lst_get _ hi, eli_ci]

set_option maxHeartbeats 1000000 in
theorem tTrace_no (D : FD) (x d : Int) (g : Nat) (w : World) (hg : GF w w.heap.size g D) (hd : divB D.m d = false) :
    Calls Try.prog 37 #[.pointer (some ⟨g, 0, none⟩), .int .i64 x, .int .i64 d] w fun e w' => e = .returned (.tuple #[.int .i64 0, .int .i64 6]) ∧ Below w.heap.size w w' := by
  have hI := isDegree_any D d g w hg
  rw [hd] at hI
  replace hI := Lib.hid hI
  clear hg hd
  go_enter Try.func37, Try.ntmps37
  go_wp2_with (fail)
  refine hI.out.mono ?_
  rintro e w1 ⟨rfl, hb1⟩
  go_wp2_with (fail)
  go_ret2
  exact ⟨rfl, hb1⟩
set_option maxHeartbeats 1000000 in
theorem tTrace_yes (D : FD) (x : Int) (d : Nat) (g : Nat) (w : World) (hg : GF w w.heap.size g D) (hd1 : 1 ≤ d) (hd2 : d ∣ D.m) :
    Calls Try.prog 37 #[.pointer (some ⟨g, 0, none⟩), .int .i64 x, .int .i64 d] w fun e w' => e = .returned (.tuple #[.int .i64 (ci (tr d (eli D.toDesc x))), .int .i64 0]) ∧ Below w.heap.size w w' := by
  have hm8 := D.m8
  have hdm := Nat.le_of_dvd D.m1 hd2
  have hI := isDegree_any D d g w hg
  rw [divB_of hd1 hd2 D.m1] at hI
  replace hI := Lib.hid hI
  have hE := fun W hg => Lib.hid (teach_any D x d g W hg hd1 (by omega))
  have hS := fun A c W hg hr => Lib.hid (gSum_any D (frobs d (eli D.toDesc x) (D.m / d)) A c g W hg hr (by rw [show (frobs d (eli D.toDesc x) (D.m / d)).length = D.m / d from lst_length _ _]; exact Nat.le_trans (Nat.div_le_self _ _) (by omega)))
  rw [sum_frobs] at hS
  have hll : (frobs d (eli D.toDesc x) (D.m / d)).length = D.m / d := lst_length _ _
  rw [hll] at hS
  generalize D.m / d = N at *
  go_enter Try.func37, Try.ntmps37
  go_wp2_with (fail)
  refine hI.out.mono ?_
  rintro e w1 ⟨rfl, hb1⟩
  have hE2 := hE w1 ((hg.below hb1).more hb1.size)
  clear hll
  go_wp2_with (fail)
  refine hE2.out.mono ?_
  rintro e w2 ⟨g1, rfl, hg1, hib, hb2⟩
  have hbw := hb1.trans (hb2.mono hb1.size)
  have hS2 := hS (some ⟨g1, 0, none⟩) N w2 ((hg.below hbw).more hbw.size) hib.rd
  go_wp2_with (fail)
  refine hS2.out.mono ?_
  rintro e w3 ⟨rfl, hb3⟩
  go_wp2_with (fail)
  go_ret2
  exact ⟨rfl, hbw.trans (hb3.mono hbw.size)⟩

end Go.Proofs.Yteamndefbpdcjaa

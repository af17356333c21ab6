/- Package nat: Sub of a number that is not greater. -/
import Derived.Test.YtemanlkgfhmclaaNatI
namespace Go.Proofs.Ytemanlkgfhmclaa
open Go.RowKit Cw
attribute [local go_sem] Oper.semAt_some

section
variable {w w' : World} {B g n cap : Nat} {l : List Nat}
theorem U.Own.cell (h : U.Own w B (.slice (some ⟨g, 0, none⟩) n cap) l) (hn : n = l.length) {i : Nat} (hi : i < l.length) : w.cell? ⟨g, i, none⟩ = some (.int .u32 ((l[i]?.getD 0 : Nat) : Int)) := by
  subst hn
  rw [World.ownsRow.cellAt h i (by omega)]; simp [hi, U.uV]
theorem U.Own.frozen (h : U.Own w B (.slice (some ⟨g, 0, none⟩) n cap) l) (hn : n = l.length) (i : Nat) : w.frozen? ⟨g, i, none⟩ = false := by
  subst hn; exact World.ownsRow.frozenAt h i
theorem U.Own.set_ (h : U.Own w B (.slice (some ⟨g, 0, none⟩) n cap) l) (hn : n = l.length) (i : Nat) (u : Nat) :
    U.Own (w.setCell ⟨g, i, none⟩ (.int .u32 (u : Int))) B (.slice (some ⟨g, 0, none⟩) n cap) (l.set i u) := by
  subst hn
  have h1 := (World.ownsRow.stored h i (.int .u32 (u : Int))).1
  unfold U.Own
  rw [List.length_set, List.map_set]; exact h1
end
/-- A list of limbs while it is written over: k limbs of D, then those of P. -/
def sL (N P D k : Nat) : List Nat := (List.range N).map fun t => if t < k then D / nB ^ t % nB else P / nB ^ t % nB
theorem sL_length (N P D k : Nat) : (sL N P D k).length = N := by simp [sL]
theorem sL_zero (N P D : Nat) : sL N P D 0 = dgs N P := mp_congr fun t _ => if_neg (Nat.not_lt_zero t)
theorem sL_full (N P D : Nat) : sL N P D N = dgs N D := mp_congr fun t ht => if_pos ht
theorem sL_get {N P D k : Nat} (h : k < N) : (sL N P D k)[k]?.getD 0 = P / nB ^ k % nB := by simp [sL, h]
theorem sL_set (N P D k : Nat) : (sL N P D k).set k (D / nB ^ k % nB) = sL N P D (k + 1) := by
  unfold sL
  rw [mp_set]
  refine mp_congr fun t _ => ?_
  by_cases e : t = k
  · rw [if_pos e, if_pos (by omega), e]
  · rw [if_neg e]
    by_cases h : t < k
    · rw [if_pos h, if_pos (by omega)]
    · rw [if_neg h, if_neg (by omega)]
/-- One limb of a difference, as the loop computes it. -/
theorem sub_limb {P Q k x y z : Nat} {s : Int} (h : Q ≤ P) (hx : x = P / nB ^ k % nB) (hy : y = Q / nB ^ k % nB) (hz : z = borA P Q k) (hs : s = ((x : Int) - (z : Int) - (y : Int)) % 18446744073709551616) :
    s % 4294967296 = (((P - Q) / nB ^ k % nB : Nat) : Int) ∧ s / 9223372036854775808 = ((borA P Q (k + 1) : Nat) : Int) := by
  have h1 := Nat.mod_lt (P / nB ^ k) nB_pos
  have h2 := Nat.mod_lt (Q / nB ^ k) nB_pos
  have h3 := borA_le P Q k
  rw [sub_dig h, borA_succ, ← hx, ← hy, ← hz]
  rw [← hx] at h1; rw [← hy] at h2; rw [← hz] at h3
  rw [nB_lit] at h1 h2 ⊢
  by_cases hc : x < y + z
  · rw [if_pos hc, if_pos hc]; omega
  · rw [if_neg hc, if_neg hc]; omega

set_option maxHeartbeats 4000000 in
theorem nSub_ge (a b : List Nat) (ha : Lm a) (hb : Lm b) (A1 A2 : Option Addr) (c1 c2 : Nat) (w : World) (h1 : U.Rd w w.heap.size A1 a) (h2 : U.Rd w w.heap.size A2 b) (hn1 : a.length ≤ 60000) (hn2 : b.length ≤ 60000) (hc1 : a.length ≤ c1) (hc2 : b.length ≤ c2) (hle : nv b ≤ nv a) :
    Calls Try.prog 24 #[.slice A1 a.length c1, .slice A2 b.length c2] w fun e w' => ∃ A, e = .returned (.tuple #[.slice A (nL (nv a - nv b)).length (nL (nv a - nv b)).length, .int .i64 0]) ∧ U.Rd w' w'.heap.size A (nL (nv a - nv b)) ∧ Below w.heap.size w w' := by
  have hC := nCmp_ge a b ha hb A1 A2 c1 c2 w h1 h2 hn1 hn2 hc1 hc2 hle
  have hT := fun W (hr : U.Rd W W.heap.size A1 a) => Lib.hid (nTrim_any a ha A1 c1 W hr (by omega) hc1)
  have hnl : nlen (nv a) ≤ 60000 := Nat.le_trans (nlen_le (nv_lt ha)) hn1
  have hgb := get_lm hb
  have gb := fun t => nv_get hb t
  obtain ⟨m, hm⟩ : ∃ m, m = b.length := ⟨_, rfl⟩
  rw [← hm] at hC hn2 ⊢
  obtain ⟨P, hPe⟩ : ∃ P, P = nv a := ⟨_, rfl⟩
  obtain ⟨Q, hQe⟩ : ∃ Q, Q = nv b := ⟨_, rfl⟩
  simp only [← hPe, ← hQe] at hT hnl gb hle ⊢
  clear hPe hQe hb ha
  replace hC := Lib.hid hC
  replace hm := Lib.hid hm
  go_enter Try.func24, Try.ntmps24
  go_wp2_with (fail)
  refine hC.out.mono ?_
  rintro e w1 ⟨v, rfl, hv, hb1⟩
  have hv0 : ¬ (v : Int) < 0 := by omega
  have hT1 := hT w1 ((h1.below hb1).more hb1.size)
  have h2' := (h2.below hb1).more hb1.size
  clear hT hC hv h1 h2
  go_wp2_with (fail)
  refine hT1.out.mono ?_
  rintro e w2 ⟨u, rfl, ho, hb2⟩
  obtain ⟨A, c, rfl, hlc, hrd, -⟩ := ho.form
  obtain ⟨n, hn⟩ : ∃ n, n = (nL P).length := ⟨_, rfl⟩
  rw [← hn] at ho hlc ⊢
  rw [nL_length] at hn
  have hnn : n ≤ 60000 := by omega
  have hsp : P < nB ^ n := by rw [hn]; exact (nlen_spec P).1
  have ho0 : U.Own w2 w1.heap.size (.slice A n c) (sL n P (P - Q) 0) := by rw [sL_zero, show dgs n P = nL P by rw [hn]; rfl]; exact ho
  replace hn := Lib.hid hn
  clear ho hT1 hrd
  go_wp2_with (fail)
  go_loopw [18, 7] (fun i d wr => ∃ k z : Nat, k ≤ n ∧ z ≤ 1 ∧ i = .int .i64 k ∧ d = .int .u64 (z : Int) ∧ Hid (z = borA P Q k) ∧ U.Own wr w1.heap.size (.slice A n c) (sL n P (P - Q) k) ∧ Below w1.heap.size w1 wr) (fun i _ _ => n - (intOf i).toNat)
  case atStart => exact ⟨0, 0, Nat.zero_le _, Nat.zero_le _, rfl, rfl, Lib.hid (borA_zero P Q).symm, ho0, hb2⟩
  case round =>
    obtain ⟨k, z, hk, hz, rfl, rfl, hze, hown, hbw⟩ := hrel
    obtain ⟨w3, rfl⟩ : ∃ w3 : World, w3 = wr := ⟨_, rfl⟩
    by_cases h : k < n
    · obtain ⟨g, cap, hvv, hg1, hg2⟩ := World.ownsRow.form hown (by rw [sL_length]; omega)
      rw [sL_length] at hvv
      cases hvv
      have hc := hown.cell (sL_length _ _ _ _).symm (i := k) (by rw [sL_length]; exact h)
      rw [sL_get h] at hc
      have hf := hown.frozen (sL_length _ _ _ _).symm k
      have hset := fun d => hown.set_ (sL_length _ _ _ _).symm k d
      obtain ⟨x, hx⟩ : ∃ x, x = P / nB ^ k % nB := ⟨_, rfl⟩
      have hxl : x < 4294967296 := by rw [hx, ← nB_lit]; exact Nat.mod_lt _ nB_pos
      rw [← hx] at hc
      have hy := gb k
      have hyl := hgb k
      have hk0 : (0 : Int) ≤ (k : Int) := by omega
      have hk1 : (k : Int) < (n : Int) := by omega
      have hbs : ∀ d, Below w1.heap.size w1 (w3.setCell ⟨g, k, none⟩ d) := fun d => hbw.setCell hg1 _
      obtain ⟨y, hye⟩ : ∃ y, y = b[k]?.getD 0 := ⟨_, rfl⟩
      obtain ⟨s, hs⟩ : ∃ s : Int, s = ((x : Int) - (z : Int) - (y : Int)) % 18446744073709551616 := ⟨_, rfl⟩
      obtain ⟨s1, hs1⟩ : ∃ s1 : Int, s1 = ((x : Int) - (z : Int)) % 18446744073709551616 := ⟨_, rfl⟩
      have hw1 : IntKind.u64.wrap ((x : Int) - (z : Int)) = s1 := by rw [hs1]; simp [IntKind.wrap, IntKind.bits, IntKind.signed]
      obtain ⟨e1, e2⟩ := sub_limb hle hx (hye.trans hy) hze.out hs
      have hsn := hset ((P - Q) / nB ^ k % nB)
      rw [sL_set] at hsn
      have hbl := borA_le P Q (k + 1)
      obtain ⟨z1, hz1⟩ : ∃ z1, z1 = borA P Q (k + 1) := ⟨_, rfl⟩
      obtain ⟨d, hd⟩ : ∃ d, d = (P - Q) / nB ^ k % nB := ⟨_, rfl⟩
      rw [← hz1] at e2 hbl
      rw [← hd] at e1 hsn
      replace hsn := Lib.hid hsn
      replace hz1 := Lib.hid hz1
      have hs10 : 0 ≤ s1 ∧ s1 < 18446744073709551616 := by omega
      obtain ⟨hs10, hs11⟩ := hs10
      by_cases h' : k < m
      · obtain ⟨p2, o2, rfl, hp2, hd2⟩ := h2'.at_ (k := k) (by rw [← hm.out]; exact h')
        rw [← hbw.cell (p := ⟨p2, o2 + k, none⟩) hp2, ← hye] at hd2
        rw [← hye] at hyl
        have hw2 : IntKind.u64.wrap (s1 - (y : Int)) = s := by rw [hs, hs1]; simp [IntKind.wrap, IntKind.bits, IntKind.signed]
        have hj1 : (k : Int) < (m : Int) := by omega
        replace hs := Lib.hid hs
        replace hs1 := Lib.hid hs1
        clear hset hown hx hy gb hgb hye hbw hze h2' hd h h'
        go_wp2_with (fail)
        exact ⟨⟨k + 1, z1, by omega, hbl, rfl, rfl, hz1, hsn.out, hbs _⟩, by simp [intOf]; omega⟩
      · have hy0 : y = 0 := by rw [hye, List.getElem?_eq_none (by rw [← hm.out]; omega)]; rfl
        have hss : s1 = s := by rw [hs, hs1, hy0]; simp
        have hj1 : ¬ (k : Int) < (m : Int) := by omega
        rw [hss] at hw1 hs10 hs11
        replace hs := Lib.hid hs
        clear hset hown hx hy gb hgb hye hbw hze h2' hd h h' hy0 hss hs1
        go_wp2_with (fail)
        exact ⟨⟨k + 1, z1, by omega, hbl, rfl, rfl, hz1, hsn.out, hbs _⟩, by simp [intOf]; omega⟩
    · have hke : k = n := by omega
      subst hke
      have hV : P - Q < nB ^ k := Nat.lt_of_le_of_lt (Nat.sub_le _ _) hsp
      rw [sL_full] at hown
      obtain ⟨A', c', hvv, hlc', hrd, -⟩ := hown.form
      rw [dgs_length] at hvv hlc'
      cases hvv
      have hS := nShort_any _ (dgs_lm k (P - Q)) A c _ hrd (by rw [dgs_length]; omega) (by rw [dgs_length]; exact hlc)
      rw [dgs_length, nv_dgs hV] at hS
      replace hS := Lib.hid hS
      clear hown hrd hsp hV hze h gb hgb
      go_wp2_with (fail)
      refine hS.out.mono ?_
      rintro e w4 ⟨rfl, hr3, rfl⟩
      go_wp2_with (fail)
      exact bodyPost_ret (v := .tuple #[.slice A (nlen (P - Q)) (nlen (P - Q)), .int .i64 0]) (by simp [results, Try.results24, go_sem]) rfl ⟨_, by rw [nL_length], hr3, hb1.trans (hbw.mono hb1.size)⟩
end Go.Proofs.Ytemanlkgfhmclaa

/- TowerDuals: the walk. -/
import Derived.Test.YteamndefbpdcjaaL01
import Derived.Test.YteamndefbpdcjaaIsB7
namespace Go.Proofs.Yteamndefbpdcjaa
open Go.RowKit Go.Shelf Cw
attribute [local go_sem] Oper.semAt_some

theorem IndS.congr {F : Type} [FF F] {d n : Nat} {l l' : Nat → F} (h : IndS d n l) (he : ∀ j, j < n → l j = l' j) : IndS d n l' := fun c hc hz => h c hc (by rw [← hz]; exact rsum_congr fun j hj => by rw [he j hj])
theorem conA_congr {F : Type} [FF F] {d n : Nat} {l l' b x : Nat → F} (he : ∀ j, j < n → l j = l' j) (h : SolA n (conA d n l b) x) : SolA n (conA d n l' b) x := conA_sol.2 fun i hi => by
  rw [← conA_sol.1 h i hi]; exact rsum_congr fun j hj => by rw [he j hj]
theorem elL_row (F : FD) {n : Nat} (m : Nat → R F.toDesc) {j : Nat} (hj : j < n) : elL F (rowL F.toDesc n m) j = m j := by
  unfold elL; rw [rowL_get _ _ hj, eli_ci]
/-- The entries of a basis are elements. -/
theorem bas_row (F : FD) {l : List Int} {d n : Nat} (hn : l.length = n) (h : IndS d n (elL F l)) : rowL F.toDesc n (elL F l) = l := by
  apply List.ext_getElem
  · rw [rowL_length, hn]
  · intro i h1 h2
    rw [rowL_length] at h1
    have e1 := rowL_get F.toDesc (elL F l) h1
    rw [List.getElem?_eq_getElem (by rw [rowL_length]; exact h1)] at e1
    rw [show (rowL F.toDesc n (elL F l))[i] = ci (elL F l i) from e1]
    have hne : elL F l i ≠ 0 := fun e => by
      have := h (fun j => if j = i then 1 else 0) (fun j _ => by split; exact InSub.one d; exact InSub.zero d) (by
        rw [rsum_single (k := i) h1 fun j _ hj => by rw [if_neg hj, zero_mul], e, mul_zero]) i h1
      rw [if_pos rfl] at this
      exact one_ne this
    have e2 := ci_eli (D := F.toDesc) (l[i]?.getD 0)
    unfold elL at hne ⊢
    rw [e2]
    rw [List.getElem?_eq_getElem h2]
    show (if 0 ≤ l[i] ∧ l[i] < F.q then l[i] else 0) = l[i]
    by_cases hb : 0 ≤ l[i] ∧ l[i] < F.q
    · rw [if_pos hb]
    · exfalso
      apply hne
      rw [List.getElem?_eq_getElem h2] at e2 ⊢
      rw [show (if 0 ≤ (some l[i]).getD 0 ∧ (some l[i]).getD 0 < (F.toDesc.q : Int) then (some l[i]).getD 0 else 0) = (0 : Int) from if_neg hb] at e2
      exact ci_eq_zero.1 e2
theorem keep3l {B b b1 o1 : Nat} {W w1 : World} {v0 v1 v2 v3 : Value} (hb : Below B W w1) (h2 : b < B) (h3 : b1 < B) (h4 : (W.cell? ⟨b, 0, none⟩ = some v0 ∧ W.cell? ⟨b, 1, none⟩ = some v1 ∧ W.cell? ⟨b, 2, none⟩ = some v2) ∧ W.cell? ⟨b1, o1, none⟩ = some v3) :
    (w1.cell? ⟨b, 0, none⟩ = some v0 ∧ w1.cell? ⟨b, 1, none⟩ = some v1 ∧ w1.cell? ⟨b, 2, none⟩ = some v2) ∧ w1.cell? ⟨b1, o1, none⟩ = some v3 :=
  ⟨keep3 hb h2 h4.1, (hb.cell (p := ⟨b1, o1, none⟩) h3).trans h4.2⟩

set_option maxHeartbeats 1000000 in
theorem duL_bad (P M : Int) (ml : List Int) (A : Option Addr) (c : Nat) (l1 : List Int) (A1 : Option Addr) (c1 : Nat) (x2 : Int) (w : World) (hP : I64 P) (hM : I64 M) (hl : ml.length ≤ maxLen) (hr : Rd w w.heap.size A ml) (hb : ¬ Good P M ml) :
    Calls Try.prog 18 #[.agg #[.int .i64 P, .int .i64 M, .slice A ml.length c], .slice A1 l1.length c1, .int .i64 x2] w (LawEnd w) := by
  have hA := fun W => Lib.hid (alive_any W)
  have hM := fun W (h : Rd W W.heap.size A ml) => Lib.hid (made_bad P M ml A c W hP.2 hM.2 hl h hb)
  have hB : Below w.heap.size w (w.alloc (.cells #[.int .i64 P, .int .i64 M, .slice A ml.length c] 24)) := ((Below.refl _ _).alloc (by simp) _)
  have k0 := Lib.hid (show ((w.alloc (.cells #[.int .i64 P, .int .i64 M, .slice A ml.length c] 24))).cell? ⟨w.heap.size, 0, none⟩ = some (.int .i64 P) ∧ ((w.alloc (.cells #[.int .i64 P, .int .i64 M, .slice A ml.length c] 24))).cell? ⟨w.heap.size, 1, none⟩ = some (.int .i64 M) ∧ ((w.alloc (.cells #[.int .i64 P, .int .i64 M, .slice A ml.length c] 24))).cell? ⟨w.heap.size, 2, none⟩ = some (.slice A ml.length c) from by simp [go_sem])
  clear hP hl hb
  go_enter Try.func18, Try.ntmps18
  go_wp2_with (fail)
  refine (hA _).out.mono ?_
  rintro e w1 ⟨rfl, hb1⟩
  obtain ⟨ka, kb, kc⟩ := keep3 hb1 (by simp; try omega) k0.out
  have hr1 := (((hr.below hB).more hB.size).below hb1).more hb1.size
  have hB1 := hB.trans (hb1.mono hB.size)
  have hM1 := hM _ hr1
  clear hM hA
  go_wp2_with (fail)
  refine hM1.out.mono ?_
  rintro e w2 ⟨rfl, hb2⟩
  go_wp2_with (fail)
  go_ret
  exact ⟨rfl, hB1.trans (hb2.mono hB1.size)⟩

set_option maxRecDepth 100000 in
set_option maxHeartbeats 2000000 in
theorem duL_good (D : Desc) (A : Option Addr) (c : Nat) (l1 : List Int) (A1 : Option Addr) (c1 : Nat) (x2 : Int) (w : World) (hlc : l1.length ≤ c1) (hlm : c1 ≤ maxLen) (hrl : Rd w w.heap.size A1 l1) (hr : Rd w w.heap.size A (modL D)) (hb : Good D.p D.m (modL D)) :
    Calls Try.prog 18 #[.agg #[.int .i64 D.p, .int .i64 D.m, .slice A D.mod.length c], .slice A1 l1.length c1, .int .i64 x2] w (LawEnd w) := by
  have hp2 := D.m8; have hm1 := D.m1
  have hA := fun W => Lib.hid (alive_any W)
  have hM := fun W (h : Rd W W.heap.size A (modL D)) => Lib.hid (made_good D A c W h hb)
  have hB : Below w.heap.size w (w.alloc (.cells #[.int .i64 D.p, .int .i64 D.m, .slice A D.mod.length c] 24)) := ((Below.refl _ _).alloc (by simp) _)
  have k0 := Lib.hid (show ((w.alloc (.cells #[.int .i64 D.p, .int .i64 D.m, .slice A D.mod.length c] 24))).cell? ⟨w.heap.size, 0, none⟩ = some (.int .i64 D.p) ∧ ((w.alloc (.cells #[.int .i64 D.p, .int .i64 D.m, .slice A D.mod.length c] 24))).cell? ⟨w.heap.size, 1, none⟩ = some (.int .i64 D.m) ∧ ((w.alloc (.cells #[.int .i64 D.p, .int .i64 D.m, .slice A D.mod.length c] 24))).cell? ⟨w.heap.size, 2, none⟩ = some (.slice A D.mod.length c) from by simp [go_sem])
  go_enter Try.func18, Try.ntmps18
  go_wp2_with (fail)
  refine (hA _).out.mono ?_
  rintro e w1 ⟨rfl, hb1⟩
  obtain ⟨ka, kb, kc⟩ := keep3 hb1 (by simp; try omega) k0.out
  have hr1 := (((hr.below hB).more hB.size).below hb1).more hb1.size
  have hB1 := hB.trans (hb1.mono hB.size)
  have hM1 := hM _ hr1
  clear hM hA
  go_wp2_with (fail)
  refine hM1.out.mono ?_
  rintro e w2 ⟨hb2, ⟨g, F, rfl, rfl, hgl, hg⟩ | ⟨-, rfl⟩⟩
  rotate_left
  · go_wp2_with (fail)
    go_ret
    exact ⟨rfl, hB1.trans (hb2.mono hB1.size)⟩
  have hlt2 : w.heap.size < w2.heap.size := by have := hb1.size; have := hb2.size; simp only [World.size_alloc] at *; omega
  have kk2 := Lib.hid (keep3 hb2 (by have := hb1.size; simp only [World.size_alloc] at this; omega) ⟨ka, kb, kc⟩)
  have kp2 : Hid (w2.cell? ⟨w.heap.size, 0, none⟩ = some (.int .i64 F.p) ∧ w2.cell? ⟨w.heap.size, 1, none⟩ = some (.int .i64 F.m) ∧ w2.cell? ⟨w.heap.size, 2, none⟩ = some (.slice A F.mod.length c)) := kk2
  have hl2 := hlt2
  have hB2 := hB1.trans (hb2.mono hB1.size)
  have hr2 := (hr1.below hb2).more hb2.size
  have hg2 := hg
  clear ka kb kc hr1 hM1 hb hb1 hB hB1 k0 hr kk2 hlt2 hb2 hg
  have hv2 := (hrl.below hB2).more hB2.size
  have hl' : l1.length ≤ maxLen := Nat.le_trans hlc hlm
  unfold maxLen at hlm
  clear hrl
  by_cases hl12 : l1.length ≤ 12
  · have hd12 : decide (12 < (l1.length : Int)) = false := by simp; omega
    by_cases hdv : divB F.m x2 = true
    · obtain ⟨d, rfl, hk1, hkm, hkd⟩ := divB_nat hdv
      have hV := fun W => Lib.hid (Divides_any F.toDesc d A F.mod.length c W)
      rw [hdv] at hV
      have hR := fun W a b => IsB7_any F l1 d A A1 c c1 W a b hl'
      by_cases hbp : BasP F l1 d
      · rw [basE_ok hdv hbp] at hR
        replace hR := fun W a b => Lib.hid (hR W a b)
        obtain ⟨hln, hI⟩ := hbp
        obtain ⟨n, hn⟩ : ∃ n, n = l1.length := ⟨_, rfl⟩
        have hnd : F.m / d = n := by rw [hn]; exact hln.symm
        rw [hnd] at hI
        have hn1 : 1 ≤ n := by rw [← hnd]; exact Nat.div_pos hkm hk1
        have hnM : d * n = FF.M (R F.toDesc) := by rw [← hnd, FD_M]; exact Nat.mul_div_cancel' hkd
        have hP := fun W a b => tDual_yes F l1 d n A1 c1 g W a b hk1 hkm hkd hnd hn.symm hI
        have hrow := bas_row F hn.symm hI
        have hn12 : n ≤ 12 := by omega
        rw [← hn] at hR hd12
        have hP2 := fun m (hm : IndS d n (elL F (rowL F.toDesc n m))) Am cm W a b => tDual_yes F (rowL F.toDesc n m) d n Am cm g W a b hk1 hkm hkd hnd (rowL_length _ _ _) hm
        rw [← hn]
        replace hn := Lib.hid hn
        replace hP := fun W a b => Lib.hid (hP W a b)
        replace hP2 := fun m hm Am cm W a b => Lib.hid (hP2 m hm Am cm W a b)
        replace hI := Lib.hid hI
        replace hnM := Lib.hid hnM
        replace hrow := Lib.hid hrow
        clear hdv hln hnd
        have hv2' := hv2
        obtain ⟨q0, q1, q2⟩ := kp2.out
        go_wp2_with (fail)
        (with_reducible refine (hP w2 hg2 hv2).out.mono ?_)
        rintro e w3 ⟨hb3, b, m, rfl, hib3, hsol, -, hker⟩
        have hs3 : w2.heap.size ≤ w3.heap.size := hb3.size
        have hg3 := (hg2.below hb3).more hb3.size
        have hr3 := (hr2.below hb3).more hb3.size
        have kp3 := Lib.hid (keep3 hb3 hl2 kp2.out)
        have hl3 := Nat.lt_of_lt_of_le hl2 hs3
        have hB3 := (hB2).trans (hb3.mono hB2.size)
        have hv3 := (hv2'.below hb3).more hb3.size
        clear q0 q1 q2 hg2 hr2 hB2 kp2 hb3
        have htr : ∀ s t, s < n → t < n → tr d (elL F l1 t * m s) = if t = s then 1 else 0 := fun s t hs ht => dual_tr hnM.out hn1 hker hsol hs ht
        have hI2 : IndS d n (elL F (rowL F.toDesc n m)) := IndS.congr (dual_ind hnM.out hn1 htr) fun j hj => (elL_row F m hj).symm
        have hback := Lib.hid (conA_congr (fun j hj => (elL_row F m hj).symm) (dual_back hnM.out hn1 hsol))
        have hP3 := hP2 m hI2
        replace htr := Lib.hid htr
        clear hv2 hv2' hP hP2 hker hsol hI2
        obtain ⟨q0, q1, q2⟩ := kp3.out
        go_wp2_with (fail)
        (with_reducible refine (hV w3).out.mono ?_)
        rintro e w4 ⟨rfl, hb4⟩
        have hs4 : w3.heap.size ≤ w4.heap.size := hb4.size
        have hg4 := (hg3.below hb4).more hb4.size
        have hr4 := (hr3.below hb4).more hb4.size
        have kp4 := Lib.hid (keep3 hb4 hl3 kp3.out)
        have hl4 := Nat.lt_of_lt_of_le hl3 hs4
        have hB4 := (hB3).trans (hb4.mono hB3.size)
        have hv4 := (hv3.below hb4).more hb4.size
        have hib4 := hib3.below hb4 hib3.lt
        clear q0 q1 q2 hg3 hr3 hB3 kp3 hb4
        obtain ⟨q0, q1, q2⟩ := kp4.out
        go_wp2_with (fail)
        (with_reducible refine (hR w4 hr4 hv4).out.mono ?_)
        rintro e w5 ⟨rfl, hb5⟩
        have hs5 : w4.heap.size ≤ w5.heap.size := hb5.size
        have hg5 := (hg4.below hb5).more hb5.size
        have hr5 := (hr4.below hb5).more hb5.size
        have kp5 := Lib.hid (keep3 hb5 hl4 kp4.out)
        have hl5 := Nat.lt_of_lt_of_le hl4 hs5
        have hB5 := (hB4).trans (hb5.mono hB4.size)
        have hv5 := (hv4.below hb5).more hb5.size
        have hib5 := hib4.below hb5 hib4.lt
        clear q0 q1 q2 hg4 hr4 hB4 kp4 hb5
        clear hv3 hv4 hib3 hib4
        go_wp2_with (fail)
        go_loopw [69] (fun i wr => ∃ k : Nat, k ≤ n ∧ i = .int .i64 k ∧ Below w5.heap.size w5 wr) (fun i _ => n - (intOf i).toNat)
        case atStart => exact ⟨0, by omega, rfl, Below.refl _ _⟩
        case round =>
          obtain ⟨w8, rfl⟩ : ∃ w8 : World, w8 = wr := ⟨_, rfl⟩
          obtain ⟨i, hi, rfl, hb8⟩ := hrel
          have hg8 := (hg5.below hb8).more hb8.size
          have hr8 := (hr5.below hb8).more hb8.size
          have kp8 := Lib.hid (keep3 hb8 hl5 kp5.out)
          have hl8 := Nat.lt_of_lt_of_le hl5 hb8.size
          have hB8 := hB5.trans (hb8.mono hB5.size)
          have hib8 := hib5.below hb8 hib5.lt
          have hv8 := (hv5.below hb8).more hb8.size
          by_cases hin : i < n
          · have i0 : (0 : Int) ≤ (i : Int) := by omega
            have i1 : (i : Int) < (n : Int) := by omega
            go_wp2_with (fail)
            go_loopw [74] (fun jS wr => ∃ j : Nat, j ≤ n ∧ jS = .int .i64 j ∧ Below w8.heap.size w8 wr) (fun jS _ => n - (intOf jS).toNat)
            case atStart => exact ⟨0, by omega, rfl, Below.refl _ _⟩
            case round =>
              obtain ⟨w9, rfl⟩ : ∃ w9 : World, w9 = wr := ⟨_, rfl⟩
              obtain ⟨j, hj, rfl, hb9⟩ := hrel
              by_cases hjn : j < n
              · have j0 : (0 : Int) ≤ (j : Int) := by omega
                have j1 : (j : Int) < (n : Int) := by omega
                have hr9 := (hr8.below hb9).more hb9.size
                have kp9 := Lib.hid (keep3 hb9 hl8 kp8.out)
                have hl9 := Nat.lt_of_lt_of_le hl8 hb9.size
                have hib9 := hib8.below hb9 hib8.lt
                have hv9 := (hv8.below hb9).more hb9.size
                obtain ⟨bl, ol, rfl, hbl, hcl⟩ := hv9.at_ (k := i) (by rw [← hn.out]; exact hin)
                have hcm := hib9.cell (i := j) (by rw [rowL_length]; exact hjn)
                rw [rowL_get _ _ hjn] at hcm
                have hml := hib9.lt
                have hrd : Rd w9.drew w9.drew.heap.size A (modL F.toDesc) := hr9.drew
                have hM := Mul_any F.toDesc (l1[i]?.getD 0) (ci (m j)) A c w9.drew hrd
                rw [eli_ci, show eli F.toDesc (l1[i]?.getD 0) = elL F l1 i from rfl] at hM
                have hT := fun W h => Trace7_any F (ci (elL F l1 i * m j)) d A c W h hk1 (Nat.le_trans hkm F.m8)
                rw [eli_ci, htr.out j i hjn hin] at hT
                have hIs := fun W => Is_any F.toDesc (ci (m j)) A F.mod.length c W
                rw [decide_eq_true (show 0 ≤ ci (m j) ∧ ci (m j) < F.q from ⟨ci_nonneg _, ci_lt _⟩)] at hIs
                obtain ⟨y1, hy1⟩ : ∃ y, y = l1[i]?.getD 0 := ⟨_, rfl⟩
                obtain ⟨y2, hy2⟩ : ∃ y, y = ci (m j) := ⟨_, rfl⟩
                obtain ⟨y3, hy3⟩ : ∃ y, y = ci (elL F l1 i * m j) := ⟨_, rfl⟩
                rw [← hy1] at hcl hM
                rw [← hy2] at hcm hM hIs
                rw [← hy3] at hM hT
                replace hM := Lib.hid hM
                replace hIs := fun W => Lib.hid (hIs W)
                replace hy1 := Lib.hid hy1
                replace hy2 := Lib.hid hy2
                replace hy3 := Lib.hid hy3
                have hcc9 := Lib.hid (show _ ∧ _ from ⟨kp9.out, hcl⟩)
                have hm9 := Lib.hid hcm
                by_cases hij : i = j
                · subst hij
                  rw [if_pos rfl, ci_one] at hT
                  replace hT := fun W h => Lib.hid (hT W h)
                  clear hcl hcm
                  go_wp2_with (fail)
                  refine wp_region_held_drew (S := fun w' => (w'.cell? ⟨w.heap.size, 0, none⟩ = some (.int .i64 F.p) ∧ w'.cell? ⟨w.heap.size, 1, none⟩ = some (.int .i64 F.m) ∧ w'.cell? ⟨w.heap.size, 2, none⟩ = some (.slice A F.mod.length c)) ∧ w'.cell? ⟨bl, ol + i, none⟩ = some (.int .i64 y1) ∧ w'.cell? ⟨b, i, none⟩ = some (.int .i64 y2)) (by kernel_rfl) (by (try dsimp only); exact ⟨hcc9.out.1, hcc9.out.2, hm9.out⟩) (fun hHeld => ?_)
                  refine wpAnyH_take (i := 0) (oi := ⟨_, _, _, _, _, _⟩) (v := ?_) rfl (by kernel_rfl) (by kernel_rfl) (by kernel_rfl) (fun _ _ _ h => h) (Or.inl ⟨by rfl, ?_⟩) (by assumption) ?_
                  rotate_left
                  · intro w hSw; (try dsimp only at hSw); go_simp; try with_reducible rfl
                  try simp only [Act.put, List.setIfInBounds_toArray, List.set_cons_zero, List.set_cons_succ]
                  refine wpAnyH_take (i := 1) (oi := ⟨_, _, _, _, _, _⟩) (v := ?_) rfl (by kernel_rfl) (by kernel_rfl) (by kernel_rfl) (fun _ _ _ h => h) (Or.inl ⟨by rfl, ?_⟩) (by assumption) ?_
                  rotate_left
                  · intro w hSw; (try dsimp only at hSw); go_simp; try with_reducible rfl
                  try simp only [Act.put, List.setIfInBounds_toArray, List.set_cons_zero, List.set_cons_succ]
                  refine wpAnyH_take (i := 2) (oi := ⟨_, _, _, _, _, _⟩) (v := ?_) rfl (by kernel_rfl) (by kernel_rfl) (by kernel_rfl) (fun _ _ _ h => h) (Or.inl ⟨by rfl, ?_⟩) (by assumption) ?_
                  rotate_left
                  · intro w hSw; (try dsimp only at hSw); go_simp; try with_reducible rfl
                  try simp only [Act.put, List.setIfInBounds_toArray, List.set_cons_zero, List.set_cons_succ]
                  refine wpAnyH_take (i := 3) (oi := ⟨_, _, _, _, _, _⟩) (v := ?_) rfl (by kernel_rfl) (by kernel_rfl) (by kernel_rfl) (fun _ _ _ h => h) (Or.inl ⟨by rfl, ?_⟩) (by assumption) ?_
                  rotate_left
                  · intro w hSw; (try dsimp only at hSw); go_simp; try with_reducible rfl
                  try simp only [Act.put, List.setIfInBounds_toArray, List.set_cons_zero, List.set_cons_succ]
                  refine wpAnyH_take (i := 4) (oi := ⟨_, _, _, _, _, _⟩) (v := ?_) rfl (by kernel_rfl) (by kernel_rfl) (by kernel_rfl) (fun _ _ _ h => h) (Or.inl ⟨by rfl, ?_⟩) (by assumption) ?_
                  rotate_left
                  · intro w hSw; (try dsimp only at hSw); go_simp; try with_reducible rfl
                  try simp only [Act.put, List.setIfInBounds_toArray, List.set_cons_zero, List.set_cons_succ]
                  refine wpAnyH_take (i := 5) (oi := ⟨_, _, _, _, _, _⟩) (v := ?_) rfl (by kernel_rfl) (by kernel_rfl) (by kernel_rfl) (fun _ _ _ h => h) (Or.inl ⟨by rfl, ?_⟩) (by assumption) ?_
                  rotate_left
                  · intro w hSw; (try dsimp only at hSw); go_simp; try with_reducible rfl
                  try simp only [Act.put, List.setIfInBounds_toArray, List.set_cons_zero, List.set_cons_succ]
                  refine wpAnyH_take (i := 6) (oi := ⟨_, _, _, _, _, _⟩) (v := ?_) rfl (by kernel_rfl) (by kernel_rfl) (by kernel_rfl) (fun _ _ _ h => h) (Or.inl ⟨by rfl, ?_⟩) (by assumption) ?_
                  rotate_left
                  · intro w hSw; (try dsimp only at hSw); go_simp; try with_reducible rfl
                  try simp only [Act.put, List.setIfInBounds_toArray, List.set_cons_zero, List.set_cons_succ]
                  refine wpAnyH_take (i := 7) (oi := ⟨_, _, _, _, _, _⟩) (v := ?_) rfl (by kernel_rfl) (by kernel_rfl) (by kernel_rfl) (fun _ _ _ h => h) (Or.inl ⟨by rfl, ?_⟩) (by assumption) ?_
                  rotate_left
                  · intro w hSw; (try dsimp only at hSw); go_simp; try with_reducible rfl
                  try simp only [Act.put, List.setIfInBounds_toArray, List.set_cons_zero, List.set_cons_succ]
                  refine wpAnyH_take (i := 8) (oi := ⟨_, _, _, _, _, _⟩) (v := ?_) rfl (by kernel_rfl) (by kernel_rfl) (by kernel_rfl) (fun _ _ _ h => h) (Or.inl ⟨by rfl, ?_⟩) (by assumption) ?_
                  rotate_left
                  · intro w hSw; (try dsimp only at hSw); go_simp; try with_reducible rfl
                  try simp only [Act.put, List.setIfInBounds_toArray, List.set_cons_zero, List.set_cons_succ]
                  refine wpAnyH_take (i := 9) (oi := ⟨_, _, _, _, _, _⟩) (v := ?_) rfl (by kernel_rfl) (by kernel_rfl) (by kernel_rfl) (fun _ _ _ h => h) (Or.inl ⟨by rfl, ?_⟩) (by assumption) ?_
                  rotate_left
                  · intro w hSw; (try dsimp only at hSw); go_simp; try with_reducible rfl
                  try simp only [Act.put, List.setIfInBounds_toArray, List.set_cons_zero, List.set_cons_succ]
                  refine wpAnyH_take (i := 11) (oi := ⟨_, _, _, _, _, _⟩) (v := ?_) rfl (by kernel_rfl) (by kernel_rfl) (by kernel_rfl) (fun _ _ _ h => h) (Or.inl ⟨by rfl, ?_⟩) (by assumption) ?_
                  rotate_left
                  · intro w hSw; (try dsimp only at hSw); go_simp; try with_reducible rfl
                  try simp only [Act.put, List.setIfInBounds_toArray, List.set_cons_zero, List.set_cons_succ]
                  refine wpAnyH_ready (rs := [10]) (by kernel_rfl) (by simp) ?_
                  refine AllReadyH.cons (o := ⟨_, _, _, _, _, _⟩) rfl (fun K hK => ?_) AllReadyH.nil
                  go_simp
                  go_at_call 25
                  (with_reducible refine (hM).out.mono ?_)
                  rintro e w10 ⟨rfl, hx10⟩
                  have hb10 := (Below.refl w9.heap.size w9).drew.trans hx10
                  have hs10 := hb10.size
                  have hcc10 := Lib.hid (keep3l hb10 hl9 hbl hcc9.out)
                  have hm10 := (hb10.cell (p := ⟨b, i, none⟩) hml).trans hm9.out
                  have hr10 := (hr9.below hb10).more hs10
                  go_wp2_with (fail)
                  refine hK.out _ _ (by (try dsimp only); exact ⟨hcc10.out.1, hcc10.out.2, hm10⟩) (fun hHeld => ?_)
                  clear hK K
                  try simp only [Act.put, List.setIfInBounds_toArray, List.set_cons_zero, List.set_cons_succ]
                  refine wpAnyH_ready (rs := [12]) (by kernel_rfl) (by simp) ?_
                  refine AllReadyH.cons (o := ⟨_, _, _, _, _, _⟩) rfl (fun K hK => ?_) AllReadyH.nil
                  go_simp
                  go_at_call 38
                  (with_reducible refine (hT w10 hr10).out.mono ?_)
                  rintro e w11 ⟨rfl, hb11⟩
                  have hs11 := hb11.size
                  have hcc11 := Lib.hid (keep3l hb11 (Nat.lt_of_lt_of_le hl9 hs10) (Nat.lt_of_lt_of_le hbl hs10) hcc10.out)
                  have hm11 := (hb11.cell (p := ⟨b, i, none⟩) (Nat.lt_of_lt_of_le hml hs10)).trans hm10
                  go_wp2_with (fail)
                  refine hK.out _ _ (by (try dsimp only); exact ⟨hcc11.out.1, hcc11.out.2, hm11⟩) (fun hHeld => ?_)
                  clear hK K
                  try simp only [Act.put, List.setIfInBounds_toArray, List.set_cons_zero, List.set_cons_succ]
                  refine wpAnyH_take (i := 13) (oi := ⟨_, _, _, _, _, _⟩) (v := ?_) rfl (by kernel_rfl) (by kernel_rfl) (by kernel_rfl) (fun _ _ _ h => h) (Or.inl ⟨by rfl, ?_⟩) (by assumption) ?_
                  rotate_left
                  · intro w hSw; (try dsimp only at hSw); go_simp; try with_reducible rfl
                  try simp only [Act.put, List.setIfInBounds_toArray, List.set_cons_zero, List.set_cons_succ]
                  refine wpAnyH_done (by kernel_rfl) ?_ _
                  have hIs1 := hIs w11.drew
                  have hcd := Lib.hid (show _ ∧ _ ∧ _ from ⟨hcc11.out.1, hcc11.out.2, hm11⟩)
                  clear hm10 hm11
                  go_wp2_with (fail)
                  refine wp_region_held_drew (S := fun w' => (w'.cell? ⟨w.heap.size, 0, none⟩ = some (.int .i64 F.p) ∧ w'.cell? ⟨w.heap.size, 1, none⟩ = some (.int .i64 F.m) ∧ w'.cell? ⟨w.heap.size, 2, none⟩ = some (.slice A F.mod.length c)) ∧ w'.cell? ⟨bl, ol + i, none⟩ = some (.int .i64 y1) ∧ w'.cell? ⟨b, i, none⟩ = some (.int .i64 y2)) (by kernel_rfl) (by (try dsimp only); exact hcd.out) (fun hHeld => ?_)
                  refine wpAnyH_take (i := 0) (oi := ⟨_, _, _, _, _, _⟩) (v := ?_) rfl (by kernel_rfl) (by kernel_rfl) (by kernel_rfl) (fun _ _ _ h => h) (Or.inl ⟨by rfl, ?_⟩) (by assumption) ?_
                  rotate_left
                  · intro w hSw; (try dsimp only at hSw); go_simp; try with_reducible rfl
                  try simp only [Act.put, List.setIfInBounds_toArray, List.set_cons_zero, List.set_cons_succ]
                  refine wpAnyH_take (i := 1) (oi := ⟨_, _, _, _, _, _⟩) (v := ?_) rfl (by kernel_rfl) (by kernel_rfl) (by kernel_rfl) (fun _ _ _ h => h) (Or.inl ⟨by rfl, ?_⟩) (by assumption) ?_
                  rotate_left
                  · intro w hSw; (try dsimp only at hSw); go_simp; try with_reducible rfl
                  try simp only [Act.put, List.setIfInBounds_toArray, List.set_cons_zero, List.set_cons_succ]
                  refine wpAnyH_take (i := 2) (oi := ⟨_, _, _, _, _, _⟩) (v := ?_) rfl (by kernel_rfl) (by kernel_rfl) (by kernel_rfl) (fun _ _ _ h => h) (Or.inl ⟨by rfl, ?_⟩) (by assumption) ?_
                  rotate_left
                  · intro w hSw; (try dsimp only at hSw); go_simp; try with_reducible rfl
                  try simp only [Act.put, List.setIfInBounds_toArray, List.set_cons_zero, List.set_cons_succ]
                  refine wpAnyH_take (i := 3) (oi := ⟨_, _, _, _, _, _⟩) (v := ?_) rfl (by kernel_rfl) (by kernel_rfl) (by kernel_rfl) (fun _ _ _ h => h) (Or.inl ⟨by rfl, ?_⟩) (by assumption) ?_
                  rotate_left
                  · intro w hSw; (try dsimp only at hSw); go_simp; try with_reducible rfl
                  try simp only [Act.put, List.setIfInBounds_toArray, List.set_cons_zero, List.set_cons_succ]
                  refine wpAnyH_take (i := 4) (oi := ⟨_, _, _, _, _, _⟩) (v := ?_) rfl (by kernel_rfl) (by kernel_rfl) (by kernel_rfl) (fun _ _ _ h => h) (Or.inl ⟨by rfl, ?_⟩) (by assumption) ?_
                  rotate_left
                  · intro w hSw; (try dsimp only at hSw); go_simp; try with_reducible rfl
                  try simp only [Act.put, List.setIfInBounds_toArray, List.set_cons_zero, List.set_cons_succ]
                  refine wpAnyH_ready (rs := [5]) (by kernel_rfl) (by simp) ?_
                  refine AllReadyH.cons (o := ⟨_, _, _, _, _, _⟩) rfl (fun K hK => ?_) AllReadyH.nil
                  go_simp
                  go_at_call 32
                  (with_reducible refine (hIs1).out.mono ?_)
                  rintro e w12 ⟨rfl, hx12⟩
                  have hb12 := (Below.refl w11.heap.size w11).drew.trans hx12
                  have hcc12 := Lib.hid (keep3l hb12 (Nat.lt_of_lt_of_le (Nat.lt_of_lt_of_le hl9 hs10) hs11) (Nat.lt_of_lt_of_le (Nat.lt_of_lt_of_le hbl hs10) hs11) hcc11.out)
                  have hm12 := (hb12.cell (p := ⟨b, i, none⟩) (Nat.lt_of_lt_of_le (Nat.lt_of_lt_of_le hml hs10) hs11)).trans hcd.out.2.2
                  go_wp2_with (fail)
                  refine hK.out _ _ (by (try dsimp only); exact ⟨hcc12.out.1, hcc12.out.2, hm12⟩) (fun hHeld => ?_)
                  clear hK K
                  try simp only [Act.put, List.setIfInBounds_toArray, List.set_cons_zero, List.set_cons_succ]
                  refine wpAnyH_take (i := 6) (oi := ⟨_, _, _, _, _, _⟩) (v := ?_) rfl (by kernel_rfl) (by kernel_rfl) (by kernel_rfl) (fun _ _ _ h => h) (Or.inl ⟨by rfl, ?_⟩) (by assumption) ?_
                  rotate_left
                  · intro w hSw; (try dsimp only at hSw); go_simp; try with_reducible rfl
                  try simp only [Act.put, List.setIfInBounds_toArray, List.set_cons_zero, List.set_cons_succ]
                  refine wpAnyH_take (i := 7) (oi := ⟨_, _, _, _, _, _⟩) (v := ?_) rfl (by kernel_rfl) (by kernel_rfl) (by kernel_rfl) (fun _ _ _ h => h) (Or.inl ⟨by rfl, ?_⟩) (by assumption) ?_
                  rotate_left
                  · intro w hSw; (try dsimp only at hSw); go_simp; try with_reducible rfl
                  try simp only [Act.put, List.setIfInBounds_toArray, List.set_cons_zero, List.set_cons_succ]
                  refine wpAnyH_take (i := 8) (oi := ⟨_, _, _, _, _, _⟩) (v := ?_) rfl (by kernel_rfl) (by kernel_rfl) (by kernel_rfl) (fun _ _ _ h => h) (Or.inl ⟨by rfl, ?_⟩) (by assumption) ?_
                  rotate_left
                  · intro w hSw; (try dsimp only at hSw); go_simp; try with_reducible rfl
                  try simp only [Act.put, List.setIfInBounds_toArray, List.set_cons_zero, List.set_cons_succ]
                  refine wpAnyH_take (i := 9) (oi := ⟨_, _, _, _, _, _⟩) (v := ?_) rfl (by kernel_rfl) (by kernel_rfl) (by kernel_rfl) (fun _ _ _ h => h) (Or.inl ⟨by rfl, ?_⟩) (by assumption) ?_
                  rotate_left
                  · intro w hSw; (try dsimp only at hSw); go_simp; try with_reducible rfl
                  try simp only [Act.put, List.setIfInBounds_toArray, List.set_cons_zero, List.set_cons_succ]
                  refine wpAnyH_take (i := 10) (oi := ⟨_, _, _, _, _, _⟩) (v := ?_) rfl (by kernel_rfl) (by kernel_rfl) (by kernel_rfl) (fun _ _ _ h => h) (Or.inl ⟨by rfl, ?_⟩) (by assumption) ?_
                  rotate_left
                  · intro w hSw; (try dsimp only at hSw); go_simp; try with_reducible rfl
                  try simp only [Act.put, List.setIfInBounds_toArray, List.set_cons_zero, List.set_cons_succ]
                  refine wpAnyH_take (i := 11) (oi := ⟨_, _, _, _, _, _⟩) (v := ?_) rfl (by kernel_rfl) (by kernel_rfl) (by kernel_rfl) (fun _ _ _ h => h) (Or.inl ⟨by rfl, ?_⟩) (by assumption) ?_
                  rotate_left
                  · intro w hSw; (try dsimp only at hSw); go_simp; try with_reducible rfl
                  try simp only [Act.put, List.setIfInBounds_toArray, List.set_cons_zero, List.set_cons_succ]
                  refine wpAnyH_take (i := 12) (oi := ⟨_, _, _, _, _, _⟩) (v := ?_) rfl (by kernel_rfl) (by kernel_rfl) (by kernel_rfl) (fun _ _ _ h => h) (Or.inl ⟨by rfl, ?_⟩) (by assumption) ?_
                  rotate_left
                  · intro w hSw; (try dsimp only at hSw); go_simp; try with_reducible rfl
                  try simp only [Act.put, List.setIfInBounds_toArray, List.set_cons_zero, List.set_cons_succ]
                  refine wpAnyH_take (i := 13) (oi := ⟨_, _, _, _, _, _⟩) (v := ?_) rfl (by kernel_rfl) (by kernel_rfl) (by kernel_rfl) (fun _ _ _ h => h) (Or.inl ⟨by rfl, ?_⟩) (by assumption) ?_
                  rotate_left
                  · intro w hSw; (try dsimp only at hSw); go_simp; try with_reducible rfl
                  try simp only [Act.put, List.setIfInBounds_toArray, List.set_cons_zero, List.set_cons_succ]
                  refine wpAnyH_take (i := 14) (oi := ⟨_, _, _, _, _, _⟩) (v := ?_) rfl (by kernel_rfl) (by kernel_rfl) (by kernel_rfl) (fun _ _ _ h => h) (Or.inl ⟨by rfl, ?_⟩) (by assumption) ?_
                  rotate_left
                  · intro w hSw; (try dsimp only at hSw); go_simp; try with_reducible rfl
                  try simp only [Act.put, List.setIfInBounds_toArray, List.set_cons_zero, List.set_cons_succ]
                  refine wpAnyH_take (i := 15) (oi := ⟨_, _, _, _, _, _⟩) (v := ?_) rfl (by kernel_rfl) (by kernel_rfl) (by kernel_rfl) (fun _ _ _ h => h) (Or.inl ⟨by rfl, ?_⟩) (by assumption) ?_
                  rotate_left
                  · intro w hSw; (try dsimp only at hSw); go_simp; try with_reducible rfl
                  try simp only [Act.put, List.setIfInBounds_toArray, List.set_cons_zero, List.set_cons_succ]
                  refine wpAnyH_take (i := 16) (oi := ⟨_, _, _, _, _, _⟩) (v := ?_) rfl (by kernel_rfl) (by kernel_rfl) (by kernel_rfl) (fun _ _ _ h => h) (Or.inl ⟨by rfl, ?_⟩) (by assumption) ?_
                  rotate_left
                  · intro w hSw; (try dsimp only at hSw); go_simp; try with_reducible rfl
                  try simp only [Act.put, List.setIfInBounds_toArray, List.set_cons_zero, List.set_cons_succ]
                  refine wpAnyH_take (i := 17) (oi := ⟨_, _, _, _, _, _⟩) (v := ?_) rfl (by kernel_rfl) (by kernel_rfl) (by kernel_rfl) (fun _ _ _ h => h) (Or.inl ⟨by rfl, ?_⟩) (by assumption) ?_
                  rotate_left
                  · intro w hSw; (try dsimp only at hSw); go_simp; try with_reducible rfl
                  try simp only [Act.put, List.setIfInBounds_toArray, List.set_cons_zero, List.set_cons_succ]
                  refine wpAnyH_take (i := 18) (oi := ⟨_, _, _, _, _, _⟩) (v := ?_) rfl (by kernel_rfl) (by kernel_rfl) (by kernel_rfl) (fun _ _ _ h => h) (Or.inl ⟨by rfl, ?_⟩) (by assumption) ?_
                  rotate_left
                  · intro w hSw; (try dsimp only at hSw); go_simp; try with_reducible rfl
                  try simp only [Act.put, List.setIfInBounds_toArray, List.set_cons_zero, List.set_cons_succ]
                  refine wpAnyH_take (i := 19) (oi := ⟨_, _, _, _, _, _⟩) (v := ?_) rfl (by kernel_rfl) (by kernel_rfl) (by kernel_rfl) (fun _ _ _ h => h) (Or.inl ⟨by rfl, ?_⟩) (by assumption) ?_
                  rotate_left
                  · intro w hSw; (try dsimp only at hSw); go_simp; try with_reducible rfl
                  try simp only [Act.put, List.setIfInBounds_toArray, List.set_cons_zero, List.set_cons_succ]
                  refine wpAnyH_take (i := 20) (oi := ⟨_, _, _, _, _, _⟩) (v := undef) rfl (by kernel_rfl) (by kernel_rfl) (by kernel_rfl) (fun _ _ _ h => h) (Or.inr ⟨by rfl, rfl⟩) (by assumption) ?_
                  try simp only [Act.put, List.setIfInBounds_toArray, List.set_cons_zero, List.set_cons_succ]
                  refine wpAnyH_take (i := 21) (oi := ⟨_, _, _, _, _, _⟩) (v := undef) rfl (by kernel_rfl) (by kernel_rfl) (by kernel_rfl) (fun _ _ _ h => h) (Or.inr ⟨by rfl, rfl⟩) (by assumption) ?_
                  try simp only [Act.put, List.setIfInBounds_toArray, List.set_cons_zero, List.set_cons_succ]
                  refine wpAnyH_take (i := 22) (oi := ⟨_, _, _, _, _, _⟩) (v := undef) rfl (by kernel_rfl) (by kernel_rfl) (by kernel_rfl) (fun _ _ _ h => h) (Or.inr ⟨by rfl, rfl⟩) (by assumption) ?_
                  try simp only [Act.put, List.setIfInBounds_toArray, List.set_cons_zero, List.set_cons_succ]
                  refine wpAnyH_take (i := 23) (oi := ⟨_, _, _, _, _, _⟩) (v := ?_) rfl (by kernel_rfl) (by kernel_rfl) (by kernel_rfl) (fun _ _ _ h => h) (Or.inl ⟨by rfl, ?_⟩) (by assumption) ?_
                  rotate_left
                  · intro w hSw; (try dsimp only at hSw); go_simp; try with_reducible rfl
                  try simp only [Act.put, List.setIfInBounds_toArray, List.set_cons_zero, List.set_cons_succ]
                  refine wpAnyH_take (i := 24) (oi := ⟨_, _, _, _, _, _⟩) (v := ?_) rfl (by kernel_rfl) (by kernel_rfl) (by kernel_rfl) (fun _ _ _ h => h) (Or.inl ⟨by rfl, ?_⟩) (by assumption) ?_
                  rotate_left
                  · intro w hSw; (try dsimp only at hSw); go_simp; try with_reducible rfl
                  try simp only [Act.put, List.setIfInBounds_toArray, List.set_cons_zero, List.set_cons_succ]
                  refine wpAnyH_done (by kernel_rfl) ?_ _
                  have hb912 := hb9.trans (((hb10.trans (hb11.mono hs10)).trans (hb12.mono (Nat.le_trans hs10 hs11))).mono hb9.size)
                  go_wp2_with (fail)
                  go_roundw
                  case rel => exact ⟨i + 1, by omega, by go_num, hb912⟩
                  case measure => simp [intOf]; omega
                · rw [if_neg hij, ci_zero] at hT
                  replace hT := fun W h => Lib.hid (hT W h)
                  have hij2 : ((i : Int) == (j : Int)) = false := by rw [beq_eq_false_iff_ne]; omega
                  have hij3 : ((i : Int) != (j : Int)) = true := by rw [bne_iff_ne]; omega
                  clear hcl hcm
                  go_wp2_with (fail)
                  refine wp_region_held_drew (S := fun w' => (w'.cell? ⟨w.heap.size, 0, none⟩ = some (.int .i64 F.p) ∧ w'.cell? ⟨w.heap.size, 1, none⟩ = some (.int .i64 F.m) ∧ w'.cell? ⟨w.heap.size, 2, none⟩ = some (.slice A F.mod.length c)) ∧ w'.cell? ⟨bl, ol + i, none⟩ = some (.int .i64 y1) ∧ w'.cell? ⟨b, j, none⟩ = some (.int .i64 y2)) (by kernel_rfl) (by (try dsimp only); exact ⟨hcc9.out.1, hcc9.out.2, hm9.out⟩) (fun hHeld => ?_)
                  refine wpAnyH_take (i := 0) (oi := ⟨_, _, _, _, _, _⟩) (v := ?_) rfl (by kernel_rfl) (by kernel_rfl) (by kernel_rfl) (fun _ _ _ h => h) (Or.inl ⟨by rfl, ?_⟩) (by assumption) ?_
                  rotate_left
                  · intro w hSw; (try dsimp only at hSw); go_simp; try with_reducible rfl
                  try simp only [Act.put, List.setIfInBounds_toArray, List.set_cons_zero, List.set_cons_succ]
                  refine wpAnyH_take (i := 1) (oi := ⟨_, _, _, _, _, _⟩) (v := ?_) rfl (by kernel_rfl) (by kernel_rfl) (by kernel_rfl) (fun _ _ _ h => h) (Or.inl ⟨by rfl, ?_⟩) (by assumption) ?_
                  rotate_left
                  · intro w hSw; (try dsimp only at hSw); go_simp; try with_reducible rfl
                  try simp only [Act.put, List.setIfInBounds_toArray, List.set_cons_zero, List.set_cons_succ]
                  refine wpAnyH_take (i := 2) (oi := ⟨_, _, _, _, _, _⟩) (v := ?_) rfl (by kernel_rfl) (by kernel_rfl) (by kernel_rfl) (fun _ _ _ h => h) (Or.inl ⟨by rfl, ?_⟩) (by assumption) ?_
                  rotate_left
                  · intro w hSw; (try dsimp only at hSw); go_simp; try with_reducible rfl
                  try simp only [Act.put, List.setIfInBounds_toArray, List.set_cons_zero, List.set_cons_succ]
                  refine wpAnyH_take (i := 3) (oi := ⟨_, _, _, _, _, _⟩) (v := ?_) rfl (by kernel_rfl) (by kernel_rfl) (by kernel_rfl) (fun _ _ _ h => h) (Or.inl ⟨by rfl, ?_⟩) (by assumption) ?_
                  rotate_left
                  · intro w hSw; (try dsimp only at hSw); go_simp; try with_reducible rfl
                  try simp only [Act.put, List.setIfInBounds_toArray, List.set_cons_zero, List.set_cons_succ]
                  refine wpAnyH_take (i := 4) (oi := ⟨_, _, _, _, _, _⟩) (v := ?_) rfl (by kernel_rfl) (by kernel_rfl) (by kernel_rfl) (fun _ _ _ h => h) (Or.inl ⟨by rfl, ?_⟩) (by assumption) ?_
                  rotate_left
                  · intro w hSw; (try dsimp only at hSw); go_simp; try with_reducible rfl
                  try simp only [Act.put, List.setIfInBounds_toArray, List.set_cons_zero, List.set_cons_succ]
                  refine wpAnyH_take (i := 5) (oi := ⟨_, _, _, _, _, _⟩) (v := ?_) rfl (by kernel_rfl) (by kernel_rfl) (by kernel_rfl) (fun _ _ _ h => h) (Or.inl ⟨by rfl, ?_⟩) (by assumption) ?_
                  rotate_left
                  · intro w hSw; (try dsimp only at hSw); go_simp; try with_reducible rfl
                  try simp only [Act.put, List.setIfInBounds_toArray, List.set_cons_zero, List.set_cons_succ]
                  refine wpAnyH_take (i := 6) (oi := ⟨_, _, _, _, _, _⟩) (v := ?_) rfl (by kernel_rfl) (by kernel_rfl) (by kernel_rfl) (fun _ _ _ h => h) (Or.inl ⟨by rfl, ?_⟩) (by assumption) ?_
                  rotate_left
                  · intro w hSw; (try dsimp only at hSw); go_simp; try with_reducible rfl
                  try simp only [Act.put, List.setIfInBounds_toArray, List.set_cons_zero, List.set_cons_succ]
                  refine wpAnyH_take (i := 7) (oi := ⟨_, _, _, _, _, _⟩) (v := ?_) rfl (by kernel_rfl) (by kernel_rfl) (by kernel_rfl) (fun _ _ _ h => h) (Or.inl ⟨by rfl, ?_⟩) (by assumption) ?_
                  rotate_left
                  · intro w hSw; (try dsimp only at hSw); go_simp; try with_reducible rfl
                  try simp only [Act.put, List.setIfInBounds_toArray, List.set_cons_zero, List.set_cons_succ]
                  refine wpAnyH_take (i := 8) (oi := ⟨_, _, _, _, _, _⟩) (v := ?_) rfl (by kernel_rfl) (by kernel_rfl) (by kernel_rfl) (fun _ _ _ h => h) (Or.inl ⟨by rfl, ?_⟩) (by assumption) ?_
                  rotate_left
                  · intro w hSw; (try dsimp only at hSw); go_simp; try with_reducible rfl
                  try simp only [Act.put, List.setIfInBounds_toArray, List.set_cons_zero, List.set_cons_succ]
                  refine wpAnyH_take (i := 9) (oi := ⟨_, _, _, _, _, _⟩) (v := ?_) rfl (by kernel_rfl) (by kernel_rfl) (by kernel_rfl) (fun _ _ _ h => h) (Or.inl ⟨by rfl, ?_⟩) (by assumption) ?_
                  rotate_left
                  · intro w hSw; (try dsimp only at hSw); go_simp; try with_reducible rfl
                  try simp only [Act.put, List.setIfInBounds_toArray, List.set_cons_zero, List.set_cons_succ]
                  refine wpAnyH_take (i := 11) (oi := ⟨_, _, _, _, _, _⟩) (v := ?_) rfl (by kernel_rfl) (by kernel_rfl) (by kernel_rfl) (fun _ _ _ h => h) (Or.inl ⟨by rfl, ?_⟩) (by assumption) ?_
                  rotate_left
                  · intro w hSw; (try dsimp only at hSw); go_simp; try with_reducible rfl
                  try simp only [Act.put, List.setIfInBounds_toArray, List.set_cons_zero, List.set_cons_succ]
                  refine wpAnyH_ready (rs := [10]) (by kernel_rfl) (by simp) ?_
                  refine AllReadyH.cons (o := ⟨_, _, _, _, _, _⟩) rfl (fun K hK => ?_) AllReadyH.nil
                  go_simp
                  go_at_call 25
                  (with_reducible refine (hM).out.mono ?_)
                  rintro e w10 ⟨rfl, hx10⟩
                  have hb10 := (Below.refl w9.heap.size w9).drew.trans hx10
                  have hs10 := hb10.size
                  have hcc10 := Lib.hid (keep3l hb10 hl9 hbl hcc9.out)
                  have hm10 := (hb10.cell (p := ⟨b, j, none⟩) hml).trans hm9.out
                  have hr10 := (hr9.below hb10).more hs10
                  go_wp2_with (fail)
                  refine hK.out _ _ (by (try dsimp only); exact ⟨hcc10.out.1, hcc10.out.2, hm10⟩) (fun hHeld => ?_)
                  clear hK K
                  try simp only [Act.put, List.setIfInBounds_toArray, List.set_cons_zero, List.set_cons_succ]
                  refine wpAnyH_ready (rs := [12]) (by kernel_rfl) (by simp) ?_
                  refine AllReadyH.cons (o := ⟨_, _, _, _, _, _⟩) rfl (fun K hK => ?_) AllReadyH.nil
                  go_simp
                  go_at_call 38
                  (with_reducible refine (hT w10 hr10).out.mono ?_)
                  rintro e w11 ⟨rfl, hb11⟩
                  have hs11 := hb11.size
                  have hcc11 := Lib.hid (keep3l hb11 (Nat.lt_of_lt_of_le hl9 hs10) (Nat.lt_of_lt_of_le hbl hs10) hcc10.out)
                  have hm11 := (hb11.cell (p := ⟨b, j, none⟩) (Nat.lt_of_lt_of_le hml hs10)).trans hm10
                  go_wp2_with (fail)
                  refine hK.out _ _ (by (try dsimp only); exact ⟨hcc11.out.1, hcc11.out.2, hm11⟩) (fun hHeld => ?_)
                  clear hK K
                  try simp only [Act.put, List.setIfInBounds_toArray, List.set_cons_zero, List.set_cons_succ]
                  refine wpAnyH_take (i := 13) (oi := ⟨_, _, _, _, _, _⟩) (v := ?_) rfl (by kernel_rfl) (by kernel_rfl) (by kernel_rfl) (fun _ _ _ h => h) (Or.inl ⟨by rfl, ?_⟩) (by assumption) ?_
                  rotate_left
                  · intro w hSw; (try dsimp only at hSw); go_simp; try with_reducible rfl
                  try simp only [Act.put, List.setIfInBounds_toArray, List.set_cons_zero, List.set_cons_succ]
                  refine wpAnyH_done (by kernel_rfl) ?_ _
                  have hIs1 := hIs w11.drew
                  have hcd := Lib.hid (show _ ∧ _ ∧ _ from ⟨hcc11.out.1, hcc11.out.2, hm11⟩)
                  clear hm10 hm11
                  go_wp2_with (fail)
                  refine wp_region_held_drew (S := fun w' => (w'.cell? ⟨w.heap.size, 0, none⟩ = some (.int .i64 F.p) ∧ w'.cell? ⟨w.heap.size, 1, none⟩ = some (.int .i64 F.m) ∧ w'.cell? ⟨w.heap.size, 2, none⟩ = some (.slice A F.mod.length c)) ∧ w'.cell? ⟨bl, ol + i, none⟩ = some (.int .i64 y1) ∧ w'.cell? ⟨b, j, none⟩ = some (.int .i64 y2)) (by kernel_rfl) (by (try dsimp only); exact hcd.out) (fun hHeld => ?_)
                  refine wpAnyH_take (i := 0) (oi := ⟨_, _, _, _, _, _⟩) (v := ?_) rfl (by kernel_rfl) (by kernel_rfl) (by kernel_rfl) (fun _ _ _ h => h) (Or.inl ⟨by rfl, ?_⟩) (by assumption) ?_
                  rotate_left
                  · intro w hSw; (try dsimp only at hSw); go_simp; try with_reducible rfl
                  try simp only [Act.put, List.setIfInBounds_toArray, List.set_cons_zero, List.set_cons_succ]
                  refine wpAnyH_take (i := 1) (oi := ⟨_, _, _, _, _, _⟩) (v := ?_) rfl (by kernel_rfl) (by kernel_rfl) (by kernel_rfl) (fun _ _ _ h => h) (Or.inl ⟨by rfl, ?_⟩) (by assumption) ?_
                  rotate_left
                  · intro w hSw; (try dsimp only at hSw); go_simp; try with_reducible rfl
                  try simp only [Act.put, List.setIfInBounds_toArray, List.set_cons_zero, List.set_cons_succ]
                  refine wpAnyH_take (i := 2) (oi := ⟨_, _, _, _, _, _⟩) (v := ?_) rfl (by kernel_rfl) (by kernel_rfl) (by kernel_rfl) (fun _ _ _ h => h) (Or.inl ⟨by rfl, ?_⟩) (by assumption) ?_
                  rotate_left
                  · intro w hSw; (try dsimp only at hSw); go_simp; try with_reducible rfl
                  try simp only [Act.put, List.setIfInBounds_toArray, List.set_cons_zero, List.set_cons_succ]
                  refine wpAnyH_take (i := 3) (oi := ⟨_, _, _, _, _, _⟩) (v := ?_) rfl (by kernel_rfl) (by kernel_rfl) (by kernel_rfl) (fun _ _ _ h => h) (Or.inl ⟨by rfl, ?_⟩) (by assumption) ?_
                  rotate_left
                  · intro w hSw; (try dsimp only at hSw); go_simp; try with_reducible rfl
                  try simp only [Act.put, List.setIfInBounds_toArray, List.set_cons_zero, List.set_cons_succ]
                  refine wpAnyH_take (i := 4) (oi := ⟨_, _, _, _, _, _⟩) (v := ?_) rfl (by kernel_rfl) (by kernel_rfl) (by kernel_rfl) (fun _ _ _ h => h) (Or.inl ⟨by rfl, ?_⟩) (by assumption) ?_
                  rotate_left
                  · intro w hSw; (try dsimp only at hSw); go_simp; try with_reducible rfl
                  try simp only [Act.put, List.setIfInBounds_toArray, List.set_cons_zero, List.set_cons_succ]
                  refine wpAnyH_ready (rs := [5]) (by kernel_rfl) (by simp) ?_
                  refine AllReadyH.cons (o := ⟨_, _, _, _, _, _⟩) rfl (fun K hK => ?_) AllReadyH.nil
                  go_simp
                  go_at_call 32
                  (with_reducible refine (hIs1).out.mono ?_)
                  rintro e w12 ⟨rfl, hx12⟩
                  have hb12 := (Below.refl w11.heap.size w11).drew.trans hx12
                  have hcc12 := Lib.hid (keep3l hb12 (Nat.lt_of_lt_of_le (Nat.lt_of_lt_of_le hl9 hs10) hs11) (Nat.lt_of_lt_of_le (Nat.lt_of_lt_of_le hbl hs10) hs11) hcc11.out)
                  have hm12 := (hb12.cell (p := ⟨b, j, none⟩) (Nat.lt_of_lt_of_le (Nat.lt_of_lt_of_le hml hs10) hs11)).trans hcd.out.2.2
                  go_wp2_with (fail)
                  refine hK.out _ _ (by (try dsimp only); exact ⟨hcc12.out.1, hcc12.out.2, hm12⟩) (fun hHeld => ?_)
                  clear hK K
                  try simp only [Act.put, List.setIfInBounds_toArray, List.set_cons_zero, List.set_cons_succ]
                  refine wpAnyH_take (i := 6) (oi := ⟨_, _, _, _, _, _⟩) (v := ?_) rfl (by kernel_rfl) (by kernel_rfl) (by kernel_rfl) (fun _ _ _ h => h) (Or.inl ⟨by rfl, ?_⟩) (by assumption) ?_
                  rotate_left
                  · intro w hSw; (try dsimp only at hSw); go_simp; try with_reducible rfl
                  try simp only [Act.put, List.setIfInBounds_toArray, List.set_cons_zero, List.set_cons_succ]
                  refine wpAnyH_take (i := 7) (oi := ⟨_, _, _, _, _, _⟩) (v := ?_) rfl (by kernel_rfl) (by kernel_rfl) (by kernel_rfl) (fun _ _ _ h => h) (Or.inl ⟨by rfl, ?_⟩) (by assumption) ?_
                  rotate_left
                  · intro w hSw; (try dsimp only at hSw); go_simp; try with_reducible rfl
                  try simp only [Act.put, List.setIfInBounds_toArray, List.set_cons_zero, List.set_cons_succ]
                  refine wpAnyH_take (i := 8) (oi := ⟨_, _, _, _, _, _⟩) (v := ?_) rfl (by kernel_rfl) (by kernel_rfl) (by kernel_rfl) (fun _ _ _ h => h) (Or.inl ⟨by rfl, ?_⟩) (by assumption) ?_
                  rotate_left
                  · intro w hSw; (try dsimp only at hSw); go_simp; try with_reducible rfl
                  try simp only [Act.put, List.setIfInBounds_toArray, List.set_cons_zero, List.set_cons_succ]
                  refine wpAnyH_take (i := 9) (oi := ⟨_, _, _, _, _, _⟩) (v := ?_) rfl (by kernel_rfl) (by kernel_rfl) (by kernel_rfl) (fun _ _ _ h => h) (Or.inl ⟨by rfl, ?_⟩) (by assumption) ?_
                  rotate_left
                  · intro w hSw; (try dsimp only at hSw); go_simp; try with_reducible rfl
                  try simp only [Act.put, List.setIfInBounds_toArray, List.set_cons_zero, List.set_cons_succ]
                  refine wpAnyH_take (i := 10) (oi := ⟨_, _, _, _, _, _⟩) (v := ?_) rfl (by kernel_rfl) (by kernel_rfl) (by kernel_rfl) (fun _ _ _ h => h) (Or.inl ⟨by rfl, ?_⟩) (by assumption) ?_
                  rotate_left
                  · intro w hSw; (try dsimp only at hSw); go_simp; try with_reducible rfl
                  try simp only [Act.put, List.setIfInBounds_toArray, List.set_cons_zero, List.set_cons_succ]
                  refine wpAnyH_take (i := 11) (oi := ⟨_, _, _, _, _, _⟩) (v := undef) rfl (by kernel_rfl) (by kernel_rfl) (by kernel_rfl) (fun _ _ _ h => h) (Or.inr ⟨by rfl, rfl⟩) (by assumption) ?_
                  try simp only [Act.put, List.setIfInBounds_toArray, List.set_cons_zero, List.set_cons_succ]
                  refine wpAnyH_take (i := 12) (oi := ⟨_, _, _, _, _, _⟩) (v := undef) rfl (by kernel_rfl) (by kernel_rfl) (by kernel_rfl) (fun _ _ _ h => h) (Or.inr ⟨by rfl, rfl⟩) (by assumption) ?_
                  try simp only [Act.put, List.setIfInBounds_toArray, List.set_cons_zero, List.set_cons_succ]
                  refine wpAnyH_take (i := 13) (oi := ⟨_, _, _, _, _, _⟩) (v := undef) rfl (by kernel_rfl) (by kernel_rfl) (by kernel_rfl) (fun _ _ _ h => h) (Or.inr ⟨by rfl, rfl⟩) (by assumption) ?_
                  try simp only [Act.put, List.setIfInBounds_toArray, List.set_cons_zero, List.set_cons_succ]
                  refine wpAnyH_take (i := 14) (oi := ⟨_, _, _, _, _, _⟩) (v := ?_) rfl (by kernel_rfl) (by kernel_rfl) (by kernel_rfl) (fun _ _ _ h => h) (Or.inl ⟨by rfl, ?_⟩) (by assumption) ?_
                  rotate_left
                  · intro w hSw; (try dsimp only at hSw); go_simp; try with_reducible rfl
                  try simp only [Act.put, List.setIfInBounds_toArray, List.set_cons_zero, List.set_cons_succ]
                  refine wpAnyH_take (i := 15) (oi := ⟨_, _, _, _, _, _⟩) (v := ?_) rfl (by kernel_rfl) (by kernel_rfl) (by kernel_rfl) (fun _ _ _ h => h) (Or.inl ⟨by rfl, ?_⟩) (by assumption) ?_
                  rotate_left
                  · intro w hSw; (try dsimp only at hSw); go_simp; try with_reducible rfl
                  try simp only [Act.put, List.setIfInBounds_toArray, List.set_cons_zero, List.set_cons_succ]
                  refine wpAnyH_take (i := 16) (oi := ⟨_, _, _, _, _, _⟩) (v := ?_) rfl (by kernel_rfl) (by kernel_rfl) (by kernel_rfl) (fun _ _ _ h => h) (Or.inl ⟨by rfl, ?_⟩) (by assumption) ?_
                  rotate_left
                  · intro w hSw; (try dsimp only at hSw); go_simp; try with_reducible rfl
                  try simp only [Act.put, List.setIfInBounds_toArray, List.set_cons_zero, List.set_cons_succ]
                  refine wpAnyH_take (i := 17) (oi := ⟨_, _, _, _, _, _⟩) (v := ?_) rfl (by kernel_rfl) (by kernel_rfl) (by kernel_rfl) (fun _ _ _ h => h) (Or.inl ⟨by rfl, ?_⟩) (by assumption) ?_
                  rotate_left
                  · intro w hSw; (try dsimp only at hSw); go_simp; try with_reducible rfl
                  try simp only [Act.put, List.setIfInBounds_toArray, List.set_cons_zero, List.set_cons_succ]
                  refine wpAnyH_take (i := 18) (oi := ⟨_, _, _, _, _, _⟩) (v := ?_) rfl (by kernel_rfl) (by kernel_rfl) (by kernel_rfl) (fun _ _ _ h => h) (Or.inl ⟨by rfl, ?_⟩) (by assumption) ?_
                  rotate_left
                  · intro w hSw; (try dsimp only at hSw); go_simp; try with_reducible rfl
                  try simp only [Act.put, List.setIfInBounds_toArray, List.set_cons_zero, List.set_cons_succ]
                  refine wpAnyH_take (i := 19) (oi := ⟨_, _, _, _, _, _⟩) (v := ?_) rfl (by kernel_rfl) (by kernel_rfl) (by kernel_rfl) (fun _ _ _ h => h) (Or.inl ⟨by rfl, ?_⟩) (by assumption) ?_
                  rotate_left
                  · intro w hSw; (try dsimp only at hSw); go_simp; try with_reducible rfl
                  try simp only [Act.put, List.setIfInBounds_toArray, List.set_cons_zero, List.set_cons_succ]
                  refine wpAnyH_take (i := 20) (oi := ⟨_, _, _, _, _, _⟩) (v := ?_) rfl (by kernel_rfl) (by kernel_rfl) (by kernel_rfl) (fun _ _ _ h => h) (Or.inl ⟨by rfl, ?_⟩) (by assumption) ?_
                  rotate_left
                  · intro w hSw; (try dsimp only at hSw); go_simp; try with_reducible rfl
                  try simp only [Act.put, List.setIfInBounds_toArray, List.set_cons_zero, List.set_cons_succ]
                  refine wpAnyH_take (i := 21) (oi := ⟨_, _, _, _, _, _⟩) (v := ?_) rfl (by kernel_rfl) (by kernel_rfl) (by kernel_rfl) (fun _ _ _ h => h) (Or.inl ⟨by rfl, ?_⟩) (by assumption) ?_
                  rotate_left
                  · intro w hSw; (try dsimp only at hSw); go_simp; try with_reducible rfl
                  try simp only [Act.put, List.setIfInBounds_toArray, List.set_cons_zero, List.set_cons_succ]
                  refine wpAnyH_take (i := 22) (oi := ⟨_, _, _, _, _, _⟩) (v := ?_) rfl (by kernel_rfl) (by kernel_rfl) (by kernel_rfl) (fun _ _ _ h => h) (Or.inl ⟨by rfl, ?_⟩) (by assumption) ?_
                  rotate_left
                  · intro w hSw; (try dsimp only at hSw); go_simp; try with_reducible rfl
                  try simp only [Act.put, List.setIfInBounds_toArray, List.set_cons_zero, List.set_cons_succ]
                  refine wpAnyH_take (i := 23) (oi := ⟨_, _, _, _, _, _⟩) (v := ?_) rfl (by kernel_rfl) (by kernel_rfl) (by kernel_rfl) (fun _ _ _ h => h) (Or.inl ⟨by rfl, ?_⟩) (by assumption) ?_
                  rotate_left
                  · intro w hSw; (try dsimp only at hSw); go_simp; try with_reducible rfl
                  try simp only [Act.put, List.setIfInBounds_toArray, List.set_cons_zero, List.set_cons_succ]
                  refine wpAnyH_take (i := 24) (oi := ⟨_, _, _, _, _, _⟩) (v := ?_) rfl (by kernel_rfl) (by kernel_rfl) (by kernel_rfl) (fun _ _ _ h => h) (Or.inl ⟨by rfl, ?_⟩) (by assumption) ?_
                  rotate_left
                  · intro w hSw; (try dsimp only at hSw); go_simp; try with_reducible rfl
                  try simp only [Act.put, List.setIfInBounds_toArray, List.set_cons_zero, List.set_cons_succ]
                  refine wpAnyH_done (by kernel_rfl) ?_ _
                  have hb912 := hb9.trans (((hb10.trans (hb11.mono hs10)).trans (hb12.mono (Nat.le_trans hs10 hs11))).mono hb9.size)
                  go_wp2_with (fail)
                  go_roundw
                  case rel => exact ⟨j + 1, by omega, by go_num, hb912⟩
                  case measure => simp [intOf]; omega
              · obtain rfl : j = n := by omega
                go_wp2_with (fail)
                go_roundw
                case rel => exact ⟨i + 1, by omega, by go_num, hb8.trans (hb9.mono hb8.size)⟩
                case measure => simp [intOf]; omega
          · obtain rfl : i = n := by omega
            have hP8 := hP3 (some ⟨b, 0, none⟩) i w8 hg8 hib8.rd
            go_wp2_with (fail)
            (with_reducible refine hP8.out.mono ?_)
            rintro e w9 ⟨hb9, b2, m2, rfl, hib9, -, huniq, -⟩
            have hv9 := (hv8.below hb9).more hb9.size
            have hm2 : Hid (rowL F.toDesc i m2 = l1) := by
              unfold Hid
              rw [← hrow.out]
              unfold rowL
              exact lst_congr fun j hj => by rw [huniq (elL F l1) hback.out j hj]
            rw [hm2.out] at hib9
            have hS9 := same_any l1 l1 (some ⟨b2, 0, none⟩) A1 i c1 w9 hib9.rd hv9 (by rw [← hn.out]; omega) (by rw [← hn.out]; omega)
            rw [decide_eq_true (rfl : l1 = l1), ← hn.out] at hS9
            replace hS9 := Lib.hid hS9
            have hB9 := hB8.trans (hb9.mono hB8.size)
            clear huniq hP8 hP3
            go_wp2_with (fail)
            (with_reducible refine hS9.out.mono ?_)
            rintro e w10 ⟨rfl, hb10⟩
            go_wp2_with (fail)
            go_ret
            exact ⟨rfl, hB9.trans (hb10.mono hB9.size)⟩
      · rw [basE_bad hdv hbp] at hR
        have hP := fun W a b => Lib.hid (tDual_no F l1 d 9 A1 c1 g W a b hl' (basE_bad hdv hbp) (by decide))
        replace hR := fun W a b => Lib.hid (hR W a b)
        clear hdv hbp
        have hv2' := hv2
        obtain ⟨q0, q1, q2⟩ := kp2.out
        go_wp2_with (fail)
        (with_reducible refine (hP w2 hg2 hv2).out.mono ?_)
        rintro e w3 ⟨rfl, hb3⟩
        have hs3 : w2.heap.size ≤ w3.heap.size := hb3.size
        have hg3 := (hg2.below hb3).more hb3.size
        have hr3 := (hr2.below hb3).more hb3.size
        have kp3 := Lib.hid (keep3 hb3 hl2 kp2.out)
        have hl3 := Nat.lt_of_lt_of_le hl2 hs3
        have hB3 := (hB2).trans (hb3.mono hB2.size)
        have hv3 := (hv2'.below hb3).more hb3.size
        clear q0 q1 q2 hg2 hr2 hB2 kp2 hb3
        obtain ⟨q0, q1, q2⟩ := kp3.out
        go_wp2_with (fail)
        (with_reducible refine (hV w3).out.mono ?_)
        rintro e w4 ⟨rfl, hb4⟩
        have hs4 : w3.heap.size ≤ w4.heap.size := hb4.size
        have hg4 := (hg3.below hb4).more hb4.size
        have hr4 := (hr3.below hb4).more hb4.size
        have kp4 := Lib.hid (keep3 hb4 hl3 kp3.out)
        have hl4 := Nat.lt_of_lt_of_le hl3 hs4
        have hB4 := (hB3).trans (hb4.mono hB3.size)
        have hv4 := (hv3.below hb4).more hb4.size
        clear q0 q1 q2 hg3 hr3 hB3 kp3 hb4
        obtain ⟨q0, q1, q2⟩ := kp4.out
        go_wp2_with (fail)
        (with_reducible refine (hR w4 hr4 hv4).out.mono ?_)
        rintro e w5 ⟨rfl, hb5⟩
        have hs5 : w4.heap.size ≤ w5.heap.size := hb5.size
        have hg5 := (hg4.below hb5).more hb5.size
        have hr5 := (hr4.below hb5).more hb5.size
        have kp5 := Lib.hid (keep3 hb5 hl4 kp4.out)
        have hl5 := Nat.lt_of_lt_of_le hl4 hs5
        have hB5 := (hB4).trans (hb5.mono hB4.size)
        clear q0 q1 q2 hg4 hr4 hB4 kp4 hb5
        go_wp2_with (fail)
        go_ret
        exact ⟨rfl, hB5⟩
    · rw [Bool.not_eq_true] at hdv
      have hV := fun W => Lib.hid (Divides_any F.toDesc x2 A F.mod.length c W)
      rw [hdv] at hV
      have hP := fun W a b => Lib.hid (tDual_no F l1 x2 6 A1 c1 g W a b hl' (basE_no hdv) (by decide))
      clear hdv
      obtain ⟨q0, q1, q2⟩ := kp2.out
      go_wp2_with (fail)
      (with_reducible refine (hP w2 hg2 hv2).out.mono ?_)
      rintro e w3 ⟨rfl, hb3⟩
      have hs3 : w2.heap.size ≤ w3.heap.size := hb3.size
      have hg3 := (hg2.below hb3).more hb3.size
      have hr3 := (hr2.below hb3).more hb3.size
      have kp3 := Lib.hid (keep3 hb3 hl2 kp2.out)
      have hl3 := Nat.lt_of_lt_of_le hl2 hs3
      have hB3 := (hB2).trans (hb3.mono hB2.size)
      clear q0 q1 q2 hg2 hr2 hB2 kp2 hb3
      obtain ⟨q0, q1, q2⟩ := kp3.out
      go_wp2_with (fail)
      (with_reducible refine (hV w3).out.mono ?_)
      rintro e w4 ⟨rfl, hb4⟩
      have hs4 : w3.heap.size ≤ w4.heap.size := hb4.size
      have hg4 := (hg3.below hb4).more hb4.size
      have hr4 := (hr3.below hb4).more hb4.size
      have kp4 := Lib.hid (keep3 hb4 hl3 kp3.out)
      have hl4 := Nat.lt_of_lt_of_le hl3 hs4
      have hB4 := (hB3).trans (hb4.mono hB3.size)
      clear q0 q1 q2 hg3 hr3 hB3 kp3 hb4
      go_wp2_with (fail)
      go_ret
      exact ⟨rfl, hB4⟩
  · have hd12 : decide (12 < (l1.length : Int)) = true := by simp; omega
    obtain ⟨q0, q1, q2⟩ := kp2.out
    go_wp2_with (fail)
    go_ret
    exact ⟨rfl, hB2⟩
end Go.Proofs.Yteamndefbpdcjaa

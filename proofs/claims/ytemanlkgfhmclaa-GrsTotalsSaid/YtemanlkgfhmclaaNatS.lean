/- Package grs: Weights. -/
import Derived.Test.YtemanlkgfhmclaaNatR
import Derived.Test.YtemanlkgfhmclaaWtP
import Derived.Test.YtemanlkgfhmclaaPev
namespace Go.Proofs.Ytemanlkgfhmclaa
open Go.RowKit Cw
attribute [local go_sem] Oper.semAt_some

set_option maxHeartbeats 1000000 in
theorem gWeights_bad (P M K : Int) (ml pts mul : List Int) (A A1 A2 : Option Addr) (c c1 c2 : Nat) (w : World) (hP : I64 P) (hM : I64 M) (hl : ml.length ≤ maxLen) (hr : Rd w w.heap.size A ml) (hb : ¬ Good P M ml) :
    Calls Try.prog 6 #[.agg #[.int .i64 P, .int .i64 M, .slice A ml.length c, .int .i64 K, .slice A1 pts.length c1, .slice A2 mul.length c2]] w fun e w' => e = .returned (.tuple #[.slice none 0 0, .int .i64 1]) ∧ Below w.heap.size w w' := by
  have hN := fun W h => Lib.hid (gOpen_bad P M K ml pts mul A A1 A2 c c1 c2 W hP hM hl h hb)
  have k0 := Lib.hid (alloc6 w (.int .i64 P) (.int .i64 M) (.slice A ml.length c) (.int .i64 K) (.slice A1 pts.length c1) (.slice A2 mul.length c2) 26)
  have hB : Below w.heap.size w (w.alloc (.cells #[.int .i64 P, .int .i64 M, .slice A ml.length c, .int .i64 K, .slice A1 pts.length c1, .slice A2 mul.length c2] 26)) := (Below.refl _ _).alloc (Nat.le_refl _) _
  have hN2 := hN _ ((hr.below hB).more hB.size)
  clear hP hM hl hb hN
  go_enter Try.func6, Try.ntmps6
  go_wp2_with (fail)
  (with_reducible refine hN2.out.mono ?_)
  rintro e w1 ⟨rfl, hb1⟩
  go_wp2_with (fail)
  go_ret2
  exact ⟨rfl, hB.trans (hb1.mono hB.size)⟩

/-- What Weights hands back over a field. -/
def WtPost (D : Desc) (K : Int) (pts mul : List Int) (w : World) (e : Ending) (w' : World) : Prop :=
  Below w.heap.size w w' ∧ ((gchkD D K pts mul ≠ 0 ∧ e = .returned (.tuple #[.slice none 0 0, .int .i64 (gchkD D K pts mul)])) ∨
    (gchkD D K pts mul = 0 ∧ ∃ N X A c, N = pts.length + 1 ∧ e = .returned (.tuple #[.slice (some ⟨X, 0, none⟩) N N, .int .i64 0]) ∧ w.heap.size ≤ X ∧ UB w' X N A (fun t => nL (aW D.q pts.length K.toNat t)) c))

set_option maxRecDepth 100000 in
set_option maxHeartbeats 4000000 in
theorem gWeights_D (D : Desc) (K : Int) (pts mul : List Int) (A A1 A2 : Option Addr) (c c1 c2 : Nat) (w : World) (hr : Rd w w.heap.size A (modL D)) (hg : Good D.p D.m (modL D)) (hr1 : Rd w w.heap.size A1 pts) (hr2 : Rd w w.heap.size A2 mul) (h1 : pts.length ≤ c1) (h1' : c1 ≤ maxLen) (h2 : mul.length ≤ maxLen) :
    Calls Try.prog 6 #[.agg #[.int .i64 D.p, .int .i64 D.m, .slice A D.mod.length c, .int .i64 K, .slice A1 pts.length c1, .slice A2 mul.length c2]] w (WtPost D K pts mul w) := by
  have hN := fun W h ha hb => Lib.hid (gOpen_D D K pts mul A A1 A2 c c1 c2 W h hg ha hb h1 h1' h2)
  have k0 := Lib.hid (alloc6 w (.int .i64 D.p) (.int .i64 D.m) (.slice A D.mod.length c) (.int .i64 K) (.slice A1 pts.length c1) (.slice A2 mul.length c2) 26)
  have hB : Below w.heap.size w (w.alloc (.cells #[.int .i64 D.p, .int .i64 D.m, .slice A D.mod.length c, .int .i64 K, .slice A1 pts.length c1, .slice A2 mul.length c2] 26)) := (Below.refl _ _).alloc (Nat.le_refl _) _
  have hN2 := hN _ ((hr.below hB).more hB.size) ((hr1.below hB).more hB.size) ((hr2.below hB).more hB.size)
  have hlt0 : w.heap.size < (w.alloc (.cells #[.int .i64 D.p, .int .i64 D.m, .slice A D.mod.length c, .int .i64 K, .slice A1 pts.length c1, .slice A2 mul.length c2] 26)).heap.size := by simp
  clear hN hg
  go_enter Try.func6, Try.ntmps6
  go_wp2_with (fail)
  (with_reducible refine hN2.out.mono ?_)
  rintro e w1 ⟨hb1, g, F, hFD, hgf, hgl, ⟨hz, rfl⟩ | ⟨hz, rfl⟩⟩
  rotate_left
  · have hzb : (gchkD D K pts mul != 0) = true := by rw [bne_iff_ne]; exact hz
    go_wp2_with (fail)
    go_ret2
    exact ⟨hB.trans (hb1.mono hB.size), .inl ⟨hz, rfl⟩⟩
  obtain ⟨q0, q1, q2, q3, q4, q5⟩ := keep6 hb1 hlt0 k0.out
  have hB1 := hB.trans (hb1.mono hB.size)
  obtain ⟨y1, y64, -, -, -, -, -, hK0, hK1⟩ := gchkD_zero hz
  obtain ⟨k, rfl⟩ := Int.eq_ofNat_of_zero_le hK0
  obtain ⟨n, hn⟩ : ∃ n, n = pts.length := ⟨_, rfl⟩
  rw [← hn] at y1 y64 hK1 q4 ⊢
  have hkn : k ≤ n := by omega
  have hpp : ∀ x, 1 ≤ x → x ≤ n → n < x + k → parS D.q x (x + k - n) 1 ≤ parS D.q x (x + k - n) 0 := fun x a b c => by
    subst hFD
    have := gws_par (F := F) hz a (by rw [← hn]; exact b) (by rw [← hn]; exact c)
    rw [← hn] at this; exact this
  obtain ⟨d, hd⟩ : ∃ d, d + k = n + 1 := ⟨n + 1 - k, by omega⟩
  obtain ⟨N, hNe⟩ : ∃ N, N = n + 1 := ⟨_, rfl⟩
  have hd1 : (n : Int) - (k : Int) + 1 = (d : Int) := by omega
  have hN1 : (n : Int) + 1 = (N : Int) := by omega
  have hmk := mk_nats N (by omega)
  have hq2 := D.q2
  have hq256 := D.q256
  have hO := fun W h => Lib.hid (gOrder_any F g W h)
  rw [show F.q = D.q by rw [← hFD]] at hO
  obtain ⟨q, hq⟩ : ∃ q, q = D.q := ⟨_, rfl⟩
  rw [← hq] at hq2 hq256 hO hpp
  have hu0 := UB.new w1 N 38
  have hbX : Below w1.heap.size w1 (w1.alloc (.cells (Array.replicate N (Value.slice none 0 0)) 38)) := (Below.refl _ _).alloc (Nat.le_refl _) _
  have hO1 := nOf_any 1 (w1.alloc (.cells (Array.replicate N (Value.slice none 0 0)) 38)) (by decide)
  have hOq := fun W => Lib.hid (nOf_any q W (by omega))
  have hN0 : (0 : Int) < (N : Int) := by omega
  replace hz := Lib.hid hz
  replace hn := Lib.hid hn
  replace hNe := Lib.hid hNe
  replace hd := Lib.hid hd
  replace hO1 := Lib.hid hO1
  replace hq := Lib.hid hq
  replace hFD := Lib.hid hFD
  clear hN2 k0
  go_wp2_with (fail)
  refine hO1.out.mono ?_
  rintro e w2 ⟨v2, rfl, ho2, hb2⟩
  obtain ⟨A2', c2', rfl, hc2, hr2'⟩ := ho2.num
  have hb12 := hbX.trans (hb2.mono hbX.size)
  have hu2 := hu0.below hb2
  have hc0 := hu2.cell (i := 0) (by omega)
  have hf0 := hu2.frozen 0
  have hu3 := hu2.set_ (i := 0) hr2' (nL_lm _) (by rw [nL_length]; exact Nat.le_trans (nlen_le (show 1 < nB ^ 1 by rw [Nat.pow_one]; exact nB_gt)) (by decide)) (by rw [nL_length]; exact hc2)
  rw [nL_length] at hu3
  replace hu3 := Lib.hid hu3
  clear hu2 hu0 ho2 hr2'
  go_wp2_with (fail)
  have hb13 := hb12.setCell (p := ⟨w1.heap.size, 0, none⟩) (Nat.le_refl _) (.slice A2' (nlen 1) c2')
  generalize w2.setCell ⟨w1.heap.size, 0, none⟩ (.slice A2' (nlen 1) c2') = w3 at hu3 hb13 ⊢
  refine (hO w3 ((hgf.below hb13).more hb13.size)).out.mono ?_
  rintro e w4 ⟨rfl, rfl⟩
  have hOq3 := hOq w3
  clear hO hOq hc0 hf0 hO1 hmk
  go_wp2_with (fail)
  refine hOq3.out.mono ?_
  rintro e w4 ⟨v4, rfl, ho4, hb4⟩
  obtain ⟨Aq, cq, rfl, hcq, hrq⟩ := ho4.num
  have hu4 := hu3.out.below hb4
  have hb14 := hb13.trans (hb4.mono hb13.size)
  have hX := hu4.lt
  have hlx : w.heap.size ≤ w1.heap.size := hB1.size
  clear hOq3 hu3 ho4 hb12 hb2 hb13 hb4 hgf hgl hr hr1 hr2
  generalize w1.heap.size = X at *
  have hb04 : Below w.heap.size w w4 := hB1.trans (hb14.mono hlx)
  clear hB1 hb14 hb1 q0 q1 q2 q3 q4 q5 hlt0
  go_wp2_with (fail)
  go_loopw [10] (fun i wr => ∃ (x : Nat) (Ax : Nat → Option Addr) (cx : Nat → Nat), d ≤ x ∧ x ≤ N ∧ i = .int .i64 x ∧ UB wr X N Ax (fun t => nL (if t < x then aW q n k t else 0)) cx ∧ U.Rd wr wr.heap.size Aq (nL q) ∧ Below w.heap.size w wr) (fun i _ => N - (intOf i).toNat)
  case atStart =>
    refine ⟨d, _, _, Nat.le_refl _, by have := hd.out; have := hNe.out; omega, rfl, hu4.congr fun t ht => ?_, hrq, hb04⟩
    by_cases h0 : t = 0
    · rw [if_pos h0, if_pos (by have := hd.out; omega), h0, aW_zero]
    · rw [if_neg h0]
      by_cases h1 : t < d
      · rw [if_pos h1, aW_low (by omega) (by have := hd.out; omega)]; rfl
      · rw [if_neg h1]; rfl
  case round =>
    clear hu4 hrq hb04
    obtain ⟨x, Ax, cx, hdx, hxN, rfl, hux, hrq, hbw⟩ := hrel
    obtain ⟨w5, rfl⟩ : ∃ w5 : World, w5 = wr := ⟨_, rfl⟩
    clear hB
    by_cases hx : x ≤ n
    rotate_left
    · have hxN' : N = x := by have := hNe.out; omega
      have hxi : ¬ (x : Int) ≤ (n : Int) := by omega
      clear hx
      replace hxN' := Lib.hid hxN'
      go_wp2_with (fail)
      refine bodyPost_ret (v := .tuple #[.slice (some ⟨X, 0, none⟩) N N, .int .i64 0]) (by simp [results, Try.results6, go_sem]) rfl ⟨hbw, .inr ⟨hz.out, N, X, Ax, cx, by rw [hNe.out, hn.out], rfl, hlx, hux.congr fun t ht => ?_⟩⟩
      rw [if_pos (by have := hxN'.out; omega), hq.out, hn.out]; rfl
    have hxi : (x : Int) ≤ (n : Int) := by omega
    have hx64 : x ≤ 64 := by omega
    have hub := UB.new2 w5 56
    have hs5 := Lib.hid (hux.cell (i := x) (by have := hNe.out; omega))
    obtain ⟨e, he⟩ : ∃ e, e + d = x + 1 := ⟨x + 1 - d, by omega⟩
    obtain ⟨f, hf⟩ : ∃ f, f + 1 = e := ⟨e - 1, by omega⟩
    have hei : (x : Int) - (d : Int) = (f : Int) := by omega
    have hfe : (f : Int) + 1 = (e : Int) := by omega
    replace hf := Lib.hid hf
    replace he := Lib.hid he
    clear hx
    go_wp2_with (fail)
    have hba : Below w5.heap.size w5 (w5.alloc (.cells #[.slice none 0 0, .slice none 0 0] 56)) := (Below.refl _ _).alloc (Nat.le_refl _) _
    have hYe : ∃ Y, Y = w5.heap.size := ⟨_, rfl⟩
    obtain ⟨Y, hY⟩ := hYe
    rw [← hY] at hub hba ⊢
    generalize w5.alloc (.cells #[.slice none 0 0, .slice none 0 0] 56) = w6 at hub hba ⊢
    go_loopw [12] (fun i wr => ∃ (j : Nat) (Aj : Nat → Option Addr) (cj : Nat → Nat), j ≤ e ∧ i = .int .i64 j ∧ UB wr Y 2 Aj (fun r => nL (parJ q x e r j)) cj ∧ Below Y w5 wr) (fun i _ => e - (intOf i).toNat)
    case atStart => exact ⟨0, _, _, Nat.zero_le _, rfl, hub.congr fun _ _ => rfl, hba⟩
    case round =>
      clear hub hba
      obtain ⟨j, Aj, cj, hje, rfl, huj, hb5⟩ := hrel
      obtain ⟨w7, rfl⟩ : ∃ w7 : World, w7 = wr := ⟨_, rfl⟩
      have hb57 : Below w5.heap.size w5 w7 := hY ▸ hb5
      by_cases hj : j < e
      · obtain ⟨m, hm⟩ : ∃ m, m = e - j := ⟨_, rfl⟩
        have hj1 : (j : Int) ≤ (f : Int) := by have := hf.out; omega
        have hmi : (e : Int) - (j : Int) = (m : Int) := by omega
        have hm64 : m ≤ 64 := by have := he.out; omega
        have hjx : j ≤ x := by have := he.out; omega
        obtain ⟨r, hr⟩ : ∃ r, r = j % 2 := ⟨_, rfl⟩
        have hr2 : r < 2 := by omega
        have hr2i : (r : Int) < 2 := by omega
        have hr0i : (0 : Int) ≤ (r : Int) := by omega
        have hri : (j : Int) % 2 = (r : Int) := by omega
        have hrt : (j : Int).tmod 2 = (r : Int) := by rw [Int.tmod_eq_emod_of_nonneg (by omega)]; omega
        have hP := nPow_any q m hq2 hq256 (by omega) Aq cq w7 ((hrq.below hb57).more hb57.size) hcq
        have hm1 : 1 ≤ q ^ m := Nat.pow_pos (by omega)
        have hqm : q ^ m < nB ^ 65 := Nat.lt_of_le_of_lt (pow_lt64 (by omega) hq256 (by omega)) (Nat.pow_lt_pow_right nB_gt (by decide))
        have hchx : ch x j < nB ^ 9 := Nat.lt_of_le_of_lt (Nat.le_trans (ch_le2 x j) (two_lt8 (by omega))) (Nat.pow_lt_pow_right nB_gt (by decide))
        have hpar : parJ q x e r j < nB ^ 73 := parJ_lt (by omega) hq256 (by omega) (by have := he.out; omega) (by have := he.out; omega)
        have hO1 := fun W => Lib.hid (nOf_any 1 W (by decide))
        have hBi := fun W => Lib.hid (nBin_any x j hjx (by omega) W)
        have hYw : Y < w7.heap.size := huj.lt
        have hn1 : ∀ t, (if t = r then nL (parJ q x e r j + ch x j * (q ^ m - 1)) else nL (parJ q x e t j)) = nL (parJ q x e t (j + 1)) := fun t => by
          by_cases et : t = r
          · rw [if_pos et, et, parJ_hit hr.symm, hm]
          · rw [if_neg et, parJ_miss (by rw [← hr]; exact fun h => et h.symm)]
        replace hP := Lib.hid hP
        replace hr := Lib.hid hr
        replace hm := Lib.hid hm
        replace hY := Lib.hid hY
        go_wp2_with (fail)
        refine hP.out.mono ?_
        rintro e8 w8 ⟨v8, rfl, ho8, hb8⟩
        obtain ⟨A8, c8, rfl, hc8, hr8⟩ := ho8.num
        have hO8 := hO1 w8
        clear hP ho8
        go_wp2_with (fail)
        refine hO8.out.mono ?_
        rintro e9 w9 ⟨v9, rfl, ho9, hb9⟩
        obtain ⟨A9, c9, rfl, hc9, hr9⟩ := ho9.num
        have hS9 := Lib.hid (nSubN (q ^ m) 1 A8 A9 c8 c9 w9 ((hr8.below hb9).more hb9.size) hr9 (lt_pow_up hqm (by decide)) hc8 hc9 hm1)
        have hb79 := hb8.trans (hb9.mono hb8.size)
        clear hO8 ho9 hr9 hr8 hb8 hb9
        go_wp2_with (fail)
        refine hS9.out.mono ?_
        rintro e10 w10 ⟨A10, rfl, hr10, hb10⟩
        have hb710 := hb79.trans (hb10.mono hb79.size)
        have hB10 := hBi w10
        clear hS9 hb79 hb10
        go_wp2_with (fail)
        refine hB10.out.mono ?_
        rintro e11 w11 ⟨v11, rfl, ho11, hb11⟩
        obtain ⟨A11, c11, rfl, hc11, hr11⟩ := ho11.num
        have hr10' : U.Rd w11.drew w11.drew.heap.size A10 (nL (q ^ m - 1)) := ((hr10.below hb11).more hb11.size).drew
        have hb711 := (hb710.trans (hb11.mono hb710.size)).drew
        have huq := huj.below hb711
        have hr11' : U.Rd w11.drew w11.drew.heap.size A11 (nL (ch x j)) := hr11.drew
        clear hB10 hr10 hb710 hb11 ho11 hr11
        go_wp2_with (fail)
        clear hBi hO1 hj1 hmi hri hb57
        replace hn1 := Lib.hid hn1
        have hqm1 : q ^ m - 1 < nB ^ 65 := Nat.lt_of_le_of_lt (Nat.sub_le _ _) hqm
        refine wp_region_held_drew (S := fun w' => 0 ≤ w'.heap.size) (by kernel_rfl) (by (try dsimp only); exact Nat.zero_le _) (fun hHeld => ?_)
        revert hHeld
        generalize w11.drew = wq at *
        intro hHeld
        have hcq0 := huq.cell hr2
        have hfq0 := huq.frozen r
        have hrj := huq.rd r hr2
        rw [nL_length] at hcq0
        have hcj := huq.cap r hr2
        rw [nL_length] at hcj
        have hMu := Lib.hid (nMul2 (ch x j) (q ^ m - 1) A11 A10 c11 (nlen (q ^ m - 1)) wq hr11' hr10' (lt_pow_up hchx (by decide)) (lt_pow_up hqm1 (by decide)) hc11 (Nat.le_refl _))
        obtain ⟨wA, hwA⟩ : ∃ wA, wA = wq.alloc (.cells #[.slice A11 (nlen (ch x j)) c11, .slice A10 (nlen (q ^ m - 1)) (nlen (q ^ m - 1))] 38) := ⟨_, rfl⟩
        have hcA0 : (wq.alloc (.cells #[.slice A11 (nlen (ch x j)) c11, .slice A10 (nlen (q ^ m - 1)) (nlen (q ^ m - 1))] 38)).cell? ⟨Y, r, none⟩ = some (.slice (Aj r) (nlen (parJ q x e r j)) (cj r)) := (((Below.refl wq.heap.size wq).alloc (Nat.le_refl _) _).cell (p := ⟨Y, r, none⟩) huq.lt).trans hcq0
        refine wpAnyH_take (i := 0) (oi := ⟨_, _, _, _, _, _⟩) (v := ?_) rfl (by kernel_rfl) (by kernel_rfl) (by kernel_rfl) (fun _ _ _ h => h) (Or.inl ⟨by rfl, ?_⟩) (by assumption) ?_
        rotate_left
        · intro w hSw; (try dsimp only at hSw); go_simp; try with_reducible rfl
        try simp only [Act.put, List.setIfInBounds_toArray, List.set_cons_zero, List.set_cons_succ]
        refine wpAnyH_take (i := 1) (oi := ⟨_, _, _, _, _, _⟩) (v := ?_) rfl (by kernel_rfl) (by kernel_rfl) (by kernel_rfl) (fun _ _ _ h => h) (Or.inl ⟨by rfl, ?_⟩) (by assumption) ?_
        rotate_left
        · intro w hSw; (try dsimp only at hSw); go_simp; try with_reducible rfl
        try simp only [Act.put, List.setIfInBounds_toArray, List.set_cons_zero, List.set_cons_succ]
        refine wpAnyH_take (i := 2) (oi := ⟨_, _, _, _, _, _⟩) (v := ?_) rfl (by kernel_rfl) (by kernel_rfl) (by kernel_rfl) (fun _ _ _ h => h) (Or.inl ⟨by rfl, ?_⟩) (by assumption) ?_
        rotate_left
        · intro w hSw; (try dsimp only at hSw); go_simp; try with_reducible rfl
        try simp only [Act.put, List.setIfInBounds_toArray, List.set_cons_zero, List.set_cons_succ]
        refine wpAnyH_take (i := 3) (oi := ⟨_, _, _, _, _, _⟩) (v := ?_) rfl (by kernel_rfl) (by kernel_rfl) (by kernel_rfl) (fun _ _ _ h => h) (Or.inl ⟨by rfl, ?_⟩) (by assumption) ?_
        rotate_left
        · intro w hSw; (try dsimp only at hSw); go_simp; try with_reducible rfl
        try simp only [Act.put, List.setIfInBounds_toArray, List.set_cons_zero, List.set_cons_succ]
        refine wpAnyH_take (i := 4) (oi := ⟨_, _, _, _, _, _⟩) (v := ?_) rfl (by kernel_rfl) (by kernel_rfl) (by kernel_rfl) (fun _ _ _ h => h) (Or.inl ⟨by rfl, ?_⟩) (by assumption) ?_
        rotate_left
        · intro w hSw; (try dsimp only at hSw); go_simp; try with_reducible rfl
        try simp only [Act.put, List.setIfInBounds_toArray, List.set_cons_zero, List.set_cons_succ]
        refine wpAnyH_take (i := 6) (oi := ⟨_, _, _, _, _, _⟩) (v := ?_) rfl (by kernel_rfl) (by kernel_rfl) (by kernel_rfl) (fun _ _ _ h => h) (Or.inl ⟨by rfl, ?_⟩) (by assumption) ?_
        rotate_left
        · intro w hSw; (try dsimp only at hSw); go_simp; try with_reducible rfl
        try simp only [Act.put, List.setIfInBounds_toArray, List.set_cons_zero, List.set_cons_succ]
        refine wpAnyH_take (i := 7) (oi := ⟨_, _, _, _, _, _⟩) (v := ?_) rfl (by kernel_rfl) (by kernel_rfl) (by kernel_rfl) (fun _ _ _ h => h) (Or.inl ⟨by rfl, ?_⟩) (by assumption) ?_
        rotate_left
        · intro w hSw; (try dsimp only at hSw); go_simp; try with_reducible rfl
        try simp only [Act.put, List.setIfInBounds_toArray, List.set_cons_zero, List.set_cons_succ]
        refine wpAnyH_ready (rs := [5, 8]) (by kernel_rfl) (by simp) ?_
        refine AllReadyH.cons (o := ⟨_, _, _, _, _, _⟩) rfl (fun K hK => ?_) ?_
        · go_simp
          refine hK.out _ _ (by (try dsimp only); exact Nat.zero_le _) (fun hHeld => ?_)
          clear hK K
          try simp only [Act.put, List.setIfInBounds_toArray, List.set_cons_zero, List.set_cons_succ]
          refine wpAnyH_ready (rs := [8]) (by kernel_rfl) (by simp) ?_
          refine AllReadyH.cons (o := ⟨_, _, _, _, _, _⟩) rfl (fun K hK => ?_) AllReadyH.nil
          go_simp
          refine hK.out _ _ (by (try dsimp only); exact Nat.zero_le _) (fun hHeld => ?_)
          clear hK K
          try simp only [Act.put, List.setIfInBounds_toArray, List.set_cons_zero, List.set_cons_succ]
          refine wpAnyH_ready (rs := [9]) (by kernel_rfl) (by simp) ?_
          refine AllReadyH.cons (o := ⟨_, _, _, _, _, _⟩) rfl (fun K hK => ?_) AllReadyH.nil
          go_simp
          go_at_call 27
          (with_reducible refine (hMu).out.mono ?_)
          rintro e12 w12 ⟨v12, rfl, ho12, hb12⟩
          obtain ⟨A12, c12, rfl, hc12, hr12⟩ := ho12.num
          have hu12 := huq.below hb12
          have hcq12 := hu12.cell hr2
          rw [nL_length] at hcq12
          have hAd := Lib.hid (nAdd2 (parJ q x e r j) (ch x j * (q ^ m - 1)) (Aj r) A12 (cj r) c12 w12 (hu12.rd r hr2) hr12 (lt_pow_up hpar (by decide)) (mul_lt_pow hchx hqm1 (by decide)) hcj hc12)
          go_wp2_with (fail)
          refine hK.out _ _ (by (try dsimp only); exact Nat.zero_le _) (fun hHeld => ?_)
          clear hK K
          try simp only [Act.put, List.setIfInBounds_toArray, List.set_cons_zero, List.set_cons_succ]
          refine wpAnyH_ready (rs := [10]) (by kernel_rfl) (by simp) ?_
          refine AllReadyH.cons (o := ⟨_, _, _, _, _, _⟩) rfl (fun K hK => ?_) AllReadyH.nil
          go_simp
          refine hK.out _ _ (by (try dsimp only); exact Nat.zero_le _) (fun hHeld => ?_)
          clear hK K
          try simp only [Act.put, List.setIfInBounds_toArray, List.set_cons_zero, List.set_cons_succ]
          refine wpAnyH_ready (rs := [11]) (by kernel_rfl) (by simp) ?_
          refine AllReadyH.cons (o := ⟨_, _, _, _, _, _⟩) rfl (fun K hK => ?_) AllReadyH.nil
          go_simp
          go_at_call 26
          (with_reducible refine (hAd).out.mono ?_)
          rintro e13 w13 ⟨v13, rfl, ho13, hb13⟩
          obtain ⟨A13, c13, rfl, hc13, hr13⟩ := ho13.num
          have hb713 := hb711.trans ((hb12.trans (hb13.mono hb12.size)).mono hb711.size)
          have hu13 := hu12.below hb13
          have hc130 := hu13.cell hr2
          have hf130 := hu13.frozen r
          go_wp2_with (fail)
          refine hK.out _ _ (by (try dsimp only); exact Nat.zero_le _) (fun hHeld => ?_)
          clear hK K
          try simp only [Act.put, List.setIfInBounds_toArray, List.set_cons_zero, List.set_cons_succ]
          refine wpAnyH_take (i := 12) (oi := ⟨_, _, _, _, _, _⟩) (v := ?_) rfl (by kernel_rfl) (by kernel_rfl) (by kernel_rfl) (fun _ _ _ h => h) (Or.inl ⟨by rfl, ?_⟩) (by assumption) ?_
          rotate_left
          · intro w hSw; (try dsimp only at hSw); go_simp; try with_reducible rfl
          try simp only [Act.put, List.setIfInBounds_toArray, List.set_cons_zero, List.set_cons_succ]
          refine wpAnyH_ready (rs := [13]) (by kernel_rfl) (by simp) ?_
          refine AllReadyH.cons (o := ⟨_, _, _, _, _, _⟩) rfl (fun K hK => ?_) AllReadyH.nil
          go_simp
          refine hK.out _ _ (by (try dsimp only); exact Nat.zero_le _) (fun hHeld => ?_)
          clear hK K
          try simp only [Act.put, List.setIfInBounds_toArray, List.set_cons_zero, List.set_cons_succ]
          refine wpAnyH_done (by kernel_rfl) ?_ _
          have hs13 := hu13.set_ (i := r) hr13 (nL_lm _) (by rw [nL_length]; exact Nat.le_trans (nlen_le (add_lt_pow (i := 200) (lt_pow_up hpar (by decide)) (mul_lt_pow hchx hqm1 (by decide)) (k := 201) (by decide))) (by decide)) (by rw [nL_length]; exact hc13)
          rw [nL_length] at hs13
          replace hs13 := Lib.hid (hs13.congr fun t _ => hn1 t)
          have hbs13 := Lib.hid ((hb5.trans (hb713.mono (Nat.le_of_lt hYw))).setCell (p := ⟨Y, r, none⟩) (Nat.le_refl Y) (.slice A13 (nlen (parJ q x e r j + ch x j * (q ^ m - 1))) c13))
          generalize w13.setCell ⟨Y, r, none⟩ (.slice A13 (nlen (parJ q x e r j + ch x j * (q ^ m - 1))) c13) = w14 at hs13 hbs13 ⊢
          clear hcq12 hc130 hf130 hcA0 hcq0 hfq0
          go_wp2_with (fail)
          exact ⟨⟨j + 1, _, _, hj, by go_num, hs13.out, hbs13.out⟩, by simp only [intOf]; omega⟩
        refine AllReadyH.cons (o := ⟨_, _, _, _, _, _⟩) rfl (fun K hK => ?_) AllReadyH.nil
        go_simp
        refine hK.out _ _ (by (try dsimp only); exact Nat.zero_le _) (fun hHeld => ?_)
        clear hK K
        try simp only [Act.put, List.setIfInBounds_toArray, List.set_cons_zero, List.set_cons_succ]
        refine wpAnyH_ready (rs := [5, 9]) (by kernel_rfl) (by simp) ?_
        refine AllReadyH.cons (o := ⟨_, _, _, _, _, _⟩) rfl (fun K hK => ?_) ?_
        · go_simp
          refine hK.out _ _ (by (try dsimp only); exact Nat.zero_le _) (fun hHeld => ?_)
          clear hK K
          try simp only [Act.put, List.setIfInBounds_toArray, List.set_cons_zero, List.set_cons_succ]
          refine wpAnyH_ready (rs := [9]) (by kernel_rfl) (by simp) ?_
          refine AllReadyH.cons (o := ⟨_, _, _, _, _, _⟩) rfl (fun K hK => ?_) AllReadyH.nil
          go_simp
          go_at_call 27
          (with_reducible refine (hMu).out.mono ?_)
          rintro e12 w12 ⟨v12, rfl, ho12, hb12⟩
          obtain ⟨A12, c12, rfl, hc12, hr12⟩ := ho12.num
          have hu12 := huq.below hb12
          have hcq12 := hu12.cell hr2
          rw [nL_length] at hcq12
          have hAd := Lib.hid (nAdd2 (parJ q x e r j) (ch x j * (q ^ m - 1)) (Aj r) A12 (cj r) c12 w12 (hu12.rd r hr2) hr12 (lt_pow_up hpar (by decide)) (mul_lt_pow hchx hqm1 (by decide)) hcj hc12)
          go_wp2_with (fail)
          refine hK.out _ _ (by (try dsimp only); exact Nat.zero_le _) (fun hHeld => ?_)
          clear hK K
          try simp only [Act.put, List.setIfInBounds_toArray, List.set_cons_zero, List.set_cons_succ]
          refine wpAnyH_ready (rs := [10]) (by kernel_rfl) (by simp) ?_
          refine AllReadyH.cons (o := ⟨_, _, _, _, _, _⟩) rfl (fun K hK => ?_) AllReadyH.nil
          go_simp
          refine hK.out _ _ (by (try dsimp only); exact Nat.zero_le _) (fun hHeld => ?_)
          clear hK K
          try simp only [Act.put, List.setIfInBounds_toArray, List.set_cons_zero, List.set_cons_succ]
          refine wpAnyH_ready (rs := [11]) (by kernel_rfl) (by simp) ?_
          refine AllReadyH.cons (o := ⟨_, _, _, _, _, _⟩) rfl (fun K hK => ?_) AllReadyH.nil
          go_simp
          go_at_call 26
          (with_reducible refine (hAd).out.mono ?_)
          rintro e13 w13 ⟨v13, rfl, ho13, hb13⟩
          obtain ⟨A13, c13, rfl, hc13, hr13⟩ := ho13.num
          have hb713 := hb711.trans ((hb12.trans (hb13.mono hb12.size)).mono hb711.size)
          have hu13 := hu12.below hb13
          have hc130 := hu13.cell hr2
          have hf130 := hu13.frozen r
          go_wp2_with (fail)
          refine hK.out _ _ (by (try dsimp only); exact Nat.zero_le _) (fun hHeld => ?_)
          clear hK K
          try simp only [Act.put, List.setIfInBounds_toArray, List.set_cons_zero, List.set_cons_succ]
          refine wpAnyH_take (i := 12) (oi := ⟨_, _, _, _, _, _⟩) (v := ?_) rfl (by kernel_rfl) (by kernel_rfl) (by kernel_rfl) (fun _ _ _ h => h) (Or.inl ⟨by rfl, ?_⟩) (by assumption) ?_
          rotate_left
          · intro w hSw; (try dsimp only at hSw); go_simp; try with_reducible rfl
          try simp only [Act.put, List.setIfInBounds_toArray, List.set_cons_zero, List.set_cons_succ]
          refine wpAnyH_ready (rs := [13]) (by kernel_rfl) (by simp) ?_
          refine AllReadyH.cons (o := ⟨_, _, _, _, _, _⟩) rfl (fun K hK => ?_) AllReadyH.nil
          go_simp
          refine hK.out _ _ (by (try dsimp only); exact Nat.zero_le _) (fun hHeld => ?_)
          clear hK K
          try simp only [Act.put, List.setIfInBounds_toArray, List.set_cons_zero, List.set_cons_succ]
          refine wpAnyH_done (by kernel_rfl) ?_ _
          have hs13 := hu13.set_ (i := r) hr13 (nL_lm _) (by rw [nL_length]; exact Nat.le_trans (nlen_le (add_lt_pow (i := 200) (lt_pow_up hpar (by decide)) (mul_lt_pow hchx hqm1 (by decide)) (k := 201) (by decide))) (by decide)) (by rw [nL_length]; exact hc13)
          rw [nL_length] at hs13
          replace hs13 := Lib.hid (hs13.congr fun t _ => hn1 t)
          have hbs13 := Lib.hid ((hb5.trans (hb713.mono (Nat.le_of_lt hYw))).setCell (p := ⟨Y, r, none⟩) (Nat.le_refl Y) (.slice A13 (nlen (parJ q x e r j + ch x j * (q ^ m - 1))) c13))
          generalize w13.setCell ⟨Y, r, none⟩ (.slice A13 (nlen (parJ q x e r j + ch x j * (q ^ m - 1))) c13) = w14 at hs13 hbs13 ⊢
          clear hcq12 hc130 hf130 hcA0 hcq0 hfq0
          go_wp2_with (fail)
          exact ⟨⟨j + 1, _, _, hj, by go_num, hs13.out, hbs13.out⟩, by simp only [intOf]; omega⟩
        refine AllReadyH.cons (o := ⟨_, _, _, _, _, _⟩) rfl (fun K hK => ?_) AllReadyH.nil
        go_simp
        go_at_call 27
        (with_reducible refine (hMu).out.mono ?_)
        rintro e12 w12 ⟨v12, rfl, ho12, hb12⟩
        obtain ⟨A12, c12, rfl, hc12, hr12⟩ := ho12.num
        have hu12 := huq.below hb12
        have hcq12 := hu12.cell hr2
        rw [nL_length] at hcq12
        have hAd := Lib.hid (nAdd2 (parJ q x e r j) (ch x j * (q ^ m - 1)) (Aj r) A12 (cj r) c12 w12 (hu12.rd r hr2) hr12 (lt_pow_up hpar (by decide)) (mul_lt_pow hchx hqm1 (by decide)) hcj hc12)
        go_wp2_with (fail)
        refine hK.out _ _ (by (try dsimp only); exact Nat.zero_le _) (fun hHeld => ?_)
        clear hK K
        try simp only [Act.put, List.setIfInBounds_toArray, List.set_cons_zero, List.set_cons_succ]
        refine wpAnyH_ready (rs := [5]) (by kernel_rfl) (by simp) ?_
        refine AllReadyH.cons (o := ⟨_, _, _, _, _, _⟩) rfl (fun K hK => ?_) AllReadyH.nil
        go_simp
        refine hK.out _ _ (by (try dsimp only); exact Nat.zero_le _) (fun hHeld => ?_)
        clear hK K
        try simp only [Act.put, List.setIfInBounds_toArray, List.set_cons_zero, List.set_cons_succ]
        refine wpAnyH_ready (rs := [10]) (by kernel_rfl) (by simp) ?_
        refine AllReadyH.cons (o := ⟨_, _, _, _, _, _⟩) rfl (fun K hK => ?_) AllReadyH.nil
        go_simp
        refine hK.out _ _ (by (try dsimp only); exact Nat.zero_le _) (fun hHeld => ?_)
        clear hK K
        try simp only [Act.put, List.setIfInBounds_toArray, List.set_cons_zero, List.set_cons_succ]
        refine wpAnyH_ready (rs := [11]) (by kernel_rfl) (by simp) ?_
        refine AllReadyH.cons (o := ⟨_, _, _, _, _, _⟩) rfl (fun K hK => ?_) AllReadyH.nil
        go_simp
        go_at_call 26
        (with_reducible refine (hAd).out.mono ?_)
        rintro e13 w13 ⟨v13, rfl, ho13, hb13⟩
        obtain ⟨A13, c13, rfl, hc13, hr13⟩ := ho13.num
        have hb713 := hb711.trans ((hb12.trans (hb13.mono hb12.size)).mono hb711.size)
        have hu13 := hu12.below hb13
        have hc130 := hu13.cell hr2
        have hf130 := hu13.frozen r
        go_wp2_with (fail)
        refine hK.out _ _ (by (try dsimp only); exact Nat.zero_le _) (fun hHeld => ?_)
        clear hK K
        try simp only [Act.put, List.setIfInBounds_toArray, List.set_cons_zero, List.set_cons_succ]
        refine wpAnyH_take (i := 12) (oi := ⟨_, _, _, _, _, _⟩) (v := ?_) rfl (by kernel_rfl) (by kernel_rfl) (by kernel_rfl) (fun _ _ _ h => h) (Or.inl ⟨by rfl, ?_⟩) (by assumption) ?_
        rotate_left
        · intro w hSw; (try dsimp only at hSw); go_simp; try with_reducible rfl
        try simp only [Act.put, List.setIfInBounds_toArray, List.set_cons_zero, List.set_cons_succ]
        refine wpAnyH_ready (rs := [13]) (by kernel_rfl) (by simp) ?_
        refine AllReadyH.cons (o := ⟨_, _, _, _, _, _⟩) rfl (fun K hK => ?_) AllReadyH.nil
        go_simp
        refine hK.out _ _ (by (try dsimp only); exact Nat.zero_le _) (fun hHeld => ?_)
        clear hK K
        try simp only [Act.put, List.setIfInBounds_toArray, List.set_cons_zero, List.set_cons_succ]
        refine wpAnyH_done (by kernel_rfl) ?_ _
        have hs13 := hu13.set_ (i := r) hr13 (nL_lm _) (by rw [nL_length]; exact Nat.le_trans (nlen_le (add_lt_pow (i := 200) (lt_pow_up hpar (by decide)) (mul_lt_pow hchx hqm1 (by decide)) (k := 201) (by decide))) (by decide)) (by rw [nL_length]; exact hc13)
        rw [nL_length] at hs13
        replace hs13 := Lib.hid (hs13.congr fun t _ => hn1 t)
        have hbs13 := Lib.hid ((hb5.trans (hb713.mono (Nat.le_of_lt hYw))).setCell (p := ⟨Y, r, none⟩) (Nat.le_refl Y) (.slice A13 (nlen (parJ q x e r j + ch x j * (q ^ m - 1))) c13))
        generalize w13.setCell ⟨Y, r, none⟩ (.slice A13 (nlen (parJ q x e r j + ch x j * (q ^ m - 1))) c13) = w14 at hs13 hbs13 ⊢
        clear hcq12 hc130 hf130 hcA0 hcq0 hfq0
        go_wp2_with (fail)
        exact ⟨⟨j + 1, _, _, hj, by go_num, hs13.out, hbs13.out⟩, by simp only [intOf]; omega⟩
      · obtain rfl : e = j := by omega
        have hj1 : ¬ (e : Int) ≤ (f : Int) := by have := hf.out; omega
        have ep : ∀ r, parJ q x e r e < nB ^ 73 := fun r => parJ_lt (by omega) hq256 (by omega) (by have := he.out; omega) (by have := he.out; omega)
        have hax : aW q n k x = ch n x * (parJ q x e 0 e - parJ q x e 1 e) := by
          rw [aW_high (by have := hd.out; omega) (by have := hd.out; omega), show x + k - n = e by have := hd.out; have := he.out; omega]; rfl
        have hle : parJ q x e 1 e ≤ parJ q x e 0 e := by
          have := hpp x (by have := hd.out; omega) (by omega) (by have := hd.out; omega)
          rw [show x + k - n = e by have := hd.out; have := he.out; omega] at this; exact this
        have c0 := huj.cell (i := 0) (by omega)
        have c1 := huj.cell (i := 1) (by omega)
        have l0 := huj.cap 0 (by omega)
        have l1 := huj.cap 1 (by omega)
        rw [nL_length] at c0 c1 l0 l1
        have hS7 := Lib.hid (nSubN _ _ (Aj 0) (Aj 1) (cj 0) (cj 1) w7 (huj.rd 0 (by omega)) (huj.rd 1 (by omega)) (lt_pow_up (ep 0) (by decide)) l0 l1 hle)
        have hBi := fun W => Lib.hid (nBin_any n x (by omega) (by omega) W)
        have hchx : ch n x < nB ^ 9 := Nat.lt_of_le_of_lt (Nat.le_trans (ch_le2 n x) (two_lt8 (by omega))) (Nat.pow_lt_pow_right nB_gt (by decide))
        have hux7 := hux.below hb57
        have hrq7 := (hrq.below hb57).more hb57.size
        have hXw5 := hux.lt
        have hwX : w.heap.size ≤ w5.heap.size := hbw.size
        have hdl : parJ q x e 0 e - parJ q x e 1 e < nB ^ 73 := Nat.lt_of_le_of_lt (Nat.sub_le _ _) (ep 0)
        generalize parJ q x e 0 e - parJ q x e 1 e = dl at hax hS7 hdl
        have hax2 := aW_lt (q := q) (n := n) (k := k) (w := x) (by omega) hq256 (by omega) (by omega) hkn
        replace hax := Lib.hid hax
        have hbw7 : Below w.heap.size w w7 := hbw.trans (hb57.mono hwX)
        replace hY := Lib.hid hY
        clear hpp hle ep l0 l1 huj
        go_wp2_with (fail)
        refine hS7.out.mono ?_
        rintro e8 w8 ⟨A8, rfl, hr8, hb8⟩
        have hB8 := hBi w8
        clear hS7 c0 c1 hBi
        go_wp2_with (fail)
        refine hB8.out.mono ?_
        rintro e9 w9 ⟨v9, rfl, ho9, hb9⟩
        obtain ⟨A9, c9, rfl, hc9, hr9⟩ := ho9.num
        have hb79 := hb8.trans (hb9.mono hb8.size)
        have hM9 := Lib.hid (nMul2 (ch n x) dl A9 A8 c9 (nlen dl) w9 hr9 ((hr8.below hb9).more hb9.size) (lt_pow_up hchx (by decide)) (lt_pow_up hdl (by decide)) hc9 (Nat.le_refl _))
        clear hB8 ho9 hr9 hr8 hb8 hb9
        go_wp2_with (fail)
        refine hM9.out.mono ?_
        rintro e10 w10 ⟨v10, rfl, ho10, hb10⟩
        obtain ⟨A10, c10, rfl, hc10, hr10⟩ := ho10.num
        rw [← hax.out] at hr10 hc10 ⊢
        have hb710 := hb79.trans (hb10.mono hb79.size)
        have hu10 := hux7.below hb710
        have hxl : x < N := by have := hNe.out; omega
        have hcX := hu10.cell hxl
        have hfX := hu10.frozen x
        have hux' := hu10.set_ (i := x) hr10 (nL_lm _) (by rw [nL_length]; exact Nat.le_trans (nlen_le hax2) (by decide)) (by rw [nL_length]; exact hc10)
        have hrq' := hu10.apart ((hrq7.below hb710).more hb710.size) x (.slice A10 (nlen (aW q n k x)) c10)
        have hbX' := (hbw7.trans (hb710.mono hbw7.size)).setCell (p := ⟨X, x, none⟩) hlx (.slice A10 (nlen (aW q n k x)) c10)
        rw [nL_length] at hux'
        have hsz : (w10.setCell ⟨X, x, none⟩ (.slice A10 (nlen (aW q n k x)) c10)).heap.size = w10.heap.size := by simp [World.setCell]
        rw [← hsz] at hrq'
        replace hux' := Lib.hid (hux'.congr (l2 := fun t => nL (if t < x + 1 then aW q n k t else 0)) fun t _ => by
          by_cases et : t = x
          · rw [if_pos et, if_pos (by omega), et]
          · rw [if_neg et]
            by_cases hlt : t < x
            · rw [if_pos hlt, if_pos (by omega)]
            · rw [if_neg hlt, if_neg (by omega)])
        replace hrq' := Lib.hid hrq'
        replace hbX' := Lib.hid hbX'
        have hx0 : (0 : Int) ≤ (x : Int) := by omega
        have hx1 : (x : Int) < (N : Int) := by omega
        clear hM9 hux7 hrq7 hb710 hb79 hb10 ho10 hr10 hu10 hsz hux hrq hbw hb5 hb57 hbw7
        go_wp2_with (fail)
        exact ⟨⟨x + 1, _, _, by omega, by omega, by go_num, hux'.out, hrq'.out, hbX'.out⟩, by simp only [intOf]; omega⟩
end Go.Proofs.Ytemanlkgfhmclaa

/- Layer 18 of the program: Message. -/
import Derived.Test.YtnbkmkeiophjoaaGpoD
import Derived.Test.YtnbkmkeiophjoaaGL
namespace Go.Proofs.Ytnbkmkeiophjoaa
open Go.RowKit Cw
open Cw.CField (inv)
attribute [local go_sem] Oper.semAt_some

theorem Rd.takeL {w : World} {B : Nat} {A : Option Addr} {l : List Int} (h : Rd w B A l) (k : Nat) : Rd w B A (l.take k) := fun hp => by
  have hl : 0 < l.length := by rw [List.length_take] at hp; omega
  obtain ⟨b, off, e, hb, hc⟩ := h hl
  refine ⟨b, off, e, hb, fun j hj => ?_⟩
  rw [List.length_take] at hj
  rw [List.getElem?_take, if_pos (by omega)]
  exact hc j (by omega)
theorem cfR_snoc0 (D : Desc) (l : List Int) : cfR D (l ++ [0]) = cfR D l := funext fun i => by
  rcases Nat.lt_trichotomy i l.length with h | h | h
  · unfold cfR; rw [List.getElem?_append_left h]
  · rw [cfR_out D (p := l) (by omega)]
    unfold cfR
    rw [h, List.getElem?_append_right (Nat.le_refl _), Nat.sub_self]
    exact eli_zero
  · rw [cfR_out D (p := l ++ [0]) (by rw [List.length_append, List.length_singleton]; omega), cfR_out D (p := l) (by omega)]
theorem elB_snoc0 {D : Desc} {l : List Int} (h : elB D l = true) : elB D (l ++ [0]) = true := elB_iff.2 fun j hj => by
  rw [List.length_append, List.length_singleton] at hj
  by_cases e : j < l.length
  · rw [List.getElem?_append_left e]; exact elB_iff.1 h j e
  · rw [List.getElem?_append_right (by omega), show j - l.length = 0 by omega]
    have := D.q2
    exact ⟨Int.le_refl _, by show (0 : Int) < _; omega⟩
/-- The message polynomial of K coefficients whose codeword has the entries of word at the first K places. -/
def MsgOf (D : Desc) (kn : Nat) (pts mul word msg : List Int) : Prop := msg.length = kn ∧ elB D msg = true ∧ ∀ i, i < kn → eli D (mul[i]?.getD 0) * pevI D msg (eli D (pts[i]?.getD 0)) = eli D (word[i]?.getD 0)
def mErr0 (D : Desc) (K : Int) (pts mul word : List Int) : Int := if gchkD D K pts mul ≠ 0 then gchkD D K pts mul else elErr D word pts.length 4
/-- What Message hands back over a field. -/
def MsgPost (D : Desc) (K : Int) (pts mul word : List Int) (w : World) (e : Ending) (w' : World) : Prop :=
  Below w.heap.size w w' ∧ ((mErr0 D K pts mul word ≠ 0 ∧ e = .returned (.tuple #[.slice none 0 0, .int .i64 (mErr0 D K pts mul word)])) ∨
    (mErr0 D K pts mul word = 0 ∧ ∃ msg, MsgOf D K.toNat pts mul word msg ∧ ((wordL D pts mul msg ≠ word ∧ e = .returned (.tuple #[.slice none 0 0, .int .i64 11])) ∨
      (wordL D pts mul msg = word ∧ ∃ A c, e = .returned (.tuple #[.slice A msg.length c, .int .i64 0]) ∧ Rd w' w'.heap.size A msg))))

set_option maxHeartbeats 1000000 in
theorem gMsg_bad (P M K : Int) (ml pts mul : List Int) (A A1 A2 : Option Addr) (c c1 c2 : Nat) (word : List Int) (Aw : Option Addr) (cw : Nat) (w : World) (hP : I64 P) (hM : I64 M) (hl : ml.length ≤ maxLen) (hr : Rd w w.heap.size A ml) (hb : ¬ Good P M ml) :
    Calls Try.prog 35 #[.agg #[.int .i64 P, .int .i64 M, .slice A ml.length c, .int .i64 K, .slice A1 pts.length c1, .slice A2 mul.length c2], .slice Aw word.length cw] w fun e w' => e = .returned (.tuple #[.slice none 0 0, .int .i64 1]) ∧ Below w.heap.size w w' := by
  have hN := fun W h => Lib.hid (gOpen_bad P M K ml pts mul A A1 A2 c c1 c2 W hP hM hl h hb)
  have k0 := alloc6 w (.int .i64 P) (.int .i64 M) (.slice A ml.length c) (.int .i64 K) (.slice A1 pts.length c1) (.slice A2 mul.length c2) 27
  have hB : Below w.heap.size w (w.alloc (.cells #[.int .i64 P, .int .i64 M, .slice A ml.length c, .int .i64 K, .slice A1 pts.length c1, .slice A2 mul.length c2] 27)) := (Below.refl _ _).alloc (Nat.le_refl _) _
  have hN2 := hN _ ((hr.below hB).more hB.size)
  clear hP hM hl hb hN
  go_enter Try.func35, Try.ntmps35
  obtain ⟨q0, q1, q2, q3, q4, q5⟩ := k0
  go_wp2_with (fail)
  (with_reducible refine hN2.out.mono ?_)
  rintro e w1 ⟨rfl, hb1⟩
  go_wp2_with (fail)
  go_ret2
  exact ⟨rfl, hB.trans (hb1.mono hB.size)⟩

set_option maxRecDepth 100000 in
set_option maxHeartbeats 8000000 in
theorem gMsg_D (D : Desc) (K : Int) (pts mul : List Int) (A A1 A2 : Option Addr) (c c1 c2 : Nat) (word : List Int) (Aw : Option Addr) (cw : Nat) (w : World) (hr : Rd w w.heap.size A (modL D)) (hg : Good D.p D.m (modL D)) (hr1 : Rd w w.heap.size A1 pts) (hr2 : Rd w w.heap.size A2 mul) (h1 : pts.length ≤ c1) (h1' : c1 ≤ maxLen) (h2 : mul.length ≤ maxLen) (hrw : Rd w w.heap.size Aw word) (hw : word.length ≤ 1000000) :
    Calls Try.prog 35 #[.agg #[.int .i64 D.p, .int .i64 D.m, .slice A D.mod.length c, .int .i64 K, .slice A1 pts.length c1, .slice A2 mul.length c2], .slice Aw word.length cw] w (MsgPost D K pts mul word w) := by
  have hO := fun W a b c' => Lib.hid (gOpen_D D K pts mul A A1 A2 c c1 c2 W a hg b c' h1 h1' h2)
  have k0 := Lib.hid (alloc6 w (.int .i64 D.p) (.int .i64 D.m) (.slice A D.mod.length c) (.int .i64 K) (.slice A1 pts.length c1) (.slice A2 mul.length c2) 27)
  have hB : Below w.heap.size w (w.alloc (.cells #[.int .i64 D.p, .int .i64 D.m, .slice A D.mod.length c, .int .i64 K, .slice A1 pts.length c1, .slice A2 mul.length c2] 27)) := (Below.refl _ _).alloc (Nat.le_refl _) _
  have hO2 := hO _ ((hr.below hB).more hB.size) ((hr1.below hB).more hB.size) ((hr2.below hB).more hB.size)
  clear hO hg
  unfold MsgPost
  go_enter Try.func35, Try.ntmps35
  obtain ⟨q0, q1, q2, q3, q4, q5⟩ := k0.out
  go_wp2_with (fail)
  (with_reducible refine hO2.out.mono ?_)
  rintro e w1 ⟨hb1, g, F, rfl, hgf, hgl, ⟨hz, rfl⟩ | ⟨hz, rfl⟩⟩
  rotate_left
  · have hv : Hid (mErr0 F.toDesc K pts mul word = gchkD F.toDesc K pts mul) := if_pos hz
    have hzb : (gchkD F.toDesc K pts mul != 0) = true := by rw [bne_iff_ne]; exact hz
    have hz' := Lib.hid hz
    clear hz
    go_wp2_with (fail)
    go_ret2
    exact ⟨hB.trans (hb1.mono hB.size), .inl ⟨by rw [hv.out]; exact hz'.out, by rw [hv.out]; rfl⟩⟩
  have hv0 : Hid (mErr0 F.toDesc K pts mul word = elErr F.toDesc word pts.length 4) := if_neg (fun h => h hz)
  have hzH := Lib.hid hz
  obtain ⟨hp1, hp64, hlen, hpe, hme, htw, hm0, hK0, hKn⟩ := gchkD_zero hz
  obtain ⟨kn, rfl⟩ : ∃ kn : Nat, K = kn := ⟨K.toNat, by omega⟩
  have hB1 := hB.trans (hb1.mono hB.size)
  have kk1 := Lib.hid (keep6 hb1 (by simp) k0.out)
  have hlt1 : w.heap.size < w1.heap.size := by have := hb1.size; simp only [World.size_alloc] at this; omega
  have hr1' := (hr1.below hB1).more hB1.size
  have hr2' := (hr2.below hB1).more hB1.size
  have hrw' := (hrw.below hB1).more hB1.size
  have hE := gElems_any F word Aw cw g w1 hgf hrw' (by unfold maxLen; omega)
  clear q0 q1 q2 q3 q4 q5
  obtain ⟨q0, q1, q2, q3, q4, q5⟩ := kk1.out
  have hlenH := Lib.hid hlen
  have hmne : Hid (∀ i, i < pts.length → eli F.toDesc (mul[i]?.getD 0) ≠ 0) := fun i hi => eli_ne (elB_iff.1 hme i (by omega)) (fun e => hm0 (e ▸ mem_get (by omega)))
  have hpne : Hid (∀ i j, i < kn → j < i → eli F.toDesc ((pts.take kn)[i]?.getD 0) ≠ eli F.toDesc ((pts.take kn)[j]?.getD 0)) := fun i j hi hj e => by
    rw [List.getElem?_take, if_pos hi, List.getElem?_take, if_pos (by omega)] at e
    have := nodup_get htw (i := i) (j := j) (by omega) (by omega) (eli_inj (elB_iff.1 hpe i (by omega)) (elB_iff.1 hpe j (by omega)) e)
    omega
  clear hz hb1 hO2 k0 hlen hpe hme htw hm0
  by_cases hK : word.length = pts.length
  rotate_left
  · have hv : Hid (mErr0 F.toDesc kn pts mul word = 4) := hv0.out.trans (if_pos (by omega))
    have hKb : ((word.length : Int) != (pts.length : Int)) = true := by rw [bne_iff_ne]; omega
    clear hK
    go_wp2_with (fail)
    go_ret2
    exact ⟨hB1, .inl ⟨by rw [hv.out]; decide, by rw [hv.out]; rfl⟩⟩
  have hKb : ((word.length : Int) != (pts.length : Int)) = false := by rw [bne_eq_false_iff_eq]; omega
  replace hK := Lib.hid hK
  cases hel : elB F.toDesc word with
  | false =>
    rw [hel] at hE
    replace hE := Lib.hid hE
    have hv : Hid (mErr0 F.toDesc kn pts mul word = 2) := by unfold Hid; rw [hv0.out]; unfold elErr; rw [if_neg (by rw [hK.out]; simp), if_pos hel]
    clear hel
    go_wp2_with (fail)
    (with_reducible refine hE.out.mono ?_)
    rintro e w2 ⟨rfl, rfl⟩
    go_wp2_with (fail)
    go_ret2
    exact ⟨hB1, .inl ⟨by rw [hv.out]; decide, by rw [hv.out]; rfl⟩⟩
  | true =>
  rw [hel] at hE
  replace hE := Lib.hid hE
  have hv : Hid (mErr0 F.toDesc kn pts mul word = 0) := by unfold Hid; rw [hv0.out]; unfold elErr; rw [if_neg (by rw [hK.out]; simp), if_neg (by rw [hel]; simp)]
  replace hel := Lib.hid hel
  have hkn64 : kn ≤ 64 := by omega
  have hmk := mk_ints kn (by omega)
  obtain ⟨f, hf⟩ : ∃ f : Nat → Int, f = fun i => ci (eli F.toDesc (word[i]?.getD 0) * inv (eli F.toDesc (mul[i]?.getD 0))) := ⟨_, rfl⟩
  have hfk : Hid (∀ i, ci (eli F.toDesc (word[i]?.getD 0) * inv (eli F.toDesc (mul[i]?.getD 0))) = f i) := fun i => by rw [hf]
  replace hf := Lib.hid hf
  obtain ⟨Y, hY⟩ : ∃ Y, Y = w1.alloc (.cells (Array.replicate kn (Value.int .i64 0)) 3) := ⟨_, rfl⟩
  have hib : Hid (IB Y w1.heap.size (upd kn 0 f)) := by rw [upd_zero, hY]; exact IB.newz w1 kn
  have hbY : Below w1.heap.size w1 Y := by rw [hY]; exact (Below.refl _ _).alloc (Nat.le_refl _) _
  have hYs : w1.heap.size < Y.heap.size := by rw [hY]; simp
  replace hY := Lib.hid hY
  go_wp2_with (fail)
  (with_reducible refine hE.out.mono ?_)
  rintro e w2 ⟨rfl, rfl⟩
  go_wp2_with (fail)
  rw [← hY.out]
  clear q0 q1 q2 q3 q4 q5 hmk
  go_loopw [40] (fun i wr => ∃ k : Nat, k ≤ kn ∧ i = .int .i64 k ∧ Hid (IB wr w1.heap.size (upd kn k f)) ∧ Below w1.heap.size w1 wr ∧ w1.heap.size < wr.heap.size) (fun i _ => kn - (intOf i).toNat)
  case atStart => exact ⟨0, by omega, rfl, hib, hbY, hYs⟩
  case round =>
    obtain ⟨k, hk, rfl, hibk, hbw, hlw⟩ := hrel
    obtain ⟨w3, rfl⟩ : ∃ w3 : World, w3 = wr := ⟨_, rfl⟩
    clear hib hbY hYs
    have kk3 := Lib.hid (keep6 hbw hlt1 kk1.out)
    by_cases hlt : k < kn
    · have hk0 : (0 : Int) ≤ (k : Int) := by omega
      have hk1 : (k : Int) < (kn : Int) := by omega
      have hk2 : (k : Int) < (word.length : Int) := by have := hK.out; omega
      have hk3 : (k : Int) < (mul.length : Int) := by have := hlenH.out; omega
      obtain ⟨b2, o2, rfl, hb2, hc2⟩ := hr2'.at_ (by have := hlenH.out; omega : k < mul.length)
      obtain ⟨bw, ow, rfl, hbw', hcw⟩ := hrw'.at_ (by have := hK.out; omega : k < word.length)
      have hd2 := (hbw.cell (p := ⟨b2, o2 + k, none⟩) hb2).trans hc2
      have hdw := (hbw.cell (p := ⟨bw, ow + k, none⟩) hbw').trans hcw
      have hD := gDiv_ok F (word[k]?.getD 0) (mul[k]?.getD 0) g w3.drew ((hgf.below hbw).more hbw.size).drew (hmne.out k (by omega))
      rw [hfk.out k] at hD
      obtain ⟨x, hx⟩ : ∃ x, x = word[k]?.getD 0 := ⟨_, rfl⟩
      obtain ⟨y, hy⟩ : ∃ y, y = mul[k]?.getD 0 := ⟨_, rfl⟩
      obtain ⟨v, hv'⟩ : ∃ v, v = f k := ⟨_, rfl⟩
      rw [← hx] at hdw hD
      rw [← hy] at hd2 hD
      rw [← hv'] at hD
      replace hD := Lib.hid hD
      replace hx := Lib.hid hx
      replace hy := Lib.hid hy
      replace hv' := Lib.hid hv'
      have hcc := Lib.hid (show _ ∧ _ ∧ _ from ⟨kk3.out.2.2.2.2.2, hd2, hdw⟩)
      have hb23 : b2 < w3.heap.size := Nat.lt_of_lt_of_le hb2 hbw.size
      have hbw3 : bw < w3.heap.size := Nat.lt_of_lt_of_le hbw' hbw.size
      have hw3 : w.heap.size < w3.heap.size := Nat.lt_of_lt_of_le hlt1 hbw.size
      clear hc2 hcw hd2 hdw
      go_wp2_with (fail)
      refine wp_region_held_drew (S := fun w' => w'.cell? ⟨w.heap.size, 5, none⟩ = some (.slice (some ⟨b2, o2, none⟩) mul.length c2) ∧ w'.cell? ⟨b2, o2 + k, none⟩ = some (.int .i64 y) ∧ w'.cell? ⟨bw, ow + k, none⟩ = some (.int .i64 x)) (by kernel_rfl) (by (try dsimp only); exact hcc.out) (fun hHeld => ?_)
      refine wpAnyH_take (i := 0) (oi := ⟨_, _, _, _, _, _⟩) (v := ?_) rfl (by kernel_rfl) (by kernel_rfl) (by kernel_rfl) (fun _ _ _ h => h) (Or.inl ⟨by rfl, ?_⟩) (by assumption) ?_
      rotate_left
      · intro w hSw; (try dsimp only at hSw); go_simp; try with_reducible rfl
      try simp only [Act.put, List.setIfInBounds_toArray, List.set_cons_zero, List.set_cons_succ]
      refine wpAnyH_take (i := 1) (oi := ⟨_, _, _, _, _, _⟩) (v := ?_) rfl (by kernel_rfl) (by kernel_rfl) (by kernel_rfl) (fun _ _ _ h => h) (Or.inl ⟨by rfl, ?_⟩) (by assumption) ?_
      rotate_left
      · intro w hSw; (try dsimp only at hSw); go_simp; try with_reducible rfl
      try simp only [Act.put, List.setIfInBounds_toArray, List.set_cons_zero, List.set_cons_succ]
      refine wpAnyH_take (i := 2) (oi := ⟨_, _, _, _, _, _⟩) (v := ?_) rfl (by kernel_rfl) (by kernel_rfl) (by kernel_rfl) (fun _ _ _ h => h) (Or.inl ⟨by rfl, ?_⟩) (by assumption) ?_
      rotate_left
      · intro w hSw; (try dsimp only at hSw); go_simp; try with_reducible rfl
      try simp only [Act.put, List.setIfInBounds_toArray, List.set_cons_zero, List.set_cons_succ]
      refine wpAnyH_take (i := 3) (oi := ⟨_, _, _, _, _, _⟩) (v := ?_) rfl (by kernel_rfl) (by kernel_rfl) (by kernel_rfl) (fun _ _ _ h => h) (Or.inl ⟨by rfl, ?_⟩) (by assumption) ?_
      rotate_left
      · intro w hSw; (try dsimp only at hSw); go_simp; try with_reducible rfl
      try simp only [Act.put, List.setIfInBounds_toArray, List.set_cons_zero, List.set_cons_succ]
      refine wpAnyH_take (i := 4) (oi := ⟨_, _, _, _, _, _⟩) (v := ?_) rfl (by kernel_rfl) (by kernel_rfl) (by kernel_rfl) (fun _ _ _ h => h) (Or.inl ⟨by rfl, ?_⟩) (by assumption) ?_
      rotate_left
      · intro w hSw; (try dsimp only at hSw); go_simp; try with_reducible rfl
      try simp only [Act.put, List.setIfInBounds_toArray, List.set_cons_zero, List.set_cons_succ]
      refine wpAnyH_take (i := 5) (oi := ⟨_, _, _, _, _, _⟩) (v := ?_) rfl (by kernel_rfl) (by kernel_rfl) (by kernel_rfl) (fun _ _ _ h => h) (Or.inl ⟨by rfl, ?_⟩) (by assumption) ?_
      rotate_left
      · intro w hSw; (try dsimp only at hSw); go_simp; try with_reducible rfl
      try simp only [Act.put, List.setIfInBounds_toArray, List.set_cons_zero, List.set_cons_succ]
      refine wpAnyH_take (i := 6) (oi := ⟨_, _, _, _, _, _⟩) (v := ?_) rfl (by kernel_rfl) (by kernel_rfl) (by kernel_rfl) (fun _ _ _ h => h) (Or.inl ⟨by rfl, ?_⟩) (by assumption) ?_
      rotate_left
      · intro w hSw; (try dsimp only at hSw); go_simp; try with_reducible rfl
      try simp only [Act.put, List.setIfInBounds_toArray, List.set_cons_zero, List.set_cons_succ]
      refine wpAnyH_take (i := 7) (oi := ⟨_, _, _, _, _, _⟩) (v := ?_) rfl (by kernel_rfl) (by kernel_rfl) (by kernel_rfl) (fun _ _ _ h => h) (Or.inl ⟨by rfl, ?_⟩) (by assumption) ?_
      rotate_left
      · intro w hSw; (try dsimp only at hSw); go_simp; try with_reducible rfl
      try simp only [Act.put, List.setIfInBounds_toArray, List.set_cons_zero, List.set_cons_succ]
      refine wpAnyH_take (i := 8) (oi := ⟨_, _, _, _, _, _⟩) (v := ?_) rfl (by kernel_rfl) (by kernel_rfl) (by kernel_rfl) (fun _ _ _ h => h) (Or.inl ⟨by rfl, ?_⟩) (by assumption) ?_
      rotate_left
      · intro w hSw; (try dsimp only at hSw); go_simp; try with_reducible rfl
      try simp only [Act.put, List.setIfInBounds_toArray, List.set_cons_zero, List.set_cons_succ]
      refine wpAnyH_take (i := 9) (oi := ⟨_, _, _, _, _, _⟩) (v := ?_) rfl (by kernel_rfl) (by kernel_rfl) (by kernel_rfl) (fun _ _ _ h => h) (Or.inl ⟨by rfl, ?_⟩) (by assumption) ?_
      rotate_left
      · intro w hSw; (try dsimp only at hSw); go_simp; try with_reducible rfl
      try simp only [Act.put, List.setIfInBounds_toArray, List.set_cons_zero, List.set_cons_succ]
      refine wpAnyH_take (i := 10) (oi := ⟨_, _, _, _, _, _⟩) (v := ?_) rfl (by kernel_rfl) (by kernel_rfl) (by kernel_rfl) (fun _ _ _ h => h) (Or.inl ⟨by rfl, ?_⟩) (by assumption) ?_
      rotate_left
      · intro w hSw; (try dsimp only at hSw); go_simp; try with_reducible rfl
      try simp only [Act.put, List.setIfInBounds_toArray, List.set_cons_zero, List.set_cons_succ]
      refine wpAnyH_take (i := 11) (oi := ⟨_, _, _, _, _, _⟩) (v := ?_) rfl (by kernel_rfl) (by kernel_rfl) (by kernel_rfl) (fun _ _ _ h => h) (Or.inl ⟨by rfl, ?_⟩) (by assumption) ?_
      rotate_left
      · intro w hSw; (try dsimp only at hSw); go_simp; try with_reducible rfl
      try simp only [Act.put, List.setIfInBounds_toArray, List.set_cons_zero, List.set_cons_succ]
      refine wpAnyH_ready (rs := [12]) (by kernel_rfl) (by simp) ?_
      refine AllReadyH.cons (o := ⟨_, _, _, _, _, _⟩) rfl (fun K hK => ?_) AllReadyH.nil
      go_simp
      go_at_call 74
      (with_reducible refine (hD).out.mono ?_)
      rintro e w4 ⟨rfl, hb4⟩
      have hs4 : w3.heap.size ≤ w4.heap.size := hb4.size
      have hb34 : Below w3.heap.size w3 w4 := (Below.refl _ w3).drew.trans hb4
      have hib4 := hibk.out.below hb34 hlw
      have hcW := hib4.cell (i := k) (by rw [upd_length]; exact hlt)
      have hfW := hib4.frozen k
      go_wp2_with (fail)
      refine hK.out _ _ (by (try dsimp only); exact ⟨(hb4.cell (p := ⟨w.heap.size, 5, none⟩) hw3).trans hcc.out.1, (hb4.cell (p := ⟨b2, o2 + k, none⟩) hb23).trans hcc.out.2.1, (hb4.cell (p := ⟨bw, ow + k, none⟩) hbw3).trans hcc.out.2.2⟩) (fun hHeld => ?_)
      clear hK K
      try simp only [Act.put, List.setIfInBounds_toArray, List.set_cons_zero, List.set_cons_succ]
      refine wpAnyH_take (i := 13) (oi := ⟨_, _, _, _, _, _⟩) (v := ?_) rfl (by kernel_rfl) (by kernel_rfl) (by kernel_rfl) (fun _ _ _ h => h) (Or.inl ⟨by rfl, ?_⟩) (by assumption) ?_
      rotate_left
      · intro w hSw; (try dsimp only at hSw); go_simp; try with_reducible rfl
      try simp only [Act.put, List.setIfInBounds_toArray, List.set_cons_zero, List.set_cons_succ]
      refine wpAnyH_take (i := 14) (oi := ⟨_, _, _, _, _, _⟩) (v := ?_) rfl (by kernel_rfl) (by kernel_rfl) (by kernel_rfl) (fun _ _ _ h => h) (Or.inl ⟨by rfl, ?_⟩) (by assumption) ?_
      rotate_left
      · intro w hSw; (try dsimp only at hSw); go_simp; try with_reducible rfl
      try simp only [Act.put, List.setIfInBounds_toArray, List.set_cons_zero, List.set_cons_succ]
      refine wpAnyH_take (i := 15) (oi := ⟨_, _, _, _, _, _⟩) (v := ?_) rfl (by kernel_rfl) (by kernel_rfl) (by kernel_rfl) (fun _ _ _ h => h) (Or.inl ⟨by rfl, ?_⟩) (by assumption) ?_
      rotate_left
      · intro w hSw; (try dsimp only at hSw); go_simp; try with_reducible rfl
      try simp only [Act.put, List.setIfInBounds_toArray, List.set_cons_zero, List.set_cons_succ]
      refine wpAnyH_take (i := 16) (oi := ⟨_, _, _, _, _, _⟩) (v := ?_) rfl (by kernel_rfl) (by kernel_rfl) (by kernel_rfl) (fun _ _ _ h => h) (Or.inl ⟨by rfl, ?_⟩) (by assumption) ?_
      rotate_left
      · intro w hSw; (try dsimp only at hSw); go_simp; try with_reducible rfl
      try simp only [Act.put, List.setIfInBounds_toArray, List.set_cons_zero, List.set_cons_succ]
      refine wpAnyH_ready (rs := [17]) (by kernel_rfl) (by simp) ?_
      refine AllReadyH.cons (o := ⟨_, _, _, _, _, _⟩) rfl (fun K hK => ?_) AllReadyH.nil
      go_simp
      refine hK.out _ _ (by (try dsimp only); exact ⟨(World.cell?_setCell_far _ _ _ _ (by show w1.heap.size ≠ w.heap.size; omega)).trans ((hb4.cell (p := ⟨w.heap.size, 5, none⟩) hw3).trans hcc.out.1), (World.cell?_setCell_far _ _ _ _ (by show w1.heap.size ≠ b2; omega)).trans ((hb4.cell (p := ⟨b2, o2 + k, none⟩) hb23).trans hcc.out.2.1), (World.cell?_setCell_far _ _ _ _ (by show w1.heap.size ≠ bw; omega)).trans ((hb4.cell (p := ⟨bw, ow + k, none⟩) hbw3).trans hcc.out.2.2)⟩) (fun hHeld => ?_)
      clear hK K
      try simp only [Act.put, List.setIfInBounds_toArray, List.set_cons_zero, List.set_cons_succ]
      refine wpAnyH_done (by kernel_rfl) ?_ _
      have hset := hib4.set_ k v
      rw [hv'.out, upd_set, ← hv'.out] at hset
      replace hset := Lib.hid hset
      have hbs : Below w1.heap.size w1 (w4.setCell ⟨w1.heap.size, k, none⟩ (.int .i64 v)) := (hbw.trans (hb34.mono hbw.size)).setCell (p := ⟨w1.heap.size, k, none⟩) (Nat.le_refl _) _
      have hls : w1.heap.size < (w4.setCell ⟨w1.heap.size, k, none⟩ (.int .i64 v)).heap.size := Nat.lt_of_lt_of_le (Nat.lt_of_lt_of_le hlw hs4) (grown_set _ _ _).size
      clear hcW hfW
      go_wp2_with (fail)
      go_roundw
      case rel => exact ⟨k + 1, by omega, by go_num, hset, hbs, hls⟩
      case measure => simp [intOf]; omega
    · obtain rfl : kn = k := by omega
      rw [upd_full] at hibk
      have hrys := hibk.out.rd
      have hB3 := hB1.trans (hbw.mono hB1.size)
      have hr13 := (hr1'.below hbw).more hbw.size
      obtain ⟨b1, o1, rfl, -, -⟩ := hr1.at_ (by omega : 0 < pts.length)
      have hI := gIntp_any F (pts.take kn) (lst kn f) kn (some ⟨b1, o1, none⟩) (some ⟨w1.heap.size, 0, none⟩) c1 kn g w3 ((hgf.below hbw).more hbw.size) (hr13.takeL kn) hrys (by rw [List.length_take]; omega) (lst_length _ _) hkn64 hpne.out
      replace hI := Lib.hid hI
      obtain ⟨q0, q1, q2, q3, q4, q5⟩ := kk3.out
      have hi1 : (0 : Int) ≤ (kn : Int) := by omega
      have hi2 : (kn : Int) ≤ (c1 : Int) := by omega
      go_wp2_with (fail)
      (with_reducible refine hI.out.mono ?_)
      rintro e w5 ⟨l, Al, cl, rfl, hrl, hLI, hown, hb5⟩
      have hmsg0 : Hid (∀ m : List Int, m.length = kn → elB F.toDesc m = true → cfR F.toDesc m = cfR F.toDesc l → MsgOf F.toDesc kn pts mul word m) := fun m h1 h2 h3 => ⟨h1, h2, fun i hi => by
        have h4 := hLI.2.2 i hi
        dsimp only at h4
        rw [List.getElem?_take, if_pos hi, lst_get _ hi, ← hfk.out i, eli_ci] at h4
        rw [pevI_cf F.toDesc m _ (N := kn) (by omega), h3, ← pevI_cf F.toDesc l _ hLI.1, h4, mul_lc, CField.mul_inv' _ (hmne.out i (by omega)), mul_one]⟩
      have hw3s : w.heap.size < w3.heap.size := Nat.lt_of_lt_of_le hlt1 hbw.size
      have kk5 := Lib.hid (keep6 hb5 hw3s kk3.out)
      have hl0 : Hid (l.length ≤ kn ∧ elB F.toDesc l = true ∧ cfR F.toDesc l = cfR F.toDesc l) := ⟨hLI.1, hLI.2.1, rfl⟩
      clear q0 q1 q2 q3 q4 q5 hLI hrl
      go_wp2_with (fail)
      go_loopw [10] (fun v wr => ∃ (l' : List Int) (A' : Option Addr) (c' : Nat), v = .slice A' l'.length c' ∧ Own wr w3.heap.size v l' ∧ Hid (l'.length ≤ kn ∧ elB F.toDesc l' = true ∧ cfR F.toDesc l' = cfR F.toDesc l) ∧ Below w3.heap.size w3 wr) (fun v _ => kn - lenV v)
      case atStart => exact ⟨l, Al, cl, rfl, hown, ⟨hl0.out.1, hl0.out.2.1, rfl⟩, hb5⟩
      case round =>
        obtain ⟨l', A', c', rfl, ho, hl', hbx⟩ := hrel
        obtain ⟨w6, rfl⟩ : ∃ w6 : World, w6 = wr := ⟨_, rfl⟩
        clear hl0 hown hb5 kk5
        have kk6 := Lib.hid (keep6 hbx hw3s kk3.out)
        obtain ⟨q0, q1, q2, q3, q4, q5⟩ := kk6.out
        by_cases hlt : l'.length < kn
        · have hlti : (l'.length : Int) < (kn : Int) := by omega
          have hle : l'.length ≤ 1000000 := by omega
          have hsz := hbx.size
          replace hlt := Lib.hid hlt
          go_wp2_with (at_builtin; refine wpList_app1 rfl (.tmp 77) (.tmp 78) rfl w3.heap.size _ _ _ ho rfl rfl rfl hle hsz ?_; intro v' w' ho' hb' hg' hv')
          obtain ⟨A'', c'', e'', -, -, -⟩ := ho'.form
          have hl2 : Hid ((l' ++ [0]).length ≤ kn ∧ elB F.toDesc (l' ++ [0]) = true ∧ cfR F.toDesc (l' ++ [0]) = cfR F.toDesc l) := ⟨by rw [List.length_append, List.length_singleton]; exact hlt.out, elB_snoc0 hl'.out.2.1, (cfR_snoc0 _ _).trans hl'.out.2.2⟩
          go_roundw
          case rel => exact ⟨l' ++ [0], A'', c'', e'', ho', hl2, hbx.trans hb'⟩
          case measure => rw [e'']; simp only [lenV, List.length_append, List.length_singleton]; have := hlt.out; omega
        · have hlk : l'.length = kn := by have := hl'.out.1; omega
          have hnl : ¬ (l'.length : Int) < (kn : Int) := by omega
          have hmsg := Lib.hid (hmsg0.out l' hlk hl'.out.2.1 hl'.out.2.2)
          obtain ⟨A'', c'', e'', -, hrl, -⟩ := ho.form
          cases e''
          have hB6 := hB3.trans (hbx.mono hB3.size)
          have hb16 := hbw.trans (hbx.mono hbw.size)
          have hEn := gEncode_any F kn pts mul l' A (some ⟨b1, o1, none⟩) A2 A' c c1 c2 c' g w6 ((hgf.below hb16).more hb16.size) ((hr1.below hB6).more hB6.size) ((hr2.below hB6).more hB6.size) hrl hlenH.out hp64 (by rw [hlk]; unfold maxLen; omega)
          unfold Gives at hEn
          rw [wordL_length] at hEn
          replace hEn := Lib.hid hEn
          obtain ⟨wl, hwl⟩ : ∃ wl, wl = wordL F.toDesc pts mul l' := ⟨_, rfl⟩
          have hwll : Hid (wl.length = pts.length) := by unfold Hid; rw [hwl, wordL_length]
          rw [← hwl] at hEn
          replace hwl := Lib.hid hwl
          replace hlk := Lib.hid hlk
          go_wp2_with (fail)
          (with_reducible refine hEn.out.mono ?_)
          rintro e w7 ⟨g7, rfl, hg7, hib7, hb7⟩
          have hB7 := hB6.trans (hb7.mono hB6.size)
          have hrl7 := (hrl.below hb7).more hb7.size
          clear q0 q1 q2 q3 q4 q5
          go_wp2_with (fail)
          go_loopw [85] (fun i wr => ∃ k : Nat, k ≤ pts.length ∧ i = .int .i64 k ∧ (∀ j, j < k → wl[j]?.getD 0 = word[j]?.getD 0) ∧ wr = w7) (fun i _ => pts.length - (intOf i).toNat)
          case atStart => exact ⟨0, by omega, rfl, fun j hj => absurd hj (Nat.not_lt_zero _), rfl⟩
          case round =>
            obtain ⟨k, hk, rfl, hall, rfl⟩ := hrel
            by_cases hkn : k < pts.length
            · have hk0 : (0 : Int) ≤ (k : Int) := by omega
              have hk1 : (k : Int) < (pts.length : Int) := by omega
              have hk2 : (k : Int) < (word.length : Int) := by have := hK.out; omega
              obtain ⟨bw, ow, rfl, hbw', hcw⟩ := hrw.at_ (by have := hK.out; omega : k < word.length)
              have hdw := (hB7.cell (p := ⟨bw, ow + k, none⟩) hbw').trans hcw
              have hdl := hib7.cell (i := k) (by rw [hwll.out]; exact hkn)
              obtain ⟨x, hx⟩ : ∃ x, x = wl[k]?.getD 0 := ⟨_, rfl⟩
              obtain ⟨y, hy⟩ : ∃ y, y = word[k]?.getD 0 := ⟨_, rfl⟩
              rw [← hx] at hdl
              rw [← hy] at hdw
              by_cases hxy : x = y
              · have hxb : (x != y) = false := by rw [bne_eq_false_iff_eq]; exact hxy
                have hall2 : Hid (∀ j, j < k + 1 → wl[j]?.getD 0 = word[j]?.getD 0) := fun j hj => by
                  by_cases e : j = k
                  · rw [e, ← hx, ← hy]; exact hxy
                  · exact hall j (by omega)
                clear hall hx hy hcw hxy
                go_wp2_with (fail)
                go_roundw
                case rel => exact ⟨k + 1, by omega, by go_num, hall2.out, by first | rfl | trivial⟩
                case measure => simp [intOf]; omega
              · have hxb : (x != y) = true := by rw [bne_iff_ne]; exact hxy
                have hne : Hid (wordL F.toDesc pts mul l' ≠ word) := fun e => hxy (by rw [hx, hy, hwl.out, e])
                clear hall hx hy hcw hxy
                go_wp2_with (fail)
                go_ret2
                exact ⟨hB7, .inr ⟨hv.out, l', by rw [Int.toNat_natCast]; exact hmsg.out, .inl ⟨hne.out, rfl⟩⟩⟩
            · obtain rfl : pts.length = k := by omega
              have heq : Hid (wordL F.toDesc pts mul l' = word) := by
                unfold Hid
                rw [← hwl.out]
                apply List.ext_getElem
                · rw [hwll.out, hK.out]
                · intro j h1 h2
                  have h3 := hall j (by rw [← hwll.out]; exact h1)
                  rw [List.getElem?_eq_getElem h1, List.getElem?_eq_getElem h2, Option.getD_some, Option.getD_some] at h3
                  exact h3
              clear hall
              go_wp2_with (fail)
              go_ret2
              exact ⟨hB7, .inr ⟨hv.out, l', by rw [Int.toNat_natCast]; exact hmsg.out, .inr ⟨heq.out, A', c', rfl, hrl7⟩⟩⟩
end Go.Proofs.Ytnbkmkeiophjoaa

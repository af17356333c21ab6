/- Plain: the formula for the number of words of each weight. No Go here. -/
import Derived.Test.YtemanlkgfhmclaaMds
namespace Cw
instance intRing : CRing Int where
  add_assoc' := Int.add_assoc
  add_comm' := Int.add_comm
  zero_add' := Int.zero_add
  neg_add' := Int.add_left_neg
  mul_assoc' := Int.mul_assoc
  mul_comm' := Int.mul_comm
  one_mul' := Int.one_mul
  mul_add' := Int.mul_add
def alt (j : Nat) : Int := if j % 2 = 0 then 1 else -1
theorem alt_succ (j : Nat) : alt (j + 1) = - alt j := by
  unfold alt
  by_cases h : j % 2 = 0
  · rw [if_pos h, if_neg (by omega)]
  · rw [if_neg h, if_pos (by omega)]; rfl
def eI (g : Nat → Int) (t w : Nat) : Int := rsum (w + 1) fun j => alt j * ((ch w j : Int) * g (t + j))
theorem eI_succ (g : Nat → Int) (t w : Nat) : eI g t (w + 1) = eI g t w - eI g (t + 1) w := by
  have e1 : rsum (w + 1) (fun j => alt (j + 1) * ((ch (w + 1) (j + 1) : Int) * g (t + (j + 1)))) = rsum (w + 1) (fun j => alt (j + 1) * ((ch w (j + 1) : Int) * g (t + (j + 1)))) - eI g (t + 1) w := by
    unfold eI
    rw [← rsum_sub]
    refine rsum_congr fun j _ => ?_
    rw [ch_succ, alt_succ, show t + 1 + j = t + (j + 1) by omega, Int.natCast_add, Int.add_mul, Int.mul_add, Int.neg_mul, Int.neg_mul]
    show _ = _ + -_
    omega
  have e2 : eI g t w = alt 0 * ((ch w 0 : Int) * g (t + 0)) + rsum (w + 1) fun j => alt (j + 1) * ((ch w (j + 1) : Int) * g (t + (j + 1))) := by
    rw [← rsum_succ_left (w + 1) fun j => alt j * ((ch w j : Int) * g (t + j)), rsum_succ (w + 1), ch_gt w (w + 1) (by omega)]
    show _ = _ + _ * (((0 : Nat) : Int) * _)
    unfold eI
    rw [show ((0 : Nat) : Int) = 0 from rfl, Int.zero_mul, Int.mul_zero, Int.add_zero]
  show rsum (w + 1 + 1) (fun j => alt j * ((ch (w + 1) j : Int) * g (t + j))) = _
  rw [rsum_succ_left, e1, e2, ch_zero, ch_zero]
  show _ + (_ + -_) = (_ + _) + -_
  omega
theorem eI_const (c : Int) (t w : Nat) (hw : 1 ≤ w) : eI (fun _ => c) t w = 0 := by
  obtain ⟨v, rfl⟩ : ∃ v, w = v + 1 := ⟨w - 1, by omega⟩
  rw [eI_succ]
  show eI (fun _ => c) t v + -(eI (fun _ => c) (t + 1) v) = 0
  have : eI (fun _ => c) (t + 1) v = eI (fun _ => c) t v := rfl
  rw [this]; omega
theorem eI_sub (g h : Nat → Int) (t w : Nat) : eI (fun s => g s - h s) t w = eI g t w - eI h t w := by
  unfold eI
  rw [← rsum_sub]
  refine rsum_congr fun j _ => ?_
  show alt j * ((ch w j : Int) * (g (t + j) + -(h (t + j)))) = alt j * _ + -(alt j * _)
  rw [Int.mul_add, Int.mul_add, Int.mul_neg, Int.mul_neg]
section
variable {F : Type} [FF F]
open FF (q)
/-- Where there are points enough, nothing is lost by the subtraction of numbers. -/
theorem en_add (K : Nat) (L : List F) (hL : L.Nodup) {t w : Nat} (h : t + w + 1 ≤ L.length) : eN (q F) K t w = eN (q F) K (t + 1) w + eN (q F) K t (w + 1) := by
  obtain ⟨x, L1, rfl⟩ : ∃ x L1, L = x :: L1 := by
    cases L with
    | nil => simp at h
    | cons x L => exact ⟨x, L, rfl⟩
  obtain ⟨hx, hn1⟩ := List.nodup_cons.1 hL
  have hl : w + t ≤ L1.length := by simp at h; omega
  obtain ⟨W, T, hWT, hW, hT⟩ : ∃ W T, (W ++ T).Sublist L1 ∧ W.length = w ∧ T.length = t :=
    ⟨L1.take w, (L1.drop w).take t, by
      have h1 : (L1.take w ++ (L1.drop w).take t).Sublist (L1.take w ++ L1.drop w) := List.Sublist.append (List.Sublist.refl _) (List.take_sublist _ _)
      rwa [List.take_append_drop] at h1, by rw [List.length_take]; omega, by rw [List.length_take, List.length_drop]; omega⟩
  have hnd : (W ++ T).Nodup := List.Pairwise.sublist hWT hn1
  have hxn : x ∉ W ++ T := fun h => hx (hWT.subset h)
  have h2 : (W ++ (x :: T)).Nodup := (List.perm_middle.nodup_iff).2 (List.nodup_cons.2 ⟨hxn, hnd⟩)
  have h3 : ((x :: W) ++ T).Nodup := by rw [List.cons_append]; exact List.nodup_cons.2 ⟨hxn, hnd⟩
  have e1 := en_count K W T hnd
  have e2 := en_count K W (x :: T) h2
  have e3 := en_count K (x :: W) T h3
  have e4 : cnt (q F ^ K) (fun c => (VanN K T c ∧ NonN K W c) ∧ evN K c x = 0) = cnt (q F ^ K) fun c => VanN K (x :: T) c ∧ NonN K W c :=
    cnt_congr fun c _ => ⟨fun h => ⟨fun t ht => by
      rcases List.mem_cons.1 ht with rfl | ht
      · exact h.2
      · exact h.1.1 t ht, h.1.2⟩, fun h => ⟨⟨fun t ht => h.1 t (List.mem_cons_of_mem _ ht), h.2⟩, h.1 x (List.mem_cons_self ..)⟩⟩
  have e5 : cnt (q F ^ K) (fun c => (VanN K T c ∧ NonN K W c) ∧ ¬ evN K c x = 0) = cnt (q F ^ K) fun c => VanN K T c ∧ NonN K (x :: W) c :=
    cnt_congr fun c _ => ⟨fun h => ⟨h.1.1, fun t ht => by
      rcases List.mem_cons.1 ht with rfl | ht
      · exact h.2
      · exact h.1.2 t ht⟩, fun h => ⟨⟨h.1, fun t ht => h.2 t (List.mem_cons_of_mem _ ht)⟩, h.2 x (List.mem_cons_self ..)⟩⟩
  have e6 := cnt_split (q F ^ K) (fun c => VanN K T c ∧ NonN K W c) fun c => evN K c x = 0
  rw [e4, e5, e1, e2, e3, hW, hT] at e6
  rw [show (x :: T).length = T.length + 1 from rfl, show (x :: W).length = W.length + 1 from rfl, hW, hT] at e6
  exact e6
theorem en_int (K : Nat) (L : List F) (hL : L.Nodup) : ∀ w t, t + w ≤ L.length → (eN (q F) K t w : Int) = eI (fun s => ((q F ^ (K - s) : Nat) : Int)) t w
  | 0, t, _ => by
    show ((q F ^ (K - t) : Nat) : Int) = rsum 1 _
    rw [rsum_succ, rsum_zero, ch_zero]
    show _ = 0 + (1 : Int) * (1 * _)
    rw [Int.zero_add, Int.one_mul, Int.one_mul, Nat.add_zero]
  | w + 1, t, h => by
    have e1 := en_int K L hL w t (by omega)
    have e2 := en_int K L hL w (t + 1) (by omega)
    have e3 := en_add (F := F) K L hL (t := t) (w := w) (by omega)
    rw [eI_succ, ← e1, ← e2, e3, Int.natCast_add]
    show _ = _ + -_
    omega
end
/-- The sums of the formula, over the even or the odd places. -/
def parS (q w e r : Nat) : Nat := nsum e fun j => if j % 2 = r then ch w j * (q ^ (e - j) - 1) else 0
theorem nsum_int (n : Nat) (f : Nat → Nat) : ((nsum n f : Nat) : Int) = rsum n fun j => (f j : Int) := by
  induction n with
  | zero => rfl
  | succ n ih => show ((nsum n f + f n : Nat) : Int) = _; rw [Int.natCast_add, ih]; rfl
theorem parS_diff (q w e : Nat) : ((parS q w e 0 : Nat) : Int) - (parS q w e 1 : Nat) = rsum e fun j => alt j * ((ch w j : Int) * ((q ^ (e - j) - 1 : Nat) : Int)) := by
  unfold parS
  rw [nsum_int, nsum_int]
  show rsum e _ - rsum e _ = _
  rw [← rsum_sub]
  refine rsum_congr fun j _ => ?_
  unfold alt
  by_cases h : j % 2 = 0
  · rw [if_pos h, if_neg (by omega), if_pos h, Int.one_mul, Int.natCast_mul]
    show _ + -(((0 : Nat)) : Int) = _
    rw [show ((0 : Nat) : Int) = 0 from rfl, Int.neg_zero, Int.add_zero]
  · rw [if_neg h, if_pos (by omega), if_neg h, Int.natCast_mul, Int.neg_mul, Int.one_mul]
    show (((0 : Nat)) : Int) + -_ = _
    rw [show ((0 : Nat) : Int) = 0 from rfl, Int.zero_add]
section
variable {F : Type} [FF F]
open FF (q)
/-- The formula: w values other than 0 at n points, K coefficients, e = w - d + 1 with d = n - K + 1. -/
theorem weight_form (K n w : Nat) (L : List F) (hL : L.Nodup) (hn : L.length = n) (hw1 : 1 ≤ w) (hw : w ≤ n) (hK : K ≤ n) (hd : n < w + K) : parS (q F) w (w + K - n) 0 = parS (q F) w (w + K - n) 1 + eN (q F) K (n - w) w := by
  have hq := q_pos (F := F)
  have h1 := en_int K L hL w (n - w) (by omega)
  have h2 := parS_diff (q F) w (w + K - n)
  have h3 : rsum (w + K - n) (fun j => alt j * ((ch w j : Int) * ((q F ^ (w + K - n - j) - 1 : Nat) : Int))) = eI (fun s => ((q F ^ (K - s) : Nat) : Int) - 1) (n - w) w := by
    unfold eI
    obtain ⟨r, hr⟩ : ∃ r, w + 1 = (w + K - n) + r := ⟨w + 1 - (w + K - n), by omega⟩
    rw [hr, rsum_split, rsum_eq_zero (n := r) fun j hj => by
      show alt (w + K - n + j) * ((ch w (w + K - n + j) : Int) * (((q F ^ (K - (n - w + (w + K - n + j))) : Nat) : Int) - 1)) = 0
      rw [show K - (n - w + (w + K - n + j)) = 0 by omega, Nat.pow_zero]
      show _ * (_ * ((1 : Int) + -1)) = 0
      rw [show (1 : Int) + -1 = 0 by decide, Int.mul_zero, Int.mul_zero]]
    show _ = _ + (0 : Int)
    rw [Int.add_zero]
    refine rsum_congr fun j hj => ?_
    have hp : 1 ≤ q F ^ (w + K - n - j) := Nat.pow_pos (by omega)
    show _ = alt j * ((ch w j : Int) * (((q F ^ (K - (n - w + j)) : Nat) : Int) - 1))
    rw [show K - (n - w + j) = w + K - n - j by omega, Int.natCast_sub hp]
    rfl
  rw [h3] at h2
  have h4 := eI_sub (fun s => ((q F ^ (K - s) : Nat) : Int)) (fun _ => 1) (n - w) w
  rw [eI_const 1 _ w hw1, ← h1] at h4
  have h5 : ((parS (q F) w (w + K - n) 0 : Nat) : Int) - (parS (q F) w (w + K - n) 1 : Nat) = (eN (q F) K (n - w) w : Int) + -0 := h2.trans h4
  omega
/-- Below the minimum distance there are none. -/
theorem weight_low (K n w : Nat) (L : List F) (hL : L.Nodup) (hn : L.length = n) (hw1 : 1 ≤ w) (hd : w + K ≤ n) : eN (q F) K (n - w) w = 0 := by
  have h1 := en_int K L hL w (n - w) (by omega)
  have h2 : eI (fun s => ((q F ^ (K - s) : Nat) : Int)) (n - w) w = eI (fun _ => 1) (n - w) w := by
    unfold eI
    refine rsum_congr fun j _ => ?_
    show alt j * ((ch w j : Int) * ((q F ^ (K - (n - w + j)) : Nat) : Int)) = _
    rw [show K - (n - w + j) = 0 by omega, Nat.pow_zero]; rfl
  rw [h2, eI_const 1 _ w hw1] at h1
  omega
theorem weight_zero (K n : Nat) (hK : K ≤ n) : eN (q F) K n 0 = 1 := by
  show q F ^ (K - n) = 1
  rw [show K - n = 0 by omega, Nat.pow_zero]
end
end Cw

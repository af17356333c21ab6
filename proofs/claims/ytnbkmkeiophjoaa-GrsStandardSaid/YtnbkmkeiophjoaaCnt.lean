/- Plain algebra: roots of polynomials, the number of elements of a subfield, Hilbert's theorem 90. No Go here. -/
import Derived.Test.YtnbkmkeiophjoaaGen
namespace Cw

/-! ### polynomials as lists of coefficients -/
section poly
variable {F : Type} [CField F]
open CField (inv)
/-- The value of the polynomial with the coefficients l, constant first. -/
def pev : List F → F → F
  | [], _ => 0
  | c :: l, x => c + x * pev l x
/-- The quotient by X - a. -/
def pqt (a : F) : List F → List F
  | [] => []
  | [_] => []
  | _ :: c :: l => pev (c :: l) a :: pqt a (c :: l)
theorem pqt_length (a : F) : ∀ l : List F, (pqt a l).length = l.length - 1
  | [] => rfl
  | [_] => rfl
  | _ :: c :: l => by
    show (pqt a (c :: l)).length + 1 = _
    rw [pqt_length a (c :: l)]; simp
theorem pev_qt (a x : F) : ∀ l : List F, pev l x = pev l a + (x - a) * pev (pqt a l) x
  | [] => by show (0 : F) = 0 + (x - a) * 0; rw [mul_zero, add_zero]
  | [c] => by
    show c + x * 0 = c + a * 0 + (x - a) * 0
    rw [mul_zero, mul_zero, mul_zero, add_zero, add_zero]
  | b :: c :: l => by
    have ih := pev_qt a x (c :: l)
    show b + x * pev (c :: l) x = b + a * pev (c :: l) a + (x - a) * (pev (c :: l) a + x * pev (pqt a (c :: l)) x)
    generalize pev (pqt a (c :: l)) x = s at *
    generalize pev (c :: l) a = t at *
    rw [ih, mul_add x, mul_add (x - a), sub_mul x a t, sub_d (x * t)]
    rw [show b + a * t + (x * t + -(a * t) + (x - a) * (x * s)) = b + (x * t + x * ((x - a) * s)) + (a * t + -(a * t)) by ac_rfl, add_neg, add_zero]
/-- A polynomial that is 0 at as many elements as it has coefficients is 0. -/
theorem pev_roots : ∀ (r : List F) (l : List F), l.length ≤ r.length → r.Nodup → (∀ x ∈ r, pev l x = 0) → ∀ c ∈ l, c = 0
  | [], l, hl, _, _, c, hc => by
    have : l = [] := List.eq_nil_of_length_eq_zero (by simpa using hl)
    rw [this] at hc; cases hc
  | a :: r, [], _, _, _, c, hc => by cases hc
  | a :: r, [b], _, _, h0, c, hc => by
    have h1 := h0 a (by simp)
    have h2 : b + a * 0 = 0 := h1
    rw [mul_zero, add_zero] at h2
    simp at hc; rw [hc, h2]
  | a :: r, b :: b' :: l, hl, hnd, h0, c, hc => by
    have hn := List.nodup_cons.1 hnd
    have ha := h0 a (by simp)
    have hq := pev_roots r (pqt a (b :: b' :: l)) (by rw [pqt_length]; simp at hl ⊢; omega) hn.2 fun x hx => by
      have h1 := h0 x (by simp [hx])
      rw [pev_qt a x, ha, zero_add] at h1
      rcases mul_eq_zero h1 with h2 | h2
      · exact absurd (sub_eq_zero h2) (fun e => hn.1 (e ▸ hx))
      · exact h2
    have key : ∀ l : List F, (∀ c ∈ pqt a l, c = 0) → pev l a = 0 → ∀ c ∈ l, c = 0 := fun l => by
      induction l with
      | nil => intro _ _ c hc; cases hc
      | cons b l ih =>
        intro h1 h2 c hc
        cases l with
        | nil =>
          have h3 : b + a * 0 = 0 := h2
          rw [mul_zero, add_zero] at h3
          simp at hc; rw [hc, h3]
        | cons b' l =>
          have h3 : pev (b' :: l) a = 0 := h1 _ (by simp [pqt])
          have h4 : b + a * pev (b' :: l) a = 0 := h2
          rw [h3, mul_zero, add_zero] at h4
          rcases List.mem_cons.1 hc with e | e
          · rw [e, h4]
          · exact ih (fun c hc => h1 c (by simp only [pqt, List.mem_cons]; exact .inr hc)) h3 c e
    exact key _ hq ha c hc
theorem pev_append (l l' : List F) (x : F) : pev (l ++ l') x = pev l x + pw x l.length * pev l' x := by
  induction l with
  | nil => show pev l' x = 0 + 1 * pev l' x; rw [zero_add, one_mul]
  | cons c l ih =>
    show c + x * pev (l ++ l') x = c + x * pev l x + pw x (l.length + 1) * pev l' x
    rw [ih, mul_add, pw_succ', add_a, mul_a]
theorem pev_map (f : Nat → F) (x : F) : ∀ n, pev ((List.range n).map f) x = rsum n (fun i => f i * pw x i)
  | 0 => rfl
  | n + 1 => by
    rw [List.range_succ, List.map_append, pev_append, pev_map f x n, rsum_succ]
    congr 1
    show pw x _ * (f n + x * 0) = _
    rw [mul_zero, add_zero, List.length_map, List.length_range, mul_c]
/-- Coefficients below n of a function that is 0 at n different elements. -/
theorem rsum_roots {n : Nat} {f : Nat → F} {a : Nat → F} (hinj : ∀ i j, i < n → j < n → a i = a j → i = j) (h : ∀ k, k < n → rsum n (fun i => f i * pw (a k) i) = 0) {i : Nat} (hi : i < n) : f i = 0 := by
  refine pev_roots ((List.range n).map a) ((List.range n).map f) (by simp) ?_ ?_ (f i) (List.mem_map.2 ⟨i, List.mem_range.2 hi, rfl⟩)
  · refine List.pairwise_map.2 (List.Pairwise.imp_of_mem ?_ (List.nodup_range (n := n)))
    intro x y hx hy hne e
    exact hne (hinj x y (List.mem_range.1 hx) (List.mem_range.1 hy) e)
  · intro x hx
    obtain ⟨k, hk, rfl⟩ := List.mem_map.1 hx
    rw [pev_map]
    exact h k (List.mem_range.1 hk)
end poly

/-! ### subfields -/
def geo (Q : Nat) : Nat → Nat
  | 0 => 0
  | n + 1 => geo Q n + Q ^ n
theorem geo_mul {Q : Nat} (hQ : 1 ≤ Q) : ∀ n, (Q - 1) * geo Q n + 1 = Q ^ n
  | 0 => by simp [geo]
  | n + 1 => by
    show (Q - 1) * (geo Q n + Q ^ n) + 1 = Q ^ (n + 1)
    have ih := geo_mul hQ n
    rw [Nat.mul_add, Nat.pow_succ]
    have h2 : (Q - 1) * Q ^ n + Q ^ n = Q ^ n * Q := by
      rw [← Nat.succ_mul, Nat.mul_comm]; congr 1; omega
    omega

section ff
variable {F : Type} [FF F]
open FF
open CField (inv)
theorem q_geo {d : Nat} (hd : d ∣ M F) : (p F ^ d - 1) * geo (p F ^ d) (M F / d) + 1 = q F := by
  rw [geo_mul (Nat.pow_pos (by have := p_two (F := F); omega)), ← Nat.pow_mul, Nat.mul_div_cancel' hd, q_eq]
theorem pd_two {d : Nat} (h1 : 1 ≤ d) : 2 ≤ p F ^ d := by
  have h := Nat.pow_le_pow_right (n := p F) (by have := p_two (F := F); omega) h1
  have := p_two (F := F); rw [Nat.pow_one] at h; omega
theorem geo_pos {d : Nat} (hd : d ∣ M F) : 1 ≤ geo (p F ^ d) (M F / d) := by
  have h := q_geo (F := F) hd
  have := q_two (F := F)
  rcases Nat.eq_zero_or_pos (geo (p F ^ d) (M F / d)) with h0 | h0
  · rw [h0, Nat.mul_zero] at h; omega
  · exact h0
/-- A power of the primitive element is in the subfield just if the exponent is a multiple of (q-1)/(p^d-1). -/
theorem gen_fix {d : Nat} (hd : d ∣ M F) (h1 : 1 ≤ d) (i : Nat) : frob d (pw (gen : F) i) = pw gen i ↔ geo (p F ^ d) (M F / d) ∣ i := by
  have hq := q_geo (F := F) hd
  have h2 := pd_two (F := F) h1
  obtain ⟨Q, hQ⟩ : ∃ Q, Q = p F ^ d := ⟨_, rfl⟩
  obtain ⟨e, he⟩ : ∃ e, e = geo (p F ^ d) (M F / d) := ⟨_, rfl⟩
  have he1 : 1 ≤ e := by rw [he]; exact geo_pos hd
  rw [← he] at hq ⊢
  unfold frob
  rw [← hQ] at hq h2 ⊢
  have hne : pw (gen : F) i ≠ 0 := pw_ne_zero gen_ne i
  have hsp : pw (pw (gen : F) i) Q = pw gen (i * (Q - 1)) * pw gen i := by
    rw [← pw_mul, ← pw_add]; congr 1
    rw [← Nat.mul_succ]; congr 1; omega
  have hq1 : q F - 1 = (Q - 1) * e := by omega
  rw [hsp]
  constructor
  · intro h
    have h3 : pw (gen : F) (i * (Q - 1)) = 1 := by
      rw [mul_c] at h
      exact mul_left_cancel hne (by rw [h, mul_one])
    rw [pw_gen_eq_one, hq1, Nat.mul_comm i] at h3
    exact Nat.dvd_of_mul_dvd_mul_left (by omega) h3
  · rintro ⟨k, rfl⟩
    have h3 : pw (gen : F) (e * k * (Q - 1)) = 1 := by
      rw [pw_gen_eq_one, hq1]
      exact ⟨k, by ac_rfl⟩
    rw [h3, one_mul]
theorem code_inj_iff {x y : F} : code x = code y ↔ x = y := ⟨code_inj, fun h => by rw [h]⟩
/-- The subfield of degree d has p^d elements. -/
theorem sub_count {d : Nat} (hd : d ∣ M F) (h1 : 1 ≤ d) : ((List.range (q F)).filter fun n => decide (frob d (el n : F) = el n)).length = p F ^ d := by
  have hq := q_geo (F := F) hd
  have h2 := pd_two (F := F) h1
  have he1 := geo_pos (F := F) hd
  have hfx := gen_fix (F := F) hd h1
  obtain ⟨e, he⟩ : ∃ e, e = geo (p F ^ d) (M F / d) := ⟨_, rfl⟩
  obtain ⟨Q, hQ⟩ : ∃ Q, Q = p F ^ d := ⟨_, rfl⟩
  rw [← he] at hfx he1
  rw [← he, ← hQ] at hq
  rw [← hQ] at h2 ⊢
  have hlt : ∀ t, t < Q - 1 → e * t < q F - 1 := fun t ht => by
    have : e * (t + 1) ≤ e * (Q - 1) := Nat.mul_le_mul_left e ht
    rw [Nat.mul_comm e (Q - 1), Nat.mul_succ] at this
    omega
  have hnd : (0 :: (List.range (Q - 1)).map fun t => code (pw (gen : F) (e * t))).Nodup := by
    refine List.nodup_cons.2 ⟨fun h => ?_, nodup_map fun i j hi hj h => ?_⟩
    · obtain ⟨t, -, h⟩ := List.mem_map.1 h
      exact pw_ne_zero (gen_ne (F := F)) _ (code_eq_zero.1 h)
    · have h3 := gen_inj (F := F) _ _ (hlt i hi) (hlt j hj) (code_inj h)
      exact Nat.eq_of_mul_eq_mul_left he1 h3
  have hlen : (0 :: (List.range (Q - 1)).map fun t => code (pw (gen : F) (e * t))).length = Q := by simp; omega
  rw [← hlen]
  apply Nat.le_antisymm
  · refine nodup_len_le _ _ (List.Nodup.sublist List.filter_sublist List.nodup_range) fun n hn => ?_
    obtain ⟨hn1, hn2⟩ := List.mem_filter.1 hn
    replace hn1 := List.mem_range.1 hn1
    replace hn2 := of_decide_eq_true hn2
    by_cases h0 : (el n : F) = 0
    · have : n = 0 := by rw [← code_el (F := F) n hn1, h0, code_zero]
      simp [this]
    · obtain ⟨i, hi, hx⟩ := gen_all (el n : F) h0
      rw [hx, hfx] at hn2
      obtain ⟨t, rfl⟩ := hn2
      refine List.mem_cons.2 (.inr (List.mem_map.2 ⟨t, List.mem_range.2 ?_, ?_⟩))
      · rw [show q F - 1 = e * (Q - 1) by rw [Nat.mul_comm]; omega] at hi
        exact Nat.lt_of_mul_lt_mul_left hi
      · rw [← hx, code_el _ hn1]
  · refine nodup_len_le _ _ hnd fun n hn => ?_
    rcases List.mem_cons.1 hn with rfl | hn
    · refine List.mem_filter.2 ⟨List.mem_range.2 (by have := q_two (F := F); omega), decide_eq_true ?_⟩
      rw [el_zero, frob_zero]
    · obtain ⟨t, ht, rfl⟩ := List.mem_map.1 hn
      refine List.mem_filter.2 ⟨List.mem_range.2 (code_lt _), decide_eq_true ?_⟩
      rw [el_code, hfx]
      exact ⟨t, rfl⟩

/-! ### Hilbert's theorem 90 -/
theorem nm_pw (d : Nat) (x : F) : nm d x = pw x (geo (p F ^ d) (M F / d)) := by
  unfold nm
  generalize M F / d = n
  induction n with
  | zero => rfl
  | succ n ih =>
    rw [rprod_succ, ih]
    show _ = pw x (geo (p F ^ d) n + (p F ^ d) ^ n)
    rw [pw_add, ← Nat.pow_mul]; rfl
theorem nm_ne_zero {d : Nat} {x : F} (h : x ≠ 0) : nm d x ≠ 0 := by rw [nm_pw]; exact pw_ne_zero h _
theorem nm_frob_in (d j : Nat) (x : F) : nm d (frob j x) = frob j (nm d x) := by
  unfold nm
  rw [frob_rprod]
  exact rprod_congr fun i _ => by rw [frob_frob, frob_frob, Nat.add_comm]
theorem tr_frob_in (d j : Nat) (x : F) : tr d (frob j x) = frob j (tr d x) := by
  unfold tr
  rw [frob_rsum]
  exact rsum_congr fun i _ => by rw [frob_frob, frob_frob, Nat.add_comm]
/-- The elements of norm 1 are the quotients. -/
theorem hilbert_nm {d : Nat} (hd : d ∣ M F) (h1 : 1 ≤ d) (x : F) : nm d x = 1 ↔ ∃ y : F, y ≠ 0 ∧ x * y = frob d y := by
  constructor
  · intro h
    have hx : x ≠ 0 := fun e => by
      rw [nm_pw, e, zero_pw (geo_pos hd)] at h
      exact one_ne h.symm
    obtain ⟨i, -, rfl⟩ := gen_all x hx
    have hq := q_geo (F := F) hd
    have h2 := pd_two (F := F) h1
    have he := geo_pos (F := F) hd
    rw [nm_pw, ← pw_mul, pw_gen_eq_one] at h
    rw [show q F - 1 = (p F ^ d - 1) * geo (p F ^ d) (M F / d) by omega] at h
    obtain ⟨k, rfl⟩ := Nat.dvd_of_mul_dvd_mul_right he h
    refine ⟨pw gen k, pw_ne_zero gen_ne _, ?_⟩
    unfold frob
    rw [← pw_add, ← pw_mul]
    congr 1
    rw [← Nat.succ_mul, Nat.mul_comm]; congr 1; omega
  · rintro ⟨y, hy, e⟩
    have h3 : nm d x * nm d y = nm d y := by
      rw [← nm_mul, e, nm_frob_in, nm_frob hd]
    rw [mul_c] at h3
    exact mul_left_cancel (nm_ne_zero (d := d) hy) (by rw [h3, mul_one])
theorem tr_neg (d : Nat) (x : F) : tr d (-x) = - tr d x := neg_unique (by
  rw [← tr_add, add_neg]
  unfold tr
  exact rsum_eq_zero fun i _ => frob_zero _)
theorem tr_sub (d : Nat) (x y : F) : tr d (x - y) = tr d x - tr d y := by rw [sub_d, tr_add, tr_neg]; rfl
/-- Some element has a trace other than 0. -/
theorem tr_onto {d : Nat} (hd : d ∣ M F) (h1 : 1 ≤ d) : ∃ x : F, tr d x ≠ 0 := by
  apply Classical.byContradiction
  intro hno
  have hz : ∀ x : F, tr d x = 0 := fun x => Classical.byContradiction fun h => hno ⟨x, h⟩
  have h2 := pd_two (F := F) h1
  have hn1 : 1 ≤ M F / d := Nat.div_pos (Nat.le_of_dvd (M_pos (F := F)) hd) h1
  have hpq : ∀ j, j < M F / d → p F ^ (d * j) < q F := fun j hj => by
    rw [q_eq]
    refine Nat.pow_lt_pow_right (by have := p_two (F := F); omega) ?_
    have : d * (j + 1) ≤ d * (M F / d) := Nat.mul_le_mul_left d hj
    rw [Nat.mul_div_cancel' hd, Nat.mul_succ] at this
    omega
  have key := rsum_roots (n := q F) (f := fun i => rsum (M F / d) fun j => if i = p F ^ (d * j) then (1 : F) else 0) (a := fun n => (el n : F))
    (fun i j hi hj h => by rw [← code_el (F := F) i hi, ← code_el (F := F) j hj]; exact congrArg code h)
    (fun k _ => by
      show rsum (q F) (fun i => rsum (M F / d) (fun j => if i = p F ^ (d * j) then (1 : F) else 0) * pw (el k) i) = 0
      refine Eq.trans ?_ (hz (el k))
      unfold tr
      rw [rsum_congr fun i _ => (rsum_mul_right (M F / d) (pw (el k : F) i) (fun j => if i = p F ^ (d * j) then (1 : F) else 0)).symm, rsum_swap]
      refine rsum_congr fun j hj => ?_
      rw [rsum_single (k := p F ^ (d * j)) (hpq j hj) fun i _ hne => by rw [if_neg hne, zero_mul], if_pos rfl, one_mul]
      rfl) (i := 1) (by have := q_two (F := F); omega)
  have k2 : rsum (M F / d) (fun j => if 1 = p F ^ (d * j) then (1 : F) else 0) = 1 := by
    rw [rsum_single (k := 0) hn1 fun j _ hne => if_neg ?_, Nat.mul_zero, Nat.pow_zero, if_pos rfl]
    intro e
    have hj : 1 ≤ d * j := Nat.mul_pos h1 (Nat.pos_of_ne_zero hne)
    have h3 := pd_two (F := F) hj
    omega
  exact one_ne (k2.symm.trans key)
/-- The elements of trace 0 are the differences. -/
theorem hilbert_tr {d : Nat} (hd : d ∣ M F) (h1 : 1 ≤ d) (x : F) : tr d x = 0 ↔ ∃ y : F, frob d y - y = x := by
  constructor
  · intro hx
    obtain ⟨t, ht⟩ := tr_onto (F := F) hd h1
    have hn1 : 1 ≤ M F / d := Nat.div_pos (Nat.le_of_dvd (M_pos (F := F)) hd) h1
    obtain ⟨S, hS⟩ : ∃ S : Nat → F, S = fun k => rsum k fun j => frob (d * j) x := ⟨_, rfl⟩
    have hSs : ∀ k, frob d (S k) = S (k + 1) - x := fun k => by
      rw [hS]
      show frob d (rsum k fun j => frob (d * j) x) = rsum (k + 1) (fun j => frob (d * j) x) - x
      rw [rsum_succ_left, Nat.mul_zero, frob_zero_k, add_c, add_sub_cancel, frob_rsum]
      exact rsum_congr fun j _ => by rw [frob_frob]; congr 1; rw [Nat.mul_succ]; omega
    have hSn : S (M F / d) = 0 := by rw [hS]; exact hx
    have hS0 : S 0 = 0 := by rw [hS]; rfl
    have hcyc : frob (d * (M F / d)) t = t := by rw [Nat.mul_div_cancel' hd]; exact frob_M t
    have hY : frob d (rsum (M F / d) fun k => S k * frob (d * k) t) = (rsum (M F / d) fun k => S k * frob (d * k) t) - x * tr d t := by
      rw [frob_rsum]
      rw [rsum_congr (g := fun k => S (k + 1) * frob (d * (k + 1)) t - x * frob (d * (k + 1)) t) fun k _ => by
        rw [frob_mul, hSs, frob_frob, sub_mul, show d + d * k = d * (k + 1) by rw [Nat.mul_succ]; omega]]
      rw [rsum_sub]
      congr 1
      · exact rsum_rotate (M F / d) (fun k => S k * frob (d * k) t) (by rw [hSn, hS0, zero_mul, zero_mul])
      · rw [rsum_mul_left]
        congr 1
        exact rsum_rotate (M F / d) (fun k => frob (d * k) t) (by rw [hcyc, Nat.mul_zero, frob_zero_k])
    refine ⟨-(inv (tr d t) * rsum (M F / d) fun k => S k * frob (d * k) t), ?_⟩
    rw [frob_neg, frob_mul, frob_inv, tr_frob hd, hY, sub_d, neg_neg, mul_sub, neg_sub, sub_add_cancel, mul_lc, inv_mul ht, mul_one]
  · rintro ⟨y, rfl⟩
    rw [tr_sub, tr_frob_in, tr_frob hd, sub_self]
end ff
end Cw

/- Plain algebra: the residues have a primitive element just if the long division finds no divisor of the modulus. No Go here. -/
import Derived.Test.YtnbkmkeiophjoaaCyc
import Derived.Test.YtnbkmkeiophjoaaDivL
namespace Cw

theorem dIn_congr (p c s : Nat) {low low' : Nat → Nat} (r : Nat → Nat) : ∀ j, (∀ i, i < j → low i = low' i) → dIn p c s low j r = dIn p c s low' j r
  | 0, _ => rfl
  | j + 1, h => by
    show fup _ _ _ = fup _ _ _
    rw [dIn_congr p c s r j (fun i hi => h i (by omega)), h j (by omega)]
theorem dOut_congr (p d m : Nat) {low low' : Nat → Nat} (r : Nat → Nat) (h : ∀ i, i < d → low i = low' i) : ∀ t, dOut p d m low t r = dOut p d m low' t r
  | 0 => rfl
  | t + 1 => by
    show fup (dIn _ _ _ _ _ _) _ _ = fup (dIn _ _ _ _ _ _) _ _
    rw [dOut_congr p d m r h t, dIn_congr p _ _ _ d h]
theorem dvB_congr {p d m : Nat} {low low' mod : Nat → Nat} (h : ∀ i, i < d → low i = low' i) : dvB p d m low mod = dvB p d m low' mod := by
  unfold dvB; rw [dOut_congr p d m _ h]
theorem dIn_out (p c s : Nat) (low r : Nat → Nat) : ∀ j i, s + j ≤ i ∨ i < s → dIn p c s low j r i = r i
  | 0, _, _ => rfl
  | j + 1, i, h => by
    show (if i = s + j then _ else dIn p c s low j r i) = r i
    rw [if_neg (by omega), dIn_out p c s low r j i (by omega)]

section
variable {D : Desc}
theorem pwX {k : Nat} (h : k < D.m) : pw (Xc D) k = basis D k := by
  induction k with
  | zero => rfl
  | succ k ih =>
    rw [pw_succ, ih (by omega), ← T_basis h]
    exact (T_eq _).symm
theorem scX_v (s : Zp D.p) {k i : Nat} (hk : k < D.m) (hi : i < D.m) : (sc s * pw (Xc D) k).v i = if i = k then s else 0 := by
  rw [sc_mul_v _ _ hi, pwX hk, basis_v hi]
  by_cases h : i = k
  · rw [if_pos h, if_pos h, mul_one]
  · rw [if_neg h, if_neg h, mul_zero]
theorem ev_dIn {c s : Nat} (hc : c ≤ D.p) (low r : Nat → Nat) {n : Nat} : ∀ j, s + j ≤ n → ev D (dIn D.p c s low j r) n = ev D r n - sc (zp D.p c) * pw (Xc D) s * ev D low j
  | 0, _ => by
    show ev D r n = ev D r n - _ * rsum 0 _
    rw [rsum_zero, mul_zero, sub_zero]
  | j + 1, h => by
    show ev D (fup (dIn D.p c s low j r) (s + j) ((dIn D.p c s low j r (s + j) + (D.p - c) * low j) % D.p)) n = _
    rw [ev_step _ _ (by omega), ev_dIn hc low r j (by omega), ev_succ, mul_add, zp_mul, sc_mul, zp_neg hc, sc_neg, pw_add]
    rw [sub_d, sub_d, neg_add_d, add_a]
    congr 2
    rw [neg_mul, neg_mul]
    congr 1
    ac_rfl
/-- The long division of the modulus by a monic polynomial of degree d, in the residues. -/
theorem div_ev (d : Nat) (hd1 : 1 ≤ d) (hdm : d ≤ D.m) (low : Nat → Nat) (hmod : ∀ i, D.mod.getD i 0 < D.p) :
    ∀ t, t ≤ D.m + 1 - d → ∃ Q : R D, ev D (mon D.m fun i => D.mod.getD i 0) (D.m + 1) = Q * (ev D low d + pw (Xc D) d) + ev D (dOut D.p d D.m low t (mon D.m fun i => D.mod.getD i 0)) (D.m + 1) ∧
      (∀ i, i < D.m → D.m - d < i → Q.v i = 0) ∧ (1 ≤ t → Q.v (D.m - d) = 1) ∧ (t = 0 → Q = 0) ∧ (∀ i, D.m - t < i → i ≤ D.m → dOut D.p d D.m low t (mon D.m fun i => D.mod.getD i 0) i = 0)
  | 0, _ => ⟨0, by show _ = _ + ev D _ _; rw [zero_mul, zero_add]; rfl, fun i _ _ => rfl, fun h => by omega, fun _ => rfl, fun i h1 h2 => by omega⟩
  | t + 1, ht => by
    obtain ⟨Q, h1, h2, h3, hQ0, h4⟩ := div_ev d hd1 hdm low hmod t (by omega)
    have hlt := dOut_lt (p := D.p) (by have := D.p2; omega) d D.m low (mon_lt (m := D.m) D.p2 hmod) t
    generalize hr : dOut D.p d D.m low t (mon D.m fun i => D.mod.getD i 0) = r at *
    have hc : r (D.m - t) ≤ D.p := Nat.le_of_lt (hlt _)
    have hstep : dOut D.p d D.m low (t + 1) (mon D.m fun i => D.mod.getD i 0) = fup (dIn D.p (r (D.m - t)) (D.m - t - d) low d r) (D.m - t) 0 := by
      rw [← hr]; rfl
    rw [hstep]
    have hout : dIn D.p (r (D.m - t)) (D.m - t - d) low d r (D.m - t) = r (D.m - t) := dIn_out _ _ _ _ _ _ _ (by omega)
    have hsm : D.m - t - d < D.m := by omega
    refine ⟨Q + sc (zp D.p (r (D.m - t))) * pw (Xc D) (D.m - t - d), ?_, fun i hi h => ?_, fun _ => ?_, fun h => by omega, fun i hi1 hi2 => ?_⟩
    · rw [ev_fup _ _ (by omega), hout, ev_dIn hc low r d (by omega), zp_zero, sc_zero, zero_sub, h1]
      generalize sc (zp D.p (r (D.m - t))) = C
      have e : pw (Xc D) (D.m - t) = pw (Xc D) (D.m - t - d) * pw (Xc D) d := by rw [← pw_add]; congr 1; omega
      rw [e]
      generalize pw (Xc D) (D.m - t - d) = S
      generalize pw (Xc D) d = Y
      generalize ev D low d = L
      generalize ev D r (D.m + 1) = E
      rw [add_mul, mul_add (C * S), neg_mul, ← mul_a, sub_d]
      rw [show Q * (L + Y) + (C * S * L + C * S * Y) + (E + -(C * S * L) + -(C * S * Y)) = Q * (L + Y) + E + (C * S * L + -(C * S * L)) + (C * S * Y + -(C * S * Y)) by ac_rfl, add_neg, add_neg, add_zero, add_zero]
    · rw [add_v, h2 i hi h, scX_v _ hsm hi, if_neg (by omega), zero_add]
    · rw [add_v, scX_v _ hsm (by omega)]
      by_cases h0 : t = 0
      · subst h0
        rw [if_pos (by omega), hQ0 rfl, ← hr]
        show 0 + zp D.p (if D.m < D.m then _ else 1) = 1
        rw [if_neg (Nat.lt_irrefl _), zero_add]; rfl
      · rw [h3 (by omega), if_neg (by omega), add_zero]
    · show (if i = D.m - t then 0 else dIn D.p (r (D.m - t)) (D.m - t - d) low d r i) = 0
      by_cases e : i = D.m - t
      · rw [if_pos e]
      · rw [if_neg e, dIn_out _ _ _ _ _ _ _ (by omega)]
        exact h4 i (by omega) hi2

theorem mon_ev : ev D (mon D.m fun i => D.mod.getD i 0) (D.m + 1) = 0 := by
  rw [ev_succ, show mon D.m (fun i => D.mod.getD i 0) D.m = 1 from if_neg (Nat.lt_irrefl _), zp_one, sc_one, one_mul, ev_congr (f := mon D.m fun i => D.mod.getD i 0) (h := fun i => D.mod.getD i 0) (fun i hi => if_pos hi), add_c]
  exact X_root
theorem ev_zero_from {f : Nat → Nat} {k : Nat} : ∀ n, k ≤ n → (∀ i, k ≤ i → i < n → f i = 0) → ev D f n = ev D f k
  | 0, hk, _ => by rw [show k = 0 by omega]
  | n + 1, hk, h => by
    by_cases e : k = n + 1
    · rw [e]
    · rw [ev_succ, h n (by omega) (by omega), zp_zero, sc_zero, zero_mul, add_zero]
      exact ev_zero_from n (by omega) fun i h1 h2 => h i h1 (by omega)
/-- What the whole division gives. -/
theorem div_full (d : Nat) (hd1 : 1 ≤ d) (hdm : d ≤ D.m) (low : Nat → Nat) (hmod : ∀ i, D.mod.getD i 0 < D.p) :
    ∃ Q : R D, ∃ r : Nat → Nat, (∀ i, r i < D.p) ∧ 0 = Q * (ev D low d + pw (Xc D) d) + ev D r d ∧ (∀ i, i < D.m → D.m - d < i → Q.v i = 0) ∧ Q.v (D.m - d) = 1 ∧
      (dvB D.p d D.m low (fun i => D.mod.getD i 0) = true ↔ ∀ k, k < d → r k = 0) := by
  obtain ⟨Q, h1, h2, h3, -, h4⟩ := div_ev d hd1 hdm low hmod (D.m + 1 - d) (Nat.le_refl _)
  have hlt := dOut_lt (p := D.p) (by have := D.p2; omega) d D.m low (mon_lt (m := D.m) D.p2 hmod) (D.m + 1 - d)
  have hdv : dvB D.p d D.m low (fun i => D.mod.getD i 0) = decide (∀ k, k < D.m + 1 → dOut D.p d D.m low (D.m + 1 - d) (mon D.m fun i => D.mod.getD i 0) k = 0) := rfl
  rw [mon_ev] at h1
  generalize dOut D.p d D.m low (D.m + 1 - d) (mon D.m fun i => D.mod.getD i 0) = r at *
  have h5 : ∀ i, d ≤ i → i < D.m + 1 → r i = 0 := fun i a b => h4 i (by omega) (by omega)
  refine ⟨Q, r, hlt, ?_, h2, h3 (by omega), ?_⟩
  · rw [h1, ev_zero_from (D.m + 1) (by omega) h5]
  · rw [hdv, decide_eq_true_iff]
    constructor
    · intro h k hk; exact h k (by omega)
    · intro h k hk
      by_cases e : k < d
      · exact h k e
      · exact h5 k (by omega) hk
theorem ev_v {f : Nat → Nat} {n : Nat} (hn : n ≤ D.m) {i : Nat} (hi : i < D.m) : (ev D f n).v i = if i < n then zp D.p (f i) else 0 := by
  unfold ev
  rw [rsum_v]
  by_cases h : i < n
  · rw [if_pos h, rsum_single (k := i) h fun j hj hne => by rw [scX_v _ (by omega) hi, if_neg (fun e => hne e.symm)], scX_v _ hi hi, if_pos rfl]
  · rw [if_neg h]
    exact rsum_eq_zero fun j hj => by rw [scX_v _ (by omega) hi, if_neg (by omega)]

/-! ### elements other than 0 that divide 0 -/
def ZD (u : R D) : Prop := u ≠ 0 ∧ ∃ v : R D, v ≠ 0 ∧ u * v = 0
/-- The degree. -/
def HasDeg (u : R D) (d : Nat) : Prop := d < D.m ∧ u.v d ≠ 0 ∧ ∀ i, i < D.m → d < i → u.v i = 0
theorem hasDeg (u : R D) (hu : u ≠ 0) : ∃ d, HasDeg u d := by
  apply Classical.byContradiction
  intro hno
  have key : ∀ k, k ≤ D.m → ∀ i, i < D.m → D.m - k ≤ i → u.v i = 0 := fun k => by
    induction k with
    | zero => intro _ i h1 h2; omega
    | succ k ih =>
      intro hk i h1 h2
      by_cases e : i = D.m - (k + 1)
      · apply Classical.byContradiction
        intro hne
        exact hno ⟨i, h1, hne, fun j h3 h4 => ih (by omega) j h3 (by omega)⟩
      · exact ih (by omega) i h1 (by omega)
  exact hu (R.ext' fun i hi => key D.m (Nat.le_refl _) i hi (by omega))
theorem zp_inv (a : Zp D.p) (ha : a ≠ 0) : ∃ b : Zp D.p, a * b = 1 := by
  have hp := D.hp
  have hav : a.val ≠ 0 := fun e => ha (Zp.ext (by rw [e, Zp.zero_val]))
  have hnd : ¬ D.p ∣ a.val := fun h => by have := Nat.le_of_dvd (Nat.pos_of_ne_zero hav) h; have := a.lt; omega
  have hco := hp.coprime hnd
  have hp2 := D.p2
  obtain ⟨i, hi, e⟩ := inj_all (f := fun i => a.val * i % D.p) (q := D.p) (fun i _ => Nat.mod_lt _ (by omega)) (fun i j hi hj e => by
    have key : ∀ i j, i < D.p → j < D.p → i ≤ j → a.val * i % D.p = a.val * j % D.p → i = j := fun i j hi hj hij e => by
      obtain ⟨k, rfl⟩ : ∃ k, j = i + k := ⟨j - i, by omega⟩
      have h1 : D.p ∣ a.val * k := by
        have h2 := Nat.sub_mod_eq_zero_of_mod_eq e.symm
        rw [Nat.mul_add, Nat.add_sub_cancel_left] at h2
        exact Nat.dvd_of_mod_eq_zero h2
      have h3 := hco.symm.dvd_of_dvd_mul_left h1
      rcases Nat.eq_zero_or_pos k with h0 | h0
      · omega
      · have := Nat.le_of_dvd h0 h3; omega
    rcases Nat.le_total i j with h | h
    · exact key i j hi hj h e
    · exact (key j i hj hi h e.symm).symm) (x := 1) (by omega)
  refine ⟨zp D.p i, Zp.ext ?_⟩
  rw [Zp.mul_val, zp_val, Nat.mul_mod_mod]
  have e2 : a.val * i % D.p = 1 := e
  rw [e2]
  show 1 = 1 % D.p
  rw [Nat.mod_eq_of_lt (by omega)]
theorem sc_unit {s : Zp D.p} (h : s ≠ 0) : ∃ b : R D, sc s * b = 1 := by
  obtain ⟨b, hb⟩ := zp_inv s h
  exact ⟨sc b, by rw [← sc_mul, hb, sc_one]⟩
theorem ZD.not_unit {u : R D} (h : ZD u) {b : R D} (hb : u * b = 1) : False := by
  obtain ⟨-, v, hv, e⟩ := h
  apply hv
  rw [← one_mul v, ← hb, mul_c u b, mul_a, e, mul_zero]
theorem ZD.mul_unit {u a b : R D} (h : ZD u) (hb : a * b = 1) : ZD (a * u) := by
  obtain ⟨hu, v, hv, e⟩ := h
  refine ⟨fun h0 => hu ?_, v, hv, by rw [mul_a, e, mul_zero]⟩
  rw [← one_mul u, ← hb, mul_c a b, mul_a, h0, mul_zero]
/-- Without such elements there are all inverses. -/
theorem inv_of_noZD (h : ∀ u : R D, ¬ ZD u) : AllInv D := fun u hu => by
  obtain ⟨i, hi, e⟩ := inj_all (f := fun i => rcode (u * rel D i)) (q := D.q) (fun i _ => rcode_lt _) (fun i j hi hj e => by
    have e1 : u * rel D i = u * rel D j := rcode_inj e
    have e2 : u * (rel D i - rel D j) = 0 := by rw [mul_sub, e1, sub_self]
    apply Classical.byContradiction
    intro hne
    refine h u ⟨hu, _, fun h0 => hne ?_, e2⟩
    rw [← rcode_rel hi, ← rcode_rel hj, sub_eq_zero h0]) (x := rcode (1 : R D)) (rcode_lt _)
  exact ⟨_, rcode_inj e⟩

theorem nval_dg {f : Nat → Nat} {d : Nat} (hf : ∀ i, i < d → f i < D.p) : nval D.p f d < D.p ^ d ∧ ∀ i, i < d → nval D.p f d / D.p ^ i % D.p = f i :=
  ⟨nval_lt hf, fun i hi => nval_digit (by have := D.p2; omega) hf hi⟩

/-- No divisors: all inverses. -/
theorem allInv_of_irr (hmod : ∀ i, D.mod.getD i 0 < D.p) (h : D.m = 1 ∨ ∀ d, 1 ≤ d → 2 * d ≤ D.m → ∀ v, v < D.p ^ d → dvB D.p d D.m (fun i => v / D.p ^ i % D.p) (fun i => D.mod.getD i 0) = false) : AllInv D := by
  refine inv_of_noZD fun u0 hu0 => ?_
  -- one of the least degree
  have key : ∀ d, ∀ u : R D, ZD u → HasDeg u d → False := fun d => by
    induction d using Nat.strongRecOn with
    | ind d ih =>
      intro u hu hdeg
      obtain ⟨b, hb⟩ := zp_inv _ hdeg.2.1
      have hbne : b ≠ 0 := fun e => by
        rw [e, mul_zero] at hb
        have h1 := congrArg Zp.val hb
        rw [Zp.zero_val] at h1
        have h2 : (1 : Zp D.p).val = 1 % D.p := rfl
        rw [h2, Nat.mod_eq_of_lt (by have := D.p2; omega)] at h1
        cases h1
      obtain ⟨b', hb'⟩ := sc_unit (D := D) hbne
      have hw := hu.mul_unit hb'
      obtain ⟨w, hwe⟩ : ∃ w, w = sc b * u := ⟨_, rfl⟩
      rw [← hwe] at hw
      have hw1 : w.v d = 1 := by rw [hwe, sc_mul_v _ _ hdeg.1, mul_c, hb]
      have hw0 : ∀ i, i < D.m → d < i → w.v i = 0 := fun i h1 h2 => by rw [hwe, sc_mul_v _ _ h1, hdeg.2.2 i h1 h2, mul_zero]
      have hdm := hdeg.1
      rcases Nat.eq_zero_or_pos d with h0 | h0
      · subst h0
        have : w = 1 := R.ext' fun i hi => by
          rw [one_v hi]
          by_cases e : i = 0
          · rw [e, if_pos rfl, hw1]
          · rw [if_neg e, hw0 i hi (by omega)]
        exact hw.not_unit (b := 1) (by rw [this, mul_one])
      · have hwev : ev D (di w) d + pw (Xc D) d = w := R.ext' fun i hi => by
          rw [add_v, ev_v (by omega) hi, pwX hdm, basis_v hi]
          by_cases e1 : i < d
          · rw [if_pos e1, if_neg (by omega), add_zero, zp_di]
          · by_cases e2 : i = d
            · rw [if_neg e1, if_pos e2, zero_add, e2, hw1]
            · rw [if_neg e1, if_neg e2, zero_add, hw0 i hi (by omega)]
        obtain ⟨Q, r, hr, hz, hQ0, hQ1, hdv⟩ := div_full d h0 (by omega) (di w) hmod
        rw [hwev] at hz
        obtain ⟨hw2, v, hv, hwv⟩ := hw
        have hr0 : ev D r d = 0 := by
          apply Classical.byContradiction
          intro hne
          obtain ⟨d', hd'⟩ := hasDeg _ hne
          have hlt : d' < d := by
            rcases Nat.lt_or_ge d' d with h1 | h1
            · exact h1
            · exact absurd (by rw [ev_v (by omega) hd'.1, if_neg (by omega)]) hd'.2.1
          refine ih d' hlt (ev D r d) ⟨hne, v, hv, ?_⟩ hd'
          have e : ev D r d = -(Q * w) := neg_unique hz.symm
          rw [e, neg_mul, mul_a, hwv, mul_zero, neg_zero]
        have hrk : ∀ k, k < d → r k = 0 := fun k hk => by
          have h1 : (ev D r d).v k = 0 := by rw [hr0]; rfl
          rw [ev_v (by omega) (by omega), if_pos hk] at h1
          have h2 := congrArg Zp.val h1
          rw [zp_val, Zp.zero_val, Nat.mod_eq_of_lt (hr k)] at h2
          exact h2
        have hdt := hdv.2 hrk
        rcases h with hm | hirr
        · omega
        · by_cases h2d : 2 * d ≤ D.m
          · obtain ⟨n1, n2⟩ := nval_dg (D := D) (f := di w) (d := d) (fun i _ => di_lt w i)
            have h3 := hirr d h0 h2d _ n1
            rw [dvB_congr (low' := di w) n2, hdt] at h3
            cases h3
          · have hQw : Q * w = 0 := by rw [hr0, add_zero] at hz; exact hz.symm
            refine ih (D.m - d) (by omega) Q ⟨fun e => ?_, w, hw2, hQw⟩ ⟨by omega, ?_, hQ0⟩
            · rw [e] at hQ1
              have h1 := congrArg Zp.val hQ1
              rw [show (0 : R D).v (D.m - d) = 0 from rfl, Zp.zero_val] at h1
              have h2 : (1 : Zp D.p).val = 1 % D.p := rfl
              rw [h2, Nat.mod_eq_of_lt (by have := D.p2; omega)] at h1
              cases h1
            · rw [hQ1]
              intro e
              have h1 := congrArg Zp.val e
              have h2 : (1 : Zp D.p).val = 1 % D.p := rfl
              rw [h2, Zp.zero_val, Nat.mod_eq_of_lt (by have := D.p2; omega)] at h1
              cases h1
  obtain ⟨d, hd⟩ := hasDeg u0 hu0.1
  exact key d u0 hu0 hd
/-- No divisors: a primitive element. -/
theorem gen_of_irr (hmod : ∀ i, D.mod.getD i 0 < D.p) (h : D.m = 1 ∨ ∀ d, 1 ≤ d → 2 * d ≤ D.m → ∀ v, v < D.p ^ d → dvB D.p d D.m (fun i => v / D.p ^ i % D.p) (fun i => D.mod.getD i 0) = false) : ∃ u : R D, IsGen u :=
  gen_of_inv (allInv_of_irr hmod h)
/-- A primitive element: no divisors. -/
theorem irr_of_gen (hmod : ∀ i, D.mod.getD i 0 < D.p) {u : R D} (h : IsGen u) {d v : Nat} (h1 : 1 ≤ d) (h2 : 2 * d ≤ D.m) : dvB D.p d D.m (fun i => v / D.p ^ i % D.p) (fun i => D.mod.getD i 0) = false := by
  apply Classical.byContradiction
  intro hne
  rw [Bool.not_eq_false] at hne
  obtain ⟨Q, r, -, hz, -, hQ1, hdv⟩ := div_full d h1 (by omega) (fun i => v / D.p ^ i % D.p) hmod
  have hr := hdv.1 hne
  have hr0 : ev D r d = 0 := by
    rw [ev_congr (h := fun _ => 0) hr, ev_zero]
  rw [hr0, add_zero] at hz
  have one : ¬ (1 : Zp D.p) = 0 := fun e => by
    have h1 := congrArg Zp.val e
    have h2 : (1 : Zp D.p).val = 1 % D.p := rfl
    rw [h2, Zp.zero_val, Nat.mod_eq_of_lt (by have := D.p2; omega)] at h1
    cases h1
  rcases mul_eq_zero (F := R (mkFD D u h).toDesc) hz.symm with e | e
  · rw [e] at hQ1
    exact one hQ1.symm
  · have e2 : (ev D (fun i => v / D.p ^ i % D.p) d + pw (Xc D) d).v d = 0 := by rw [e]; rfl
    rw [add_v, ev_v (by omega) (by omega), if_neg (Nat.lt_irrefl _), pwX (by omega), basis_v (by omega), if_pos rfl, zero_add] at e2
    exact one e2
end
end Cw

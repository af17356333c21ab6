/- Plain algebra: a finite commutative ring in which all elements other than 0 have inverses has a primitive element. No Go here. -/
import Derived.Test.YtnbkmkeiophjoaaCnt
namespace Cw

/-! ### orders -/
section ord
variable {F : Type} [CField F]
open CField (inv)
/-- n is the order of x. -/
def IsOrd (x : F) (n : Nat) : Prop := 1 ≤ n ∧ pw x n = 1 ∧ ∀ k, pw x k = 1 → n ∣ k
theorem IsOrd.of_least {x : F} {n : Nat} (h1 : 1 ≤ n) (h2 : pw x n = 1) (h3 : ∀ k, 1 ≤ k → k < n → pw x k ≠ 1) : IsOrd x n := by
  refine ⟨h1, h2, fun k hk => ?_⟩
  have e : pw x (k % n) = 1 := by
    have h := Nat.div_add_mod k n
    rw [← h, pw_add, pw_mul, h2, one_pw, one_mul] at hk
    exact hk
  rcases Nat.eq_zero_or_pos (k % n) with h0 | h0
  · exact Nat.dvd_of_mod_eq_zero h0
  · exact absurd e (h3 _ h0 (Nat.mod_lt _ h1))
theorem IsOrd.exists {x : F} {n : Nat} (h1 : 1 ≤ n) (h2 : pw x n = 1) : ∃ m, m ≤ n ∧ IsOrd x m := by
  induction n using Nat.strongRecOn with
  | ind n ih =>
    by_cases h : ∃ k, 1 ≤ k ∧ k < n ∧ pw x k = 1
    · obtain ⟨k, k1, k2, k3⟩ := h
      obtain ⟨m, m1, m2⟩ := ih k k2 k1 k3
      exact ⟨m, by omega, m2⟩
    · exact ⟨n, Nat.le_refl _, IsOrd.of_least h1 h2 fun k k1 k2 k3 => h ⟨k, k1, k2, k3⟩⟩
theorem IsOrd.pow {x : F} {n d : Nat} (h : IsOrd x n) (hd : d ∣ n) : IsOrd (pw x d) (n / d) := by
  obtain ⟨e, rfl⟩ := hd
  have h1 := h.1
  have hd0 : 0 < d := Nat.pos_of_ne_zero fun e0 => by rw [e0, Nat.zero_mul] at h1; omega
  have he0 : 0 < e := Nat.pos_of_ne_zero fun e0 => by rw [e0, Nat.mul_zero] at h1; omega
  rw [Nat.mul_div_cancel_left _ hd0]
  refine ⟨he0, by rw [← pw_mul]; exact h.2.1, fun k hk => ?_⟩
  rw [← pw_mul] at hk
  exact Nat.dvd_of_mul_dvd_mul_left hd0 (h.2.2 _ hk)
theorem IsOrd.mul {x y : F} {m n : Nat} (hx : IsOrd x m) (hy : IsOrd y n) (hc : Nat.Coprime m n) : IsOrd (x * y) (m * n) := by
  refine ⟨Nat.mul_pos hx.1 hy.1, ?_, fun k hk => ?_⟩
  · rw [mul_pw, pw_mul, hx.2.1, one_pw, one_mul, Nat.mul_comm, pw_mul, hy.2.1, one_pw]
  · rw [mul_pw] at hk
    have h1 : n ∣ m * k := hy.2.2 _ (by
      have e : pw (pw x k * pw y k) m = 1 := by rw [hk, one_pw]
      rw [mul_pw, ← pw_mul, ← pw_mul, Nat.mul_comm k m, pw_mul x, hx.2.1, one_pw, one_mul] at e
      exact e)
    have h2 : m ∣ n * k := hx.2.2 _ (by
      have e : pw (pw x k * pw y k) n = 1 := by rw [hk, one_pw]
      rw [mul_pw, ← pw_mul, ← pw_mul, Nat.mul_comm k n, pw_mul y, hy.2.1, one_pw, mul_one] at e
      exact e)
    exact Nat.Coprime.mul_dvd_of_dvd_of_dvd hc (hc.dvd_of_dvd_mul_left h2) (hc.symm.dvd_of_dvd_mul_left h1)
end ord

/-! ### numbers -/
theorem prime_factor : ∀ n : Nat, 2 ≤ n → ∃ r, Prime r ∧ r ∣ n := fun n hn => by
  induction n using Nat.strongRecOn with
  | ind n ih =>
    by_cases h : ∃ d, d ∣ n ∧ d ≠ 1 ∧ d ≠ n
    · obtain ⟨d, d1, d2, d3⟩ := h
      have hd0 : d ≠ 0 := fun e => by rw [e] at d1; have := Nat.eq_zero_of_zero_dvd d1; omega
      have hdn := Nat.le_of_dvd (by omega) d1
      obtain ⟨r, r1, r2⟩ := ih d (by omega) (by omega)
      exact ⟨r, r1, Nat.dvd_trans r2 d1⟩
    · exact ⟨n, ⟨hn, fun d hd => Classical.byContradiction fun hne => h ⟨d, hd, fun e => hne (.inl e), fun e => hne (.inr e)⟩⟩, Nat.dvd_refl _⟩
theorem exact_power {r : Nat} (hr : 2 ≤ r) : ∀ n : Nat, 1 ≤ n → ∃ e, r ^ e ∣ n ∧ ¬ r ∣ n / r ^ e := fun n hn => by
  induction n using Nat.strongRecOn with
  | ind n ih =>
    by_cases h : r ∣ n
    · obtain ⟨k, rfl⟩ := h
      have hk : 1 ≤ k := Nat.pos_of_ne_zero fun e => by rw [e] at hn; omega
      have hlt : k < r * k := by have := Nat.mul_le_mul_right k hr; omega
      obtain ⟨e, e1, e2⟩ := ih k hlt hk
      refine ⟨e + 1, ?_, ?_⟩
      · rw [Nat.pow_succ, Nat.mul_comm]; exact Nat.mul_dvd_mul_left r e1
      · rw [Nat.pow_succ, Nat.mul_comm (r ^ e), Nat.mul_div_mul_left _ _ (by omega)]; exact e2
    · exact ⟨0, by simp, by simpa using h⟩
theorem Prime.coprime {r n : Nat} (hr : Prime r) (h : ¬ r ∣ n) : Nat.Coprime n r := by
  have hg := Nat.gcd_dvd_right n r
  rcases hr.2 _ hg with h1 | h1
  · exact h1
  · exact absurd (h1 ▸ Nat.gcd_dvd_left n r) h

section cyc
variable {F : Type} [CField F]
/-- The order of an element whose order is not reached by the greatest one can be raised. -/
theorem ord_raise {g h : F} {N b : Nat} (hg : IsOrd g N) (hh : IsOrd h b) (hnd : ¬ b ∣ N) : ∃ x : F, ∃ n, IsOrd x n ∧ N < n := by
  have hb := hh.1; have hN := hg.1
  obtain ⟨c, hc⟩ : ∃ c, c = Nat.gcd b N := ⟨_, rfl⟩
  have hcb : c ∣ b := hc ▸ Nat.gcd_dvd_left b N
  have hcN : c ∣ N := hc ▸ Nat.gcd_dvd_right b N
  obtain ⟨k, hk⟩ := hcb
  have hk2 : 2 ≤ k := by
    rcases (by omega : k = 0 ∨ k = 1 ∨ 2 ≤ k) with e | e | e
    · rw [e, Nat.mul_zero] at hk; omega
    · rw [e, Nat.mul_one] at hk; exact absurd (hk ▸ hcN) hnd
    · exact e
  obtain ⟨r, hr, hrk⟩ := prime_factor k hk2
  obtain ⟨e, e1, e2⟩ := exact_power hr.1 b hb
  obtain ⟨f, f1, f2⟩ := exact_power hr.1 N hN
  have hef : f < e := by
    rcases Nat.lt_or_ge f e with h1 | h1
    · exact h1
    · have h2 : r ^ e ∣ c := hc ▸ Nat.dvd_gcd e1 (Nat.dvd_trans (Nat.pow_dvd_pow r h1) f1)
      obtain ⟨c', rfl⟩ := h2
      obtain ⟨k', rfl⟩ := hrk
      have hp : 0 < r ^ e := Nat.pow_pos (by have := hr.1; omega)
      refine absurd ?_ e2
      rw [hk, Nat.mul_assoc, Nat.mul_div_cancel_left _ hp]
      exact ⟨c' * k', by ac_rfl⟩
  have hx := hg.pow f1
  have hbr : b / r ^ e ∣ b := Nat.div_dvd_of_dvd e1
  have hy := hh.pow hbr
  have hp : 0 < r ^ e := Nat.pow_pos (by have := hr.1; omega)
  have hbe : b / (b / r ^ e) = r ^ e := by
    obtain ⟨t, rfl⟩ := e1
    have ht : 0 < t := Nat.pos_of_ne_zero fun e0 => by rw [e0] at hb; omega
    rw [Nat.mul_div_cancel_left _ hp, Nat.mul_div_cancel _ ht]
  rw [hbe] at hy
  refine ⟨_, _, hx.mul hy (Nat.Coprime.pow_right e (hr.coprime f2)), ?_⟩
  obtain ⟨t, rfl⟩ := f1
  have hpf : 0 < r ^ f := Nat.pow_pos (by have := hr.1; omega)
  rw [Nat.mul_div_cancel_left _ hpf]
  have ht : 0 < t := Nat.pos_of_ne_zero fun e0 => by rw [e0] at hN; omega
  rw [Nat.mul_comm]
  exact (Nat.mul_lt_mul_left ht).2 (Nat.pow_lt_pow_right (by have := hr.1; omega) hef)
end cyc

/-! ### a field whose elements are numbered -/
structure Num (F : Type) [CField F] (q : Nat) where
  code : F → Nat
  el : Nat → F
  lt : ∀ x, code x < q
  inj : ∀ x y, code x = code y → x = y
  code_el : ∀ n, n < q → code (el n) = n
  zero : code 0 = 0
  two : 2 ≤ q
section num
variable {F : Type} [CField F] {q : Nat}
theorem Num.pos (h : Num F q) {y : F} (hy : y ≠ 0) : 1 ≤ h.code y := by
  rcases Nat.eq_zero_or_pos (h.code y) with h0 | h0
  · exact absurd (h.inj _ _ (h0.trans h.zero.symm)) hy
  · exact h0
theorem pw_cancel {x : F} (hx : x ≠ 0) {i k : Nat} (e : pw x i = pw x (i + k)) : pw x k = 1 := by
  rw [pw_add] at e
  exact (mul_left_cancel (pw_ne_zero hx i) (by rw [mul_one]; exact e)).symm
theorem Num.pow_one (h : Num F q) {x : F} (hx : x ≠ 0) : ∃ n, 1 ≤ n ∧ pw x n = 1 := by
  apply Classical.byContradiction
  intro hno
  have key : ∀ i j, i ≤ j → pw x i = pw x j → i = j := fun i j hij e => by
    obtain ⟨k, rfl⟩ : ∃ k, j = i + k := ⟨j - i, by omega⟩
    have h1 := pw_cancel hx e
    rcases Nat.eq_zero_or_pos k with h0 | h0
    · omega
    · exact absurd ⟨k, h0, h1⟩ hno
  have hinj : ∀ i j, i < q + 1 → j < q + 1 → h.code (pw x i) = h.code (pw x j) → i = j := by
    intro i j _ _ e
    rcases Nat.le_total i j with h1 | h1
    · exact key i j h1 (h.inj _ _ e)
    · exact (key j i h1 (h.inj _ _ e).symm).symm
  have := inj_le (q := q) (fun i _ => h.lt (pw x i)) hinj
  omega
theorem IsOrd.ne {x : F} {n : Nat} (hx : IsOrd x n) : x ≠ 0 := fun e => by
  have h2 := hx.2.1
  rw [e, zero_pw hx.1] at h2
  exact one_ne h2.symm
theorem IsOrd.inj {x : F} {n : Nat} (hx : IsOrd x n) {i j : Nat} (hi : i < n) (hj : j < n) (e : pw x i = pw x j) : i = j := by
  have key : ∀ i j, j < n → i ≤ j → pw x i = pw x j → i = j := fun i j hj hij e => by
    obtain ⟨k, rfl⟩ : ∃ k, j = i + k := ⟨j - i, by omega⟩
    have := hx.2.2 _ (pw_cancel hx.ne e)
    rcases Nat.eq_zero_or_pos k with h0 | h0
    · omega
    · have := Nat.le_of_dvd h0 this; omega
  rcases Nat.le_total i j with h5 | h5
  · exact key i j hj h5 e
  · exact (key j i hi h5 e.symm).symm
theorem Num.ord_le (h : Num F q) {x : F} {n : Nat} (hx : IsOrd x n) : n ≤ q - 1 :=
  inj_le (f := fun i => h.code (pw x i) - 1) (fun i _ => by
      have h1 := h.lt (pw x i)
      have h2 := h.pos (pw_ne_zero hx.ne i)
      show h.code (pw x i) - 1 < q - 1
      omega) (fun i j hi hj e => by
      have h1 := h.pos (pw_ne_zero hx.ne i)
      have h2 := h.pos (pw_ne_zero hx.ne j)
      have h3 : h.code (pw x i) - 1 = h.code (pw x j) - 1 := e
      exact hx.inj hi hj (h.inj _ _ (by omega)))
theorem Num.top_ord (h : Num F q) : ∃ g : F, ∃ N, IsOrd g N ∧ ∀ x : F, ∀ n, IsOrd x n → n ≤ N := by
  apply Classical.byContradiction
  intro hno
  have key : ∀ k, ∃ g : F, ∃ N, IsOrd g N ∧ k ≤ N := fun k => by
    induction k with
    | zero => exact ⟨1, 1, ⟨Nat.le_refl _, one_pw 1, fun k _ => Nat.one_dvd k⟩, by omega⟩
    | succ k ih =>
      obtain ⟨g, N, h1, h2⟩ := ih
      apply Classical.byContradiction
      intro h3
      refine hno ⟨g, N, h1, fun x n hx => ?_⟩
      rcases Nat.lt_or_ge N n with h4 | h4
      · exact absurd ⟨x, n, hx, by omega⟩ h3
      · exact h4
  obtain ⟨g, N, h1, h2⟩ := key q
  have := h.ord_le h1
  have := h.two
  omega
/-- A primitive element. -/
theorem Num.gen (h : Num F q) : ∃ u : F, (∀ i j, i < q - 1 → j < q - 1 → pw u i = pw u j → i = j) ∧ pw u (q - 1) = 1 := by
  obtain ⟨g, N, hg, hmax⟩ := h.top_ord
  have hall : ∀ x : F, x ≠ 0 → pw x N = 1 := fun x hx => by
    obtain ⟨n, n1, n2⟩ := h.pow_one hx
    obtain ⟨b, -, hb⟩ := IsOrd.exists n1 n2
    have hdv : b ∣ N := Classical.byContradiction fun hnd => by
      obtain ⟨y, m, hy, hlt⟩ := ord_raise hg hb hnd
      have := hmax y m hy
      omega
    obtain ⟨t, rfl⟩ := hdv
    rw [pw_mul, hb.2.1, one_pw]
  have hle := h.ord_le hg
  have hN := hg.1
  have hge : q - 1 ≤ N := by
    rcases Nat.lt_or_ge N (q - 1) with hlt | hge
    · exfalso
      have hz := rsum_roots (F := F) (n := N + 1) (f := fun i => if i = N then 1 else if i = 0 then -1 else 0) (a := fun k => h.el (k + 1))
        (fun i j hi hj e => by
          have e2 := congrArg h.code e
          have h1 := h.code_el (i + 1) (by omega)
          have h2 := h.code_el (j + 1) (by omega)
          have e3 : h.code (h.el (i + 1)) = h.code (h.el (j + 1)) := e2
          omega)
        (fun k hk => by
          have hne : h.el (k + 1) ≠ 0 := fun e => by
            have h1 := h.code_el (k + 1) (by omega)
            rw [e, h.zero] at h1; omega
          show rsum (N + 1) (fun i => (if i = N then (1 : F) else if i = 0 then -1 else 0) * pw (h.el (k + 1)) i) = 0
          rw [rsum_succ, if_pos rfl, one_mul, hall _ hne]
          rw [rsum_single (k := 0) (by omega) fun i hi hne => by rw [if_neg (by omega), if_neg hne, zero_mul], if_neg (by omega), if_pos rfl, pw_zero, mul_one, neg_add]) (i := N) (by omega)
      have h1 : (if N = N then (1 : F) else if N = 0 then -1 else 0) = 0 := hz
      rw [if_pos rfl] at h1
      exact one_ne h1
    · exact hge
  obtain rfl : N = q - 1 := by omega
  exact ⟨g, fun i j hi hj e => hg.inj hi hj e, hg.2.1⟩
end num

/-! ### the residues -/
section res
variable {D : Desc}
/-- All elements other than 0 have inverses. -/
def AllInv (D : Desc) : Prop := ∀ u : R D, u ≠ 0 → ∃ v : R D, u * v = 1
open Classical in
theorem gen_of_inv (h : AllInv D) : ∃ u : R D, IsGen u := by
  let i : CField (R D) := {
    inv := fun u => if hu : u ≠ 0 then Classical.choose (h u hu) else 0
    mul_inv' := fun a ha => by
      show a * (if hu : a ≠ 0 then Classical.choose (h a hu) else 0) = 1
      rw [dif_pos ha]; exact Classical.choose_spec (h a ha)
    inv_zero' := dif_neg fun h => h rfl
    one_ne' := one_ne_R }
  exact @Num.gen (R D) i D.q ⟨rcode, rel D, rcode_lt, fun _ _ => rcode_inj, fun _ => rcode_rel, rcode_zero, D.q2⟩
end res
end Cw

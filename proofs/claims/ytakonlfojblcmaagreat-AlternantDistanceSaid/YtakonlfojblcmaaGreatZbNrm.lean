/- Over each subfield there is a normal basis: found in one field of each order, and carried over. -/
import Derived.Test.YtakonlfojblcmaaGreatZbRG
import Derived.Test.YtakonlfojblcmaaGreatZbBasL
import Derived.Test.YtakonlfojblcmaaGreatZbPoR
namespace Go.Proofs.YtakonlfojblcmaaGreat
open Go.RowKit Cw

theorem prime_dec {p : Nat} (h : 2 ≤ p) (h2 : ∀ d : Fin (p + 1), d.val ∣ p → d.val = 1 ∨ d.val = p) : Prime p := ⟨h, fun d hd => h2 ⟨d, by have := Nat.le_of_dvd (by omega) hd; omega⟩ hd⟩
theorem mod_dec {l : List Nat} {p : Nat} (h0 : 0 < p) (h : ∀ x ∈ l, x < p) (j : Nat) : l.getD j 0 < p := by
 rw [List.getD_eq_getElem?_getD]
 by_cases hj : j < l.length
 ·rw [List.getElem?_eq_getElem hj]; exact h _ (List.getElem_mem _)
 ·rw [List.getElem?_eq_none (by omega)]; exact h0
theorem irr_dec {p m : Nat} {mod : Nat → Nat} (h : ∀ d : Fin 5, 1 ≤ d.val → 2 * d.val ≤ m → ∀ v : Fin (p ^ d.val), dvB p d.val m (dg p v.val) mod = false) (hm : m ≤ 8) : irrB p m mod = true :=
 irrB_true fun d h1 h2 v hv => h ⟨d, by omega⟩ h1 h2 ⟨v, hv⟩
def mN (D : Desc) (a b : Nat) : Nat := rcode (rel D a * rel D b)
def aN (D : Desc) (a b : Nat) : Nat := rcode (rel D a + rel D b)
def pN (D : Desc) (a : Nat) : Nat → Nat
 | 0 => 1
 | k + 1 => mN D (pN D a k) a
def fN (D : Desc) (a : Nat) : Nat → Nat
 | 0 => a
 | k + 1 => pN D (fN D a k) D.p
def tN (D : Desc) (d a : Nat) : Nat → Nat
 | 0 => 0
 | k + 1 => aN D (tN D d a k) (fN D a (d * k))
theorem rel_mN (D : Desc) (a b : Nat) : rel D (mN D a b) = rel D a * rel D b := rel_rcode _
theorem rel_aN (D : Desc) (a b : Nat) : rel D (aN D a b) = rel D a + rel D b := rel_rcode _
theorem rel_pN (S : FD) (a : Nat) : ∀ k, rel S.toDesc (pN S.toDesc a k) = pw (rel S.toDesc a) k
 | 0 => by rw [pw_zero]; show rel S.toDesc 1 = 1; rw [← rcode_one (D := S.toDesc), rel_rcode]
 | k + 1 => by show rel S.toDesc (mN S.toDesc (pN S.toDesc a k) a) = _; rw [rel_mN, rel_pN S a k, pw_succ]
theorem rel_fN (S : FD) (a : Nat) : ∀ k, rel S.toDesc (fN S.toDesc a k) = frob k (rel S.toDesc a)
 | 0 => (frob_zero_k _).symm
 | k + 1 => by show rel S.toDesc (pN S.toDesc (fN S.toDesc a k) S.p) = _; rw [rel_pN, rel_fN S a k, frob_succ]; rfl
theorem rel_tN (S : FD) (d a : Nat) : ∀ k, rel S.toDesc (tN S.toDesc d a k) = rsum k fun i => frob (d * i) (rel S.toDesc a)
 | 0 => rel_zero
 | k + 1 => by show rel S.toDesc (aN S.toDesc (tN S.toDesc d a k) (fN S.toDesc a (d * k))) = _; rw [rel_aN, rel_tN S d a k, rel_fN, rsum_succ]
def DuP (F : FD) (d n : Nat) (u w : R F.toDesc) : Prop := ∀ j, j < n → tr d (w * frob (d * j) u) = if j = 0 then 1 else 0
theorem DuP.of_dec (S : FD) {d n u w : Nat} (hn : d * n = S.m) (hn1 : 1 ≤ n) (h : ∀ j : Fin n, tN S.toDesc d (mN S.toDesc w (fN S.toDesc u (d * j.val))) n = if j.val = 0 then 1 else 0) : DuP S d n (rel S.toDesc u) (rel S.toDesc w) := fun j hj => by
 have h1 := h ⟨j, hj⟩
 have h2 := congrArg (rel S.toDesc) h1
 rw [rel_tN, rel_mN, rel_fN] at h2
 rw [tr_n (F := R S.toDesc) hn hn1]
 rw [h2]
 dsimp only
 by_cases e : j = 0
 ·rw [if_pos e, if_pos e, ← rcode_one (D := S.toDesc), rel_rcode]
 ·rw [if_neg e, if_neg e, rel_zero]
theorem phi_frob {S F : FD} (hp : S.p = F.p) {r : R F.toDesc} (h0 : muV S F r = 0) (k : Nat) (x : R S.toDesc) : phi S F r (frob k x) = frob k (phi S F r x) := by
 have hc : nsm S.p (1 : R F.toDesc) = 0 := by rw [hp]; exact char_R
 unfold frob
 rw [phi_pw hc h0]
 show pw (phi S F r x) (S.p ^ k) = pw (phi S F r x) (F.p ^ k)
 rw [hp]
theorem phi_rsum {S F : FD} (hp : S.p = F.p) (r : R F.toDesc) (n : Nat) (f : Nat → R S.toDesc) : phi S F r (rsum n f) = rsum n fun i => phi S F r (f i) := by
 have hc : nsm S.p (1 : R F.toDesc) = 0 := by rw [hp]; exact char_R
 induction n with
 | zero => exact phi_zero r
 | succ n ih => rw [rsum_succ, phi_add hc, ih, rsum_succ]
theorem DuP.carry {S F : FD} (hp : S.p = F.p) (hm : S.m = F.m) {d n : Nat} (hn : d * n = F.m) (hn1 : 1 ≤ n) {u w : R S.toDesc} (h : DuP S d n u w) : ∃ u' w' : R F.toDesc, DuP F d n u' w' := by
 have hc : nsm S.p (1 : R F.toDesc) = 0 := by rw [hp]; exact char_R
 obtain ⟨r, h0⟩ := root_ex hp hc (by rw [hm]; exact Nat.dvd_refl _)
 refine ⟨phi S F r u, phi S F r w, fun j hj => ?_⟩
 rw [← phi_frob hp h0, ← phi_mul hc h0, tr_n (F := R F.toDesc) hn hn1, rsum_congr (g := fun i => phi S F r (frob (d * i) (w * frob (d * j) u))) fun i _ => (phi_frob hp h0 _ _).symm, ← phi_rsum hp,
  ← tr_n (F := R S.toDesc) (by rw [hn]; exact hm.symm) hn1, h j hj]
 by_cases e : j = 0
 ·rw [if_pos e, if_pos e, phi_one]
 ·rw [if_neg e, if_neg e, phi_zero]
theorem DuP.ind {F : FD} {d n : Nat} (hn : d * n = F.m) (hn1 : 1 ≤ n) {u w : R F.toDesc} (h : DuP F d n u w) : IndS d n fun i => frob (d * i) u := by
 have hn' : d * n = FF.M (R F.toDesc) := hn
 have hd : d ∣ FF.M (R F.toDesc) := ⟨n, hn'.symm⟩
 refine dual_ind hn' hn1 (l := fun i => frob (d * i) w) fun s t hs ht => ?_
 obtain ⟨j, hj⟩ : ∃ j, j = (s + (n - t)) % n := ⟨_, rfl⟩
 have hjn : j < n := by rw [hj]; exact Nat.mod_lt _ (by omega)
 have e : frob (d * s) u = frob (d * t) (frob (d * j) u) := by
  rw [frob_frob, ← Nat.mul_add]
  refine frob_cyc hn' u ?_
  rw [hj, Nat.add_mod_mod, show t + (s + (n - t)) = s + n by omega, Nat.add_mod_right]
 show tr d (frob (d * t) w * frob (d * s) u) = if t = s then 1 else 0
 rw [e, ← frob_mul, tr_frob_in, h j hjn]
 have hjs : j = 0 ↔ t = s := by
  rw [hj]
  constructor
  ·intro h0
   by_cases hst : s < t
   ·rw [Nat.mod_eq_of_lt (by omega)] at h0; omega
   ·rw [show s + (n - t) = (s - t) + n by omega, Nat.add_mod_right, Nat.mod_eq_of_lt (by omega)] at h0; omega
  ·intro h0
   rw [show s + (n - t) = n by omega, Nat.mod_self]
 by_cases e2 : t = s
 ·rw [if_pos e2, if_pos (hjs.2 e2), frob_one]
 ·rw [if_neg e2, if_neg (fun h => e2 (hjs.1 h)), frob_zero]
theorem fd_of (D : Desc) (h : irrB D.p D.m (fun i => D.mod.getD i 0) = true) : ∃ S : FD, S.toDesc = D := by
 obtain ⟨u, hu⟩ := gen_of_good (D := D) ⟨D, rfl, rfl, rfl, .inr h⟩
 exact ⟨mkFD D u hu, rfl⟩
theorem du_of (D : Desc) (h : irrB D.p D.m (fun i => D.mod.getD i 0) = true) (F : FD) (hp : D.p = F.p) (hm : D.m = F.m) {d n u w : Nat} (hn : d * n = D.m) (hn1 : 1 ≤ n) (hdec : ∀ j : Fin n, tN D d (mN D w (fN D u (d * j.val))) n = if j.val = 0 then 1 else 0) : ∃ u' w' : R F.toDesc, DuP F d n u' w' := by
 obtain ⟨S, rfl⟩ := fd_of D h
 exact DuP.carry hp hm (by rw [hn, hm]) hn1 (DuP.of_dec S hn hn1 hdec)
def E2_2 : Desc where
 p := 2
 m := 2
 mod := [1, 1]
 hp := prime_dec (by decide) (by decide)
 m1 := by decide
 m8 := by decide
 hq := by decide
 hlen := by decide
 hmod := mod_dec (by decide) (by decide)
theorem E2_2_irr : irrB E2_2.p E2_2.m (fun i => E2_2.mod.getD i 0) = true := irr_dec (by decide +kernel) (by decide)
theorem E2_2_1 (F : FD) (hp : 2 = F.p) (hm : 2 = F.m) : ∃ u w : R F.toDesc, DuP F 1 2 u w := du_of E2_2 E2_2_irr F hp hm (u := 2) (w := 2) (by decide) (by decide) (by decide +kernel)
def E2_3 : Desc where
 p := 2
 m := 3
 mod := [1, 1, 0]
 hp := prime_dec (by decide) (by decide)
 m1 := by decide
 m8 := by decide
 hq := by decide
 hlen := by decide
 hmod := mod_dec (by decide) (by decide)
theorem E2_3_irr : irrB E2_3.p E2_3.m (fun i => E2_3.mod.getD i 0) = true := irr_dec (by decide +kernel) (by decide)
theorem E2_3_1 (F : FD) (hp : 2 = F.p) (hm : 3 = F.m) : ∃ u w : R F.toDesc, DuP F 1 3 u w := du_of E2_3 E2_3_irr F hp hm (u := 3) (w := 3) (by decide) (by decide) (by decide +kernel)
def E2_4 : Desc where
 p := 2
 m := 4
 mod := [1, 1, 0, 0]
 hp := prime_dec (by decide) (by decide)
 m1 := by decide
 m8 := by decide
 hq := by decide
 hlen := by decide
 hmod := mod_dec (by decide) (by decide)
theorem E2_4_irr : irrB E2_4.p E2_4.m (fun i => E2_4.mod.getD i 0) = true := irr_dec (by decide +kernel) (by decide)
theorem E2_4_1 (F : FD) (hp : 2 = F.p) (hm : 4 = F.m) : ∃ u w : R F.toDesc, DuP F 1 4 u w := du_of E2_4 E2_4_irr F hp hm (u := 8) (w := 14) (by decide) (by decide) (by decide +kernel)
theorem E2_4_2 (F : FD) (hp : 2 = F.p) (hm : 4 = F.m) : ∃ u w : R F.toDesc, DuP F 2 2 u w := du_of E2_4 E2_4_irr F hp hm (u := 2) (w := 2) (by decide) (by decide) (by decide +kernel)
def E2_5 : Desc where
 p := 2
 m := 5
 mod := [1, 0, 1, 0, 0]
 hp := prime_dec (by decide) (by decide)
 m1 := by decide
 m8 := by decide
 hq := by decide
 hlen := by decide
 hmod := mod_dec (by decide) (by decide)
theorem E2_5_irr : irrB E2_5.p E2_5.m (fun i => E2_5.mod.getD i 0) = true := irr_dec (by decide +kernel) (by decide)
theorem E2_5_1 (F : FD) (hp : 2 = F.p) (hm : 5 = F.m) : ∃ u w : R F.toDesc, DuP F 1 5 u w := du_of E2_5 E2_5_irr F hp hm (u := 3) (w := 3) (by decide) (by decide) (by decide +kernel)
def E2_6 : Desc where
 p := 2
 m := 6
 mod := [1, 1, 0, 0, 0, 0]
 hp := prime_dec (by decide) (by decide)
 m1 := by decide
 m8 := by decide
 hq := by decide
 hlen := by decide
 hmod := mod_dec (by decide) (by decide)
theorem E2_6_irr : irrB E2_6.p E2_6.m (fun i => E2_6.mod.getD i 0) = true := irr_dec (by decide +kernel) (by decide)
theorem E2_6_1 (F : FD) (hp : 2 = F.p) (hm : 6 = F.m) : ∃ u w : R F.toDesc, DuP F 1 6 u w := du_of E2_6 E2_6_irr F hp hm (u := 32) (w := 46) (by decide) (by decide) (by decide +kernel)
theorem E2_6_2 (F : FD) (hp : 2 = F.p) (hm : 6 = F.m) : ∃ u w : R F.toDesc, DuP F 2 3 u w := du_of E2_6 E2_6_irr F hp hm (u := 2) (w := 12) (by decide) (by decide) (by decide +kernel)
theorem E2_6_3 (F : FD) (hp : 2 = F.p) (hm : 6 = F.m) : ∃ u w : R F.toDesc, DuP F 3 2 u w := du_of E2_6 E2_6_irr F hp hm (u := 2) (w := 48) (by decide) (by decide) (by decide +kernel)
def E2_7 : Desc where
 p := 2
 m := 7
 mod := [1, 1, 0, 0, 0, 0, 0]
 hp := prime_dec (by decide) (by decide)
 m1 := by decide
 m8 := by decide
 hq := by decide
 hlen := by decide
 hmod := mod_dec (by decide) (by decide)
theorem E2_7_irr : irrB E2_7.p E2_7.m (fun i => E2_7.mod.getD i 0) = true := irr_dec (by decide +kernel) (by decide)
theorem E2_7_1 (F : FD) (hp : 2 = F.p) (hm : 7 = F.m) : ∃ u w : R F.toDesc, DuP F 1 7 u w := du_of E2_7 E2_7_irr F hp hm (u := 9) (w := 35) (by decide) (by decide) (by decide +kernel)
def E2_8 : Desc where
 p := 2
 m := 8
 mod := [1, 1, 0, 1, 1, 0, 0, 0]
 hp := prime_dec (by decide) (by decide)
 m1 := by decide
 m8 := by decide
 hq := by decide
 hlen := by decide
 hmod := mod_dec (by decide) (by decide)
theorem E2_8_irr : irrB E2_8.p E2_8.m (fun i => E2_8.mod.getD i 0) = true := irr_dec (by decide +kernel) (by decide)
theorem E2_8_1 (F : FD) (hp : 2 = F.p) (hm : 8 = F.m) : ∃ u w : R F.toDesc, DuP F 1 8 u w := du_of E2_8 E2_8_irr F hp hm (u := 32) (w := 52) (by decide) (by decide) (by decide +kernel)
theorem E2_8_2 (F : FD) (hp : 2 = F.p) (hm : 8 = F.m) : ∃ u w : R F.toDesc, DuP F 2 4 u w := du_of E2_8 E2_8_irr F hp hm (u := 2) (w := 14) (by decide) (by decide) (by decide +kernel)
theorem E2_8_4 (F : FD) (hp : 2 = F.p) (hm : 8 = F.m) : ∃ u w : R F.toDesc, DuP F 4 2 u w := du_of E2_8 E2_8_irr F hp hm (u := 2) (w := 121) (by decide) (by decide) (by decide +kernel)
def E3_2 : Desc where
 p := 3
 m := 2
 mod := [1, 0]
 hp := prime_dec (by decide) (by decide)
 m1 := by decide
 m8 := by decide
 hq := by decide
 hlen := by decide
 hmod := mod_dec (by decide) (by decide)
theorem E3_2_irr : irrB E3_2.p E3_2.m (fun i => E3_2.mod.getD i 0) = true := irr_dec (by decide +kernel) (by decide)
theorem E3_2_1 (F : FD) (hp : 3 = F.p) (hm : 2 = F.m) : ∃ u w : R F.toDesc, DuP F 1 2 u w := du_of E3_2 E3_2_irr F hp hm (u := 4) (w := 7) (by decide) (by decide) (by decide +kernel)
def E3_3 : Desc where
 p := 3
 m := 3
 mod := [1, 2, 0]
 hp := prime_dec (by decide) (by decide)
 m1 := by decide
 m8 := by decide
 hq := by decide
 hlen := by decide
 hmod := mod_dec (by decide) (by decide)
theorem E3_3_irr : irrB E3_3.p E3_3.m (fun i => E3_3.mod.getD i 0) = true := irr_dec (by decide +kernel) (by decide)
theorem E3_3_1 (F : FD) (hp : 3 = F.p) (hm : 3 = F.m) : ∃ u w : R F.toDesc, DuP F 1 3 u w := du_of E3_3 E3_3_irr F hp hm (u := 9) (w := 10) (by decide) (by decide) (by decide +kernel)
def E3_4 : Desc where
 p := 3
 m := 4
 mod := [2, 1, 0, 0]
 hp := prime_dec (by decide) (by decide)
 m1 := by decide
 m8 := by decide
 hq := by decide
 hlen := by decide
 hmod := mod_dec (by decide) (by decide)
theorem E3_4_irr : irrB E3_4.p E3_4.m (fun i => E3_4.mod.getD i 0) = true := irr_dec (by decide +kernel) (by decide)
theorem E3_4_1 (F : FD) (hp : 3 = F.p) (hm : 4 = F.m) : ∃ u w : R F.toDesc, DuP F 1 4 u w := du_of E3_4 E3_4_irr F hp hm (u := 4) (w := 7) (by decide) (by decide) (by decide +kernel)
theorem E3_4_2 (F : FD) (hp : 3 = F.p) (hm : 4 = F.m) : ∃ u w : R F.toDesc, DuP F 2 2 u w := du_of E3_4 E3_4_irr F hp hm (u := 3) (w := 63) (by decide) (by decide) (by decide +kernel)
def E3_5 : Desc where
 p := 3
 m := 5
 mod := [1, 2, 0, 0, 0]
 hp := prime_dec (by decide) (by decide)
 m1 := by decide
 m8 := by decide
 hq := by decide
 hlen := by decide
 hmod := mod_dec (by decide) (by decide)
theorem E3_5_irr : irrB E3_5.p E3_5.m (fun i => E3_5.mod.getD i 0) = true := irr_dec (by decide +kernel) (by decide)
theorem E3_5_1 (F : FD) (hp : 3 = F.p) (hm : 5 = F.m) : ∃ u w : R F.toDesc, DuP F 1 5 u w := du_of E3_5 E3_5_irr F hp hm (u := 4) (w := 171) (by decide) (by decide) (by decide +kernel)
def E5_2 : Desc where
 p := 5
 m := 2
 mod := [2, 0]
 hp := prime_dec (by decide) (by decide)
 m1 := by decide
 m8 := by decide
 hq := by decide
 hlen := by decide
 hmod := mod_dec (by decide) (by decide)
theorem E5_2_irr : irrB E5_2.p E5_2.m (fun i => E5_2.mod.getD i 0) = true := irr_dec (by decide +kernel) (by decide)
theorem E5_2_1 (F : FD) (hp : 5 = F.p) (hm : 2 = F.m) : ∃ u w : R F.toDesc, DuP F 1 2 u w := du_of E5_2 E5_2_irr F hp hm (u := 6) (w := 19) (by decide) (by decide) (by decide +kernel)
def E5_3 : Desc where
 p := 5
 m := 3
 mod := [1, 1, 0]
 hp := prime_dec (by decide) (by decide)
 m1 := by decide
 m8 := by decide
 hq := by decide
 hlen := by decide
 hmod := mod_dec (by decide) (by decide)
theorem E5_3_irr : irrB E5_3.p E5_3.m (fun i => E5_3.mod.getD i 0) = true := irr_dec (by decide +kernel) (by decide)
theorem E5_3_1 (F : FD) (hp : 5 = F.p) (hm : 3 = F.m) : ∃ u w : R F.toDesc, DuP F 1 3 u w := du_of E5_3 E5_3_irr F hp hm (u := 6) (w := 19) (by decide) (by decide) (by decide +kernel)
def E7_2 : Desc where
 p := 7
 m := 2
 mod := [1, 0]
 hp := prime_dec (by decide) (by decide)
 m1 := by decide
 m8 := by decide
 hq := by decide
 hlen := by decide
 hmod := mod_dec (by decide) (by decide)
theorem E7_2_irr : irrB E7_2.p E7_2.m (fun i => E7_2.mod.getD i 0) = true := irr_dec (by decide +kernel) (by decide)
theorem E7_2_1 (F : FD) (hp : 7 = F.p) (hm : 2 = F.m) : ∃ u w : R F.toDesc, DuP F 1 2 u w := du_of E7_2 E7_2_irr F hp hm (u := 8) (w := 37) (by decide) (by decide) (by decide +kernel)
def E11_2 : Desc where
 p := 11
 m := 2
 mod := [1, 0]
 hp := prime_dec (by decide) (by decide)
 m1 := by decide
 m8 := by decide
 hq := by decide
 hlen := by decide
 hmod := mod_dec (by decide) (by decide)
theorem E11_2_irr : irrB E11_2.p E11_2.m (fun i => E11_2.mod.getD i 0) = true := irr_dec (by decide +kernel) (by decide)
theorem E11_2_1 (F : FD) (hp : 11 = F.p) (hm : 2 = F.m) : ∃ u w : R F.toDesc, DuP F 1 2 u w := du_of E11_2 E11_2_irr F hp hm (u := 12) (w := 91) (by decide) (by decide) (by decide +kernel)
def E13_2 : Desc where
 p := 13
 m := 2
 mod := [2, 0]
 hp := prime_dec (by decide) (by decide)
 m1 := by decide
 m8 := by decide
 hq := by decide
 hlen := by decide
 hmod := mod_dec (by decide) (by decide)
theorem E13_2_irr : irrB E13_2.p E13_2.m (fun i => E13_2.mod.getD i 0) = true := irr_dec (by decide +kernel) (by decide)
theorem E13_2_1 (F : FD) (hp : 13 = F.p) (hm : 2 = F.m) : ∃ u w : R F.toDesc, DuP F 1 2 u w := du_of E13_2 E13_2_irr F hp hm (u := 14) (w := 114) (by decide) (by decide) (by decide +kernel)
theorem div_cases : ∀ M d n : Fin 9, 2 ≤ M.val → M.val = d.val * n.val → 2 ≤ n.val → (M.val = 2 ∧ d.val = 1 ∧ n.val = 2) ∨ (M.val = 3 ∧ d.val = 1 ∧ n.val = 3) ∨ (M.val = 4 ∧ d.val = 1 ∧ n.val = 4) ∨ (M.val = 4 ∧ d.val = 2 ∧ n.val = 2) ∨ (M.val = 5 ∧ d.val = 1 ∧ n.val = 5) ∨ (M.val = 6 ∧ d.val = 1 ∧ n.val = 6) ∨ (M.val = 6 ∧ d.val = 2 ∧ n.val = 3) ∨ (M.val = 6 ∧ d.val = 3 ∧ n.val = 2) ∨ (M.val = 7 ∧ d.val = 1 ∧ n.val = 7) ∨ (M.val = 8 ∧ d.val = 1 ∧ n.val = 8) ∨ (M.val = 8 ∧ d.val = 2 ∧ n.val = 4) ∨ (M.val = 8 ∧ d.val = 4 ∧ n.val = 2) := by decide +kernel
set_option maxHeartbeats 4000000 in
theorem normal_ex (F : FD) {d : Nat} (hd : d ∣ F.m) (h1 : 1 ≤ d) : ∃ u : R F.toDesc, IndS d (F.m / d) fun i => frob (d * i) u := by
 obtain ⟨n, hn⟩ := hd
 have hm1 := F.m1
 have hn1 : 1 ≤ n := Nat.pos_of_ne_zero fun e => by rw [e, Nat.mul_zero] at hn; omega
 have hq : F.p ^ F.m ≤ 256 := F.hq
 have hm8 := F.m8
 have hp2 := F.p2
 have hpr := F.hp
 rw [hn, Nat.mul_div_cancel_left _ h1]
 by_cases e1 : n = 1
 ·subst e1
  refine ⟨1, fun c _ hz j hj => ?_⟩
  obtain rfl : j = 0 := by omega
  rw [rsum_succ, rsum_zero, zero_add] at hz
  have hz2 : c 0 * frob (d * 0) 1 = 0 := hz
  rwa [frob_one, mul_one] at hz2
 ·have hdu : ∃ u w : R F.toDesc, DuP F d n u w := by
   have hm2 : 2 ≤ F.m := by rw [hn]; exact Nat.le_trans (by omega : 2 ≤ 1 * n) (Nat.mul_le_mul_right n h1)
   have hp16 : F.p ≤ 16 := by
    have h3 := Nat.pow_le_pow_right (n := F.p) (by omega) hm2
    rw [Nat.pow_two] at h3
    refine Nat.le_of_not_lt fun h => ?_
    have h4 : 17 * 17 ≤ F.p * F.p := Nat.mul_le_mul h h
    omega
   have hdm : d ≤ F.m := by rw [hn]; exact Nat.le_trans (by omega : d ≤ d * 1) (Nat.mul_le_mul_left d hn1)
   have hnm : n ≤ F.m := by rw [hn]; exact Nat.le_trans (by omega : n ≤ 1 * n) (Nat.mul_le_mul_right n h1)
   obtain ⟨P, hP⟩ : ∃ P, P = F.p := ⟨_, rfl⟩
   obtain ⟨M, hM⟩ : ∃ M, M = F.m := ⟨_, rfl⟩
   rw [← hP, ← hM] at hq
   rw [← hP] at hp16 hp2 hpr
   rw [← hM] at hm8 hm2 hdm hnm hn
   have hPs : P = 2 ∨ P = 3 ∨ P = 5 ∨ P = 7 ∨ P = 11 ∨ P = 13 := by
    have key : ∀ k : Fin 17, k.val = P → P = 2 ∨ P = 3 ∨ P = 5 ∨ P = 7 ∨ P = 11 ∨ P = 13 := fun k hk => by
     have h2 := hpr.2 2
     have h3 := hpr.2 3
     have hk2 := k.2
     rcases (by omega : P = 2 ∨ P = 3 ∨ P = 5 ∨ P = 7 ∨ P = 11 ∨ P = 13 ∨ P = 4 ∨ P = 6 ∨ P = 8 ∨ P = 9 ∨ P = 10 ∨ P = 12 ∨ P = 14 ∨ P = 15 ∨ P = 16) with e | e | e | e | e | e | e | e | e | e | e | e | e | e | e
     all_goals first
      | omega
      | (exfalso; rw [e] at h2; have := h2 (by decide); omega)
      | (exfalso; rw [e] at h3; have := h3 (by decide); omega)
    exact key ⟨P, by omega⟩ rfl
   rcases hPs with rfl | rfl | rfl | rfl | rfl | rfl
   ·have hMx : M ≤ 8 := Nat.le_of_not_lt fun h => by
     have h5 := Nat.pow_le_pow_right (n := 2) (by decide) h
     have h6 : 2 ^ (8 + 1) ≤ 2 ^ M := h5
     have h7 : 256 < 2 ^ (8 + 1) := by decide
     omega
    have hc := div_cases ⟨M, by omega⟩ ⟨d, by omega⟩ ⟨n, by omega⟩ hm2 hn (by show 2 ≤ n; omega)
    dsimp only at hc
    rcases hc with ⟨rfl, rfl, rfl⟩ | ⟨rfl, rfl, rfl⟩ | ⟨rfl, rfl, rfl⟩ | ⟨rfl, rfl, rfl⟩ | ⟨rfl, rfl, rfl⟩ | ⟨rfl, rfl, rfl⟩ | ⟨rfl, rfl, rfl⟩ | ⟨rfl, rfl, rfl⟩ | ⟨rfl, rfl, rfl⟩ | ⟨rfl, rfl, rfl⟩ | ⟨rfl, rfl, rfl⟩ | ⟨rfl, rfl, rfl⟩
    ·exact E2_2_1 F hP hM
    ·exact E2_3_1 F hP hM
    ·exact E2_4_1 F hP hM
    ·exact E2_4_2 F hP hM
    ·exact E2_5_1 F hP hM
    ·exact E2_6_1 F hP hM
    ·exact E2_6_2 F hP hM
    ·exact E2_6_3 F hP hM
    ·exact E2_7_1 F hP hM
    ·exact E2_8_1 F hP hM
    ·exact E2_8_2 F hP hM
    ·exact E2_8_4 F hP hM
   ·have hMx : M ≤ 5 := Nat.le_of_not_lt fun h => by
     have h5 := Nat.pow_le_pow_right (n := 3) (by decide) h
     have h6 : 3 ^ (5 + 1) ≤ 3 ^ M := h5
     have h7 : 256 < 3 ^ (5 + 1) := by decide
     omega
    have hc := div_cases ⟨M, by omega⟩ ⟨d, by omega⟩ ⟨n, by omega⟩ hm2 hn (by show 2 ≤ n; omega)
    dsimp only at hc
    rcases hc with ⟨rfl, rfl, rfl⟩ | ⟨rfl, rfl, rfl⟩ | ⟨rfl, rfl, rfl⟩ | ⟨rfl, rfl, rfl⟩ | ⟨rfl, rfl, rfl⟩ | ⟨rfl, rfl, rfl⟩ | ⟨rfl, rfl, rfl⟩ | ⟨rfl, rfl, rfl⟩ | ⟨rfl, rfl, rfl⟩ | ⟨rfl, rfl, rfl⟩ | ⟨rfl, rfl, rfl⟩ | ⟨rfl, rfl, rfl⟩
    ·exact E3_2_1 F hP hM
    ·exact E3_3_1 F hP hM
    ·exact E3_4_1 F hP hM
    ·exact E3_4_2 F hP hM
    ·exact E3_5_1 F hP hM
    ·omega
    ·omega
    ·omega
    ·omega
    ·omega
    ·omega
    ·omega
   ·have hMx : M ≤ 3 := Nat.le_of_not_lt fun h => by
     have h5 := Nat.pow_le_pow_right (n := 5) (by decide) h
     have h6 : 5 ^ (3 + 1) ≤ 5 ^ M := h5
     have h7 : 256 < 5 ^ (3 + 1) := by decide
     omega
    have hc := div_cases ⟨M, by omega⟩ ⟨d, by omega⟩ ⟨n, by omega⟩ hm2 hn (by show 2 ≤ n; omega)
    dsimp only at hc
    rcases hc with ⟨rfl, rfl, rfl⟩ | ⟨rfl, rfl, rfl⟩ | ⟨rfl, rfl, rfl⟩ | ⟨rfl, rfl, rfl⟩ | ⟨rfl, rfl, rfl⟩ | ⟨rfl, rfl, rfl⟩ | ⟨rfl, rfl, rfl⟩ | ⟨rfl, rfl, rfl⟩ | ⟨rfl, rfl, rfl⟩ | ⟨rfl, rfl, rfl⟩ | ⟨rfl, rfl, rfl⟩ | ⟨rfl, rfl, rfl⟩
    ·exact E5_2_1 F hP hM
    ·exact E5_3_1 F hP hM
    ·omega
    ·omega
    ·omega
    ·omega
    ·omega
    ·omega
    ·omega
    ·omega
    ·omega
    ·omega
   ·have hMx : M ≤ 2 := Nat.le_of_not_lt fun h => by
     have h5 := Nat.pow_le_pow_right (n := 7) (by decide) h
     have h6 : 7 ^ (2 + 1) ≤ 7 ^ M := h5
     have h7 : 256 < 7 ^ (2 + 1) := by decide
     omega
    have hc := div_cases ⟨M, by omega⟩ ⟨d, by omega⟩ ⟨n, by omega⟩ hm2 hn (by show 2 ≤ n; omega)
    dsimp only at hc
    rcases hc with ⟨rfl, rfl, rfl⟩ | ⟨rfl, rfl, rfl⟩ | ⟨rfl, rfl, rfl⟩ | ⟨rfl, rfl, rfl⟩ | ⟨rfl, rfl, rfl⟩ | ⟨rfl, rfl, rfl⟩ | ⟨rfl, rfl, rfl⟩ | ⟨rfl, rfl, rfl⟩ | ⟨rfl, rfl, rfl⟩ | ⟨rfl, rfl, rfl⟩ | ⟨rfl, rfl, rfl⟩ | ⟨rfl, rfl, rfl⟩
    ·exact E7_2_1 F hP hM
    ·omega
    ·omega
    ·omega
    ·omega
    ·omega
    ·omega
    ·omega
    ·omega
    ·omega
    ·omega
    ·omega
   ·have hMx : M ≤ 2 := Nat.le_of_not_lt fun h => by
     have h5 := Nat.pow_le_pow_right (n := 11) (by decide) h
     have h6 : 11 ^ (2 + 1) ≤ 11 ^ M := h5
     have h7 : 256 < 11 ^ (2 + 1) := by decide
     omega
    have hc := div_cases ⟨M, by omega⟩ ⟨d, by omega⟩ ⟨n, by omega⟩ hm2 hn (by show 2 ≤ n; omega)
    dsimp only at hc
    rcases hc with ⟨rfl, rfl, rfl⟩ | ⟨rfl, rfl, rfl⟩ | ⟨rfl, rfl, rfl⟩ | ⟨rfl, rfl, rfl⟩ | ⟨rfl, rfl, rfl⟩ | ⟨rfl, rfl, rfl⟩ | ⟨rfl, rfl, rfl⟩ | ⟨rfl, rfl, rfl⟩ | ⟨rfl, rfl, rfl⟩ | ⟨rfl, rfl, rfl⟩ | ⟨rfl, rfl, rfl⟩ | ⟨rfl, rfl, rfl⟩
    ·exact E11_2_1 F hP hM
    ·omega
    ·omega
    ·omega
    ·omega
    ·omega
    ·omega
    ·omega
    ·omega
    ·omega
    ·omega
    ·omega
   ·have hMx : M ≤ 2 := Nat.le_of_not_lt fun h => by
     have h5 := Nat.pow_le_pow_right (n := 13) (by decide) h
     have h6 : 13 ^ (2 + 1) ≤ 13 ^ M := h5
     have h7 : 256 < 13 ^ (2 + 1) := by decide
     omega
    have hc := div_cases ⟨M, by omega⟩ ⟨d, by omega⟩ ⟨n, by omega⟩ hm2 hn (by show 2 ≤ n; omega)
    dsimp only at hc
    rcases hc with ⟨rfl, rfl, rfl⟩ | ⟨rfl, rfl, rfl⟩ | ⟨rfl, rfl, rfl⟩ | ⟨rfl, rfl, rfl⟩ | ⟨rfl, rfl, rfl⟩ | ⟨rfl, rfl, rfl⟩ | ⟨rfl, rfl, rfl⟩ | ⟨rfl, rfl, rfl⟩ | ⟨rfl, rfl, rfl⟩ | ⟨rfl, rfl, rfl⟩ | ⟨rfl, rfl, rfl⟩ | ⟨rfl, rfl, rfl⟩
    ·exact E13_2_1 F hP hM
    ·omega
    ·omega
    ·omega
    ·omega
    ·omega
    ·omega
    ·omega
    ·omega
    ·omega
    ·omega
    ·omega
  obtain ⟨u, w, h⟩ := hdu
  exact ⟨u, h.ind hn.symm hn1⟩
end Go.Proofs.YtakonlfojblcmaaGreat

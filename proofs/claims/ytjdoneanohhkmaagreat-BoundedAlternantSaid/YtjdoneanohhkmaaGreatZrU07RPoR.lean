/- Plain algebra: a field of P^d elements has an image in each field of P^M elements with d dividing M. No Go here. The image of one field in another: the numbers that the program computes. Plain law of layer 5: At, Add, Scale, Sub, Power over lists; the step of a division. No Go here. The program's Roots: a range over a function. -/
import Derived.Test.YtjdoneanohhkmaaGreatZrU07RP1
import Derived.Test.YtjdoneanohhkmaaGreatZrU07RFrR
import Derived.Test.YtjdoneanohhkmaaGreatZrU07RTowE
namespace Cw
open CField (inv)
section
variable {F : FD}
theorem nsm_modp {p : Nat} (hc : nsm p (1 : R F.toDesc) = 0) (n : Nat) : nsm (n % p) (1 : R F.toDesc) = nsm n 1 := by
 conv => rhs; rw [← Nat.div_add_mod n p]
 rw [nsm_add,nsm_dvd hc (Nat.dvd_mul_right p (n / p)),zero_add]
variable {p : Nat} [NeZero p]
def kz (F : FD) (a : Zp p) : R F.toDesc := nsm a.val 1
theorem kz_add (hc : nsm p (1 : R F.toDesc) = 0) (a b : Zp p) : kz F (a + b) = kz F a + kz F b := by
 unfold kz; rw [Zp.add_val,nsm_modp hc,nsm_add]
theorem kz_mul (hc : nsm p (1 : R F.toDesc) = 0) (a b : Zp p) : kz F (a * b) = kz F a * kz F b := by
 unfold kz; rw [Zp.mul_val,nsm_modp hc,nsm_nsm,nsm_mul]
theorem kz_zero : kz F (0 : Zp p) = 0 := by unfold kz; rw [Zp.zero_val]; rfl
theorem kz_neg (hc : nsm p (1 : R F.toDesc) = 0) (a : Zp p) : kz F (-a) = - kz F a := neg_unique (by rw [← kz_add hc,add_neg,kz_zero])
theorem kz_sub (hc : nsm p (1 : R F.toDesc) = 0) (a b : Zp p) : kz F (a - b) = kz F a - kz F b := by rw [sub_d,kz_add hc,kz_neg hc,sub_d]
theorem kz_one (h2 : 2 ≤ p) : kz F (1 : Zp p) = 1 := by
 unfold kz;rw [show (1 : Zp p).val = 1 from by rw [← zp_one,zp_val,Nat.mod_eq_of_lt (by omega)],nsm_one]
theorem kz_rsum (hc : nsm p (1 : R F.toDesc) = 0) (n : Nat) (f : Nat → Zp p) : kz F (rsum n f) = rsum n fun i => kz F (f i) := by
 induction n with
 | zero => exact kz_zero
 | succ n ih => rw [rsum_succ,rsum_succ,kz_add hc,ih]
end
section
variable {S F : FD}
def phi (S F : FD) (r : R F.toDesc) (u : R S.toDesc) : R F.toDesc := rsum S.m fun i => kz F (u.v i) * pw r i
def muV (S F : FD) (r : R F.toDesc) : R F.toDesc := pw r S.m + rsum S.m fun i => kz F (S.c i) * pw r i
theorem phi_T (hc : nsm S.p (1 : R F.toDesc) = 0) (r : R F.toDesc) (u : R S.toDesc) : phi S F r (T u) = r * phi S F r u - kz F (u.v (S.m - 1)) * muV S F r := by
 obtain ⟨m',hm'⟩ : ∃ m',S.m = m' + 1 := ⟨S.m - 1,by have := S.m1; omega⟩;unfold phi muV;have h1 : rsum S.m (fun i => kz F ((T u).v i) * pw r i) = rsum S.m (fun i => (if i = 0 then 0 else kz F (u.v (i - 1))) * pw r i) - kz F (u.v (S.m - 1)) * rsum S.m (fun i => kz F (S.c i) * pw r i) := by
  rw [← rsum_mul_left,← rsum_sub];refine rsum_congr fun i hi => ?_
  rw [T_v hi,kz_sub hc,kz_mul hc,sub_mul,mul_a]
  congr 2
  by_cases e : i = 0
  ·rw [if_pos e,if_pos e]; exact kz_zero
  ·rw [if_neg e,if_neg e]
 rw [h1,hm',rsum_succ_left,if_pos rfl,zero_mul,zero_add,Nat.add_sub_cancel,rsum_succ m' (fun i => kz F (u.v i) * pw r i),mul_add,mul_add,
  show r * rsum m' (fun i => kz F (u.v i) * pw r i) = rsum m' (fun i => (if i + 1 = 0 then 0 else kz F (u.v (i + 1 - 1))) * pw r (i + 1)) from by
   rw [← rsum_mul_left];exact rsum_congr fun i _ => by rw [if_neg (by omega),Nat.add_sub_cancel,pw_succ',mul_lc]]
 rw [show r * (kz F (u.v m') * pw r m') = kz F (u.v m') * pw r (m' + 1) from by rw [pw_succ',mul_lc]];simp only [sub_d,neg_add_d];rw [add_a,← add_a (kz F (u.v m') * pw r (m' + 1)),add_neg,zero_add]
theorem Tn_succ_T (n : Nat) (u : R S.toDesc) : Tn (n + 1) u = T (Tn n u) := by
 first
 | rfl
 | exact Tn_T n u
theorem phi_Tn (hc : nsm S.p (1 : R F.toDesc) = 0) {r : R F.toDesc} (h0 : muV S F r = 0) (u : R S.toDesc) : ∀ n,phi S F r (Tn n u) = pw r n * phi S F r u
 | 0 => by rw [pw_zero,one_mul]; rfl
 | n + 1 => by rw [Tn_succ_T,phi_T hc,h0,mul_zero,sub_zero,phi_Tn hc h0 u n,pw_succ',mul_a]
theorem phi_add (hc : nsm S.p (1 : R F.toDesc) = 0) (r : R F.toDesc) (u w : R S.toDesc) : phi S F r (u + w) = phi S F r u + phi S F r w := by
 unfold phi;rw [← rsum_add];exact rsum_congr fun i _ => by rw [add_v,kz_add hc,add_mul]
theorem phi_mul (hc : nsm S.p (1 : R F.toDesc) = 0) {r : R F.toDesc} (h0 : muV S F r = 0) (u w : R S.toDesc) : phi S F r (u * w) = phi S F r u * phi S F r w := by
 have h1 : phi S F r (u * w) = rsum S.m fun j => rsum S.m fun i => kz F (u.v i) * (kz F ((Tn i w).v j) * pw r j) := by
  unfold phi;refine rsum_congr fun j hj => ?_
  rw [mul_v u w hj,kz_rsum hc,← rsum_mul_right];exact rsum_congr fun i _ => by rw [kz_mul hc,mul_a]
 rw [h1,rsum_swap];have h2 : ∀ i,(rsum S.m fun j => kz F (u.v i) * (kz F ((Tn i w).v j) * pw r j)) = kz F (u.v i) * pw r i * phi S F r w := fun i => by
  rw [rsum_mul_left,mul_a,← phi_Tn hc h0 w i]; rfl
 rw [rsum_congr fun i _ => h2 i,rsum_mul_right];rfl
theorem phi_one (r : R F.toDesc) : phi S F r 1 = 1 := by
 have h1 := S.m1;unfold phi;rw [rsum_single (k := 0) (by omega) fun i hi hne => by rw [one_v hi,if_neg hne,kz_zero,zero_mul],one_v (by omega),if_pos rfl,kz_one S.p2,pw_zero,one_mul]
theorem phi_zero (r : R F.toDesc) : phi S F r 0 = 0 := by
 unfold phi;exact rsum_eq_zero fun i _ => by rw [zero_v,kz_zero,zero_mul]
theorem phi_pw (hc : nsm S.p (1 : R F.toDesc) = 0) {r : R F.toDesc} (h0 : muV S F r = 0) (u : R S.toDesc) : ∀ n,phi S F r (pw u n) = pw (phi S F r u) n
 | 0 => phi_one r
 | n + 1 => by rw [pw_succ,phi_mul hc h0,phi_pw hc h0 u n,pw_succ]
theorem phi_inj (hc : nsm S.p (1 : R F.toDesc) = 0) {r : R F.toDesc} (h0 : muV S F r = 0) {u w : R S.toDesc} (h : phi S F r u = phi S F r w) : u = w := by
 refine Classical.byContradiction fun hne => ?_
 obtain ⟨y,hy⟩ := S.inv_ex (u + -w) (fun e => hne (by rw [show u = u + -w + w from by rw [add_a,neg_add,add_zero],e,zero_add]));have h2 : phi S F r (u + -w) = 0 := by
  have h3 := phi_add hc r (u + -w) w;rw [add_a,neg_add,add_zero,h] at h3;exact (add_right_cancel (show 0 + phi S F r w = phi S F r (u + -w) + phi S F r w from by rw [zero_add]; exact h3)).symm
 have h4 := phi_mul hc h0 (u + -w) y;rw [hy,phi_one,h2,zero_mul] at h4;exact one_ne h4
theorem phi_sub (hp : S.p = F.p) (hc : nsm S.p (1 : R F.toDesc) = 0) {r : R F.toDesc} (h0 : muV S F r = 0) (u : R S.toDesc) : InSub S.m (phi S F r u) := by
 show pw (phi S F r u) (F.p ^ S.m) = phi S F r u
 rw [← hp,← phi_pw hc h0]
 congr 1
 exact pw_q (F := R S.toDesc) u

def glE (S F : FD) : Nat → List (R F.toDesc)
 | 0 => []
 | n + 1 => kz F ((Tn n (1 : R S.toDesc)).v (S.m - 1)) :: glE S F n
theorem glE_length (n : Nat) : (glE S F n).length = n := by
 induction n with
 | zero => rfl
 | succ n ih => show (glE S F n).length + 1 = _; rw [ih]
theorem phi_gl (hc : nsm S.p (1 : R F.toDesc) = 0) (x : R F.toDesc) : ∀ n,phi S F x (Tn n 1) = pw x n - muV S F x * pev (glE S F n) x
 | 0 => by
  show phi S F x 1 = 1 - muV S F x * 0
  rw [phi_one,mul_zero,sub_zero]
 | n + 1 => by
  rw [Tn_succ_T,phi_T hc,phi_gl hc x n,pw_succ']
  show _ = x * pw x n - muV S F x * (kz F ((Tn n (1 : R S.toDesc)).v (S.m - 1)) + x * pev (glE S F n) x)
  rw [mul_sub,mul_add,mul_c (muV S F x) (kz F _),mul_lc (muV S F x) x];simp only [sub_d,neg_add_d]
  ac_rfl
theorem Tn_pw (n : Nat) : Tn n (1 : R S.toDesc) = pw (T 1) n := by
 induction n with
 | zero => rfl
 | succ n ih => rw [Tn_succ_T,T_eq,ih,pw_succ]
theorem glE_get (n i : Nat) (h : i < n) : (glE S F n)[i]? = some (kz F ((Tn (n - 1 - i) (1 : R S.toDesc)).v (S.m - 1))) := by
 induction n generalizing i with
 | zero => omega
 | succ n ih =>
  cases i with
  | zero => rfl
  | succ i =>
   show (glE S F n)[i]? = _
   rw [ih i (by omega),show n + 1 - 1 - (i + 1) = n - 1 - i by omega]
theorem root_ex (hp : S.p = F.p) (hc : nsm S.p (1 : R F.toDesc) = 0) (hd : S.m ∣ F.m) : ∃ x : R F.toDesc,muV S F x = 0 := by
 refine Classical.byContradiction fun hno => ?_
 have hm1 := S.m1;have hq : 2 ≤ S.q := S.toDesc.q2;have hqd : S.m < S.q := by
  have h2 := S.p2;have h3 : ∀ m,m < 2 ^ m := fun m => Nat.lt_two_pow_self
  have h4 : 2 ^ S.m ≤ S.p ^ S.m := Nat.pow_le_pow_left h2 _;exact Nat.lt_of_lt_of_le (h3 S.m) h4
 have hT : Tn S.q (1 : R S.toDesc) = Tn 1 1 := by rw [Tn_pw,Tn_pw,pw_one]; exact pw_q (F := R S.toDesc) _
 have hcnt := sub_count (F := R F.toDesc) (d := S.m) hd hm1;obtain ⟨q',hq'⟩ : ∃ q',S.q = q' + 1 := ⟨S.q - 1,by omega⟩;have hfix : ∀ x : R F.toDesc,frob S.m x = x → pw x S.q = x := fun x hx => by
  have h1 : pw x (F.p ^ S.m) = x := hx;rw [← hp] at h1;exact h1
 have key := pev_roots (((List.range (FF.q (R F.toDesc))).filter fun n => decide (frob S.m (FF.el n : R F.toDesc) = FF.el n)).map fun n => (FF.el n : R F.toDesc))
  ((kz F ((Tn q' (1 : R S.toDesc)).v (S.m - 1)) + -(kz F ((1 : R S.toDesc).v (S.m - 1)))) :: glE S F q') ?_ ?_ ?_
 ·have h1 := key _ (List.mem_cons_of_mem _ (List.mem_of_getElem? (glE_get (S := S) (F := F) q' (q' - S.m) (by omega))));rw [show q' - 1 - (q' - S.m) = S.m - 1 by omega,show (1 : R S.toDesc) = basis S.toDesc 0 from rfl,Tn_basis (by omega),basis_v (by omega),if_pos rfl,kz_one S.p2] at h1;exact one_ne h1
 ·rw [List.length_cons,glE_length,List.length_map,hcnt]
  show q' + 1 ≤ F.p ^ S.m
  rw [← hp,← hq'];exact Nat.le_refl _
 ·refine List.pairwise_map.2 (List.Pairwise.imp_of_mem ?_ (List.Pairwise.filter _ (List.nodup_range (n := FF.q (R F.toDesc)))));intro x y hx hy hne e;have hx' := List.mem_range.1 (List.mem_filter.1 hx).1;have hy' := List.mem_range.1 (List.mem_filter.1 hy).1;have h3 := congrArg FF.code e;rw [FF.code_el x hx',FF.code_el y hy'] at h3;exact hne h3
 ·intro x hx;obtain ⟨n,hn,rfl⟩ := List.mem_map.1 hx;have hfx := hfix _ (of_decide_eq_true (List.mem_filter.1 hn).2);generalize (FF.el n : R F.toDesc) = x at *;have h1 := phi_gl (S := S) hc x S.q;have h2 := phi_gl (S := S) hc x 1;rw [hT,h2,hfx,pw_one] at h1;have h3 : muV S F x * pev (glE S F S.q) x = muV S F x * pev (glE S F 1) x := by
   have h4 := h1;rw [sub_d,sub_d] at h4;have h5 := add_left_cancel h4;rw [← neg_neg (muV S F x * pev (glE S F S.q) x),← h5,neg_neg]
  have h6 := mul_left_cancel (fun e => hno ⟨x,e⟩) h3;rw [hq'] at h6
  show kz F ((Tn q' (1 : R S.toDesc)).v (S.m - 1)) + -(kz F ((1 : R S.toDesc).v (S.m - 1))) + x * pev (glE S F q') x = 0
  have h7 : kz F ((Tn q' (1 : R S.toDesc)).v (S.m - 1)) + x * pev (glE S F q') x = kz F ((1 : R S.toDesc).v (S.m - 1)) + x * 0 := h6;rw [mul_zero,add_zero] at h7;have h8 : ∀ a b X : R F.toDesc,a + b + X = (a + X) + b := fun a b X => by ac_rfl
  rw [h8,h7,add_neg]
end
end Cw

namespace Go.Proofs.YtjdoneanohhkmaaGreat
section
open Go.RowKit Cw

theorem eli_sm (F : FD) {n : Nat} (h : n < F.p) : eli F.toDesc (n : Int) = nsm n (1 : R F.toDesc) := by
 have hq : n < F.q := by
  have h1 := Nat.pow_le_pow_right (n := F.p) (by have := F.p2; omega) F.m1;rw [Nat.pow_one] at h1;exact Nat.lt_of_lt_of_le h h1
 rw [eli_nat hq];refine R.ext' fun i hi => ?_
 rw [rel_v hi,nsm_v,one_v hi];by_cases e : i = 0
 ·rw [if_pos e,e,Nat.pow_zero,Nat.div_one,zp_nsm]
 ·rw [if_neg e,nsm_mul,mul_zero,Nat.div_eq_of_lt (Nat.lt_of_lt_of_le h (by
   have h1 := Nat.pow_le_pow_right (n := F.p) (by have := F.p2; omega) (by omega : 1 ≤ i)
   rwa [Nat.pow_one] at h1)),zp_zero]
theorem kz_di (S F : FD) (hp : S.p = F.p) (u : R S.toDesc) (i : Nat) : eli F.toDesc (di u i : Nat) = kz F (u.v i) := by
 rw [eli_sm F (by rw [← hp]; exact di_lt u i)]; rfl
theorem dl_length {D : Desc} (u : R D) : (dl u).length = D.m := lst_length _ _
theorem kz_dl (S F : FD) (hp : S.p = F.p) (u : R S.toDesc) {i : Nat} (hi : i < S.m) : eli F.toDesc ((dl u)[i]?.getD 0) = kz F (u.v i) := by
 unfold dl; rw [lst_get _ hi,kz_di S F hp]
theorem pevI_dl (S F : FD) (hp : S.p = F.p) (u : R S.toDesc) (r : R F.toDesc) : pevI F.toDesc (dl u) r = phi S F r u := by
 unfold pevI phi;rw [dl_length];exact rsum_congr fun i hi => by rw [kz_dl S F hp u hi]
theorem kz_mod (S F : FD) (hp : S.p = F.p) (j : Nat) : eli F.toDesc ((S.mod.getD j 0 : Nat) : Int) = kz F (S.c j) := by
 have h := S.hmod j;rw [eli_sm F (by rw [← hp]; exact h)];unfold kz Desc.c;rw [zp_val,Nat.mod_eq_of_lt h]
def monL (S : FD) : List Int := modL S.toDesc ++ [1]
theorem monL_length (S : FD) (hm : S.m ≠ 1) : (monL S).length = S.m + 1 := by
 unfold monL;rw [List.length_append,modL_length,S.hlen,if_neg hm]; rfl
theorem monL_low (S : FD) (hm : S.m ≠ 1) {i : Nat} (hi : i < S.m) : (monL S)[i]?.getD 0 = ((S.mod.getD i 0 : Nat) : Int) := by
 have hl : S.mod.length = S.m := by rw [S.hlen,if_neg hm]
 unfold monL;rw [List.getElem?_append_left (by rw [modL_length]; omega),modL_get _ (by omega)]
theorem monL_top (S : FD) (hm : S.m ≠ 1) : (monL S)[S.m]?.getD 0 = 1 := by
 have hl : S.mod.length = S.m := by rw [S.hlen,if_neg hm]
 unfold monL;rw [List.getElem?_append_right (by rw [modL_length]; omega),modL_length,hl,Nat.sub_self]; rfl
theorem pevI_mon (S F : FD) (hp : S.p = F.p) (hm : S.m ≠ 1) (r : R F.toDesc) : pevI F.toDesc (monL S) r = muV S F r := by
 unfold pevI muV;rw [monL_length S hm,rsum_succ,monL_top S hm,eli_one,one_mul,add_c]
 congr 1
 exact rsum_congr fun i hi => by rw [monL_low S hm hi,kz_mod S F hp]
theorem rsum_more {K : Type} [CRing K] {n m : Nat} (h : n ≤ m) (f : Nat → K) (hz : ∀ i,n ≤ i → i < m → f i = 0) : rsum m f = rsum n f := by
 obtain ⟨d,rfl⟩ : ∃ d,m = n + d := ⟨m - n,by omega⟩;rw [rsum_split,rsum_eq_zero (n := d) fun i hi => hz (n + i) (by omega) (by omega),add_zero]
theorem pevI_canI (D : FD) (p : List Int) (u : R D.toDesc) : pevI D.toDesc (canI D.toDesc p) u = pevI D.toDesc p u := by
 show rsum _ (fun i => cfR D.toDesc (canI D.toDesc p) i * pw u i) = rsum _ (fun i => cfR D.toDesc p i * pw u i)
 rw [cfR_canI,rsum_more (canI_le D.toDesc p) _ fun i h1 _ => by
  have h2 : cfR D.toDesc (canI D.toDesc p) i = 0 := cfR_out D.toDesc h1;rw [cfR_canI] at h2;rw [h2,zero_mul]]
theorem canI_mon (S F : FD) (hm : S.m ≠ 1) : canI F.toDesc (monL S) ≠ [] := by
 intro h;have h1 : cfR F.toDesc (canI F.toDesc (monL S)) S.m = 1 := by
  rw [cfR_canI]
  show eli F.toDesc ((monL S)[S.m]?.getD 0) = 1
  rw [monL_top S hm,eli_one]
 rw [h] at h1;have h2 : cfR F.toDesc [] S.m = 0 := cfR_out F.toDesc (Nat.zero_le _);rw [h2] at h1;exact one_ne h1.symm
def IsRt (S F : FD) (n : Nat) : Prop := n < F.q ∧ muV S F (rel F.toDesc n) = 0 ∧ ∀ j,j < n → muV S F (rel F.toDesc j) ≠ 0
theorem isRt_ex {S F : FD} (hp : S.p = F.p) (hd : S.m ∣ F.m) : ∃ n,IsRt S F n := by
 have hc : nsm S.p (1 : R F.toDesc) = 0 := by rw [hp]; exact char_R
 obtain ⟨x,hx⟩ := root_ex hp hc hd;have h : ∀ n,n ≤ rcode x → (∃ n,IsRt S F n) ∨ ∀ j,j < n → muV S F (rel F.toDesc j) ≠ 0 := fun n => by
  induction n with
  | zero => exact fun _ => .inr fun j hj => absurd hj (by omega)
  | succ n ih =>
   intro hn;rcases ih (by omega) with h1 | h1
   ·exact .inl h1
   ·by_cases e : muV S F (rel F.toDesc n) = 0
    ·exact .inl ⟨n,by have := rcode_lt x; omega,e,h1⟩
    ·refine .inr fun j hj => ?_
     rcases (by omega : j < n ∨ j = n) with h2 | rfl
     ·exact h1 j h2
     ·exact e
 rcases h (rcode x) (Nat.le_refl _) with h1 | h1
 ·exact h1
 ·exact ⟨rcode x,rcode_lt x,by rw [rel_rcode]; exact hx,h1⟩
theorem IsRt.uniq {S F : FD} {n m : Nat} (h1 : IsRt S F n) (h2 : IsRt S F m) : n = m := by
 rcases Nat.lt_trichotomy n m with h | h | h
 ·exact absurd h1.2.1 (h2.2.2 n h)
 ·exact h
 ·exact absurd h2.2.1 (h1.2.2 m h)
theorem isRt_one {S F : FD} (hm : S.m = 1) : IsRt S F 0 := by
 refine ⟨by have := F.toDesc.q2; omega,?_,fun j hj => absurd hj (by omega)⟩;have h0 : S.c 0 = 0 := by
  unfold Desc.c;rw [show S.mod.getD 0 0 = 0 from by
   have h1 : S.mod = [] := List.eq_nil_of_length_eq_zero (by rw [S.hlen,if_pos hm]);rw [h1]; rfl]
  exact zp_zero
 rw [rel_zero];unfold muV;rw [hm,pw_one,rsum_succ,rsum_zero,h0,kz_zero];simp only [zero_mul,add_zero]
noncomputable def embL (S F : FD) (n : Nat) : List Int := lst S.q fun x => ci (phi S F (rel F.toDesc n) (rel S.toDesc x))
theorem embL_length (S F : FD) (n : Nat) : (embL S F n).length = S.q := lst_length _ _
theorem embL_get (S F : FD) (n : Nat) {x : Nat} (h : x < S.q) : (embL S F n)[x]?.getD 0 = ci (phi S F (rel F.toDesc n) (rel S.toDesc x)) := lst_get _ h
noncomputable def rootF (D : FD) (p : List Int) (pre : List Int) : List Int := pre.filter fun x => decide (pevI D.toDesc p (eli D.toDesc x) = 0)
theorem rootF_hit (D : FD) (p pre : List Int) {x : Int} (h : pevI D.toDesc p (eli D.toDesc x) = 0) : rootF D p (pre ++ [x]) = rootF D p pre ++ [x] := by simp [rootF,h]
theorem rootF_miss (D : FD) (p pre : List Int) {x : Int} (h : ¬ pevI D.toDesc p (eli D.toDesc x) = 0) : rootF D p (pre ++ [x]) = rootF D p pre := by simp [rootF,h]
theorem rootF_none (D : FD) (p : List Int) {n : Nat} (hn : n ≤ D.q) (h : ∀ j,j < n → pevI D.toDesc p (rel D.toDesc j) ≠ 0) : rootF D p (lst n fun i => (i : Int)) = [] := by
 refine List.filter_eq_nil_iff.2 fun x hx => ?_
 obtain ⟨k,hk,rfl⟩ := List.mem_map.1 hx;have hk2 := List.mem_range.1 hk;rw [eli_nat (by omega),decide_eq_true_eq];exact h k hk2
theorem rootF_head {S F : FD} (hp : S.p = F.p) (hm : S.m ≠ 1) {n : Nat} (h : IsRt S F n) : ∃ t,rootF F (canI F.toDesc (monL S)) (lst F.q fun i => (i : Int)) = (n : Int) :: t := by
 have hv : ∀ r,pevI F.toDesc (canI F.toDesc (monL S)) r = muV S F r := fun r => by rw [pevI_canI,pevI_mon S F hp hm]
 obtain ⟨d,hd⟩ : ∃ d,F.q = n + 1 + d := ⟨F.q - n - 1,by have := h.1; omega⟩;have h1 : lst F.q (fun i => (i : Int)) = (lst n fun i => (i : Int)) ++ ((n : Int) :: (List.range d).map fun i : Nat => ((n + 1 + i : Nat) : Int)) := by
  rw [hd];unfold lst;rw [List.range_add,List.map_append,List.map_map,List.range_succ,List.map_append,List.append_assoc];rfl
 have h2 : rootF F (canI F.toDesc (monL S)) (lst n fun i => (i : Int)) = [] := rootF_none F _ (by have := h.1; omega) fun j hj => by rw [hv]; exact h.2.2 j hj
 rw [h1];unfold rootF at h2 ⊢;rw [List.filter_append,h2,List.nil_append,List.filter_cons_of_pos (by
  rw [eli_nat h.1,decide_eq_true_eq,hv]; exact h.2.1)]
 exact ⟨_,rfl⟩
end
section
open Go.RowKit Cw
open CField (inv)

theorem canI_can {D : Desc} (f : Nat → R D) (n : Nat) (h : ∀ i,n ≤ i → f i = 0) : canI D (canL (fun i => ci (f i)) n) = canL (fun i => ci (f i)) n := by
 have e := cfR_can f n h;unfold canI;rw [canL_congr (g := fun i => ci (f i)) fun i _ => by unfold cfI; rw [e]];exact (canL_more (by rw [canL_length]; exact cdeg_le _ _) fun i h1 h2 => by
  rw [canL_length] at h1;exact cdeg_zero (fun i => ci (f i)) n h1 h2).symm
theorem canI_canI (D : Desc) (p : List Int) : canI D (canI D p) = canI D p := canI_can (cfR D p) _ fun i h => cfR_out D h
theorem pevI_more (D : Desc) (p : List Int) (x : R D) {N : Nat} (h : p.length ≤ N) : rsum N (fun i => cfR D p i * pw x i) = pevI D p x := by
 rw [rsum_more h _ fun i h1 _ => by rw [cfR_out D h1,zero_mul]]; rfl
theorem can_short {D : Desc} {p : List Int} (hc : canI D p = p) {n : Nat} (h : ∀ t,n ≤ t → cfR D p t = 0) : p.length ≤ n := by
 by_cases hl : n ≤ p.length
 ·rw [← hc];unfold canI;rw [canL_more hl fun i h1 _ => by unfold cfI; rw [h i h1,ci_zero],canL_length];exact cdeg_le _ _
 ·omega
theorem can_lead {D : Desc} {p : List Int} (hc : canI D p = p) {n : Nat} (hn : p.length = n + 1) : cfR D p n ≠ 0 := fun h => by
 have := can_short hc (n := n) fun t ht => by
  by_cases e : t = n
  ·rw [e]; exact h
  ·exact cfR_out D (by omega)
 omega
end
section
open Go.RowKit Go.Shelf Cw
attribute [local go_sem] Oper.semAt_some

set_option maxRecDepth 100000 in
set_option maxHeartbeats 4000000 in
theorem pRoots_any (D : FD) (p : List Int) (A1 : Option Addr) (c1 g : Nat) (w : World) (hg : GF w w.heap.size g D) (hr1 : Rd w w.heap.size A1 p) (hl : p.length ≤ 70000) (hne : canI D.toDesc p ≠ []) :
  Calls Tryz.prog 214 #[.pointer (some ⟨g,0,none⟩),.slice A1 p.length c1] w fun e w' =>
   ∃ v,e = .returned (.tuple #[v,.int .i64 0]) ∧ Own w' w.heap.size v (rootF D (canI D.toDesc p) (upI D.q)) ∧ Below w.heap.size w w' := by
 have hC := fun W a b => gCanonP_any D p A1 c1 g W a b hl
 obtain ⟨cp,hcp⟩ : ∃ cp,cp = canI D.toDesc p := ⟨_,rfl⟩;rw [← hcp] at hC hne ⊢;unfold GivesR at hC;have hcl : cp.length ≤ 70000 := by rw [hcp]; exact Nat.le_trans (canI_le _ _) hl
 have hc0 : ((cp.length : Int) == 0) = false := by
  rw [beq_eq_false_iff_ne]; intro e;exact hne (List.eq_nil_of_length_eq_zero (by omega))
 replace hcp := Lib.hid hcp;have hB : Below w.heap.size w (w.alloc (.cells #[.pointer (some ⟨g,0,none⟩)] 105)) := (Below.refl _ _).alloc (Nat.le_refl _) _;have hC2 := Lib.hid (hC _ ((hg.below hB).more hB.size) ((hr1.below hB).more hB.size));clear hC hne;refine (callsIn_wide (n := 3)).1 ?_;refine callsIn_of_wp_marks Tryz.func214 rfl trivial ?_ rfl;simp only [Tryz.ntmps214,List.size_toArray,List.length_cons,List.length_nil,Nat.reduceAdd,Nat.reduceSub,Array.replicate_succ,Array.replicate_zero,List.push_toArray,List.append_toArray,List.nil_append,List.cons_append];have bG0 := (Boxed.new w 105 (.pointer (some ⟨g,0,none⟩)));have hmx : Tryz.prog.follows .mixedOrders = true := by kernel_rfl
 obtain ⟨i0,hi,hz0,hz1,hz2⟩ := info_parts infoInt
 gi_wp2_with (first
  | (refine ⟨trivial,?_⟩; gi_at_call 218; refine (callsIn_wide.2 hC2.out).mono ?_; rintro e w1 ⟨A,c,rfl,hrc,hcc,hcm,hAn,hb1⟩; have hs1 := hb1.size; simp only [World.size_alloc] at hs1; have bG1 : Boxed w1 w.heap.size 105 (.pointer (some ⟨g,0,none⟩)) := (hb1.block _ (by simp)).trans bG0; have cG1 := bG1.cell; have hlt1 : w.heap.size < w1.heap.size := by omega)
  | (refine ⟨trivial,?_⟩; gi_at_call 248; refine (elements_in Fence.wide _ trivial rfl g _).mono ?_; rintro e w2 ⟨rfl,rfl⟩))
 have hgl : g < w.heap.size := hg.lt;obtain ⟨W2,hW2⟩ : ∃ W2,W2 = w1.alloc (.cells #[.slice A cp.length c] 22) := ⟨_,rfl⟩;have hs2 : W2.heap.size = w1.heap.size + 1 := by rw [hW2]; simp
 have hbW2 : Below w1.heap.size w1 W2 := by rw [hW2]; exact (Below.refl _ _).alloc (Nat.le_refl _) _
 have bC2 : Boxed W2 w1.heap.size 22 (.slice A cp.length c) := by rw [hW2]; exact Boxed.new w1 _ _
 have bG2 : Boxed W2 w.heap.size 105 (.pointer (some ⟨g,0,none⟩)) := (hbW2.block _ hlt1).trans bG1;have hW1 : Below w.heap.size w w1 := hB.trans (hb1.mono hB.size);have hW02 : Below w.heap.size w W2 := hW1.trans (hbW2.mono hW1.size);have hrc2 : Rd W2 W2.heap.size A cp := (hrc.below hbW2).more hbW2.size;have hg2 : GF W2 w.heap.size g D := hg.below hW02;rw [← hW2];rw [← hs2];replace hW2 := Lib.hid hW2;have hs2' := Lib.hid hs2;have hw1W : w1.heap.size < W2.heap.size := by omega
 have hwW : w.heap.size < W2.heap.size := by omega
 clear hs2;clear hrc hcc hAn hb1 bG1 cG1 hW1 hB hC2 bG0 hbW2;have bO := Boxed.new W2 22 (.slice none 0 0);have bN := Boxed.new (W2.alloc (.cells #[.slice none 0 0] 22)) 105 (.pointer (some ⟨g,0,none⟩));rw [World.size_alloc] at bN;have hB0 : Below W2.heap.size W2 ((W2.alloc (.cells #[.slice none 0 0] 22)).alloc (.cells #[.pointer (some ⟨g,0,none⟩)] 105)) := ((Below.refl _ W2).alloc (Nat.le_refl _) _).alloc (by simp) _;have hle : w.heap.size ≤ W2.heap.size := hW02.size;refine wpIn_rangeFunc_ownG rfl (by omega) (gf := 260) (lb := #[.pointer (some ⟨W2.heap.size + 1,0,none⟩)]) rfl trivial (enters_of Tryz.func260 (by kernel_rfl) rfl)
  (elements_stops Fence.wide _ trivial rfl (by omega) (W2.heap.size + 1) W2.heap.size g D _ (by simp) (by simp; omega) (by omega) bN.cell ((hB0.cell (p := ⟨g,3,none⟩) (by simp; omega)).trans hg2.c3)) belowK_t (belowK_b (by simp; omega)) (Below.refl _ _) (fun _ => rfl)
  (fun pre W => (∃ v,Boxed W W2.heap.size 22 v ∧ W.ownsRow W2.heap.size 3 1 v (rootF D cp pre).length ((rootF D cp pre).map (Value.int .i64)) ∧ True) ∧ Below W2.heap.size W2 W)
  (fun _ _ _ => False)
  (OwnFrom.and (Own.from (holdsRow_own W2.heap.size W2.heap.size 22 3 1 (fun pre => (rootF D cp pre).length) (fun pre => (rootF D cp pre).map (Value.int .i64)) (fun _ _ => True)) _) (ownFrom_below (Nat.le_refl _) (by simp; omega)))
  (fun _ _ _ _ _ hs _ _ => hs)
  ⟨⟨_,bO.alloc _,World.ownsRow_nil _ _ _ _,trivial⟩,hB0⟩
  (fun x => { tmps := #[.pointer (some ⟨g,0,none⟩),.slice A1 p.length c1,.pointer (some ⟨w.heap.size,0,none⟩),undef,.slice none 0 0,.int .i64 0,.pointer (some ⟨w1.heap.size,0,none⟩),.pointer (some ⟨W2.heap.size,0,none⟩),.int .i64 x,.pointer (some ⟨g,0,none⟩),.slice A1 p.length c1,.slice A cp.length c,.slice A cp.length c,.int .i64 (cp.length : Nat),.bool false,.pointer (some ⟨g,0,none⟩),.func (.func 260) #[] #[.pointer (some ⟨W2.heap.size + 1,0,none⟩)],.int .i64 x,undef,undef,undef,undef,undef,undef,undef,undef,undef,undef],defers := [] }) ?assign ?body ?done ?stop
 case assign =>
  intro l x W K hK
  gi_wp2
  exact hK
 case body =>
  rintro l pre x W ⟨⟨v,hv,hrow,-⟩,hBW⟩ hlt;have hc := hv.cell;have hpl : (rootF D cp pre).length ≤ pre.length := List.length_filter_le _ _;have hq3 := D.q256;have cG2 : W.cell? ⟨w.heap.size,0,none⟩ = some (.pointer (some ⟨g,0,none⟩)) := (hBW.cell (p := ⟨w.heap.size,0,none⟩) hwW).trans bG2.cell;have cC2 : W.cell? ⟨w1.heap.size,0,none⟩ = some (.slice A cp.length c) := (hBW.cell (p := ⟨w1.heap.size,0,none⟩) hw1W).trans bC2.cell;have hgW : GF W W.heap.size g D := ((hg2.more hle).below hBW).more hBW.size;have hE := pEval_any D cp x A c g W hgW ((hrc2.below hBW).more hBW.size) (by unfold maxLen; omega);obtain ⟨y,hy⟩ : ∃ y,y = ci (pevI D.toDesc cp (eli D.toDesc x)) := ⟨_,rfl⟩;rw [← hy] at hE;have hE2 : Hid (Calls Tryz.prog 170 #[.pointer (some ⟨g,0,none⟩),.slice A cp.length c,.int .i64 x] W fun e w' => w'.cell? ⟨W2.heap.size,0,none⟩ = some v ∧ e = .returned (.int .i64 y) ∧ Hid (Below W.heap.size W w')) :=
   Lib.hid (hE.mono (by rintro e w' ⟨rfl,h3⟩; exact ⟨(h3.cell (p := ⟨W2.heap.size,0,none⟩) hv.lt).trans hc,rfl,Lib.hid h3⟩))
  clear hE hc;by_cases hfx : pevI D.toDesc cp (eli D.toDesc x) = 0
  ·have hx := Lib.hid (rootF_hit D cp pre hfx);have hz : (y == 0) = true := by rw [beq_iff_eq,hy,hfx,ci_zero]
   clear hfx hy
   gi_wp2_with (first | (refine ⟨trivial,?_⟩; gi_at_call 170; refine (CallsIn.inRound l (callsIn_wide.2 hE2.out)).mono ?_; rintro e w3 ⟨cO3,rfl,hb3⟩; have hb4 : Below W.heap.size W w3 := hb3.out; have hv3 : Boxed w3 W2.heap.size 22 v := (hb4.block _ hv.lt).trans hv; have hrow3 : w3.ownsRow W2.heap.size 3 1 v (rootF D cp pre).length ((rootF D cp pre).map (Value.int .i64)) := World.ownsRow.kept hrow (below_grown hb4 (Nat.le_refl _)) (by cases v.ownBlock <;> simp); have hko3 : KeepsOthers W w3 := KeepsOthers.of_grownBy (below_grown hb4 (Nat.le_refl _)) (fun j o ej => by cases ej); have hb5 : Below W2.heap.size W w3 := hb4.mono hBW.size; have hsz3 : W2.heap.size ≤ w3.heap.size := Nat.le_trans hBW.size hb4.size) | (gi_at_builtin; refine wpListIn_append_own _ rfl _ _ 22 rfl W2.heap.size 3 i0 (.int .i64 0) 1 8 Tryz.underlying22 hi hz0 hz1 hz2 rfl (by decide) _ _ _ rfl (hrow3.alloc _) ⟨w3.heap.size,0,none⟩ 1 1 [.int .i64 x] rfl rfl (cell_one_new _ _ _) (by simp [Value.oneCell']) (by simp only [maxLen]; omega) (by omega) (by simp; omega) ?_; intro v' w4 hown' hgrow _; obtain ⟨g',cap',rfl⟩ := ownsRow_succ hown'; obtain ⟨hv1,hv2,hr2,hk2,hb2⟩ := hv3.appended (by decide) hrow3 hsz3 (Nat.le_refl _) hown' hgrow; have hc1 := hv1.cell; have hf1 := hv1.frozen))
   exact ⟨(hko3.trans hk2).from _,hb5.trans hb2,⟨_,hv2,by rw [hx.out]; simpa using hr2,trivial⟩,hBW.trans (hb5.trans hb2)⟩
  ·have hx := Lib.hid (rootF_miss D cp pre hfx);have hz : (y == 0) = false := by rw [beq_eq_false_iff_ne,hy]; exact fun e => hfx (ci_eq_zero.1 e)
   clear hfx hy
   gi_wp2_with ((refine ⟨trivial,?_⟩; gi_at_call 170; refine (CallsIn.inRound l (callsIn_wide.2 hE2.out)).mono ?_; rintro e w3 ⟨cO3,rfl,hb3⟩; have hb4 : Below W.heap.size W w3 := hb3.out; have hv3 : Boxed w3 W2.heap.size 22 v := (hb4.block _ hv.lt).trans hv; have hrow3 : w3.ownsRow W2.heap.size 3 1 v (rootF D cp pre).length ((rootF D cp pre).map (Value.int .i64)) := World.ownsRow.kept hrow (below_grown hb4 (Nat.le_refl _)) (by cases v.ownBlock <;> simp); have hko3 : KeepsOthers W w3 := KeepsOthers.of_grownBy (below_grown hb4 (Nat.le_refl _)) (fun j o ej => by cases ej); have hb5 : Below W2.heap.size W w3 := hb4.mono hBW.size; have hsz3 : W2.heap.size ≤ w3.heap.size := Nat.le_trans hBW.size hb4.size))
   exact ⟨hko3.from _,hb5,⟨v,hv3,by rw [hx.out]; exact hrow3,trivial⟩,hBW.trans hb5⟩
 case done =>
  rintro D' ys W hD rfl ⟨⟨v,hv,hrow,-⟩,hBW⟩ hK;have hc := hv.cell
  gi_wp2
  refine ⟨by simp,.inl ⟨_,_,rfl,run_takeDeferred hK,?_⟩⟩;have key : ∀ W' : World,W'.ownsRow W2.heap.size 3 1 v (rootF D cp (upI D.q)).length ((rootF D cp (upI D.q)).map (Value.int .i64)) → Own W' w.heap.size v (rootF D cp (upI D.q)) := fun W' hfin => by
   exact ⟨hfin.1,hfin.2.imp id fun ⟨g',cap,cur,h1,h2,r⟩ => ⟨g',cap,cur,h1,Nat.le_trans hle h2,r⟩⟩
  refine ⟨.tuple #[v,.int .i64 0],by simp [results,Tryz.results214,go_sem],v,rfl,?_,?_⟩
  ·exact key _ (ownsRow_putObj hrow _ hK rfl)
  ·exact hW02.trans ((hBW.trans (belowK_b (w := W2) (Nat.le_refl _) W D' _ _ (by simp at hD; omega) hK rfl rfl)).mono hle)
 case stop =>
  rintro D' c pre W _ _ h _;exact h.elim
end
end Go.Proofs.YtjdoneanohhkmaaGreat

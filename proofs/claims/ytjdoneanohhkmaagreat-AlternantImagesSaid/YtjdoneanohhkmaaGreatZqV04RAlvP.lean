/- Plain law of layer 5: division with remainder, step by step. No Go here. Plain: greatest common divisors and derivatives of lists of coefficients. No Go here. Plain: the example of layer 19, a Goppa code of 4 words. No Go here. -/
import Derived.Test.YtjdoneanohhkmaaGreatZqV04REmbL
import Derived.Test.YtjdoneanohhkmaaGreatZqV04RKnlP
namespace Go.Proofs.YtjdoneanohhkmaaGreat
section
open Go.RowKit Cw
open Cw.CField (inv)

section
variable {D : Desc}
def remF (f g : Nat → R D) (iv : R D) (d Q : Nat) : Nat → Nat → R D
 | 0 => f
 | s + 1 => fun t => remF f g iv d Q s t - if Q - 1 - s ≤ t then remF f g iv d Q s (Q - 1 - s + d) * iv * g (t - (Q - 1 - s)) else 0
def quoF (f g : Nat → R D) (iv : R D) (d Q : Nat) (n : Nat) : R D := remF f g iv d Q (Q - 1 - n) (n + d) * iv
def quoS (f g : Nat → R D) (iv : R D) (d Q s : Nat) (i : Nat) : R D := if Q - s ≤ i ∧ i < Q then quoF f g iv d Q i else 0
variable {f g : Nat → R D} {iv : R D} {d Q : Nat}
theorem remF_succ {s n : Nat} (hs : Q = n + 1 + s) (t : Nat) : remF f g iv d Q (s + 1) t = remF f g iv d Q s t - if n ≤ t then quoF f g iv d Q n * g (t - n) else 0 := by
 show remF f g iv d Q s t - (if Q - 1 - s ≤ t then remF f g iv d Q s (Q - 1 - s + d) * iv * g (t - (Q - 1 - s)) else 0) = _
 unfold quoF;rw [show Q - 1 - s = n by omega,show Q - 1 - n = s by omega]
theorem quoF_at {s n : Nat} (hs : Q = n + 1 + s) : quoF f g iv d Q n = remF f g iv d Q s (n + d) * iv := by unfold quoF; rw [show Q - 1 - n = s by omega]
theorem remF_lt (hf : LtD f (d + Q)) (hg : LtD g (d + 1)) (hiv : iv * g d = 1) : ∀ s,s ≤ Q → LtD (remF f g iv d Q s) (d + Q - s)
 | 0,_ => hf
 | s + 1,h => fun t ht => by
  obtain ⟨n,hn⟩ : ∃ n,Q = n + 1 + s := ⟨Q - 1 - s,by omega⟩;have ih := remF_lt hf hg hiv s (by omega);rw [remF_succ hn,if_pos (by omega),quoF_at hn];by_cases e : t = n + d
  ·rw [e,show n + d - n = d by omega,mul_a,hiv,mul_one,sub_self]
  ·rw [ih t (by omega),hg _ (by omega),mul_zero,sub_zero]
theorem conv_add_l {R : Type} [CRing R] (f h g : Nat → R) (t : Nat) : conv (fun s => f s + h s) g t = conv f g t + conv h g t := by
 unfold conv
 rw [← rsum_add];exact rsum_congr fun i _ => add_mul _ _ _
theorem conv_single {R : Type} [CRing R] (n : Nat) (c : R) (g : Nat → R) (t : Nat) : conv (fun s => if s = n then c else 0) g t = if n ≤ t then c * g (t - n) else 0 := by
 unfold conv
 by_cases h : n ≤ t
 ·rw [if_pos h,rsum_single (k := n) (by omega) fun i _ hne => by dsimp only; rw [if_neg hne,zero_mul]];dsimp only;rw [if_pos rfl]
 ·rw [if_neg h];exact rsum_eq_zero fun i hi => by dsimp only; rw [if_neg (by omega),zero_mul]
theorem quoS_succ {s n : Nat} (hs : Q = n + 1 + s) (i : Nat) : quoS f g iv d Q (s + 1) i = quoS f g iv d Q s i + if i = n then quoF f g iv d Q n else 0 := by
 unfold quoS;by_cases e : i = n
 ·rw [if_pos (by omega),if_neg (by omega),if_pos e,zero_add,e]
 ·rw [if_neg e,add_zero];by_cases e2 : Q - s ≤ i ∧ i < Q
  ·rw [if_pos e2,if_pos (by omega)]
  ·rw [if_neg e2,if_neg (by omega)]
theorem remF_eq : ∀ s,s ≤ Q → ∀ t,f t = conv (quoS f g iv d Q s) g t + remF f g iv d Q s t
 | 0,_,t => by
  rw [show conv (quoS f g iv d Q 0) g t = 0 from rsum_eq_zero fun i _ => by unfold quoS; rw [if_neg (by omega),zero_mul],zero_add]; rfl
 | s + 1,h,t => by
  obtain ⟨n,hn⟩ : ∃ n,Q = n + 1 + s := ⟨Q - 1 - s,by omega⟩;rw [remF_eq s (by omega) t,remF_succ hn,show quoS f g iv d Q (s + 1) = fun i => quoS f g iv d Q s i + if i = n then quoF f g iv d Q n else 0 from funext fun i => quoS_succ hn i,conv_add_l,conv_single,add_a]
  congr 1
  rw [add_c,sub_add_cancel]
end
theorem div_ok {F : FD} {p q : List Int} {d A Q : Nat} (hq : (canI F.toDesc q).length = d + 1) (hA : (canI F.toDesc p).length = A) (hQ : Q = A - d) :
  DivI F.toDesc p q (canL (fun i => ci (quoS (cfR F.toDesc p) (cfR F.toDesc q) (inv (cfR F.toDesc q d)) d Q Q i)) Q) (canL (fun i => ci (remF (cfR F.toDesc p) (cfR F.toDesc q) (inv (cfR F.toDesc q d)) d Q Q i)) A) := by
 have hf : LtD (cfR F.toDesc p) (d + Q) := fun t ht => by rw [← cfR_canI]; exact cfR_out F.toDesc (by omega)
 have hg : LtD (cfR F.toDesc q) (d + 1) := fun t ht => by rw [← cfR_canI]; exact cfR_out F.toDesc (by omega)
 have hl : cfR F.toDesc q d ≠ 0 := by rw [← cfR_canI]; exact can_lead (canI_canI F.toDesc q) hq
 have hr := remF_lt hf hg (inv_mul hl) Q (Nat.le_refl _);have hQ0 : ∀ i,Q ≤ i → quoS (cfR F.toDesc p) (cfR F.toDesc q) (inv (cfR F.toDesc q d)) d Q Q i = 0 := fun i hi => by unfold quoS; rw [if_neg (by omega)]
 have hR0 : ∀ i,A ≤ i → remF (cfR F.toDesc p) (cfR F.toDesc q) (inv (cfR F.toDesc q d)) d Q Q i = 0 := fun i hi => by
  by_cases e : A ≤ d
  ·have e2 : Q = 0 := by omega
   rw [e2]
   show cfR F.toDesc p i = 0
   rw [← cfR_canI]; exact cfR_out F.toDesc (by omega)
  ·exact hr i (by omega)
 refine ⟨canI_can _ _ hQ0,canI_can _ _ hR0,fun s => ?_,?_⟩
 ·rw [cfR_can _ _ hQ0,cfR_can _ _ hR0];exact remF_eq Q (Nat.le_refl _) s
 ·rw [hq];have := can_short (canI_can _ _ hR0) (n := d) fun t ht => by rw [cfR_can _ _ hR0]; exact hr t (by omega)
  omega
end
section
open Go.RowKit Cw
open Cw.CField (inv)
def plI (D : Desc) (p : List Int) : Pl (R D) := ⟨cfR D p,p.length,cfR_lt D p⟩
theorem DivI.pl {D : Desc} {p q quo rem : List Int} (h : DivI D p q quo rem) : plI D p = plI D quo * plI D q + plI D rem := Pl.ext' h.eq
theorem plI_nil (D : Desc) : plI D [] = 0 := Pl.ext' fun _ => cfR_out D (Nat.zero_le _)
structure GcdI (D : Desc) (a b : Pl (R D)) (l : List Int) : Prop where
 can : canI D l = l
 da : (plI D l).dvd a
 db : (plI D l).dvd b
 bez : ∃ u v,u * a + v * b = plI D l
theorem plI_canI (D : Desc) (p : List Int) : plI D (canI D p) = plI D p := Pl.ext' fun t => congrFun (cfR_canI D p) t
theorem GcdI.step {D : Desc} {p q quo rem l : List Int} (hd : DivI D p q quo rem) (h : GcdI D (plI D q) (plI D rem) l) : GcdI D (plI D p) (plI D q) l := by
 refine ⟨h.can,?_,h.da,?_⟩
 ·rw [hd.pl];exact (h.da.mul _).add h.db
 ·obtain ⟨u,v,e⟩ := h.bez;refine ⟨v,u - v * plI D quo,?_⟩;rw [← e,hd.pl,mul_add,sub_d,add_mul,neg_mul];rw [show v * plI D quo * plI D q = v * (plI D quo * plI D q) from mul_a _ _ _];generalize v * (plI D quo * plI D q) = x;generalize v * plI D rem = y;generalize u * plI D q = z;rw [show x + y + (z + -x) = z + y + (x + -x) by ac_rfl,add_neg,add_zero]
section
variable {F : FD}
theorem GcdI.one {a b : Pl (R F.toDesc)} {l : List Int} (h : GcdI F.toDesc a b l) : l.length = 1 ↔ Cop a b := by
 constructor
 ·intro e;have h0 : cfR F.toDesc l 0 ≠ 0 := can_lead h.can e;obtain ⟨u,v,e2⟩ := h.bez;refine ⟨Pl.k (inv (cfR F.toDesc l 0)) * u,Pl.k (inv (cfR F.toDesc l 0)) * v,?_⟩;rw [mul_a,mul_a,← mul_add,e2];refine Pl.ext' fun t => ?_
  rw [pl_k_mul,pl_one]
  show _ * cfR F.toDesc l t = _
  by_cases ht : t = 0
  ·subst ht; rw [if_pos rfl,inv_mul h0]
  ·rw [if_neg ht,cfR_out F.toDesc (show l.length ≤ t by omega),mul_zero]
 ·rintro ⟨u,v,e⟩;have h1 : (plI F.toDesc l).dvd 1 := by rw [← e]; exact (h.da.mul u).add (h.db.mul v)
  have hne : l.length ≠ 0 := fun e0 => by
   obtain ⟨q,e2⟩ := h1;rw [List.eq_nil_of_length_eq_zero e0,plI_nil,mul_zero] at e2;have := congrArg (fun a : Pl (R F.toDesc) => a.c 0) e2;rw [pl_one,if_pos rfl] at this;exact one_ne this
  refine Classical.byContradiction fun hn => ?_
  obtain ⟨n,hl⟩ : ∃ n,l.length = n + 1 := ⟨l.length - 1,by omega⟩;have h3 := dvd_zero (g := plI F.toDesc l) (a := 1) (n := n) (fun t ht => cfR_out _ (by omega)) (can_lead h.can hl) (fun t ht => if_neg (by omega)) h1;have := congrArg (fun a : Pl (R F.toDesc) => a.c 0) h3;rw [pl_one,if_pos rfl] at this;exact one_ne this
theorem GcdI.monic {p l : List Int} {x : R F.toDesc} (hx : x ≠ 0) (hl : canI F.toDesc l = l) (h : ∀ t,cfR F.toDesc l t = x * cfR F.toDesc p t) : GcdI F.toDesc (plI F.toDesc p) 0 l := by
 have e : plI F.toDesc l = Pl.k x * plI F.toDesc p := Pl.ext' fun t => by rw [pl_k_mul]; exact h t
 have e2 : plI F.toDesc p = Pl.k (inv x) * plI F.toDesc l := Pl.ext' fun t => by
  rw [pl_k_mul]
  show cfR F.toDesc p t = inv x * cfR F.toDesc l t
  rw [h t,← mul_a,inv_mul hx,one_mul]
 refine ⟨hl,⟨_,e2⟩,Pl.dvd.zero _,Pl.k x,0,?_⟩;rw [zero_mul,add_zero,e]
theorem GcdI.nil : GcdI F.toDesc 0 0 [] := ⟨rfl,Pl.dvd.zero _,Pl.dvd.zero _,0,0,by rw [plI_nil,zero_mul,add_zero]⟩
end
def derI (D : Desc) (p : List Int) : List Int := canL (fun i => ci (nsm (i + 1) (cfR D p (i + 1)))) (p.length - 1)
theorem derI_can (D : Desc) (p : List Int) : canI D (derI D p) = derI D p := canI_can (fun i => nsm (i + 1) (cfR D p (i + 1))) _ fun i h => by rw [cfR_out D (by omega),nsm_zero_r]
theorem derI_pl (D : Desc) (p : List Int) : plI D (derI D p) = (plI D p).D := Pl.ext' fun t => by
 show cfR D (derI D p) t = nsm (t + 1) (cfR D p (t + 1))
 have h := cfR_can (fun i => nsm (i + 1) (cfR D p (i + 1))) (p.length - 1) fun i h => by rw [cfR_out D (by omega),nsm_zero_r]
 exact congrFun h t
theorem derI_le (D : Desc) (p : List Int) : (derI D p).length ≤ p.length - 1 := by unfold derI; rw [canL_length]; exact cdeg_le _ _
theorem nsm_mod_D (D : Desc) (n : Nat) : nsm n (1 : R D) = nsm (n % D.p) 1 := by
 have h : n = n / D.p * D.p + n % D.p := by rw [Nat.mul_comm]; exact (Nat.div_add_mod n D.p).symm
 have h2 : nsm (n / D.p * D.p) (1 : R D) = 0 := nsm_dvd char_R ⟨n / D.p,Nat.mul_comm _ _⟩ 1;rw [h,nsm_add,h2,zero_add,← h]
theorem eli_mod (D : Desc) (n : Nat) : eli D ((n % D.p : Nat) : Int) = nsm n 1 := by
 have hp := D.p2;have hm := D.m1;have h1 : n % D.p < D.p := Nat.mod_lt _ (by omega);have h2 : D.p ≤ D.q := by
  have : D.p ^ 1 ≤ D.p ^ D.m := Nat.pow_le_pow_right (by omega) hm;rw [Nat.pow_one] at this;exact this
 have h3 : eli D ((n % D.p : Nat) : Int) = rel D (n % D.p) := by
  unfold eli;rw [if_pos ⟨by omega,by omega⟩];rfl
 rw [h3,nsm_mod_D D n];generalize n % D.p = k at h1;refine R.ext' fun i hi => ?_
 rw [nsm_v,one_v hi];unfold rel;rw [cut_v hi];by_cases e : i = 0
 ·subst e;rw [if_pos rfl,zp_nsm,Nat.pow_zero,Nat.div_one]
 ·have h5 : k < D.p ^ i := by
   have : D.p ^ 1 ≤ D.p ^ i := Nat.pow_le_pow_right (by omega) (by omega);rw [Nat.pow_one] at this;omega
  rw [if_neg e,nsm_zero_r,Nat.div_eq_of_lt h5,zp_zero]
end
section
open Go.RowKit Cw
open Cw.CField (inv)
noncomputable def gopM (F : FD) (poly pts : List Int) : Nat → Nat → R F.toDesc := fun i j => pw (eli F.toDesc (pts[j]?.getD 0)) i * inv (pevI F.toDesc poly (eli F.toDesc (pts[j]?.getD 0)))
def D2 : Desc where
 p := 2
 m := 1
 mod := []
 hp := prime_dec (by decide) (by decide)
 m1 := by decide
 m8 := by decide
 hq := by decide
 hlen := by decide
 hmod := fun j => by simp
theorem qpos19 (D : Desc) : 0 < D.q := by have := D.q2; omega
theorem good2 : Good D2.p D2.m (modL D2) := ⟨D2,rfl,rfl,rfl,.inl rfl⟩
theorem good8 : Good E2_3.p E2_3.m (modL E2_3) := ⟨E2_3,rfl,rfl,rfl,.inr E2_3_irr⟩
def pts19 : List Int := [0,1,2,3,4,5,6,7]
def alIv : List Nat := [1,1,4,4,6,6,2,2]
def alH : List (List Nat) := [[1,1,4,4,6,6,2,2],[0,1,3,7,5,3,7,5]]
def tB (l : List Nat) (i : Nat) : Bool := decide (rcode (rsum 8 fun j => rel E2_3 (((alH.getD i []).getD j 0) * l.getD j 0)) = 0)
def al0 : List Nat := [0,0,0,0,0,0,0,0]
def al1 : List Nat := [1,1,1,0,1,0,1,0]
def al2 : List Nat := [1,1,0,1,0,1,0,1]
def al3 : List Nat := [0,0,1,1,1,1,1,1]
def alB (l : List Nat) : Bool := !(tB l 0 && tB l 1) || (decide (l = al0) || decide (l = al1) || decide (l = al2) || decide (l = al3))
theorem key19 : ∀ b0 b1 b2 b3 b4 b5 b6 b7 : Fin 2,alB [b0.val,b1.val,b2.val,b3.val,b4.val,b5.val,b6.val,b7.val] = true := by decide +kernel
theorem in1 : ∀ i : Fin 2,tB al1 i.val = true := by decide +kernel
theorem in2 : ∀ i : Fin 2,tB al2 i.val = true := by decide +kernel
theorem iv19 : ∀ j : Fin 8,rcode (pevI E2_3 [1,1,1] (eli E2_3 (pts19[j.val]?.getD 0)) * rel E2_3 (alIv.getD j.val 0)) = rcode (1 : R E2_3) := by decide +kernel
theorem h19 : ∀ i : Fin 2,∀ j : Fin 8,rcode (pw (eli E2_3 (pts19[j.val]?.getD 0)) i.val * rel E2_3 (alIv.getD j.val 0)) = rcode (rel E2_3 ((alH.getD i.val []).getD j.val 0)) := by decide +kernel
theorem iv19D {D : Desc} (h : D = E2_3) (j : Fin 8) : rcode (pevI D [1,1,1] (eli D (pts19[j.val]?.getD 0)) * rel D (alIv.getD j.val 0)) = rcode (1 : R D) := by subst h; exact iv19 j
theorem h19D {D : Desc} (h : D = E2_3) (i : Fin 2) (j : Fin 8) : rcode (pw (eli D (pts19[j.val]?.getD 0)) i.val * rel D (alIv.getD j.val 0)) = rcode (rel D ((alH.getD i.val []).getD j.val 0)) := by subst h; exact h19 i j
theorem tBD {D : Desc} (h : D = E2_3) (l : List Nat) (i : Nat) : rsum 8 (fun j => rel D (((alH.getD i []).getD j 0) * l.getD j 0)) = 0 ↔ tB l i = true := by
 subst h;unfold tB;rw [decide_eq_true_iff];constructor
 ·intro g; rw [g]; exact rcode_zero
 ·intro g; exact rcode_inj (g.trans rcode_zero.symm)
theorem gopM19 {F : FD} (hF : F.toDesc = E2_3) {i j : Nat} (hi : i < 2) (hj : j < 8) : gopM F [1,1,1] pts19 i j = rel F.toDesc ((alH.getD i []).getD j 0) := by
 have h1 := rcode_inj (iv19D hF ⟨j,hj⟩);dsimp only at h1;have h2 := rcode_inj (h19D hF ⟨i,hi⟩ ⟨j,hj⟩);dsimp only at h2;unfold gopM;rw [← inv_unique h1];exact h2
theorem bit_cases {D : Desc} (h : D = D2) (x : R D) : x = 0 ∧ rcode x = 0 ∨ x = 1 ∧ rcode x = 1 := by
 subst h;have h : rcode x < 2 := rcode_lt x;have h1 : rcode x = 0 ∨ rcode x = 1 := by omega
 rcases h1 with e | e
 ·exact .inl ⟨rcode_inj (e.trans rcode_zero.symm),e⟩
 ·exact .inr ⟨rcode_inj (e.trans rcode_one.symm),e⟩
theorem meets19 {S F : FD} (hS : S.toDesc = D2) (hF : F.toDesc = E2_3) (r : R F.toDesc) {u : Nat → R S.toDesc} {l : List Nat} (hl : ∀ j,j < 8 → rcode (u j) = l.getD j 0) :
  Meets S F r 8 2 (gopM F [1,1,1] pts19) u ↔ ∀ i : Fin 2,tB l i.val = true := by
 have key : ∀ i,i < 2 → (rsum 8 (fun j => gopM F [1,1,1] pts19 i j * phi S F r (u j)) = 0 ↔ tB l i = true) := fun i hi => by
  have e : rsum 8 (fun j => gopM F [1,1,1] pts19 i j * phi S F r (u j)) = rsum 8 fun j => rel F.toDesc (((alH.getD i []).getD j 0) * l.getD j 0) := rsum_congr fun j hj => by
   rw [gopM19 hF hi hj,← hl j hj];rcases bit_cases hS (u j) with ⟨e1,e2⟩ | ⟨e1,e2⟩
   ·rw [e2,e1,phi_zero,mul_zero,Nat.mul_zero];exact (rcode_inj ((rcode_rel (qpos19 F.toDesc)).trans rcode_zero.symm)).symm
   ·rw [e2,e1,phi_one,mul_one,Nat.mul_one]
  rw [e];exact tBD hF l i
 constructor
 ·intro h i; exact (key i.val i.isLt).1 (h i.val i.isLt)
 ·intro h i hi; exact (key i hi).2 (h ⟨i,hi⟩)
def alC (D : Desc) : Nat → Nat → R D := fun i j => rel D ((if i = 0 then al1 else al2).getD j 0)
def finB (a b : Nat) (l : List Nat) : Bool := decide (∀ j : Fin 8,rcode (rel D2 (l.getD j.val 0)) = rcode (rel D2 a * alC D2 0 j.val + rel D2 b * alC D2 1 j.val))
theorem finD {D : Desc} (h : D = D2) {a b : Nat} {l : List Nat} (hb : finB a b l = true) (j : Fin 8) : rel D (l.getD j.val 0) = rel D a * alC D 0 j.val + rel D b * alC D 1 j.val := by
 subst h;exact rcode_inj (of_decide_eq_true hb j)
theorem fin0 : finB 0 0 al0 = true := by decide +kernel
theorem fin1 : finB 1 0 al1 = true := by decide +kernel
theorem fin2 : finB 0 1 al2 = true := by decide +kernel
theorem fin3 : finB 1 1 al3 = true := by decide +kernel
theorem span19 {S F : FD} (hS : S.toDesc = D2) (hF : F.toDesc = E2_3) (r : R F.toDesc) (u : Nat → R S.toDesc) (h : Meets S F r 8 2 (gopM F [1,1,1] pts19) u) : Span 2 8 (alC S.toDesc) u := by
 have hlt : ∀ j,rcode (u j) < 2 := fun j => by rcases bit_cases hS (u j) with ⟨-,e⟩ | ⟨-,e⟩ <;> omega
 have h1 := (meets19 hS hF r (u := u) (l := [rcode (u 0),rcode (u 1),rcode (u 2),rcode (u 3),rcode (u 4),rcode (u 5),rcode (u 6),rcode (u 7)]) (fun j hj => by
  match j,hj with
  | 0,_ => rfl
  | 1,_ => rfl
  | 2,_ => rfl
  | 3,_ => rfl
  | 4,_ => rfl
  | 5,_ => rfl
  | 6,_ => rfl
  | 7,_ => rfl)).1 h
 have h2 := key19 ⟨_,hlt 0⟩ ⟨_,hlt 1⟩ ⟨_,hlt 2⟩ ⟨_,hlt 3⟩ ⟨_,hlt 4⟩ ⟨_,hlt 5⟩ ⟨_,hlt 6⟩ ⟨_,hlt 7⟩;unfold alB at h2;rw [show tB [rcode (u 0),rcode (u 1),rcode (u 2),rcode (u 3),rcode (u 4),rcode (u 5),rcode (u 6),rcode (u 7)] 0 = true from h1 0,show tB [rcode (u 0),rcode (u 1),rcode (u 2),rcode (u 3),rcode (u 4),rcode (u 5),rcode (u 6),rcode (u 7)] 1 = true from h1 1] at h2;simp only [Bool.and_self,Bool.not_true,Bool.false_or,Bool.or_eq_true,decide_eq_true_eq] at h2;have fin : ∀ (a b : Nat) (l : List Nat),finB a b l = true → [rcode (u 0),rcode (u 1),rcode (u 2),rcode (u 3),rcode (u 4),rcode (u 5),rcode (u 6),rcode (u 7)] = l → Span 2 8 (alC S.toDesc) u := fun a b l hd e => by
  refine ⟨fun i => if i = 0 then rel S.toDesc a else rel S.toDesc b,fun j hj => ?_⟩;rw [rsum_succ,rsum_succ,rsum_zero,zero_add];dsimp only;rw [if_pos rfl,if_neg (by omega)];refine Eq.trans ?_ (finD hS hd ⟨j,hj⟩);have e2 : rcode (u j) = l.getD j 0 := by
   rw [← e]
   match j,hj with
   | 0,_ => rfl
   | 1,_ => rfl
   | 2,_ => rfl
   | 3,_ => rfl
   | 4,_ => rfl
   | 5,_ => rfl
   | 6,_ => rfl
   | 7,_ => rfl
  show u j = rel S.toDesc (l.getD j 0)
  rw [← e2,rel_rcode]
 rcases h2 with ((e | e) | e) | e
 ·exact fin 0 0 al0 fin0 e
 ·exact fin 1 0 al1 fin1 e
 ·exact fin 0 1 al2 fin2 e
 ·exact fin 1 1 al3 fin3 e
theorem row19 {S F : FD} (hS : S.toDesc = D2) (hF : F.toDesc = E2_3) (r : R F.toDesc) {i : Nat} (hi : i < 2) : Meets S F r 8 2 (gopM F [1,1,1] pts19) (alC S.toDesc i) := by
 have hq : ∀ (l : List Nat),(∀ j : Fin 8,l.getD j.val 0 < 2) → ∀ j,j < 8 → rcode (rel S.toDesc (l.getD j 0)) = l.getD j 0 := fun l hl j hj => rcode_rel (by rw [hS]; exact hl ⟨j,hj⟩)
 by_cases e : i = 0
 ·subst e;exact (meets19 hS hF r (u := alC S.toDesc 0) (l := al1) fun j hj => hq al1 (by decide) j hj).2 in1
 ·obtain rfl : i = 1 := by omega
  exact (meets19 hS hF r (u := alC S.toDesc 1) (l := al2) fun j hj => hq al2 (by decide) j hj).2 in2
theorem indep19 {S : FD} (hS : S.toDesc = D2) : Indep 2 8 (alC S.toDesc) := fun c hc i hi => by
 have h1 : ∀ n,n < 2 → n = 0 ∨ n = 1 := fun n h => by omega
 have e0 : rel S.toDesc 0 = 0 := rcode_inj ((rcode_rel (qpos19 S.toDesc)).trans rcode_zero.symm);have e1 : rel S.toDesc 1 = 1 := rcode_inj ((rcode_rel (by have := S.toDesc.q2; omega)).trans rcode_one.symm);have a := hc 2 (by omega);have b := hc 3 (by omega);rw [rsum_succ,rsum_succ,rsum_zero,zero_add] at a b;rw [show alC S.toDesc 0 2 = 1 from e1,show alC S.toDesc 1 2 = 0 from e0,mul_one,mul_zero,add_zero] at a;rw [show alC S.toDesc 0 3 = 0 from e0,show alC S.toDesc 1 3 = 1 from e1,mul_one,mul_zero,zero_add] at b;rcases h1 i hi with e | e
 ·rw [e]; exact a
 ·rw [e]; exact b
theorem alv_k {S F : FD} (hS : S.toDesc = D2) (hF : F.toDesc = E2_3) {r : R F.toDesc} {k : Nat} {C : Nat → Nat → R S.toDesc} (hcan : Canl S k 8 C) (hs : ∀ u,Span k 8 C u ↔ Meets S F r 8 2 (gopM F [1,1,1] pts19) u) : k = 2 := by
 have h1 : SameSpan k 2 8 C (alC S.toDesc) := ⟨fun i hi => span19 hS hF r _ ((hs _).1 (Span.row _ hi)),fun i hi => (hs _).2 (row19 hS hF r hi)⟩;have h2 := (elS_uniq h1).1;rw [elS_rank (indep19 hS)] at h2;have h3 := hcan.1;unfold rkS at h3;omega
theorem der19 {D : Desc} (h : D = E2_3) : (plI D (derI D [1,1,1])) = 1 := by
 subst h;rw [derI_pl];refine Pl.ext' fun t => ?_
 rw [pl_D,pl_one]
 show nsm (t + 1) (cfR E2_3 [1,1,1] (t + 1)) = if t = 0 then 1 else 0
 match t with
 | 0 => exact rcode_inj (by decide +kernel)
 | 1 => exact rcode_inj (by decide +kernel)
 | t + 2 => rw [cfR_out _ (by simp),nsm_zero_r,if_neg (by omega)]
theorem cop19 {F : FD} (hF : F.toDesc = E2_3) : Cop (plI F.toDesc [1,1,1]) (plI F.toDesc (derI F.toDesc [1,1,1])) := by
 refine ⟨0,1,?_⟩;rw [zero_mul,zero_add,one_mul];exact der19 hF
end
end Go.Proofs.YtjdoneanohhkmaaGreat

/- Plain law of layer 38: Gao's decoder, over coefficients. No Go here. Plain algebra: the ring of polynomials as coefficient functions, division, coprime polynomials. No Go here. Plain law of layer 19: the rational function of a word, and squarefree Goppa polynomials in characteristic 2. No Go here. Layer 5 of the program: combine. Plain law of layer 5: Newton's interpolation, step by step. No Go here. Plain law of layer 5: At, Add, Scale, Sub, Power over lists; the step of a division. No Go here. Plain law of layer 38: Euclid's algorithm of Gao's decoder, over lists of coefficients. No Go here. The reference's polynomials: At, Add, Scale, Sub, Power, DivMod, Rem. -/
import Derived.Test.YtjdoneanohhkmaaGreatZpP1
import Derived.Test.YtjdoneanohhkmaaGreatZpPoR
import Derived.Test.YtjdoneanohhkmaaGreatZpPol5m
import Derived.Test.YtjdoneanohhkmaaGreatZpGpoC
import Derived.Test.YtjdoneanohhkmaaGreatZpTk
set_option linter.unusedVariables false
set_option linter.unusedSimpArgs false
namespace Cw
section
variable {R : Type} [CRing R]
theorem rsum_tail {n m : Nat} (h : n ≤ m) {f : Nat → R} (hz : ∀ i,n ≤ i → i < m → f i = 0) : rsum m f = rsum n f := by
 obtain ⟨d,rfl⟩ : ∃ d,m = n + d := ⟨m - n,by omega⟩;rw [rsum_split,rsum_eq_zero (n := d) fun i hi => hz (n + i) (by omega) (by omega),add_zero]
theorem rsum_rev : ∀ (n : Nat) (f : Nat → R),rsum n f = rsum n fun i => f (n - 1 - i)
 | 0,_ => rfl
 | n + 1,f => by
  rw [rsum_succ_left n (fun i => f (n + 1 - 1 - i)),rsum_succ,rsum_rev n f,add_c]
  congr 1
  exact rsum_congr fun i _ => by rw [show n + 1 - 1 - (i + 1) = n - 1 - i by omega]
def LtD (f : Nat → R) (n : Nat) : Prop := ∀ t,n ≤ t → f t = 0
theorem LtD.mono {f : Nat → R} {n m : Nat} (h : LtD f n) (hn : n ≤ m) : LtD f m := fun t ht => h t (Nat.le_trans hn ht)
def vl (f : Nat → R) (n : Nat) (x : R) : R := rsum n fun t => f t * pw x t
theorem vl_more {f : Nat → R} {n m : Nat} (h : LtD f n) (hm : n ≤ m) (x : R) : vl f m x = vl f n x := rsum_tail hm fun i h1 _ => by rw [h i h1,zero_mul]
theorem conv_sum {f g : Nat → R} {M : Nat} (hf : LtD f M) (t : Nat) : conv f g t = rsum M fun s => if s ≤ t then f s * g (t - s) else 0 := by
 rw [← convP_full f g hf t]; unfold convP; rw [if_neg (by omega),add_zero]
theorem vl_conv {f g : Nat → R} {M N : Nat} (hf : LtD f M) (hg : LtD g N) (x : R) : vl (conv f g) (M + N) x = vl f M x * vl g N x := by
 unfold vl;refine (rsum_congr (g := fun t => rsum M fun s => (if s ≤ t then f s * g (t - s) else 0) * pw x t) fun t _ => by rw [conv_sum hf t,rsum_mul_right]).trans ?_;rw [rsum_swap,← rsum_mul_right];refine rsum_congr fun s hs => ?_
 rw [show M + N = s + (M + N - s) by omega,rsum_split,rsum_eq_zero (n := s) fun i hi => by rw [if_neg (by omega),zero_mul],zero_add,← rsum_mul_left];refine (rsum_tail (n := N) (by omega) fun i h1 _ => by rw [show s + i - s = i by omega,hg i h1,mul_zero]; by_cases e : s ≤ s + i <;> simp only [e,if_true,if_false,zero_mul]).trans ?_;exact rsum_congr fun i _ => by rw [if_pos (by omega),show s + i - s = i by omega,pw_add]; ac_rfl
theorem conv_comm (f g : Nat → R) (t : Nat) : conv f g t = conv g f t := by
 unfold conv
 rw [rsum_rev];exact rsum_congr fun i hi => by rw [show t + 1 - 1 - i = t - i by omega,show t - (t - i) = i by omega,mul_c]
theorem conv_lead {f g : Nat → R} {a b : Nat} (hf : LtD f (a + 1)) (hg : LtD g (b + 1)) : conv f g (a + b) = f a * g b := by
 unfold conv
 rw [rsum_single (k := a) (by omega) fun i hi hne => ?_,show a + b - a = b by omega];rcases Nat.lt_or_ge a i with h | h
 ·rw [hf i h,zero_mul]
 ·rw [hg (a + b - i) (by omega),mul_zero]
end
section
variable {F : Type} [CField F]
theorem conv_short {f g : Nat → F} {a : Nat} (hf : f a ≠ 0) (hfl : LtD f (a + 1)) (h : ∀ t,a ≤ t → conv f g t = 0) : ∀ N,LtD g N → ∀ t,g t = 0
 | 0,hg,t => hg t (Nat.zero_le _)
 | N + 1,hg,t => by
  have h1 := h (a + N) (by omega);rw [conv_lead hfl hg] at h1;rcases mul_eq_zero h1 with e | e
  ·exact absurd e hf
  ·exact conv_short hf hfl h N (fun s hs => by
    by_cases e2 : s = N
    ·rw [e2]; exact e
    ·exact hg s (by omega)) t
end
end Cw

namespace Cw
section
variable {R : Type} [CRing R]
theorem conv_dbl (f g : Nat → R) {t N : Nat} (h : t < N) : conv f g t = rsum N fun i => rsum N fun j => if i + j = t then f i * g j else 0 := by
 unfold conv
 rw [rsum_tail (n := t + 1) (m := N) (by omega) fun i h1 _ => rsum_eq_zero fun j _ => if_neg (by omega)];refine rsum_congr fun i hi => ?_
 rw [rsum_single (k := t - i) (by omega) fun j _ hne => if_neg (by omega),if_pos (by omega)]
theorem conv_tri (f g h : Nat → R) (t : Nat) : conv (conv f g) h t = rsum (t + 1) fun i => rsum (t + 1) fun j => rsum (t + 1) fun k => if i + j + k = t then f i * g j * h k else 0 := by
 rw [conv_dbl (conv f g) h (Nat.lt_succ_self t)];have e1 : ∀ s,s < t + 1 → (rsum (t + 1) fun k => if s + k = t then conv f g s * h k else 0) = rsum (t + 1) fun i => rsum (t + 1) fun j => rsum (t + 1) fun k => if i + j = s then (if s + k = t then f i * g j * h k else 0) else 0 := fun s hs => by
  have e2 : ∀ k,(if s + k = t then conv f g s * h k else 0) = rsum (t + 1) fun i => rsum (t + 1) fun j => if i + j = s then (if s + k = t then f i * g j * h k else 0) else 0 := fun k => by
   by_cases e : s + k = t
   ·simp only [if_pos e];rw [conv_dbl f g hs,← rsum_mul_right];refine rsum_congr fun i _ => ?_
    rw [← rsum_mul_right];refine rsum_congr fun j _ => ?_
    by_cases e3 : i + j = s
    ·rw [if_pos e3,if_pos e3]
    ·rw [if_neg e3,if_neg e3,zero_mul]
   ·simp only [if_neg e,ite_self];rw [rsum_eq_zero fun i _ => rsum_eq_zero fun j _ => rfl]
  rw [rsum_congr fun k _ => e2 k,rsum_swap];refine rsum_congr fun i _ => ?_
  rw [rsum_swap]
 rw [rsum_congr e1,rsum_swap];refine rsum_congr fun i hi => ?_
 rw [rsum_swap];refine rsum_congr fun j hj => ?_
 rw [rsum_swap];refine rsum_congr fun k hk => ?_
 by_cases e : i + j < t + 1
 ·rw [rsum_single (k := i + j) e fun s _ hne => if_neg (fun e2 => hne e2.symm),if_pos rfl]
 ·rw [if_neg (by omega),rsum_eq_zero fun s hs => if_neg (by omega)]
theorem conv_assoc (f g h : Nat → R) (t : Nat) : conv (conv f g) h t = conv f (conv g h) t := by
 rw [conv_comm f,conv_tri,conv_tri];rw [rsum_congr fun i _ => rsum_swap (t + 1) (t + 1) fun j k => if i + j + k = t then f i * g j * h k else 0];rw [rsum_swap];rw [rsum_congr fun k _ => rsum_swap (t + 1) (t + 1) fun i j => if i + j + k = t then f i * g j * h k else 0];rw [rsum_swap];refine rsum_congr fun j _ => rsum_congr fun k _ => rsum_congr fun i _ => ?_
 by_cases e : i + j + k = t
 ·rw [if_pos e,if_pos (by omega)]; ac_rfl
 ·rw [if_neg e,if_neg (by omega)]
theorem conv_addr (f g h : Nat → R) (t : Nat) : conv f (fun s => g s + h s) t = conv f g t + conv f h t := by
 unfold conv
 rw [← rsum_add];exact rsum_congr fun i _ => mul_add _ _ _
structure Pl (R : Type) [CRing R] where
 c : Nat → R
 fin : ∃ n,LtD c n
theorem Pl.ext' {a b : Pl R} (h : ∀ t,a.c t = b.c t) : a = b := by
 obtain ⟨f,hf⟩ := a;obtain ⟨g,hg⟩ := b;have e : f = g := funext h;subst e;rfl
instance : Add (Pl R) := ⟨fun a b => ⟨fun t => a.c t + b.c t,by
 obtain ⟨n,hn⟩ := a.fin;obtain ⟨m,hm⟩ := b.fin;exact ⟨n + m,fun t ht => by show a.c t + b.c t = 0; rw [hn t (by omega),hm t (by omega),add_zero]⟩⟩⟩
instance : Mul (Pl R) := ⟨fun a b => ⟨conv a.c b.c,by
 obtain ⟨n,hn⟩ := a.fin;obtain ⟨m,hm⟩ := b.fin;exact ⟨n + m,fun t ht => conv_high hn hm (by omega)⟩⟩⟩
instance : Neg (Pl R) := ⟨fun a => ⟨fun t => - a.c t,by
 obtain ⟨n,hn⟩ := a.fin;exact ⟨n,fun t ht => by show -a.c t = 0; rw [hn t ht,neg_zero]⟩⟩⟩
instance : Zero (Pl R) := ⟨⟨fun _ => 0,0,fun _ _ => rfl⟩⟩
instance : One (Pl R) := ⟨⟨fun t => if t = 0 then 1 else 0,1,fun t ht => if_neg (by omega)⟩⟩
theorem pl_add (a b : Pl R) (t : Nat) : (a + b).c t = a.c t + b.c t := rfl
theorem pl_mul (a b : Pl R) (t : Nat) : (a * b).c t = conv a.c b.c t := rfl
theorem pl_one (t : Nat) : (1 : Pl R).c t = if t = 0 then 1 else 0 := rfl
instance : CRing (Pl R) where
 add_assoc' a b c := Pl.ext' fun t => add_a _ _ _
 add_comm' a b := Pl.ext' fun t => add_c _ _
 mul_assoc' a b c := Pl.ext' fun t => conv_assoc a.c b.c c.c t
 mul_comm' a b := Pl.ext' fun t => conv_comm a.c b.c t
 zero_add' a := Pl.ext' fun t => zero_add _
 neg_add' a := Pl.ext' fun t => neg_add _
 one_mul' a := Pl.ext' fun t => by
  show conv (fun t => if t = 0 then (1 : R) else 0) a.c t = a.c t
  unfold conv
  rw [rsum_single (k := 0) (by omega) fun i _ hne => by dsimp only; rw [if_neg hne,zero_mul]];dsimp only;rw [if_pos rfl,one_mul,Nat.sub_zero]
 mul_add' a b c := Pl.ext' fun t => conv_addr a.c b.c c.c t
def Pl.lt (a : Pl R) (n : Nat) : Prop := LtD a.c n
def Pl.k (x : R) : Pl R := ⟨fun t => if t = 0 then x else 0,1,fun t ht => if_neg (by omega)⟩
def Pl.lin (x : R) : Pl R := ⟨fun t => if t = 0 then -x else if t = 1 then 1 else 0,2,fun t ht => by dsimp only; rw [if_neg (by omega),if_neg (by omega)]⟩
theorem pl_k_mul (x : R) (a : Pl R) (t : Nat) : (Pl.k x * a).c t = x * a.c t := by
 show conv (fun t => if t = 0 then x else 0) a.c t = _
 unfold conv
 rw [rsum_single (k := 0) (by omega) fun i _ hne => by dsimp only; rw [if_neg hne,zero_mul]];dsimp only;rw [if_pos rfl,Nat.sub_zero]
theorem pl_lin_mul (x : R) (a : Pl R) (t : Nat) : (Pl.lin x * a).c t = (if t = 0 then 0 else a.c (t - 1)) - x * a.c t := by
 show conv (fun t => if t = 0 then -x else if t = 1 then 1 else 0) a.c t = _
 unfold conv
 cases t with
 | zero =>
  rw [rsum_succ,rsum_zero,zero_add];dsimp only;rw [if_pos rfl,if_pos rfl,zero_sub,neg_mul]
 | succ k =>
  rw [rsum_succ_left,rsum_succ_left,rsum_eq_zero (n := k) fun i hi => by dsimp only; rw [if_neg (by omega),if_neg (by omega),zero_mul]];dsimp only;rw [if_pos rfl,if_neg (by omega),if_pos rfl,if_neg (by omega),add_zero,one_mul,neg_mul,sub_d,add_c];rfl
noncomputable def Pl.ev (a : Pl R) (x : R) : R := vl a.c (Classical.choose a.fin) x
theorem pl_ev {a : Pl R} {n : Nat} (h : a.lt n) (x : R) : a.ev x = vl a.c n x := by
 have h2 := Classical.choose_spec a.fin;unfold Pl.ev;rcases Nat.le_total n (Classical.choose a.fin) with g | g
 ·exact vl_more h g x
 ·exact (vl_more h2 g x).symm
theorem ev_mul (a b : Pl R) (x : R) : (a * b).ev x = a.ev x * b.ev x := by
 obtain ⟨n,hn⟩ := a.fin;obtain ⟨m,hm⟩ := b.fin;rw [pl_ev hn,pl_ev hm,pl_ev (a := a * b) (n := n + m) (fun t ht => conv_high hn hm (by omega))];exact vl_conv hn hm x
def Pl.dvd (a b : Pl R) : Prop := ∃ c,b = c * a
theorem Pl.dvd.add {a b c : Pl R} (h : a.dvd b) (g : a.dvd c) : a.dvd (b + c) := by
 obtain ⟨u,rfl⟩ := h;obtain ⟨v,rfl⟩ := g;exact ⟨u + v,(add_mul _ _ _).symm⟩
theorem Pl.dvd.mul {a b : Pl R} (h : a.dvd b) (c : Pl R) : a.dvd (c * b) := by
 obtain ⟨u,rfl⟩ := h;exact ⟨c * u,(mul_a _ _ _).symm⟩
theorem Pl.dvd.self (a c : Pl R) : a.dvd (c * a) := ⟨c,rfl⟩
theorem Pl.dvd.zero (a : Pl R) : a.dvd 0 := ⟨0,(zero_mul a).symm⟩
theorem Pl.dvd.trans {a b c : Pl R} (h : a.dvd b) (g : b.dvd c) : a.dvd c := by
 obtain ⟨u,rfl⟩ := h;obtain ⟨v,rfl⟩ := g;exact ⟨v * u,(mul_a _ _ _).symm⟩
theorem Pl.dvd.neg {a b : Pl R} (h : a.dvd b) : a.dvd (-b) := by
 obtain ⟨u,rfl⟩ := h;exact ⟨-u,(neg_mul _ _).symm⟩
theorem Pl.dvd.sub {a b c : Pl R} (h : a.dvd b) (g : a.dvd c) : a.dvd (b - c) := by rw [sub_d]; exact h.add g.neg
def Cop (a b : Pl R) : Prop := ∃ u v,u * a + v * b = 1
theorem Cop.dvd {a b c : Pl R} (h : Cop a b) (g : a.dvd (b * c)) : a.dvd c := by
 obtain ⟨u,v,e⟩ := h;have e2 : c = (u * c) * a + v * (b * c) := by
  have e3 : c = (u * a + v * b) * c := by rw [e,one_mul]
  rw [add_mul] at e3;rw [show (u * c) * a = u * a * c by ac_rfl,show v * (b * c) = v * b * c by ac_rfl];exact e3
 rw [e2];exact (Pl.dvd.self a _).add (g.mul v)
end
section
variable {F : Type} [CField F]
open CField (inv)
theorem pl_quot (a : Pl F) (x : F) {n : Nat} (hn : a.lt (n + 1)) : ∃ q : Pl F,a = Pl.k (a.ev x) + Pl.lin x * q ∧ q.lt n ∧ ∀ l,q.c l = rsum (n - l) fun k => a.c (l + 1 + k) * pw x k := by
 have hlt : LtD (fun l => rsum (n - l) fun k => a.c (l + 1 + k) * pw x k) n := fun t ht => by
  dsimp only;rw [show n - t = 0 by omega]; rfl
 refine ⟨⟨fun l => rsum (n - l) fun k => a.c (l + 1 + k) * pw x k,n,hlt⟩,Pl.ext' fun t => ?_,hlt,fun _ => rfl⟩;rw [pl_add,pl_lin_mul]
 show a.c t = (if t = 0 then a.ev x else 0) + _
 dsimp only;rcases Nat.eq_zero_or_pos t with h | h
 ·subst h;rw [if_pos rfl,if_pos rfl,pl_ev hn];unfold vl;rw [rsum_succ_left,zero_sub,Nat.sub_zero,← rsum_mul_left,pw_zero,mul_one,add_a,← rsum_neg,← rsum_add,rsum_eq_zero fun i _ => ?_,add_zero];rw [pw_succ',Nat.zero_add,Nat.add_comm 1 i,show a.c (i + 1) * (x * pw x i) = x * (a.c (i + 1) * pw x i) by ac_rfl,add_neg]
 ·obtain ⟨k,rfl⟩ : ∃ k,t = k + 1 := ⟨t - 1,by omega⟩;rw [if_neg (by omega),if_neg (by omega),zero_add,Nat.add_sub_cancel];by_cases hk : k < n
  ·rw [show n - k = (n - (k + 1)) + 1 by omega,rsum_succ_left,← rsum_mul_left,pw_zero,mul_one,Nat.add_zero,sub_d,add_a,← rsum_neg,← rsum_add,rsum_eq_zero fun i _ => ?_,add_zero];rw [pw_succ',show k + 1 + (i + 1) = k + 1 + 1 + i by omega,show a.c (k + 1 + 1 + i) * (x * pw x i) = x * (a.c (k + 1 + 1 + i) * pw x i) by ac_rfl,add_neg]
  ·rw [hn (k + 1) (by omega),show n - k = 0 by omega,show n - (k + 1) = 0 by omega,rsum_zero,rsum_zero,mul_zero,sub_zero]
theorem pl_fin (a : Pl F) : ∃ n,a.lt (n + 1) := by
 obtain ⟨n,hn⟩ := a.fin;exact ⟨n,LtD.mono hn (by omega)⟩
theorem lin_strike {g a : Pl F} {x : F} (hx : g.ev x ≠ 0) (h : g.dvd (Pl.lin x * a)) : g.dvd a := by
 obtain ⟨n,hn⟩ := pl_fin g;obtain ⟨q,e,-,-⟩ := pl_quot g x hn;generalize g.ev x = y at e hx;refine Cop.dvd (b := Pl.lin x) ⟨Pl.k (inv y),-(Pl.k (inv y) * q),?_⟩ h;have e1 : Pl.k (inv y) * Pl.k y = 1 := Pl.ext' fun t => by
  rw [pl_k_mul,pl_one]
  show inv y * (if t = 0 then y else 0) = _
  by_cases ht : t = 0
  ·rw [if_pos ht,if_pos ht,inv_mul hx]
  ·rw [if_neg ht,if_neg ht,mul_zero]
 have e2 : Pl.k (inv y) * g = 1 + Pl.k (inv y) * q * Pl.lin x := by
  rw [e,mul_add,e1]; ac_rfl
 rw [e2,neg_mul,add_a,add_neg,add_zero]
theorem dvd_zero {g a : Pl F} {n : Nat} (hg : g.lt (n + 1)) (h0 : g.c n ≠ 0) (ha : a.lt n) (h : g.dvd a) : a = 0 := by
 obtain ⟨q,rfl⟩ := h;obtain ⟨N,hN⟩ := q.fin;have hz := conv_short (f := g.c) (g := q.c) (a := n) h0 hg (fun t ht => by
  rw [conv_comm]; exact ha t ht) N hN
 have e : q = 0 := Pl.ext' hz;rw [e,zero_mul]
end
end Cw

namespace Cw
section
variable {R : Type} [CRing R]
theorem nsm_rsum (n k : Nat) (f : Nat → R) : nsm n (rsum k f) = rsum k fun i => nsm n (f i) := by
 rw [nsm_mul,← rsum_mul_left];exact rsum_congr fun i _ => (nsm_mul n (f i)).symm
theorem nsm_zero_r (n : Nat) : nsm n (0 : R) = 0 := by rw [nsm_mul,mul_zero]
def Pl.D (a : Pl R) : Pl R := ⟨fun t => nsm (t + 1) (a.c (t + 1)),by
 obtain ⟨n,hn⟩ := a.fin;exact ⟨n,fun t ht => by dsimp only; rw [hn (t + 1) (by omega),nsm_zero_r]⟩⟩
theorem pl_D (a : Pl R) (t : Nat) : a.D.c t = nsm (t + 1) (a.c (t + 1)) := rfl
theorem D_mul (a b : Pl R) : (a * b).D = a.D * b + a * b.D := Pl.ext' fun t => by
 rw [pl_D,pl_mul,pl_add,pl_mul,pl_mul];have e1 : conv a.D.c b.c t = rsum (t + 2) fun s => nsm s (a.c s) * b.c (t + 1 - s) := by
  rw [rsum_succ_left (t + 1)];rw [show nsm 0 (a.c 0) * b.c (t + 1 - 0) = 0 from by rw [nsm_zero,zero_mul],zero_add];unfold conv
  exact rsum_congr fun s _ => by rw [show t + 1 - (s + 1) = t - s by omega]; rfl
 have e2 : conv a.c b.D.c t = rsum (t + 2) fun s => a.c s * nsm (t + 1 - s) (b.c (t + 1 - s)) := by
  rw [rsum_succ (t + 1),show t + 1 - (t + 1) = 0 by omega,nsm_zero,mul_zero,add_zero];unfold conv
  exact rsum_congr fun s hs => by rw [pl_D,show t - s + 1 = t + 1 - s by omega]
 rw [e1,e2,← rsum_add]
 show nsm (t + 1) (rsum (t + 2) fun s => a.c s * b.c (t + 1 - s)) = _
 rw [nsm_rsum];refine rsum_congr fun s hs => ?_
 rw [← nsm_mul_right,mul_c (a.c s) (nsm _ _),← nsm_mul_right,mul_c (b.c _) (a.c s),← nsm_add]
 congr 1
 omega
theorem D_D (h2 : nsm 2 (1 : R) = 0) (a : Pl R) : a.D.D = 0 := Pl.ext' fun t => by
 rw [pl_D,pl_D,← nsm_nsm];obtain ⟨k,hk⟩ : ∃ k,(t + 1) * (t + 1 + 1) = 2 * k := by
  rcases Nat.mod_two_eq_zero_or_one t with h | h
  ·exact ⟨(t + 1) * (t / 2 + 1),by rw [show t + 1 + 1 = 2 * (t / 2 + 1) by omega]; exact Nat.mul_left_comm _ _ _⟩
  ·exact ⟨(t / 2 + 1) * (t + 1 + 1),by rw [← Nat.mul_assoc]; congr 1; omega⟩
 rw [hk];exact nsm_dvd h2 (Nat.dvd_mul_right _ _) _
theorem sqf_two {g a : Pl R} (ha : a.D = 0) (hs : Cop g g.D) (h : g.dvd a) : (g * g).dvd a := by
 obtain ⟨q,rfl⟩ := h;rw [D_mul] at ha;have h1 : g.dvd (g.D * q) := by
  have e : g.D * q = -q.D * g := by
   rw [neg_mul,mul_c g.D q];exact neg_unique ha
  rw [e];exact Pl.dvd.self g _
 obtain ⟨r,rfl⟩ := hs.dvd h1;exact ⟨r,by ac_rfl⟩
def hP : List (R × R) → Pl R
 | [] => 1
 | (x,_) :: l => Pl.lin x * hP l
def nP : List (R × R) → Pl R
 | [] => 0
 | (x,u) :: l => Pl.k u * hP l + Pl.lin x * nP l
def lsum {α : Type} (f : α → R) : List α → R
 | [] => 0
 | a :: l => f a + lsum f l
theorem lsum_append {α : Type} (f : α → R) (l m : List α) : lsum f (l ++ m) = lsum f l + lsum f m := by
 induction l with
 | nil => exact (zero_add _).symm
 | cons a l ih => show f a + lsum f (l ++ m) = f a + lsum f l + lsum f m; rw [ih,add_a]
theorem lsum_range (f : Nat → R) (n : Nat) : lsum f (List.range n) = rsum n f := by
 induction n with
 | zero => rfl
 | succ n ih => rw [List.range_succ,lsum_append,ih,rsum_succ]; show _ + (f n + 0) = _; rw [add_zero]
theorem lsum_map {α β : Type} (f : β → R) (g : α → β) (l : List α) : lsum f (l.map g) = lsum (fun a => f (g a)) l := by
 induction l with
 | nil => rfl
 | cons a l ih => show f (g a) + lsum f (l.map g) = _; rw [ih]; rfl
theorem lsum_filter {α : Type} (f : α → R) (p : α → Bool) {l : List α} (h : ∀ a ∈ l,p a = false → f a = 0) : lsum f (l.filter p) = lsum f l := by
 induction l with
 | nil => rfl
 | cons a l ih =>
  have ih2 := ih fun b hb => h b (List.mem_cons_of_mem _ hb)
  rw [List.filter_cons]
  cases e : p a with
  | true => rw [if_pos rfl]; show f a + lsum f (l.filter p) = f a + lsum f l; rw [ih2]
  | false => rw [if_neg (by decide),ih2]; show _ = f a + lsum f l; rw [h a (List.mem_cons_self ..) e,zero_add]
theorem nP_one {l : List (R × R)} (h : ∀ a ∈ l,a.2 = 1) : nP l = (hP l).D := by
 induction l with
 | nil =>
  refine Pl.ext' fun t => ?_
  show (0 : R) = nsm (t + 1) (if t + 1 = 0 then 1 else 0)
  rw [if_neg (by omega),nsm_zero_r]
 | cons a l ih =>
  obtain ⟨x,u⟩ := a;have hu : u = 1 := h (x,u) (List.mem_cons_self ..)
  show Pl.k u * hP l + Pl.lin x * nP l = (Pl.lin x * hP l).D
  rw [D_mul,ih fun b hb => h b (List.mem_cons_of_mem _ hb),hu]
  congr 1
  congr 1
  refine Pl.ext' fun t => ?_
  rw [pl_D]
  show (if t = 0 then (1 : R) else 0) = nsm (t + 1) (if t + 1 = 0 then -x else if t + 1 = 1 then 1 else 0)
  rw [if_neg (show ¬ t + 1 = 0 by omega)];by_cases e : t = 0
  ·rw [if_pos e,if_pos (by omega),e,nsm_one]
  ·rw [if_neg e,if_neg (by omega),nsm_zero_r]
end
section
variable {F : Type} [CField F]
open CField (inv)
noncomputable def gsum (g : Pl F) (l : List (F × F)) (i : Nat) : F := lsum (fun a => a.2 * inv (g.ev a.1) * pw a.1 i) l
theorem nP_mod {g : Pl F} {n : Nat} (hg : g.lt (n + 1)) : ∀ l : List (F × F),(∀ a ∈ l,g.ev a.1 ≠ 0) → ∃ s : Pl F,g.dvd (nP l + hP l * s) ∧ s.lt n ∧ ∀ i,s.c i = rsum (n - i) fun k => g.c (i + 1 + k) * gsum g l k
 | [],_ => ⟨0,by
   show g.dvd (0 + 1 * 0)
   rw [mul_zero,add_zero];exact Pl.dvd.zero g,fun _ _ => rfl,fun i => (rsum_eq_zero fun k _ => mul_zero _).symm⟩
 | (x,u) :: l,h => by
  obtain ⟨s,h1,h2,h3⟩ := nP_mod hg l fun b hb => h b (List.mem_cons_of_mem _ hb)
  have hx : g.ev x ≠ 0 := h (x,u) (List.mem_cons_self ..);obtain ⟨q,e,q1,q2⟩ := pl_quot g x hg;have hck : ∀ k,gsum g ((x,u) :: l) k = u * inv (g.ev x) * pw x k + gsum g l k := fun _ => rfl
  generalize g.ev x = y at e hx hck;refine ⟨Pl.k (u * inv y) * q + s,?_,fun t ht => ?_,fun i => ?_⟩
  ·have e1 : Pl.k u = Pl.k (u * inv y) * Pl.k (y) := Pl.ext' fun t => by
    rw [pl_k_mul]
    show (if t = 0 then u else 0) = u * inv y * (if t = 0 then y else 0)
    by_cases ht : t = 0
    ·rw [if_pos ht,if_pos ht,mul_a,inv_mul hx,mul_one]
    ·rw [if_neg ht,if_neg ht,mul_zero]
   have e2 : Pl.k u + Pl.lin x * (Pl.k (u * inv y) * q) = Pl.k (u * inv y) * g := by
    rw [e1];rw [e,mul_add]
    ac_rfl
   have e3 : nP ((x,u) :: l) + hP ((x,u) :: l) * (Pl.k (u * inv y) * q + s) = hP l * (Pl.k (u * inv y) * g) + Pl.lin x * (nP l + hP l * s) := by
    show Pl.k u * hP l + Pl.lin x * nP l + Pl.lin x * hP l * (Pl.k (u * inv y) * q + s) = _
    rw [← e2,mul_add (Pl.lin x * hP l),mul_add (hP l),mul_add (Pl.lin x)]
    ac_rfl
   rw [e3];exact (Pl.dvd.self g _ |>.mul _).add (h1.mul _)
  ·show _ = (0 : F)
   rw [pl_add,pl_k_mul,q1 t ht,h2 t ht,mul_zero,add_zero]
  ·rw [pl_add,pl_k_mul,q2,h3,← rsum_mul_left,← rsum_add];refine rsum_congr fun k _ => ?_
   rw [hck,mul_add]
   congr 1
   ac_rfl
theorem hP_strike {g a : Pl F} : ∀ l : List (F × F),(∀ b ∈ l,g.ev b.1 ≠ 0) → g.dvd (hP l * a) → g.dvd a
 | [],_,h => by rwa [show hP ([] : List (F × F)) * a = a from one_mul a] at h
 | (x,u) :: l,h0,h => by
  refine hP_strike l (fun b hb => h0 b (List.mem_cons_of_mem _ hb)) (lin_strike (x := x) (h0 (x,u) (List.mem_cons_self ..)) ?_)
  rwa [show hP ((x,u) :: l) * a = Pl.lin x * (hP l * a) from mul_a _ _ _] at h
theorem rat_iff {g : Pl F} {n : Nat} (hg : g.lt (n + 1)) (h0 : g.c n ≠ 0) (l : List (F × F)) (hl : ∀ a ∈ l,g.ev a.1 ≠ 0) : g.dvd (nP l) ↔ ∀ i,i < n → gsum g l i = 0 := by
 obtain ⟨s,h1,h2,h3⟩ := nP_mod hg l hl;constructor
 ·intro h;have h4 : g.dvd (hP l * s) := by
   have h5 := h1.sub h;rw [add_c,add_sub_cancel] at h5;exact h5
  have hs : s = 0 := dvd_zero hg h0 h2 (hP_strike l hl h4);intro i
  induction i using Nat.strongRecOn with
  | _ i ih =>
   intro hi;have h5 := h3 (n - 1 - i);rw [hs,show n - (n - 1 - i) = i + 1 by omega,rsum_succ,rsum_eq_zero (n := i) fun k hk => by rw [ih k hk (by omega),mul_zero],zero_add,show n - 1 - i + 1 + i = n by omega] at h5;rcases mul_eq_zero h5.symm with h6 | h6
   ·exact absurd h6 h0
   ·exact h6
 ·intro h;have hs : s = 0 := Pl.ext' fun t => by
   rw [h3];exact rsum_eq_zero fun k hk => by rw [h k (by omega),mul_zero]
  rw [hs,mul_zero,add_zero] at h1;exact h1
theorem lt_mul {g h : Pl F} {n m : Nat} (hg : g.lt (n + 1)) (hh : h.lt (m + 1)) : (g * h).lt (n + m + 1) := fun t ht => conv_high hg hh (by omega)
theorem c_mul {g h : Pl F} {n m : Nat} (hg : g.lt (n + 1)) (hh : h.lt (m + 1)) : (g * h).c (n + m) = g.c n * h.c m := conv_lead hg hh
theorem gsum_square (h2 : nsm 2 (1 : F) = 0) {g : Pl F} {n : Nat} (hg : g.lt (n + 1)) (h0 : g.c n ≠ 0) (hs : Cop g g.D) (l : List (F × F)) (hl : ∀ a ∈ l,g.ev a.1 ≠ 0) (h01 : ∀ a ∈ l,a.2 = 0 ∨ a.2 = 1)
  (h : ∀ i,i < n → gsum g l i = 0) : ∀ i,i < n + n → gsum (g * g) l i = 0 := by
 classical
 have hm : ∀ a ∈ l.filter (fun a => decide (a.2 = 1)),a ∈ l ∧ a.2 = 1 := fun a ha => by
  obtain ⟨g1,g2⟩ := List.mem_filter.1 ha;exact ⟨g1,of_decide_eq_true g2⟩
 have hz : ∀ a ∈ l,decide (a.2 = 1) = false → a.2 = 0 := fun a ha e => (h01 a ha).resolve_right (of_decide_eq_false e)
 have ef : ∀ (q : Pl F) i,gsum q (l.filter fun a => decide (a.2 = 1)) i = gsum q l i := fun q i => lsum_filter _ _ fun a ha e => by rw [hz a ha e,mul_a,zero_mul]
 have h3 := (rat_iff hg h0 (l.filter fun a => decide (a.2 = 1)) (fun a ha => hl a (hm a ha).1)).2 fun i hi => (ef g i).trans (h i hi)
 rw [nP_one fun a ha => (hm a ha).2] at h3;have h4 := sqf_two (D_D h2 _) hs h3;rw [← nP_one fun a ha => (hm a ha).2] at h4;intro i hi;rw [← ef];refine (rat_iff (lt_mul hg hg) (by rw [c_mul hg hg]; exact mul_ne_zero h0 h0) _ fun a ha => ?_).1 h4 i hi;rw [ev_mul];exact mul_ne_zero (hl a (hm a ha).1) (hl a (hm a ha).1)
end
end Cw

namespace Go.Proofs.YtjdoneanohhkmaaGreat
section
open Go.RowKit Cw
attribute [local go_sem] Oper.semAt_some

theorem mix_lst {n k : Nat} {f h : Nat → Int} (e : ∀ i,k ≤ i → h i = f i) : mix n k f h = lst n f := by
 unfold mix;exact lst_congr fun i _ => by
  by_cases e2 : i < k
  ·rw [if_pos e2]
  ·rw [if_neg e2,e i (by omega)]

theorem Own.of_take {w : World} {g B n N : Nat} {f : Nat → Int} (h : IB w g (lst n f)) (hN : N ≤ n) (hB : B ≤ g) (hl : n ≤ maxLen) : Own w B (.slice (some ⟨g,0,none⟩) N n) (lst N f) := by
 unfold IB at h;refine ⟨by simp [lst_length],.inr ⟨g,n,((lst n f).map (Value.int .i64)).toArray,by rw [lst_length],hB,h,by rw [lst_length]; exact hN,hl,by simp [lst_length],?_⟩⟩;rw [lst_length,Nat.mul_one]
 show ((lst n f).map (Value.int .i64)).take N = _
 rw [← List.map_take,lst_take f hN]

end
section
open Go.RowKit Cw
open Cw.CField (inv)

theorem prodL_le (D : Desc) (p q : List Int) : (prodL D p q).length ≤ p.length + q.length - 1 := by
 have h1 := canI_le D p;have h2 := canI_le D q;unfold prodL;by_cases h : (canI D p).length = 0 ∨ (canI D q).length = 0
 ·rw [if_pos h]; exact Nat.zero_le _
 ·rw [if_neg h,lst_length]; omega
end
section
open Go.RowKit Cw
open CField (inv)

def scaleI (D : Desc) (a : Int) (p : List Int) : List Int := canL (fun i => ci (eli D a * cfR D p i)) p.length
def addI (D : Desc) (p q : List Int) : List Int := canL (fun i => ci (cfR D p i + cfR D q i)) (max p.length q.length)
theorem cfR_scaleI (D : Desc) (a : Int) (p : List Int) : cfR D (scaleI D a p) = fun i => eli D a * cfR D p i := cfR_can _ _ fun i h => by rw [cfR_out D h,mul_zero]
theorem cfR_addI (D : Desc) (p q : List Int) : cfR D (addI D p q) = fun i => cfR D p i + cfR D q i := cfR_can _ _ fun i h => by rw [cfR_out D (by omega),cfR_out D (by omega),add_zero]
theorem canI_can {D : Desc} (f : Nat → R D) (n : Nat) (h : ∀ i,n ≤ i → f i = 0) : canI D (canL (fun i => ci (f i)) n) = canL (fun i => ci (f i)) n := by
 have e := cfR_can f n h;unfold canI;rw [canL_congr (g := fun i => ci (f i)) fun i _ => by unfold cfI; rw [e]];exact (canL_more (by rw [canL_length]; exact cdeg_le _ _) fun i h1 h2 => by
  rw [canL_length] at h1;exact cdeg_zero (fun i => ci (f i)) n h1 h2).symm
theorem canI_lst (D : Desc) (f : Nat → R D) (n : Nat) : canI D (lst n fun i => ci (f i)) = canL (fun i => ci (f i)) n := by
 unfold canI;rw [lst_length];exact canL_congr fun i hi => by unfold cfI cfR; rw [lst_get _ hi,eli_ci]
theorem canI_addI (D : Desc) (p q : List Int) : canI D (addI D p q) = addI D p q := canI_can _ _ fun i h => by rw [cfR_out D (by omega),cfR_out D (by omega),add_zero]
theorem canI_canI (D : Desc) (p : List Int) : canI D (canI D p) = canI D p := canI_can (cfR D p) _ fun i h => cfR_out D h
theorem scaleI_le (D : Desc) (a : Int) (p : List Int) : (scaleI D a p).length ≤ p.length := by unfold scaleI; rw [canL_length]; exact cdeg_le _ _
theorem mulI_le (D : Desc) (p q : List Int) : (mulI D p q).length ≤ p.length + q.length := by unfold mulI; rw [canL_length]; exact cdeg_le _ _
theorem pevI_more (D : Desc) (p : List Int) (x : R D) {N : Nat} (h : p.length ≤ N) : rsum N (fun i => cfR D p i * pw x i) = pevI D p x := by
 rw [rsum_more h _ fun i h1 _ => by rw [cfR_out D h1,zero_mul]]; rfl
def powI (n : Nat) : List Int := lst (n + 1) fun i => if i = n then 1 else 0
theorem powI_length (n : Nat) : (powI n).length = n + 1 := lst_length _ _
theorem cfR_powI (D : Desc) (n : Nat) : cfR D (powI n) = fun i => if i = n then 1 else 0 := funext fun i => by
 by_cases h : i < n + 1
 ·unfold cfR powI;rw [lst_get _ h];by_cases e : i = n
  ·rw [if_pos e,if_pos e,eli_one]
  ·rw [if_neg e,if_neg e,eli_zero]
 ·rw [cfR_out D (by rw [powI_length]; omega),if_neg (by omega)]
theorem cfR_powI_at (D : Desc) (n i : Nat) : cfR D (powI n) i = if i = n then 1 else 0 := by rw [cfR_powI]
theorem conv_powI (D : Desc) (f : Nat → R D) (n t : Nat) : conv f (cfR D (powI n)) t = if n ≤ t then f (t - n) else 0 := by
 unfold conv
 by_cases h : n ≤ t
 ·rw [if_pos h,rsum_single (k := t - n) (by omega) fun i hi hne => by rw [cfR_powI_at,if_neg (by omega),mul_zero],cfR_powI_at,if_pos (by omega),mul_one]
 ·rw [if_neg h];exact rsum_eq_zero fun i hi => by rw [cfR_powI_at,if_neg (by omega),mul_zero]
def stepI (D : Desc) (r q : List Int) (a : Int) (n : Nat) : List Int := addI D r (scaleI D (ci (-(1 : R D))) (mulI D (scaleI D a q) (powI n)))
theorem cfR_stepI (D : Desc) (r q : List Int) (a : Int) (n t : Nat) : cfR D (stepI D r q a n) t = cfR D r t - if n ≤ t then eli D a * cfR D q (t - n) else 0 := by
 unfold stepI;rw [cfR_addI];dsimp only;rw [cfR_scaleI];dsimp only;rw [cfR_mulI,conv_powI,cfR_scaleI,eli_ci,neg_mul,one_mul,sub_d]
theorem can_short {D : Desc} {p : List Int} (hc : canI D p = p) {n : Nat} (h : ∀ t,n ≤ t → cfR D p t = 0) : p.length ≤ n := by
 by_cases hl : n ≤ p.length
 ·rw [← hc];unfold canI;rw [canL_more hl fun i h1 _ => by unfold cfI; rw [h i h1,ci_zero],canL_length];exact cdeg_le _ _
 ·omega
theorem can_lead {D : Desc} {p : List Int} (hc : canI D p = p) {n : Nat} (hn : p.length = n + 1) : cfR D p n ≠ 0 := fun h => by
 have := can_short hc (n := n) fun t ht => by
  by_cases e : t = n
  ·rw [e]; exact h
  ·exact cfR_out D (by omega)
 omega
theorem stepI_short {D : Desc} {r q : List Int} {d n : Nat} {a : Int} (hr : r.length = d + n + 1) (hq : q.length = d + 1) (ha : eli D a * cfR D q d = cfR D r (d + n)) : (stepI D r q a n).length ≤ d + n := by
 refine can_short (canI_addI _ _ _) fun t ht => ?_
 rw [show addI D r (scaleI D (ci (-(1 : R D))) (mulI D (scaleI D a q) (powI n))) = stepI D r q a n from rfl,cfR_stepI,if_pos (by omega)];by_cases e : t = d + n
 ·rw [e,show d + n - n = d by omega,ha,sub_self]
 ·rw [cfR_out D (by omega),cfR_out D (by omega),mul_zero,sub_self]

end
section
open Go.RowKit Cw
open Cw.CField (inv)

theorem cfR_lt (D : Desc) (p : List Int) : LtD (cfR D p) p.length := fun _ h => cfR_out D h
theorem pevI_vl (D : Desc) (p : List Int) (x : R D) {N : Nat} (h : p.length ≤ N) : pevI D p x = vl (cfR D p) N x := (pevI_more D p x h).symm
theorem can_ext {D : Desc} {p q : List Int} (hp : canI D p = p) (hq : canI D q = q) (h : ∀ s,cfR D p s = cfR D q s) : p = q := by
 have e : ∀ {l : List Int},canI D l = l → ∀ N,l.length ≤ N → l = canL (cfI D l) N := fun {l} hl N hN => by
  rw [canL_more hN fun i h1 _ => by unfold cfI; rw [cfR_out D h1,ci_zero]]; exact hl.symm
 exact (e hp (max p.length q.length) (by omega)).trans ((canL_congr fun i _ => by unfold cfI; rw [h]).trans (e hq (max p.length q.length) (by omega)).symm)
theorem cfR_one (D : Desc) (s : Nat) : cfR D [1] s = if s = 0 then 1 else 0 := by
 cases s with
 | zero => rw [if_pos rfl]; exact eli_one
 | succ s => rw [if_neg (by omega)]; exact cfR_out D (by simp)
theorem conv_one (D : Desc) (g : Nat → R D) (t : Nat) : conv (cfR D [1]) g t = g t := by
 unfold conv
 rw [rsum_single (k := 0) (by omega) fun i _ hne => by rw [cfR_one,if_neg hne,zero_mul],cfR_one,if_pos rfl,one_mul,Nat.sub_zero]
structure DivI (D : Desc) (p q quo rem : List Int) : Prop where
 cq : canI D quo = quo
 cr : canI D rem = rem
 eq : ∀ s,cfR D p s = conv (cfR D quo) (cfR D q) s + cfR D rem s
 lt : rem.length < (canI D q).length
structure EI (F : FD) (n k : Nat) (X Y : Nat → R F.toDesc) (a b old t : List Int) : Prop where
 ca : canI F.toDesc a = a
 cb : canI F.toDesc b = b
 ct : canI F.toDesc t = t
 lab : b.length < a.length
 lot : old.length < t.length
 sum : t.length + a.length = n + 2
 bd : n + k + 2 ≤ 2 * a.length
 va : ∀ i,i < n → pevI F.toDesc old (X i) * Y i = pevI F.toDesc a (X i)
 vb : ∀ i,i < n → pevI F.toDesc t (X i) * Y i = pevI F.toDesc b (X i)
def wr (D : Desc) (n : Nat) (X Y : Nat → R D) (m : List Int) : Nat := ((List.range n).filter fun i => ci (pevI D m (X i)) != ci (Y i)).length
end
section
open Go.RowKit Cw
open CField (inv)
attribute [local go_sem] Oper.semAt_some

set_option maxHeartbeats 1000000 in
theorem At5_any (D : Desc) (p : List Int) (k : Nat) (A A1 : Option Addr) (c c1 : Nat) (w : World) (hr1 : Rd w w.heap.size A1 p) (hl : p.length ≤ 70000) :
  Calls Tryz.prog 261 #[.agg #[.int .i64 D.p,.int .i64 D.m,.slice A D.mod.length c],.slice A1 p.length c1,.int .i64 k] w fun e w' => e = .returned (.int .i64 (ci (cfR D p k))) ∧ Below w.heap.size w w' := by
 have hB0 : Below w.heap.size w (w.alloc (.cells #[.int .i64 D.p,.int .i64 D.m,.slice A D.mod.length c] 24)) := (Below.refl _ _).alloc (Nat.le_refl _) _;have hbx0 := Lib.hid (Bx.new w D A D.mod.length c 24).cells;have hk0 : (0 : Int) ≤ (k : Int) := by omega
 by_cases hk : k < p.length
 ·obtain ⟨b,o,rfl,hb,hc⟩ := hr1.at_ hk;have hk1 : (k : Int) < (p.length : Int) := by omega
  have hI := fun W => In_any D (p[k]?.getD 0) A D.mod.length c W
  rw [show eli D (p[k]?.getD 0) = cfR D p k from rfl] at hI;replace hI := fun W => Lib.hid (hI W)
  have hcx := Lib.hid (show _ ∧ _ from ⟨hbx0.out,(hB0.cell (p := ⟨b,o + k,none⟩) hb).trans hc⟩);generalize p[k]?.getD 0 = y at *;obtain ⟨Y,hY⟩ : ∃ Y,Y = w.alloc (.cells #[.int .i64 D.p,.int .i64 D.m,.slice A D.mod.length c] 24) := ⟨_,rfl⟩;rw [← hY] at hB0 hcx hbx0;replace hY := Lib.hid hY;clear hc;go_enter Tryz.func261,Tryz.ntmps261;go_wp2_with (fail);rw [← hY.out];refine wp_region_held_drew (S := fun w' => (w'.cell? ⟨w.heap.size,0,none⟩ = some (.int .i64 D.p) ∧ w'.cell? ⟨w.heap.size,1,none⟩ = some (.int .i64 D.m) ∧ w'.cell? ⟨w.heap.size,2,none⟩ = some (.slice A D.mod.length c)) ∧ w'.cell? ⟨b,o + k,none⟩ = some (.int .i64 y)) (by kernel_rfl) (by (try dsimp only); exact hcx.out) (fun hHeld => ?_);refine tk 0 ?_; try simp only [pS]
  refine tk 1 ?_; try simp only [pS]
  refine tk 2 ?_; try simp only [pS]
  refine tk 3 ?_; try simp only [pS]
  refine tk 4 ?_; try simp only [pS]
  refine rd 5 fun K hK => ?_
  go_simp;go_at_call 80;(with_reducible refine (hI Y.drew).out.mono ?_);rintro e w1 ⟨rfl,hx1⟩;have hb1 := (Below.refl Y.heap.size Y).drew.trans hx1;go_wp2_with (fail);refine hK.out _ _ (by (try dsimp only); exact ⟨keep3 hb1 (by rw [hY.out]; simp) hcx.out.1,(hb1.cell (p := ⟨b,o + k,none⟩) (Nat.lt_of_lt_of_le hb hB0.size)).trans hcx.out.2⟩) (fun hHeld => ?_);clear hK K;try simp only [pS]
  refine tk 6 ?_; try simp only [pS]
  refine wpAnyH_done (by kernel_rfl) ?_ _;go_wp2_with (fail);go_ret;exact ⟨rfl,hB0.trans (hb1.mono hB0.size)⟩
 ·have hk1 : ¬ (k : Int) < (p.length : Int) := by omega
  have hk2 : (p.length : Int) ≤ (k : Int) := by omega
  have hf : Hid (ci (cfR D p k) = 0) := by unfold Hid; rw [cfR_out D (by omega),ci_zero]
  go_enter Tryz.func261,Tryz.ntmps261;go_wp2_with (fail);go_ret;exact ⟨by rw [hf.out]; rfl,hB0⟩

set_option maxRecDepth 100000 in
set_option maxHeartbeats 2000000 in
theorem Scale5_any (D : Desc) (a : Int) (p : List Int) (A A1 : Option Addr) (c c1 : Nat) (w : World) (hr : Rd w w.heap.size A (modL D)) (hr1 : Rd w w.heap.size A1 p) (hl : p.length ≤ 20000) :
  Calls Tryz.prog 226 #[.agg #[.int .i64 D.p,.int .i64 D.m,.slice A D.mod.length c],.int .i64 a,.slice A1 p.length c1] w (Gives w.heap.size (scaleI D a p) w) := by
 have hM := fun y W h => Mul_any D a y A c W h
 obtain ⟨m,hm⟩ : ∃ m,m = p.length := ⟨_,rfl⟩;obtain ⟨f,hf⟩ : ∃ f : Nat → R D,f = fun i => eli D a * cfR D p i := ⟨_,rfl⟩
 have hfin := canI_lst D f m;rw [show canL (fun i => ci (f i)) m = scaleI D a p from by rw [hf,hm]; rfl] at hfin;have hmk := mk_ints m (by omega);have hC := fun A' c' W h => Canon5_any D (lst m fun i => ci (f i)) A A' c c' W h (by rw [lst_length]; omega)
 rw [hfin,lst_length] at hC;obtain ⟨X,hX⟩ : ∃ X,X = w.alloc (.cells #[.int .i64 D.p,.int .i64 D.m,.slice A D.mod.length c] 24) := ⟨_,rfl⟩;have hbX : Below w.heap.size w X := by rw [hX]; exact (Below.refl _ _).alloc (Nat.le_refl _) _
 have hXs : X.heap.size = w.heap.size + 1 := by rw [hX]; simp
 have hbxX : Bx X w.heap.size D A D.mod.length c := by rw [hX]; exact Bx.new w D A D.mod.length c _
 obtain ⟨g,hg⟩ : ∃ g,g = w.heap.size + 1 := ⟨_,rfl⟩;obtain ⟨Y,hY⟩ : ∃ Y,Y = X.alloc (.cells (Array.replicate m (Value.int .i64 0)) 3) := ⟨_,rfl⟩;have hib : IB Y g (upd m 0 fun i => ci (f i)) := by rw [upd_zero,hY,hg,← hXs]; exact IB.newz X m
 have hbY : Below X.heap.size X Y := by rw [hY]; exact (Below.refl _ _).alloc (Nat.le_refl _) _
 have hBY := hbX.trans (hbY.mono hbX.size);have hbxY := hbxX.below hbY (by omega);have hwg : w.heap.size < g := by omega
 rw [← hm];have hm2 : m ≤ 20000 := by omega
 replace hm := Lib.hid hm;replace hf := Lib.hid hf;replace hX := Lib.hid hX;replace hY := Lib.hid hY;clear hbxX hbX hXs hbY;go_enter Tryz.func226,Tryz.ntmps226;go_wp2_with (fail);rw [← hX.out];rw [← hY.out];simp only [← hg];replace hg := Lib.hid hg;go_loopw [8] (fun iS wr => ∃ i : Nat,i ≤ m ∧ iS = .int .i64 i ∧ Hid (IB wr g (upd m i fun i => ci (f i))) ∧ Bx wr w.heap.size D A D.mod.length c ∧ Below w.heap.size w wr) (fun iS _ => m - (intOf iS).toNat)
 case atStart => exact ⟨0,by omega,rfl,hib,hbxY,hBY⟩
 case round =>
  clear hib hbxY hBY hX hY;obtain ⟨w2,rfl⟩ : ∃ w2 : World,w2 = wr := ⟨_,rfl⟩;obtain ⟨i,hi,rfl,hib,hbx,hbw⟩ := hrel;have hgl := hib.out.lt;have hwl : w.heap.size < w2.heap.size := by omega
  by_cases him : i < m
  ·have i0 : (0 : Int) ≤ (i : Int) := by omega
   have i1 : (i : Int) < (m : Int) := by omega
   obtain ⟨b,o,rfl,hb,hc⟩ := hr1.at_ (k := i) (by rw [← hm.out]; exact him);have hrd : Rd w2.drew w2.drew.heap.size A (modL D) := ((hr.below hbw).more hbw.size).drew;have hM2 := hM (p[i]?.getD 0) w2.drew hrd;rw [show eli D a * eli D (p[i]?.getD 0) = f i from by rw [hf.out]; rfl] at hM2;obtain ⟨y,hy⟩ : ∃ y,y = p[i]?.getD 0 := ⟨_,rfl⟩;obtain ⟨v,hv⟩ : ∃ v,v = ci (f i) := ⟨_,rfl⟩;rw [← hy] at hc hM2;rw [← hv] at hM2;have hd := (hbw.cell (p := ⟨b,o + i,none⟩) hb).trans hc;have hb' := Nat.lt_of_lt_of_le hb hbw.size;have hbg : b ≠ g := by omega
   have hcc := Lib.hid (show _ ∧ _ from ⟨hbx.cells,hd⟩);have hkk : Hid (i < (upd m i fun i => ci (f i)).length) := by unfold Hid; rw [upd_length]; exact him
   replace hM2 := Lib.hid hM2;replace hy := Lib.hid hy;replace hv := Lib.hid hv;clear hc hd;go_wp2_with (fail);refine wp_region_held_drew (S := fun w' => (w'.cell? ⟨w.heap.size,0,none⟩ = some (.int .i64 D.p) ∧ w'.cell? ⟨w.heap.size,1,none⟩ = some (.int .i64 D.m) ∧ w'.cell? ⟨w.heap.size,2,none⟩ = some (.slice A D.mod.length c)) ∧ w'.cell? ⟨b,o + i,none⟩ = some (.int .i64 y)) (by kernel_rfl) (by (try dsimp only); exact hcc.out) (fun hHeld => ?_);refine tk 0 ?_; try simp only [pS]
   refine tk 1 ?_; try simp only [pS]
   refine tk 2 ?_; try simp only [pS]
   refine tk 3 ?_; try simp only [pS]
   refine tk 4 ?_; try simp only [pS]
   refine tk 5 ?_; try simp only [pS]
   refine tk 6 ?_; try simp only [pS]
   refine tk 7 ?_; try simp only [pS]
   refine rd 8 fun K hK => ?_
   go_simp;go_at_call 29;(with_reducible refine (hM2).out.mono ?_);rintro e w3 ⟨rfl,hx3⟩;have hb3 := (Below.refl w2.heap.size w2).drew.trans hx3;have hs3 := hb3.size;have hcc3 := Lib.hid (show _ ∧ _ from ⟨keep3 hb3 hwl hcc.out.1,(hb3.cell (p := ⟨b,o + i,none⟩) hb').trans hcc.out.2⟩);have hib3 := hib.out.below hb3 hgl;have hcW := hib3.cell hkk.out;have hfW := hib3.frozen i;go_wp2_with (fail);refine hK.out _ _ (by (try dsimp only); exact hcc3.out) (fun hHeld => ?_);clear hK K;try simp only [pS]
   refine tk 9 ?_; try simp only [pS]
   refine rd 10 fun K hK => ?_
   go_simp;refine hK.out _ _ (by (try dsimp only); exact ⟨keep3 (B := g) ((Below.refl _ _).setCell (p := ⟨g,i,none⟩) (Nat.le_refl _) _) hwg hcc3.out.1,(World.cell?_setCell_far _ _ _ _ hbg.symm).trans hcc3.out.2⟩) (fun hHeld => ?_);clear hK K;try simp only [pS]
   refine wpAnyH_done (by kernel_rfl) ?_ _;have hset := hib3.set_ i v;rw [hv.out,upd_set (f := fun i => ci (f i)),← hv.out] at hset;have hbs : Hid (Below w.heap.size w (w3.setCell ⟨g,i,none⟩ (.int .i64 v))) := (hbw.trans (hb3.mono hbw.size)).setCell (p := ⟨g,i,none⟩) (Nat.le_of_lt hwg) _;have hbx5 : Hid (Bx (w3.setCell ⟨g,i,none⟩ (.int .i64 v)) w.heap.size D A D.mod.length c) := keep3 (B := g) ((Below.refl _ _).setCell (p := ⟨g,i,none⟩) (Nat.le_refl _) _) hwg hcc3.out.1;replace hset := Lib.hid hset;clear hcW hfW;go_wp2_with (fail);go_roundw
   case rel => exact ⟨i + 1,by omega,by go_num,hset,hbx5.out,hbs.out⟩
   case measure => simp [intOf]; omega
  ·obtain rfl : i = m := by omega
   rw [upd_full] at hib;obtain ⟨q0,q1,q2⟩ := hbx.cells;have hC2 := Lib.hid (hC (some ⟨g,0,none⟩) i w2 hib.out.rd);go_wp2_with (fail);(with_reducible refine hC2.out.mono ?_);rintro e w3 ⟨g3,rfl,hg3,hib3,hb3⟩;go_wp2_with (fail);go_ret;exact ⟨g3,rfl,Nat.le_trans hbw.size hg3,hib3,hbw.trans (hb3.mono hbw.size)⟩

set_option maxHeartbeats 1000000 in
theorem Pow5_any (n : Nat) (w : World) (hn : n ≤ 20000) :
  Calls Tryz.prog 189 #[.int .i64 n] w (Gives w.heap.size (powI n) w) := by
 obtain ⟨m,hm⟩ : ∃ m,m = n + 1 := ⟨_,rfl⟩;have hmk := mk_ints m (by omega);rw [show (m : Int) = (n : Int) + 1 by omega] at hmk;have n0 : (0 : Int) ≤ (n : Int) := by omega
 have n1 : (n : Int) < (m : Int) := by omega
 have hib := IB.newz w m;have hcA := hib.cell (i := n) (by simp; omega);have hfA := hib.frozen n;have hset := hib.set_ n 1;rw [show (List.replicate m (0 : Int)).set n 1 = powI n from by
  apply List.ext_getElem?;intro i;unfold powI lst;rw [← hm,List.getElem?_map];by_cases hi : i < m
  ·rw [List.getElem?_range hi];by_cases e : i = n
   ·subst e;rw [List.getElem?_set_self (by simpa using hi)];simp
   ·rw [List.getElem?_set_ne (fun h => e h.symm),List.getElem?_replicate_of_lt hi];simp [e]
  ·rw [List.getElem?_eq_none (by simp; omega),List.getElem?_eq_none (by simp; omega)]; rfl] at hset
 have hB : Below w.heap.size w ((w.alloc (.cells (Array.replicate m (Value.int .i64 0)) 3)).setCell ⟨w.heap.size,n,none⟩ (.int .i64 1)) := ((Below.refl _ _).alloc (Nat.le_refl _) _).setCell (p := ⟨w.heap.size,n,none⟩) (Nat.le_refl _) _;have hfin : Hid (Gives w.heap.size (powI n) w (.returned (.slice (some ⟨w.heap.size,0,none⟩) m m)) ((w.alloc (.cells (Array.replicate m (Value.int .i64 0)) 3)).setCell ⟨w.heap.size,n,none⟩ (.int .i64 1))) := ⟨w.heap.size,by rw [powI_length,← hm],Nat.le_refl _,hset,hB⟩;have hsc : Hid ((w.alloc (.cells (Array.replicate m (Value.int .i64 0)) 3)).setCell ⟨w.heap.size,n,none⟩ (.int .i64 1) = w.alloc (.cells ((Array.replicate m (Value.int .i64 0)).setIfInBounds n (.int .i64 1)) 3)) := World.setCell_alloc_at _ _ _ _ _ rfl;replace hm := Lib.hid hm;clear hib hset hB;go_enter Tryz.func189,Tryz.ntmps189;go_wp2_with (fail);go_ret
 first | exact hfin.out | (rw [← hsc.out]; exact hfin.out)
end
end Go.Proofs.YtjdoneanohhkmaaGreat

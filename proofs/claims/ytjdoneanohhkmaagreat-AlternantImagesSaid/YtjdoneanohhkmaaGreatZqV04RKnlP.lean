/- Plain: sums and products of three codes, in both orders of the brackets; transposed words. No Go here. Plain: the dual spaces of sums, of interleaved words, of words (u, u + v). No Go here. Plain law of layer 38: Gao's decoder, over coefficients. No Go here. Plain algebra: the ring of polynomials as coefficient functions, division, coprime polynomials. No Go here. Plain law of layer 19: the rational function of a word, and squarefree Goppa polynomials in characteristic 2. No Go here. Plain law of layer 19: words over a subfield, their images, coordinates and traces. No Go here. Plain: the code of the words whose images meet checks over the greater field. No Go here. Layer 5 of the program: combine. Plain law of layer 5: At, Add, Scale, Sub, Power over lists; the step of a division. No Go here. Plain law of layer 38: Euclid's algorithm of Gao's decoder, over lists of coefficients. No Go here. -/
import Derived.IntWalk
import Derived.Test.YtjdoneanohhkmaaGreatZqV04RP1
import Derived.Test.YtjdoneanohhkmaaGreatZqV04REmbL
import Derived.Test.YtjdoneanohhkmaaGreatZqV04RNrm
import Derived.Test.YtjdoneanohhkmaaGreatZqV04RMatX
import Derived.Test.YtjdoneanohhkmaaGreatZqV04RPoR
import Derived.Test.YtjdoneanohhkmaaGreatZqV04RApR
set_option linter.unusedVariables false
set_option linter.unusedSimpArgs false
namespace Cw
open Go.Proofs.YtjdoneanohhkmaaGreat (sumR)
section
variable {F : Type} [CField F]
theorem same_iff {n n' m : Nat} {A B : Nat → Nat → F} (h : SameSpan n n' m A B) (u : Nat → F) : Span n m A u ↔ Span n' m B u :=
 ⟨fun g => g.trans h.1,fun g => g.trans h.2⟩
end
end Cw
namespace Go.Proofs.YtjdoneanohhkmaaGreat
open Cw
section
variable {F : FD}
end
end Go.Proofs.YtjdoneanohhkmaaGreat

namespace Cw
theorem npv_step {p : Nat → Nat} {r m : Nat} : npv p (r + 1) m = (npv p r m).filter fun c => c != p r := by
 unfold npv;rw [List.filter_filter];refine List.filter_congr fun c _ => ?_
 by_cases h : ∃ i,i < r ∧ p i = c
 ·have h2 : ∃ i,i < r + 1 ∧ p i = c := by obtain ⟨i,h1,e⟩ := h; exact ⟨i,by omega,e⟩
  simp [h,h2]
 ·by_cases e : p r = c
  ·have h2 : ∃ i,i < r + 1 ∧ p i = c := ⟨r,by omega,e⟩;subst e;simp [h2]
  ·have h2 : ¬ ∃ i,i < r + 1 ∧ p i = c := fun ⟨i,h1,e1⟩ => h ⟨i,by
    by_cases g : i = r
    ·subst g; exact absurd e1 e
    ·omega,e1⟩
   have e2 : (c != p r) = true := by rw [bne_iff_ne]; exact fun g => e g.symm
   simp only [h,h2,e2,decide_false,Bool.not_false,Bool.and_self]
theorem npv_len {p : Nat → Nat} {m : Nat} : ∀ r,(∀ i,i < r → p i < m) → (∀ i j,i < r → j < r → p i = p j → i = j) → (npv p r m).length + r = m
 | 0,_,_ => by
  have e : npv p 0 m = List.range m := by
   unfold npv;refine List.filter_eq_self.2 fun c _ => ?_
   simp
  rw [e,List.length_range]; rfl
 | r + 1,h1,h2 => by
  have ih := npv_len r (fun i hi => h1 i (by omega)) (fun i j hi hj e => h2 i j (by omega) (by omega) e);have hm : p r ∈ npv p r m := npv_mem.2 ⟨h1 r (by omega),fun i hi e => by have := h2 i r (by omega) (by omega) e; omega⟩;have h3 : (npv p (r + 1) m).length + 1 = (npv p r m).length := by
   rw [npv_step,← List.Nodup.erase_eq_filter (npv_nodup p r m),List.length_erase_of_mem hm];have := List.length_pos_of_mem hm;omega
  omega
end Cw
namespace Cw
open Go.Proofs.YtjdoneanohhkmaaGreat (joinF)
open Go.Proofs.YtjdoneanohhkmaaGreat (stackR sumR ploR stackR_lo stackR_hi)
section
variable {F : Type} [CField F]
theorem orth_stack {K1 K2 m : Nat} {A B : Nat → Nat → F} {u : Nat → F} : Orth (K1 + K2) m (stackR K1 A B) u ↔ Orth K1 m A u ∧ Orth K2 m B u := by
 constructor
 ·intro h;refine ⟨fun i hi => ?_,fun i hi => ?_⟩
  ·have h1 := h i (by omega); rw [stackR_lo A B hi] at h1; exact h1
  ·have h1 := h (K1 + i) (by omega); rw [stackR_hi A B] at h1; exact h1
 ·rintro ⟨h1,h2⟩ i hi;by_cases g : i < K1
  ·rw [stackR_lo A B g]; exact h1 i g
  ·have h3 := h2 (i - K1) (by omega);rw [← stackR_hi A B (K := K1),show K1 + (i - K1) = i by omega] at h3;exact h3
end
end Cw

namespace Cw
section
variable {R : Type} [CRing R]
theorem rsum_tail {n m : Nat} (h : n ≤ m) {f : Nat → R} (hz : ∀ i,n ≤ i → i < m → f i = 0) : rsum m f = rsum n f := by
 obtain ⟨d,rfl⟩ : ∃ d,m = n + d := ⟨m - n,by omega⟩;rw [rsum_split,rsum_eq_zero (n := d) fun i hi => hz (n + i) (by omega) (by omega),add_zero]
theorem rsum_rev : ∀ (n : Nat) (f : Nat → R),rsum n f = rsum n fun i => f (n - 1 - i)
 | 0,_ => rfl
 | n + 1,f => by
  rw [rsum_succ_left n (fun i => f (n + 1 - 1 - i)),rsum_succ,rsum_rev n f,add_c]
  congr 1
  exact rsum_congr fun i _ => by rw [show n + 1 - 1 - (i + 1) = n - 1 - i by omega]
def LtD (f : Nat → R) (n : Nat) : Prop := ∀ t,n ≤ t → f t = 0
theorem conv_comm (f g : Nat → R) (t : Nat) : conv f g t = conv g f t := by
 unfold conv
 rw [rsum_rev];exact rsum_congr fun i hi => by rw [show t + 1 - 1 - i = t - i by omega,show t - (t - i) = i by omega,mul_c]
theorem conv_lead {f g : Nat → R} {a b : Nat} (hf : LtD f (a + 1)) (hg : LtD g (b + 1)) : conv f g (a + b) = f a * g b := by
 unfold conv
 rw [rsum_single (k := a) (by omega) fun i hi hne => ?_,show a + b - a = b by omega];rcases Nat.lt_or_ge a i with h | h
 ·rw [hf i h,zero_mul]
 ·rw [hg (a + b - i) (by omega),mul_zero]
end
section
variable {F : Type} [CField F]
theorem conv_short {f g : Nat → F} {a : Nat} (hf : f a ≠ 0) (hfl : LtD f (a + 1)) (h : ∀ t,a ≤ t → conv f g t = 0) : ∀ N,LtD g N → ∀ t,g t = 0
 | 0,hg,t => hg t (Nat.zero_le _)
 | N + 1,hg,t => by
  have h1 := h (a + N) (by omega);rw [conv_lead hfl hg] at h1;rcases mul_eq_zero h1 with e | e
  ·exact absurd e hf
  ·exact conv_short hf hfl h N (fun s hs => by
    by_cases e2 : s = N
    ·rw [e2]; exact e
    ·exact hg s (by omega)) t
end
end Cw

namespace Cw
section
variable {R : Type} [CRing R]
theorem conv_dbl (f g : Nat → R) {t N : Nat} (h : t < N) : conv f g t = rsum N fun i => rsum N fun j => if i + j = t then f i * g j else 0 := by
 unfold conv
 rw [rsum_tail (n := t + 1) (m := N) (by omega) fun i h1 _ => rsum_eq_zero fun j _ => if_neg (by omega)];refine rsum_congr fun i hi => ?_
 rw [rsum_single (k := t - i) (by omega) fun j _ hne => if_neg (by omega),if_pos (by omega)]
theorem conv_tri (f g h : Nat → R) (t : Nat) : conv (conv f g) h t = rsum (t + 1) fun i => rsum (t + 1) fun j => rsum (t + 1) fun k => if i + j + k = t then f i * g j * h k else 0 := by
 rw [conv_dbl (conv f g) h (Nat.lt_succ_self t)];have e1 : ∀ s,s < t + 1 → (rsum (t + 1) fun k => if s + k = t then conv f g s * h k else 0) = rsum (t + 1) fun i => rsum (t + 1) fun j => rsum (t + 1) fun k => if i + j = s then (if s + k = t then f i * g j * h k else 0) else 0 := fun s hs => by
  have e2 : ∀ k,(if s + k = t then conv f g s * h k else 0) = rsum (t + 1) fun i => rsum (t + 1) fun j => if i + j = s then (if s + k = t then f i * g j * h k else 0) else 0 := fun k => by
   by_cases e : s + k = t
   ·simp only [if_pos e];rw [conv_dbl f g hs,← rsum_mul_right];refine rsum_congr fun i _ => ?_
    rw [← rsum_mul_right];refine rsum_congr fun j _ => ?_
    by_cases e3 : i + j = s
    ·rw [if_pos e3,if_pos e3]
    ·rw [if_neg e3,if_neg e3,zero_mul]
   ·simp only [if_neg e,ite_self];rw [rsum_eq_zero fun i _ => rsum_eq_zero fun j _ => rfl]
  rw [rsum_congr fun k _ => e2 k,rsum_swap];refine rsum_congr fun i _ => ?_
  rw [rsum_swap]
 rw [rsum_congr e1,rsum_swap];refine rsum_congr fun i hi => ?_
 rw [rsum_swap];refine rsum_congr fun j hj => ?_
 rw [rsum_swap];refine rsum_congr fun k hk => ?_
 by_cases e : i + j < t + 1
 ·rw [rsum_single (k := i + j) e fun s _ hne => if_neg (fun e2 => hne e2.symm),if_pos rfl]
 ·rw [if_neg (by omega),rsum_eq_zero fun s hs => if_neg (by omega)]
theorem conv_assoc (f g h : Nat → R) (t : Nat) : conv (conv f g) h t = conv f (conv g h) t := by
 rw [conv_comm f,conv_tri,conv_tri];rw [rsum_congr fun i _ => rsum_swap (t + 1) (t + 1) fun j k => if i + j + k = t then f i * g j * h k else 0];rw [rsum_swap];rw [rsum_congr fun k _ => rsum_swap (t + 1) (t + 1) fun i j => if i + j + k = t then f i * g j * h k else 0];rw [rsum_swap];refine rsum_congr fun j _ => rsum_congr fun k _ => rsum_congr fun i _ => ?_
 by_cases e : i + j + k = t
 ·rw [if_pos e,if_pos (by omega)]; ac_rfl
 ·rw [if_neg e,if_neg (by omega)]
theorem conv_addr (f g h : Nat → R) (t : Nat) : conv f (fun s => g s + h s) t = conv f g t + conv f h t := by
 unfold conv
 rw [← rsum_add];exact rsum_congr fun i _ => mul_add _ _ _
structure Pl (R : Type) [CRing R] where
 c : Nat → R
 fin : ∃ n,LtD c n
theorem Pl.ext' {a b : Pl R} (h : ∀ t,a.c t = b.c t) : a = b := by
 obtain ⟨f,hf⟩ := a;obtain ⟨g,hg⟩ := b;have e : f = g := funext h;subst e;rfl
instance : Add (Pl R) := ⟨fun a b => ⟨fun t => a.c t + b.c t,by
 obtain ⟨n,hn⟩ := a.fin;obtain ⟨m,hm⟩ := b.fin;exact ⟨n + m,fun t ht => by show a.c t + b.c t = 0; rw [hn t (by omega),hm t (by omega),add_zero]⟩⟩⟩
instance : Mul (Pl R) := ⟨fun a b => ⟨conv a.c b.c,by
 obtain ⟨n,hn⟩ := a.fin;obtain ⟨m,hm⟩ := b.fin;exact ⟨n + m,fun t ht => conv_high hn hm (by omega)⟩⟩⟩
instance : Neg (Pl R) := ⟨fun a => ⟨fun t => - a.c t,by
 obtain ⟨n,hn⟩ := a.fin;exact ⟨n,fun t ht => by show -a.c t = 0; rw [hn t ht,neg_zero]⟩⟩⟩
instance : Zero (Pl R) := ⟨⟨fun _ => 0,0,fun _ _ => rfl⟩⟩
instance : One (Pl R) := ⟨⟨fun t => if t = 0 then 1 else 0,1,fun t ht => if_neg (by omega)⟩⟩
theorem pl_one (t : Nat) : (1 : Pl R).c t = if t = 0 then 1 else 0 := rfl
instance : CRing (Pl R) where
 add_assoc' a b c := Pl.ext' fun t => add_a _ _ _
 add_comm' a b := Pl.ext' fun t => add_c _ _
 mul_assoc' a b c := Pl.ext' fun t => conv_assoc a.c b.c c.c t
 mul_comm' a b := Pl.ext' fun t => conv_comm a.c b.c t
 zero_add' a := Pl.ext' fun t => zero_add _
 neg_add' a := Pl.ext' fun t => neg_add _
 one_mul' a := Pl.ext' fun t => by
  show conv (fun t => if t = 0 then (1 : R) else 0) a.c t = a.c t
  unfold conv
  rw [rsum_single (k := 0) (by omega) fun i _ hne => by dsimp only; rw [if_neg hne,zero_mul]];dsimp only;rw [if_pos rfl,one_mul,Nat.sub_zero]
 mul_add' a b c := Pl.ext' fun t => conv_addr a.c b.c c.c t
def Pl.lt (a : Pl R) (n : Nat) : Prop := LtD a.c n
def Pl.k (x : R) : Pl R := ⟨fun t => if t = 0 then x else 0,1,fun t ht => if_neg (by omega)⟩
def Pl.lin (x : R) : Pl R := ⟨fun t => if t = 0 then -x else if t = 1 then 1 else 0,2,fun t ht => by dsimp only; rw [if_neg (by omega),if_neg (by omega)]⟩
theorem pl_k_mul (x : R) (a : Pl R) (t : Nat) : (Pl.k x * a).c t = x * a.c t := by
 show conv (fun t => if t = 0 then x else 0) a.c t = _
 unfold conv
 rw [rsum_single (k := 0) (by omega) fun i _ hne => by dsimp only; rw [if_neg hne,zero_mul]];dsimp only;rw [if_pos rfl,Nat.sub_zero]
def Pl.dvd (a b : Pl R) : Prop := ∃ c,b = c * a
theorem Pl.dvd.add {a b c : Pl R} (h : a.dvd b) (g : a.dvd c) : a.dvd (b + c) := by
 obtain ⟨u,rfl⟩ := h;obtain ⟨v,rfl⟩ := g;exact ⟨u + v,(add_mul _ _ _).symm⟩
theorem Pl.dvd.mul {a b : Pl R} (h : a.dvd b) (c : Pl R) : a.dvd (c * b) := by
 obtain ⟨u,rfl⟩ := h;exact ⟨c * u,(mul_a _ _ _).symm⟩
theorem Pl.dvd.zero (a : Pl R) : a.dvd 0 := ⟨0,(zero_mul a).symm⟩
def Cop (a b : Pl R) : Prop := ∃ u v,u * a + v * b = 1
end
section
variable {F : Type} [CField F]
open CField (inv)
theorem dvd_zero {g a : Pl F} {n : Nat} (hg : g.lt (n + 1)) (h0 : g.c n ≠ 0) (ha : a.lt n) (h : g.dvd a) : a = 0 := by
 obtain ⟨q,rfl⟩ := h;obtain ⟨N,hN⟩ := q.fin;have hz := conv_short (f := g.c) (g := q.c) (a := n) h0 hg (fun t ht => by
  rw [conv_comm]; exact ha t ht) N hN
 have e : q = 0 := Pl.ext' hz;rw [e,zero_mul]
end
end Cw

namespace Cw
section
variable {R : Type} [CRing R]
theorem nsm_zero_r (n : Nat) : nsm n (0 : R) = 0 := by rw [nsm_mul,mul_zero]
def Pl.D (a : Pl R) : Pl R := ⟨fun t => nsm (t + 1) (a.c (t + 1)),by
 obtain ⟨n,hn⟩ := a.fin;exact ⟨n,fun t ht => by dsimp only; rw [hn (t + 1) (by omega),nsm_zero_r]⟩⟩
theorem pl_D (a : Pl R) (t : Nat) : a.D.c t = nsm (t + 1) (a.c (t + 1)) := rfl
def hP : List (R × R) → Pl R
 | [] => 1
 | (x,_) :: l => Pl.lin x * hP l
end
section
variable {F : Type} [CField F]
open CField (inv)
end
end Cw

namespace Go.Proofs.YtjdoneanohhkmaaGreat
open Go.RowKit Cw
open Cw.CField (inv)
section
variable {S F : FD} {r : R F.toDesc}
theorem char_two (hp : S.p = F.p) : nsm S.p (1 : R F.toDesc) = 0 := by rw [hp]; exact char_R
theorem phi_onto (hp : S.p = F.p) (h0 : muV S F r = 0) {y : R F.toDesc} (hy : InSub S.m y) : ∃ u : R S.toDesc,phi S F r u = y := by
 refine Classical.byContradiction fun hno => ?_
 have hc := char_two (S := S) (F := F) hp;have hq : S.q = F.p ^ S.m := by rw [← hp]; rfl
 have h2 := S.toDesc.q2;have hfix : ∀ x : R F.toDesc,InSub S.m x → pw x S.q = x := fun x hx => by
  have h3 : pw x (F.p ^ S.m) = x := hx;rw [← hq] at h3; exact h3
 have ha : ∀ i,InSub S.m (if i < S.q then phi S F r (rel S.toDesc i) else y) := fun i => by
  by_cases e : i < S.q
  ·rw [if_pos e]; exact phi_sub hp hc h0 _
  ·rw [if_neg e]; exact hy
 have key := rsum_roots (n := S.q + 1) (f := fun i => if i = S.q then (1 : R F.toDesc) else if i = 1 then -1 else 0) (a := fun i => if i < S.q then phi S F r (rel S.toDesc i) else y)
  (fun i j hi hj e => by
   by_cases g1 : i < S.q
   ·by_cases g2 : j < S.q
    ·rw [if_pos g1,if_pos g2] at e;have h3 := congrArg rcode (phi_inj hc h0 e);rw [rcode_rel g1,rcode_rel g2] at h3;exact h3
    ·rw [if_pos g1,if_neg g2] at e;exact absurd ⟨_,e⟩ hno
   ·by_cases g2 : j < S.q
    ·rw [if_neg g1,if_pos g2] at e;exact absurd ⟨_,e.symm⟩ hno
    ·omega)
  (fun k _ => by
   have h3 := hfix _ (ha k);generalize (if k < S.q then phi S F r (rel S.toDesc k) else y) = x at h3 ⊢;rw [rsum_succ,if_pos rfl,one_mul,rsum_single (k := 1) (by omega) fun i hi hne => by rw [if_neg (by omega),if_neg hne,zero_mul]];rw [if_neg (by omega),if_pos rfl,pw_one,neg_mul,one_mul,h3,neg_add]) (i := S.q) (by omega)
 rw [if_pos rfl] at key;exact one_ne key
open Classical in
noncomputable def bk (S F : FD) (r : R F.toDesc) (y : R F.toDesc) : R S.toDesc := if h : ∃ u,phi S F r u = y then Classical.choose h else 0
theorem bk_phi (hp : S.p = F.p) (h0 : muV S F r = 0) (u : R S.toDesc) : bk S F r (phi S F r u) = u := by
 have h : ∃ u',phi S F r u' = phi S F r u := ⟨u,rfl⟩;unfold bk;rw [dif_pos h];exact phi_inj (char_two hp) h0 (Classical.choose_spec h)
theorem phi_bk (hp : S.p = F.p) (h0 : muV S F r = 0) {y : R F.toDesc} (hy : InSub S.m y) : phi S F r (bk S F r y) = y := by
 have h := phi_onto hp h0 hy;unfold bk;rw [dif_pos h];exact Classical.choose_spec h
theorem bk_out {y : R F.toDesc} (h : ¬ ∃ u,phi S F r u = y) : bk S F r y = 0 := by unfold bk; rw [dif_neg h]
theorem phi_eq_zero (hp : S.p = F.p) (h0 : muV S F r = 0) {u : R S.toDesc} : phi S F r u = 0 ↔ u = 0 := by
 refine ⟨fun h => phi_inj (char_two hp) h0 (h.trans (phi_zero r).symm),fun h => by rw [h,phi_zero]⟩
theorem row_iff (hp : S.p = F.p) (h0 : muV S F r = 0) {n N : Nat} {b : Nat → R F.toDesc} (hI : IndS S.m n b) {h : Nat → R F.toDesc} {c : Nat → Nat → R F.toDesc}
  (hc : ∀ j,j < N → (∀ t,t < n → InSub S.m (c j t)) ∧ rsum n (fun t => c j t * b t) = h j) (u : Nat → R S.toDesc) :
  rsum N (fun j => h j * phi S F r (u j)) = 0 ↔ ∀ t,t < n → rsum N (fun j => bk S F r (c j t) * u j) = 0 := by
 have hcc := char_two (S := S) (F := F) hp;have e1 : ∀ t,t < n → phi S F r (rsum N fun j => bk S F r (c j t) * u j) = rsum N fun j => c j t * phi S F r (u j) := fun t ht => by
  rw [phi_rsum hp];exact rsum_congr fun j hj => by rw [phi_mul hcc h0,phi_bk hp h0 ((hc j hj).1 t ht)]
 have e2 : rsum N (fun j => h j * phi S F r (u j)) = rsum n fun t => (rsum N fun j => c j t * phi S F r (u j)) * b t := by
  rw [rsum_congr (g := fun j => rsum n fun t => c j t * phi S F r (u j) * b t) fun j hj => by
   rw [← (hc j hj).2,← rsum_mul_right];exact rsum_congr fun t _ => by ac_rfl,rsum_swap]
  exact rsum_congr fun t _ => rsum_mul_right _ _ _
 rw [e2];constructor
 ·intro hz t ht;have h1 := hI _ (fun t ht => InSub.rsum fun j hj => ((hc j hj).1 t ht).mul (phi_sub hp hcc h0 _)) hz t ht;exact (phi_eq_zero hp h0).1 ((e1 t ht).trans h1)
 ·intro hz;exact rsum_eq_zero fun t ht => by rw [← e1 t ht,hz t ht,phi_zero,zero_mul]
end
end Go.Proofs.YtjdoneanohhkmaaGreat
namespace Cw
section
variable {F : Type} [CField F]
end
end Cw

namespace Go.Proofs.YtjdoneanohhkmaaGreat
section
open Go.RowKit Cw
section
variable {S F : FD} {r : R F.toDesc} {N t k n : Nat} {h : Nat → Nat → R F.toDesc} {E : Nat → Nat → R S.toDesc}
def Meets (S F : FD) (r : R F.toDesc) (N t : Nat) (h : Nat → Nat → R F.toDesc) (u : Nat → R S.toDesc) : Prop := ∀ i,i < t → rsum N (fun j => h i j * phi S F r (u j)) = 0
def Tells (S F : FD) (r : R F.toDesc) (N t : Nat) (h : Nat → Nat → R F.toDesc) (k : Nat) (E : Nat → Nat → R S.toDesc) : Prop := ∀ u,Orth k N E u ↔ Meets S F r N t h u
theorem Tells.zero (S F : FD) (r : R F.toDesc) (N : Nat) (h : Nat → Nat → R F.toDesc) (E : Nat → Nat → R S.toDesc) : Tells S F r N 0 h 0 E := fun _ => ⟨fun _ i hi => absurd hi (Nat.not_lt_zero i),fun _ i hi => absurd hi (Nat.not_lt_zero i)⟩
noncomputable def lineM (S F : FD) (r : R F.toDesc) (c : Nat → Nat → R F.toDesc) : Nat → Nat → R S.toDesc := fun i j => bk S F r (c j i)
theorem Meets.succ (u : Nat → R S.toDesc) : Meets S F r N (t + 1) h u ↔ Meets S F r N t h u ∧ rsum N (fun j => h t j * phi S F r (u j)) = 0 := by
 constructor
 ·intro g;exact ⟨fun i hi => g i (by omega),g t (by omega)⟩
 ·rintro ⟨g1,g2⟩ i hi;by_cases e : i = t
  ·subst e; exact g2
  ·exact g1 i (by omega)
theorem Tells.step (hp : S.p = F.p) (h0 : muV S F r = 0) {b : Nat → R F.toDesc} (hI : IndS S.m n b) (hT : Tells S F r N t h k E) {c : Nat → Nat → R F.toDesc}
  (hc : ∀ j,j < N → (∀ i,i < n → InSub S.m (c j i)) ∧ rsum n (fun i => c j i * b i) = h t j) :
  Tells S F r N (t + 1) h (rkS S (k + n) N (stackR k E (lineM S F r c))) (elS (k + n) (stackR k E (lineM S F r c)) N).1 := fun u => by
 have h1 : Orth (rkS S (k + n) N (stackR k E (lineM S F r c))) N (elS (k + n) (stackR k E (lineM S F r c)) N).1 u ↔ Orth (k + n) N (stackR k E (lineM S F r c)) u := Orth.same (elS_span (k + n) N (stackR k E (lineM S F r c))) u;rw [h1,orth_stack,hT u,Meets.succ,row_iff hp h0 hI hc u];exact Iff.rfl
noncomputable def kerK (S : FD) (k N : Nat) (E : Nat → Nat → R S.toDesc) : Nat := (npv (pvF (elS k E N).2) (rkS S k N E) N).length
noncomputable def kerM (S : FD) (k N : Nat) (E : Nat → Nat → R S.toDesc) : Nat → Nat → R S.toDesc := (elS (kerK S k N E) (nulM (rkS S k N E) N (pvF (elS k E N).2) (elS k E N).1) N).1
theorem kerK_le (S : FD) (k N : Nat) (E : Nat → Nat → R S.toDesc) : kerK S k N E ≤ N := by
 have h := List.length_filter_le (fun c => !decide (∃ i,i < rkS S k N E ∧ pvF (elS k E N).2 i = c)) (List.range N);rw [List.length_range] at h; exact h
theorem Tells.code (hT : Tells S F r N t h k E) (u : Nat → R S.toDesc) :
  Span (rkS S (kerK S k N E) N (kerM S k N E)) N (elS (kerK S k N E) (kerM S k N E) N).1 u ↔ Meets S F r N t h u := by
 have h1 := same_iff (elS_span (kerK S k N E) N (kerM S k N E)) u;have hr : rkS S (kerK S k N E) N (nulM (rkS S k N E) N (pvF (elS k E N).2) (elS k E N).1) = kerK S k N E := elS_rank nul_indep;have h2 := elS_span (kerK S k N E) N (nulM (rkS S k N E) N (pvF (elS k E N).2) (elS k E N).1);rw [show (elS (kerK S k N E) (nulM (rkS S k N E) N (pvF (elS k E N).2) (elS k E N).1) N).2.length = kerK S k N E from hr] at h2;have h3 : Span (kerK S k N E) N (kerM S k N E) u ↔ _ := same_iff h2 u;have h4 := nul_iff (elS_RR k N E) u;have h5 : Orth (rkS S k N E) N (elS k E N).1 u ↔ Orth k N E u := Orth.same (elS_span k N E) u;exact h1.trans (h3.trans (h4.trans (h5.trans (hT u))))
theorem ker_dim {T : Nat} (hk : k ≤ T) : N ≤ rkS S (kerK S k N E) N (kerM S k N E) + T := by
 have hr : rkS S (kerK S k N E) N (nulM (rkS S k N E) N (pvF (elS k E N).2) (elS k E N).1) = kerK S k N E := elS_rank nul_indep;have hc := canl_elS S (kerK S k N E) N (nulM (rkS S k N E) N (pvF (elS k E N).2) (elS k E N).1);rw [hr] at hc;have h1 : rkS S (kerK S k N E) N (kerM S k N E) = kerK S k N E := hc.1;have hR := elS_RR k N E;have h2 : kerK S k N E + rkS S k N E = N := npv_len (m := N) _ hR.lt hR.inj;have h3 : rkS S k N E ≤ k := (elS_le k E N).1;omega
end
end
section
open Go.RowKit Cw
attribute [local go_sem] Oper.semAt_some

theorem mix_lst {n k : Nat} {f h : Nat → Int} (e : ∀ i,k ≤ i → h i = f i) : mix n k f h = lst n f := by
 unfold mix;exact lst_congr fun i _ => by
  by_cases e2 : i < k
  ·rw [if_pos e2]
  ·rw [if_neg e2,e i (by omega)]

theorem Own.of_take {w : World} {g B n N : Nat} {f : Nat → Int} (h : IB w g (lst n f)) (hN : N ≤ n) (hB : B ≤ g) (hl : n ≤ maxLen) : Own w B (.slice (some ⟨g,0,none⟩) N n) (lst N f) := by
 unfold IB at h;refine ⟨by simp [lst_length],.inr ⟨g,n,((lst n f).map (Value.int .i64)).toArray,by rw [lst_length],hB,h,by rw [lst_length]; exact hN,hl,by simp [lst_length],?_⟩⟩;rw [lst_length,Nat.mul_one]
 show ((lst n f).map (Value.int .i64)).take N = _
 rw [← List.map_take,lst_take f hN]

end
section
open Go.RowKit Cw
open CField (inv)

theorem canI_can {D : Desc} (f : Nat → R D) (n : Nat) (h : ∀ i,n ≤ i → f i = 0) : canI D (canL (fun i => ci (f i)) n) = canL (fun i => ci (f i)) n := by
 have e := cfR_can f n h;unfold canI;rw [canL_congr (g := fun i => ci (f i)) fun i _ => by unfold cfI; rw [e]];exact (canL_more (by rw [canL_length]; exact cdeg_le _ _) fun i h1 h2 => by
  rw [canL_length] at h1;exact cdeg_zero (fun i => ci (f i)) n h1 h2).symm
theorem canI_lst (D : Desc) (f : Nat → R D) (n : Nat) : canI D (lst n fun i => ci (f i)) = canL (fun i => ci (f i)) n := by
 unfold canI;rw [lst_length];exact canL_congr fun i hi => by unfold cfI cfR; rw [lst_get _ hi,eli_ci]
theorem canI_canI (D : Desc) (p : List Int) : canI D (canI D p) = canI D p := canI_can (cfR D p) _ fun i h => cfR_out D h
theorem can_short {D : Desc} {p : List Int} (hc : canI D p = p) {n : Nat} (h : ∀ t,n ≤ t → cfR D p t = 0) : p.length ≤ n := by
 by_cases hl : n ≤ p.length
 ·rw [← hc];unfold canI;rw [canL_more hl fun i h1 _ => by unfold cfI; rw [h i h1,ci_zero],canL_length];exact cdeg_le _ _
 ·omega
theorem can_lead {D : Desc} {p : List Int} (hc : canI D p = p) {n : Nat} (hn : p.length = n + 1) : cfR D p n ≠ 0 := fun h => by
 have := can_short hc (n := n) fun t ht => by
  by_cases e : t = n
  ·rw [e]; exact h
  ·exact cfR_out D (by omega)
 omega
end
section
open Go.RowKit Cw
open Cw.CField (inv)

theorem cfR_lt (D : Desc) (p : List Int) : LtD (cfR D p) p.length := fun _ h => cfR_out D h
structure DivI (D : Desc) (p q quo rem : List Int) : Prop where
 cq : canI D quo = quo
 cr : canI D rem = rem
 eq : ∀ s,cfR D p s = conv (cfR D quo) (cfR D q) s + cfR D rem s
 lt : rem.length < (canI D q).length
structure EI (F : FD) (n k : Nat) (X Y : Nat → R F.toDesc) (a b old t : List Int) : Prop where
 ca : canI F.toDesc a = a
 cb : canI F.toDesc b = b
 ct : canI F.toDesc t = t
 lab : b.length < a.length
 lot : old.length < t.length
 sum : t.length + a.length = n + 2
 bd : n + k + 2 ≤ 2 * a.length
 va : ∀ i,i < n → pevI F.toDesc old (X i) * Y i = pevI F.toDesc a (X i)
 vb : ∀ i,i < n → pevI F.toDesc t (X i) * Y i = pevI F.toDesc b (X i)
def wr (D : Desc) (n : Nat) (X Y : Nat → R D) (m : List Int) : Nat := ((List.range n).filter fun i => ci (pevI D m (X i)) != ci (Y i)).length
end
end Go.Proofs.YtjdoneanohhkmaaGreat

/- Plain law of layer 38: Gao's decoder, over coefficients. No Go here. Plain law of layer 5: Newton's interpolation, step by step. No Go here. Plain law of layer 38: Euclid's algorithm of Gao's decoder, over lists of coefficients. No Go here. Plain law of layer 5: division with remainder, step by step. No Go here. Plain algebra: the ring of polynomials as coefficient functions, division, coprime polynomials. No Go here. Plain law of layer 19: the rational function of a word, and squarefree Goppa polynomials in characteristic 2. No Go here. -/
import Derived.Test.YtjdoneanohhkmaaGreatZrU07RP1
import Derived.Test.YtjdoneanohhkmaaGreatZrU07RGpoB
import Derived.Test.YtjdoneanohhkmaaGreatZrU07RFrR
import Derived.Test.YtjdoneanohhkmaaGreatZrU07RPoR
set_option linter.unusedVariables false
set_option linter.unusedSimpArgs false
namespace Cw
section
variable {R : Type} [CRing R]
theorem rsum_tail {n m : Nat} (h : n ≤ m) {f : Nat → R} (hz : ∀ i,n ≤ i → i < m → f i = 0) : rsum m f = rsum n f := by
 obtain ⟨d,rfl⟩ : ∃ d,m = n + d := ⟨m - n,by omega⟩;rw [rsum_split,rsum_eq_zero (n := d) fun i hi => hz (n + i) (by omega) (by omega),add_zero]
theorem rsum_rev : ∀ (n : Nat) (f : Nat → R),rsum n f = rsum n fun i => f (n - 1 - i)
 | 0,_ => rfl
 | n + 1,f => by
  rw [rsum_succ_left n (fun i => f (n + 1 - 1 - i)),rsum_succ,rsum_rev n f,add_c]
  congr 1
  exact rsum_congr fun i _ => by rw [show n + 1 - 1 - (i + 1) = n - 1 - i by omega]
def LtD (f : Nat → R) (n : Nat) : Prop := ∀ t,n ≤ t → f t = 0
theorem LtD.mono {f : Nat → R} {n m : Nat} (h : LtD f n) (hn : n ≤ m) : LtD f m := fun t ht => h t (Nat.le_trans hn ht)
def vl (f : Nat → R) (n : Nat) (x : R) : R := rsum n fun t => f t * pw x t
theorem vl_more {f : Nat → R} {n m : Nat} (h : LtD f n) (hm : n ≤ m) (x : R) : vl f m x = vl f n x := rsum_tail hm fun i h1 _ => by rw [h i h1,zero_mul]
theorem conv_sum {f g : Nat → R} {M : Nat} (hf : LtD f M) (t : Nat) : conv f g t = rsum M fun s => if s ≤ t then f s * g (t - s) else 0 := by
 rw [← convP_full f g hf t]; unfold convP; rw [if_neg (by omega),add_zero]
theorem vl_conv {f g : Nat → R} {M N : Nat} (hf : LtD f M) (hg : LtD g N) (x : R) : vl (conv f g) (M + N) x = vl f M x * vl g N x := by
 unfold vl;refine (rsum_congr (g := fun t => rsum M fun s => (if s ≤ t then f s * g (t - s) else 0) * pw x t) fun t _ => by rw [conv_sum hf t,rsum_mul_right]).trans ?_;rw [rsum_swap,← rsum_mul_right];refine rsum_congr fun s hs => ?_
 rw [show M + N = s + (M + N - s) by omega,rsum_split,rsum_eq_zero (n := s) fun i hi => by rw [if_neg (by omega),zero_mul],zero_add,← rsum_mul_left];refine (rsum_tail (n := N) (by omega) fun i h1 _ => by rw [show s + i - s = i by omega,hg i h1,mul_zero]; by_cases e : s ≤ s + i <;> simp only [e,if_true,if_false,zero_mul]).trans ?_;exact rsum_congr fun i _ => by rw [if_pos (by omega),show s + i - s = i by omega,pw_add]; ac_rfl
theorem conv_comm (f g : Nat → R) (t : Nat) : conv f g t = conv g f t := by
 unfold conv
 rw [rsum_rev];exact rsum_congr fun i hi => by rw [show t + 1 - 1 - i = t - i by omega,show t - (t - i) = i by omega,mul_c]
theorem conv_sub (f g h : Nat → R) (t : Nat) : conv f (fun s => g s - h s) t = conv f g t - conv f h t := by
 unfold conv
 rw [← rsum_sub];exact rsum_congr fun i _ => mul_sub _ _ _
theorem conv_zero (f g : Nat → R) (h : ∀ s,g s = 0) (t : Nat) : conv f g t = 0 := rsum_eq_zero fun i _ => by rw [h,mul_zero]
theorem conv_lead {f g : Nat → R} {a b : Nat} (hf : LtD f (a + 1)) (hg : LtD g (b + 1)) : conv f g (a + b) = f a * g b := by
 unfold conv
 rw [rsum_single (k := a) (by omega) fun i hi hne => ?_,show a + b - a = b by omega];rcases Nat.lt_or_ge a i with h | h
 ·rw [hf i h,zero_mul]
 ·rw [hg (a + b - i) (by omega),mul_zero]
theorem LtD.conv {f g : Nat → R} {M N : Nat} (hf : LtD f M) (hg : LtD g N) : LtD (conv f g) (M + N - 1) := fun t ht => conv_high hf hg (by omega)
theorem LtD.sub {f g : Nat → R} {M N L : Nat} (hf : LtD f M) (hg : LtD g N) (h1 : M ≤ L) (h2 : N ≤ L) : LtD (fun s => f s - g s) L := fun t ht => by
 show f t - g t = 0
 rw [hf t (by omega),hg t (by omega),sub_self]
theorem vl_sub (f g : Nat → R) (n : Nat) (x : R) : vl (fun s => f s - g s) n x = vl f n x - vl g n x := by
 unfold vl;rw [← rsum_sub];exact rsum_congr fun i _ => sub_mul _ _ _
end
section
variable {F : Type} [CField F]
theorem conv_short {f g : Nat → F} {a : Nat} (hf : f a ≠ 0) (hfl : LtD f (a + 1)) (h : ∀ t,a ≤ t → conv f g t = 0) : ∀ N,LtD g N → ∀ t,g t = 0
 | 0,hg,t => hg t (Nat.zero_le _)
 | N + 1,hg,t => by
  have h1 := h (a + N) (by omega);rw [conv_lead hfl hg] at h1;rcases mul_eq_zero h1 with e | e
  ·exact absurd e hf
  ·exact conv_short hf hfl h N (fun s hs => by
    by_cases e2 : s = N
    ·rw [e2]; exact e
    ·exact hg s (by omega)) t
theorem div_uniq {t P q r b : Nat → F} {a N : Nat} (ht : t a ≠ 0) (htl : LtD t (a + 1)) (h1 : ∀ s,conv t P s = b s) (h2 : ∀ s,b s = conv q t s + r s) (hr : LtD r a) (hP : LtD P N) (hq : LtD q N) : (∀ s,P s = q s) ∧ ∀ s,r s = 0 := by
 have h3 : ∀ s,conv t (fun s => P s - q s) s = r s := fun s => by
  rw [conv_sub,h1,h2,conv_comm q t,add_c,add_sub_cancel]
 have h4 := conv_short (g := fun s => P s - q s) ht htl (fun s hs => by rw [h3,hr s hs]) N (hP.sub hq (Nat.le_refl _) (Nat.le_refl _));exact ⟨fun s => sub_eq_zero (h4 s),fun s => by rw [← h3,conv_zero _ _ h4]⟩
theorem filter_both (p : Nat → Bool) (n : Nat) : ((List.range n).filter p).length + ((List.range n).filter fun i => !p i).length = n := by
 induction n with
 | zero => rfl
 | succ n ih =>
  rw [List.range_succ,List.filter_append,List.filter_append,List.length_append,List.length_append];have e : ([n].filter p).length + ([n].filter fun i => !p i).length = 1 := by cases h : p n <;> simp [h]
  omega
theorem zero_of_roots {n L : Nat} {X : Nat → F} (hX : ∀ i j,i < n → j < n → X i = X j → i = j) {f : Nat → F} (hf : LtD f L) (p : Nat → Bool) (hc : L ≤ ((List.range n).filter p).length) (h : ∀ i,i < n → p i = true → vl f L (X i) = 0) (s : Nat) : f s = 0 := by
 by_cases hs : s < L
 ·refine pev_roots (((List.range n).filter p).map X) ((List.range L).map f) (by rw [List.length_map,List.length_map,List.length_range]; exact hc) ?_ ?_ (f s) (List.mem_map.2 ⟨s,List.mem_range.2 hs,rfl⟩)
  ·refine List.pairwise_map.2 (List.Pairwise.imp_of_mem ?_ (List.Pairwise.filter _ (List.nodup_range (n := n))));intro x y hx hy hne e;exact hne (hX x y (List.mem_range.1 (List.mem_filter.1 hx).1) (List.mem_range.1 (List.mem_filter.1 hy).1) e)
  ·intro x hx;obtain ⟨i,hi,rfl⟩ := List.mem_map.1 hx;have hi2 := List.mem_filter.1 hi;rw [pev_map];exact h i (List.mem_range.1 hi2.1) hi2.2
 ·exact hf s (by omega)
theorem gao_key {n k dt B : Nat} {X Y : Nat → F} (hX : ∀ i j,i < n → j < n → X i = X j → i = j) {P t b : Nat → F} (hP : LtD P k) (ht : LtD t (dt + 1)) (h2 : 2 * dt + k ≤ n) (hb : LtD b B) (hB : 2 * B ≤ n + k + 1)
  (hv : ∀ i,i < n → vl t (dt + 1) (X i) * Y i = vl b B (X i)) (p : Nat → Bool) (hp : ∀ i,i < n → p i = true → vl P k (X i) = Y i) (hE : 2 * ((List.range n).filter fun i => !p i).length + k ≤ n) (s : Nat) : conv t P s = b s := by
 obtain ⟨L,hL⟩ : ∃ L,L = max (dt + k) B := ⟨_,rfl⟩;have hl1 : LtD (conv t P) (dt + k) := (ht.conv hP).mono (by omega);have hN : LtD (fun s => conv t P s - b s) L := hl1.sub hb (by omega) (by omega);have hf := filter_both p n;refine sub_eq_zero (zero_of_roots hX hN p (by omega) (fun i hi hpi => ?_) s);rw [vl_sub,vl_more hb (by omega),← hv i hi,vl_more hl1 (by omega),← vl_more hl1 (show dt + k ≤ dt + 1 + k by omega),vl_conv ht hP,hp i hi hpi,sub_self]
end
end Cw

namespace Go.Proofs.YtjdoneanohhkmaaGreat
section
open Go.RowKit Cw
open Cw.CField (inv)

theorem pevI_cf (D : Desc) (l : List Int) (u : R D) {N : Nat} (hN : l.length ≤ N) : pevI D l u = rsum N fun i => cfR D l i * pw u i := by
 obtain ⟨d,rfl⟩ : ∃ d,N = l.length + d := ⟨N - l.length,by omega⟩;unfold pevI;rw [rsum_split,rsum_eq_zero (n := d) fun i _ => by rw [cfR_out D (by omega),zero_mul],add_zero];rfl
theorem pevI_comb (D : Desc) (p : List Int) (a : Int) (q : List Int) (u : R D) : pevI D (combL D p a q) u = pevI D p u + eli D a * pevI D q u := by
 have hle := combL_le D p a q;rw [pevI_cf D _ u hle,pevI_cf D p u (Nat.le_max_left p.length q.length),pevI_cf D q u (Nat.le_max_right p.length q.length),← rsum_mul_left,← rsum_add,cfR_combL];exact rsum_congr fun i _ => by unfold combF; rw [add_mul,mul_a]
theorem prodL_le (D : Desc) (p q : List Int) : (prodL D p q).length ≤ p.length + q.length - 1 := by
 have h1 := canI_le D p;have h2 := canI_le D q;unfold prodL;by_cases h : (canI D p).length = 0 ∨ (canI D q).length = 0
 ·rw [if_pos h]; exact Nat.zero_le _
 ·rw [if_neg h,lst_length]; omega
theorem pevI_lin (D : Desc) (p : List Int) (x u : R D) : pevI D (prodL D p [ci (-x),1]) u = pevI D p u * (u - x) := by
 have hle := prodL_le D p [ci (-x),1];have hq : ∀ s,cfR D [ci (-x),1] s = if s = 0 then -x else if s = 1 then 1 else 0 := fun s => by
  unfold cfR
  match s with
  | 0 => rw [if_pos rfl]; exact eli_ci _
  | 1 => rw [if_neg (by omega),if_pos rfl]; exact eli_one
  | s + 2 => rw [if_neg (by omega),if_neg (by omega)]; exact eli_zero
 have hconv : ∀ t,conv (cfR D p) (cfR D [ci (-x),1]) t = (if t = 0 then 0 else cfR D p (t - 1)) + cfR D p t * -x := fun t => by
  unfold conv
  cases t with
  | zero => rw [rsum_succ,rsum_zero,Nat.sub_self,hq,if_pos rfl,if_pos rfl]
  | succ t =>
   rw [rsum_succ,rsum_succ,rsum_eq_zero (n := t) (fun s hs => by rw [hq,if_neg (by omega),if_neg (by omega),mul_zero]),zero_add,Nat.sub_self,hq 0,if_pos rfl,show t + 1 - t = 1 by omega,hq 1,if_neg (by omega),if_pos rfl,mul_one,if_neg (by omega)];rfl
 rw [pevI_cf D _ u (N := p.length + 1) (by simpa using hle),cfR_prodL,rsum_congr fun i _ => by rw [hconv i,add_mul]];rw [rsum_add,rsum_succ_left,if_pos rfl,zero_mul,zero_add,pevI_cf D p u (Nat.le_refl _),rsum_succ,cfR_out D (Nat.le_refl _),zero_mul,zero_mul,add_zero,sub_d,mul_add,← rsum_mul_right,← rsum_mul_right]
 congr 1
 ·exact rsum_congr fun i _ => by rw [if_neg (by omega),Nat.add_sub_cancel,pw_succ,mul_a]
 ·exact rsum_congr fun i _ => by rw [mul_a,mul_a,mul_c (-x)]
theorem elB_combL (D : Desc) (p : List Int) (a : Int) (q : List Int) : elB D (combL D p a q) = true := elB_iff.2 fun j hj => by
 unfold combL canL at *;rw [lst_length] at hj;rw [lst_get _ hj];exact ⟨ci_nonneg _,ci_lt _⟩
def LI (D : Desc) (X Yv : Nat → R D) (k : Nat) (l : List Int) : Prop := l.length ≤ k ∧ elB D l = true ∧ ∀ i,i < k → pevI D l (X i) = Yv i
def ZI (D : Desc) (X : Nat → R D) (k : Nat) (z : List Int) : Prop := z.length ≤ k + 1 ∧ ∀ u,pevI D z u = rprod k fun i => u - X i
theorem LI.zero (D : Desc) (X Yv : Nat → R D) : LI D X Yv 0 [] := ⟨Nat.le_refl _,elB_iff.2 fun _ hj => absurd hj (Nat.not_lt_zero _),fun _ hi => absurd hi (Nat.not_lt_zero _)⟩
theorem ZI.zero (D : Desc) (X : Nat → R D) : ZI D X 0 [1] := ⟨Nat.le_refl _,fun u => by
 rw [pevI_cf D [1] u (N := 1) (Nat.le_refl _),rsum_succ,rsum_zero,zero_add,rprod_zero]
 show eli D 1 * pw u 0 = 1
 rw [eli_one,one_mul]; rfl⟩
theorem ZI.step {D : Desc} {X : Nat → R D} {k : Nat} {z : List Int} (h : ZI D X k z) : ZI D X (k + 1) (prodL D z [ci (-(X k)),1]) := ⟨by
 have h1 := prodL_le D z [ci (-(X k)),1];have h2 := h.1;simp at h1;omega,fun u => by rw [pevI_lin,h.2,rprod_succ]⟩
theorem ZI.ne {F : FD} {X : Nat → R F.toDesc} {k : Nat} {z : List Int} (h : ZI F.toDesc X k z) (hd : ∀ i,i < k → X k ≠ X i) : pevI F.toDesc z (X k) ≠ 0 := by
 rw [h.2];exact rprod_ne_zero fun i hi e => hd i hi (sub_eq_zero e)
theorem LI.step {F : FD} {X Yv : Nat → R F.toDesc} {k : Nat} {l z : List Int} (h : LI F.toDesc X Yv k l) (hz : ZI F.toDesc X k z) (hd : ∀ i,i < k → X k ≠ X i) {a : Int} (ha : eli F.toDesc a = (Yv k - pevI F.toDesc l (X k)) * inv (pevI F.toDesc z (X k))) : LI F.toDesc X Yv (k + 1) (combL F.toDesc l a z) := by
 refine ⟨?_,elB_combL _ _ _ _,fun i hi => ?_⟩
 ·have h1 := combL_le F.toDesc l a z;have h2 := h.1;have h3 := hz.1;omega
 ·rw [pevI_comb];by_cases e : i = k
  ·rw [e,ha,mul_a,inv_mul (hz.ne hd),mul_one,sub_d,add_lc,add_neg,add_zero]
  ·rw [hz.2 (X i),rprod_eq_zero (R := R F.toDesc) (f := fun t => X i - X t) (i := i) (by omega) (sub_self (X i)),mul_zero,add_zero];exact h.2.2 i (by omega)
end
section
open Go.RowKit Cw
open Cw.CField (inv)

theorem cfR_lt (D : Desc) (p : List Int) : LtD (cfR D p) p.length := fun _ h => cfR_out D h
theorem pevI_vl (D : Desc) (p : List Int) (x : R D) {N : Nat} (h : p.length ≤ N) : pevI D p x = vl (cfR D p) N x := (pevI_more D p x h).symm
theorem can_len {D : Desc} {p : List Int} (hc : canI D p = p) {n : Nat} (h1 : cfR D p n ≠ 0) (h2 : LtD (cfR D p) (n + 1)) : p.length = n + 1 := by
 have h3 := can_short hc h2;have h4 : n < p.length := Classical.byContradiction fun h => h1 (cfR_out D (by omega))
 omega
theorem cfR_one (D : Desc) (s : Nat) : cfR D [1] s = if s = 0 then 1 else 0 := by
 cases s with
 | zero => rw [if_pos rfl]; exact eli_one
 | succ s => rw [if_neg (by omega)]; exact cfR_out D (by simp)
theorem conv_one (D : Desc) (g : Nat → R D) (t : Nat) : conv (cfR D [1]) g t = g t := by
 unfold conv
 rw [rsum_single (k := 0) (by omega) fun i _ hne => by rw [cfR_one,if_neg hne,zero_mul],cfR_one,if_pos rfl,one_mul,Nat.sub_zero]
structure DivI (D : Desc) (p q quo rem : List Int) : Prop where
 cq : canI D quo = quo
 cr : canI D rem = rem
 eq : ∀ s,cfR D p s = conv (cfR D quo) (cfR D q) s + cfR D rem s
 lt : rem.length < (canI D q).length
theorem DivI.val {D : Desc} {p q quo rem : List Int} (h : DivI D p q quo rem) (x : R D) : pevI D p x = pevI D quo x * pevI D q x + pevI D rem x := by
 obtain ⟨N,hN⟩ : ∃ N,N = p.length + (quo.length + q.length) + rem.length := ⟨_,rfl⟩;have hc : LtD (conv (cfR D quo) (cfR D q)) (quo.length + q.length) := ((cfR_lt D quo).conv (cfR_lt D q)).mono (by omega);rw [pevI_vl D p x (N := N) (by omega),pevI_vl D rem x (N := N) (by omega),pevI_vl D quo x (Nat.le_refl _),pevI_vl D q x (Nat.le_refl _),← vl_conv (cfR_lt D quo) (cfR_lt D q),← vl_more hc (show _ ≤ N by omega)];unfold vl;rw [← rsum_add];exact rsum_congr fun i _ => by rw [h.eq,add_mul]
theorem DivI.deg {F : FD} {p q quo rem : List Int} (h : DivI F.toDesc p q quo rem) (hp : canI F.toDesc p = p) (hq : canI F.toDesc q = q) (h0 : 1 ≤ q.length) (hl : q.length ≤ p.length) : quo.length + q.length = p.length + 1 := by
 obtain ⟨b,hb⟩ : ∃ b,q.length = b + 1 := ⟨q.length - 1,by omega⟩;obtain ⟨a,ha⟩ : ∃ a,p.length = a + 1 := ⟨p.length - 1,by omega⟩;have hr := h.lt;rw [hq] at hr;have lp := can_lead hp ha;have lq := can_lead hq hb;by_cases hz : quo.length = 0
 ·exfalso;apply lp;rw [h.eq,cfR_out F.toDesc (p := rem) (by omega),add_zero];exact conv_high (M := 0) (N := b + 1) (fun t _ => cfR_out F.toDesc (by omega)) (fun t ht => cfR_out F.toDesc (by omega)) (by omega)
 obtain ⟨c,hc⟩ : ∃ c,quo.length = c + 1 := ⟨quo.length - 1,by omega⟩;have lc := can_lead h.cq hc;have h1 : cfR F.toDesc p (c + b) ≠ 0 := by
  rw [h.eq,cfR_out F.toDesc (p := rem) (by omega),add_zero,conv_lead (hc ▸ cfR_lt F.toDesc quo) (hb ▸ cfR_lt F.toDesc q)];exact mul_ne_zero lc lq
 have h2 : c + b ≤ a := Classical.byContradiction fun e => h1 (cfR_out F.toDesc (by omega))
 have h3 : a ≤ c + b := Classical.byContradiction fun e => lp (by
  rw [h.eq,cfR_out F.toDesc (p := rem) (by omega),add_zero];exact conv_high (hc ▸ cfR_lt F.toDesc quo) (hb ▸ cfR_lt F.toDesc q) (by omega))
 omega
theorem pevI_prodL (D : Desc) (p q : List Int) (x : R D) : pevI D (prodL D p q) x = pevI D p x * pevI D q x := by
 have hle := prodL_le D p q;rw [pevI_vl D _ x (N := p.length + q.length) (by omega),cfR_prodL,vl_conv (cfR_lt D p) (cfR_lt D q),pevI_vl D p x (Nat.le_refl _),pevI_vl D q x (Nat.le_refl _)]
theorem canI_combL (D : Desc) (p : List Int) (a : Int) (q : List Int) : canI D (combL D p a q) = combL D p a q := canI_can _ _ fun i h => by unfold combF; rw [cfR_out D (by omega),cfR_out D (by omega),mul_zero,add_zero]

structure EI (F : FD) (n k : Nat) (X Y : Nat → R F.toDesc) (a b old t : List Int) : Prop where
 ca : canI F.toDesc a = a
 cb : canI F.toDesc b = b
 ct : canI F.toDesc t = t
 lab : b.length < a.length
 lot : old.length < t.length
 sum : t.length + a.length = n + 2
 bd : n + k + 2 ≤ 2 * a.length
 va : ∀ i,i < n → pevI F.toDesc old (X i) * Y i = pevI F.toDesc a (X i)
 vb : ∀ i,i < n → pevI F.toDesc t (X i) * Y i = pevI F.toDesc b (X i)
def nextL (D : Desc) (old q t : List Int) : List Int := combL D old (ci (-(1 : R D))) (prodL D (prodL D [1] q) t)
theorem cfR_nextL (D : Desc) (old q t : List Int) (s : Nat) : cfR D (nextL D old q t) s = cfR D old s - conv (cfR D q) (cfR D t) s := by
 unfold nextL;rw [cfR_combL];unfold combF;rw [eli_ci,cfR_prodL,cfR_prodL,neg_mul,one_mul,sub_d,show conv (cfR D [1]) (cfR D q) = cfR D q from funext fun s => conv_one D _ s]
theorem pevI_one (D : Desc) (x : R D) : pevI D [1] x = 1 := by
 rw [pevI_vl D [1] x (N := 1) (by simp)];unfold vl;rw [rsum_succ,rsum_zero,zero_add,cfR_one,if_pos rfl,one_mul]; rfl
theorem pevI_nextL (D : Desc) (old q t : List Int) (x : R D) : pevI D (nextL D old q t) x = pevI D old x - pevI D q x * pevI D t x := by
 unfold nextL;rw [pevI_comb,eli_ci,pevI_prodL,pevI_prodL,pevI_one,one_mul,neg_mul,one_mul,sub_d]
theorem EI.step {F : FD} {n k : Nat} {X Y : Nat → R F.toDesc} {a b old t q r : List Int} (h : EI F n k X Y a b old t) (hb : n + k + 2 ≤ 2 * b.length) (hd : DivI F.toDesc a b q r) : EI F n k X Y b r t (nextL F.toDesc old q t) := by
 have hlt := hd.lt;rw [h.cb] at hlt;have hdeg := hd.deg h.ca h.cb (by omega) (by have := h.lab; omega);have h1 := h.lab; have h2 := h.lot; have h3 := h.sum;obtain ⟨c,hc⟩ : ∃ c,q.length = c + 1 := ⟨q.length - 1,by omega⟩;obtain ⟨dt,ht⟩ : ∃ dt,t.length = dt + 1 := ⟨t.length - 1,by omega⟩;have lc := can_lead hd.cq hc;have lt := can_lead h.ct ht;have hcn : canI F.toDesc (nextL F.toDesc old q t) = nextL F.toDesc old q t := canI_combL _ _ _ _;have hl : (nextL F.toDesc old q t).length = c + dt + 1 := can_len hcn (by
  rw [cfR_nextL,cfR_out F.toDesc (p := old) (by omega),conv_lead (hc ▸ cfR_lt F.toDesc q) (ht ▸ cfR_lt F.toDesc t),zero_sub];intro e;exact mul_ne_zero lc lt (by rw [← neg_neg (cfR F.toDesc q c * cfR F.toDesc t dt),e,neg_zero])) fun s hs => by
   rw [cfR_nextL,cfR_out F.toDesc (p := old) (by omega),conv_high (hc ▸ cfR_lt F.toDesc q) (ht ▸ cfR_lt F.toDesc t) (by omega),sub_zero]
 refine ⟨h.cb,hd.cr,hcn,hlt,by omega,by omega,hb,h.vb,fun i hi => ?_⟩;rw [pevI_nextL,sub_mul,mul_a,h.vb i hi,h.va i hi,hd.val,add_c,add_sub_cancel]
def wr (D : Desc) (n : Nat) (X Y : Nat → R D) (m : List Int) : Nat := ((List.range n).filter fun i => ci (pevI D m (X i)) != ci (Y i)).length
theorem wr_congr {D : Desc} {n : Nat} {X Y : Nat → R D} {m m' : List Int} (h : ∀ x,pevI D m x = pevI D m' x) : wr D n X Y m = wr D n X Y m' := by
 unfold wr
 congr 2
 funext i
 rw [h]
def GaoOK (D : Desc) (n k : Nat) (X Y : Nat → R D) (m : List Int) : Prop := canI D m = m ∧ m.length ≤ k ∧ 2 * wr D n X Y m + k ≤ n
def GaoNo (D : Desc) (n k : Nat) (X Y : Nat → R D) : Prop := ∀ P : List Int,P.length ≤ k → n < 2 * wr D n X Y P + k
theorem EI.find {F : FD} {n k : Nat} {X Y : Nat → R F.toDesc} (hX : ∀ i j,i < n → j < n → X i = X j → i = j) {a b old t m r : List Int} (h : EI F n k X Y a b old t) (hb : 2 * b.length ≤ n + k + 1) (hd : DivI F.toDesc b t m r) {P : List Int} (hP : P.length ≤ k) (hw : 2 * wr F.toDesc n X Y P + k ≤ n) : r = [] ∧ m.length ≤ k ∧ ∀ x,pevI F.toDesc m x = pevI F.toDesc P x := by
 have h1 := h.lab; have h2 := h.lot; have h3 := h.sum; have h4 := h.bd;obtain ⟨dt,ht⟩ : ∃ dt,t.length = dt + 1 := ⟨t.length - 1,by omega⟩;have hlt := hd.lt;rw [h.ct] at hlt;have hk := gao_key (n := n) (k := k) (dt := dt) (B := b.length) hX (P := cfR F.toDesc P) (t := cfR F.toDesc t) (b := cfR F.toDesc b) ((cfR_lt F.toDesc P).mono hP) (ht ▸ cfR_lt F.toDesc t) (by omega) (cfR_lt F.toDesc b) hb
  (fun i hi => by rw [← pevI_vl F.toDesc t (X i) (Nat.le_of_eq ht),← pevI_vl F.toDesc b (X i) (Nat.le_refl _)]; exact h.vb i hi)
  (fun i => ci (pevI F.toDesc P (X i)) == ci (Y i)) (fun i hi hp => by rw [← pevI_vl F.toDesc P (X i) hP]; exact ci_inj (by simpa using hp)) hw
 obtain ⟨e1,e2⟩ := div_uniq (a := dt) (N := max P.length m.length) (can_lead h.ct ht) (ht ▸ cfR_lt F.toDesc t) hk hd.eq (fun s hs => cfR_out F.toDesc (by omega)) ((cfR_lt F.toDesc P).mono (by omega)) ((cfR_lt F.toDesc m).mono (by omega));have hr0 : r.length ≤ 0 := can_short hd.cr fun s _ => e2 s
 refine ⟨List.eq_nil_of_length_eq_zero (by omega),can_short hd.cq fun s hs => by rw [← e1]; exact cfR_out F.toDesc (by omega),fun x => ?_⟩;rw [pevI_vl F.toDesc m x (N := max P.length m.length) (by omega),pevI_vl F.toDesc P x (N := max P.length m.length) (by omega)];unfold vl;exact rsum_congr fun i _ => by rw [e1]
end
section
open Go.RowKit Cw
open Cw.CField (inv)

section
variable {D : Desc}
def remF (f g : Nat → R D) (iv : R D) (d Q : Nat) : Nat → Nat → R D
 | 0 => f
 | s + 1 => fun t => remF f g iv d Q s t - if Q - 1 - s ≤ t then remF f g iv d Q s (Q - 1 - s + d) * iv * g (t - (Q - 1 - s)) else 0
def quoF (f g : Nat → R D) (iv : R D) (d Q : Nat) (n : Nat) : R D := remF f g iv d Q (Q - 1 - n) (n + d) * iv
def quoS (f g : Nat → R D) (iv : R D) (d Q s : Nat) (i : Nat) : R D := if Q - s ≤ i ∧ i < Q then quoF f g iv d Q i else 0
variable {f g : Nat → R D} {iv : R D} {d Q : Nat}
theorem remF_succ {s n : Nat} (hs : Q = n + 1 + s) (t : Nat) : remF f g iv d Q (s + 1) t = remF f g iv d Q s t - if n ≤ t then quoF f g iv d Q n * g (t - n) else 0 := by
 show remF f g iv d Q s t - (if Q - 1 - s ≤ t then remF f g iv d Q s (Q - 1 - s + d) * iv * g (t - (Q - 1 - s)) else 0) = _
 unfold quoF;rw [show Q - 1 - s = n by omega,show Q - 1 - n = s by omega]
theorem quoF_at {s n : Nat} (hs : Q = n + 1 + s) : quoF f g iv d Q n = remF f g iv d Q s (n + d) * iv := by unfold quoF; rw [show Q - 1 - n = s by omega]
theorem remF_lt (hf : LtD f (d + Q)) (hg : LtD g (d + 1)) (hiv : iv * g d = 1) : ∀ s,s ≤ Q → LtD (remF f g iv d Q s) (d + Q - s)
 | 0,_ => hf
 | s + 1,h => fun t ht => by
  obtain ⟨n,hn⟩ : ∃ n,Q = n + 1 + s := ⟨Q - 1 - s,by omega⟩;have ih := remF_lt hf hg hiv s (by omega);rw [remF_succ hn,if_pos (by omega),quoF_at hn];by_cases e : t = n + d
  ·rw [e,show n + d - n = d by omega,mul_a,hiv,mul_one,sub_self]
  ·rw [ih t (by omega),hg _ (by omega),mul_zero,sub_zero]
theorem conv_add_l {R : Type} [CRing R] (f h g : Nat → R) (t : Nat) : conv (fun s => f s + h s) g t = conv f g t + conv h g t := by
 unfold conv
 rw [← rsum_add];exact rsum_congr fun i _ => add_mul _ _ _
theorem conv_single {R : Type} [CRing R] (n : Nat) (c : R) (g : Nat → R) (t : Nat) : conv (fun s => if s = n then c else 0) g t = if n ≤ t then c * g (t - n) else 0 := by
 unfold conv
 by_cases h : n ≤ t
 ·rw [if_pos h,rsum_single (k := n) (by omega) fun i _ hne => by dsimp only; rw [if_neg hne,zero_mul]];dsimp only;rw [if_pos rfl]
 ·rw [if_neg h];exact rsum_eq_zero fun i hi => by dsimp only; rw [if_neg (by omega),zero_mul]
theorem quoS_succ {s n : Nat} (hs : Q = n + 1 + s) (i : Nat) : quoS f g iv d Q (s + 1) i = quoS f g iv d Q s i + if i = n then quoF f g iv d Q n else 0 := by
 unfold quoS;by_cases e : i = n
 ·rw [if_pos (by omega),if_neg (by omega),if_pos e,zero_add,e]
 ·rw [if_neg e,add_zero];by_cases e2 : Q - s ≤ i ∧ i < Q
  ·rw [if_pos e2,if_pos (by omega)]
  ·rw [if_neg e2,if_neg (by omega)]
theorem remF_eq : ∀ s,s ≤ Q → ∀ t,f t = conv (quoS f g iv d Q s) g t + remF f g iv d Q s t
 | 0,_,t => by
  rw [show conv (quoS f g iv d Q 0) g t = 0 from rsum_eq_zero fun i _ => by unfold quoS; rw [if_neg (by omega),zero_mul],zero_add]; rfl
 | s + 1,h,t => by
  obtain ⟨n,hn⟩ : ∃ n,Q = n + 1 + s := ⟨Q - 1 - s,by omega⟩;rw [remF_eq s (by omega) t,remF_succ hn,show quoS f g iv d Q (s + 1) = fun i => quoS f g iv d Q s i + if i = n then quoF f g iv d Q n else 0 from funext fun i => quoS_succ hn i,conv_add_l,conv_single,add_a]
  congr 1
  rw [add_c,sub_add_cancel]
end
theorem div_ok {F : FD} {p q : List Int} {d A Q : Nat} (hq : (canI F.toDesc q).length = d + 1) (hA : (canI F.toDesc p).length = A) (hQ : Q = A - d) :
  DivI F.toDesc p q (canL (fun i => ci (quoS (cfR F.toDesc p) (cfR F.toDesc q) (inv (cfR F.toDesc q d)) d Q Q i)) Q) (canL (fun i => ci (remF (cfR F.toDesc p) (cfR F.toDesc q) (inv (cfR F.toDesc q d)) d Q Q i)) A) := by
 have hf : LtD (cfR F.toDesc p) (d + Q) := fun t ht => by rw [← cfR_canI]; exact cfR_out F.toDesc (by omega)
 have hg : LtD (cfR F.toDesc q) (d + 1) := fun t ht => by rw [← cfR_canI]; exact cfR_out F.toDesc (by omega)
 have hl : cfR F.toDesc q d ≠ 0 := by rw [← cfR_canI]; exact can_lead (canI_canI F.toDesc q) hq
 have hr := remF_lt hf hg (inv_mul hl) Q (Nat.le_refl _);have hQ0 : ∀ i,Q ≤ i → quoS (cfR F.toDesc p) (cfR F.toDesc q) (inv (cfR F.toDesc q d)) d Q Q i = 0 := fun i hi => by unfold quoS; rw [if_neg (by omega)]
 have hR0 : ∀ i,A ≤ i → remF (cfR F.toDesc p) (cfR F.toDesc q) (inv (cfR F.toDesc q d)) d Q Q i = 0 := fun i hi => by
  by_cases e : A ≤ d
  ·have e2 : Q = 0 := by omega
   rw [e2]
   show cfR F.toDesc p i = 0
   rw [← cfR_canI]; exact cfR_out F.toDesc (by omega)
  ·exact hr i (by omega)
 refine ⟨canI_can _ _ hQ0,canI_can _ _ hR0,fun s => ?_,?_⟩
 ·rw [cfR_can _ _ hQ0,cfR_can _ _ hR0];exact remF_eq Q (Nat.le_refl _) s
 ·rw [hq];have := can_short (canI_can _ _ hR0) (n := d) fun t ht => by rw [cfR_can _ _ hR0]; exact hr t (by omega)
  omega
end
end Go.Proofs.YtjdoneanohhkmaaGreat

namespace Cw
section
variable {R : Type} [CRing R]
theorem conv_dbl (f g : Nat → R) {t N : Nat} (h : t < N) : conv f g t = rsum N fun i => rsum N fun j => if i + j = t then f i * g j else 0 := by
 unfold conv
 rw [rsum_tail (n := t + 1) (m := N) (by omega) fun i h1 _ => rsum_eq_zero fun j _ => if_neg (by omega)];refine rsum_congr fun i hi => ?_
 rw [rsum_single (k := t - i) (by omega) fun j _ hne => if_neg (by omega),if_pos (by omega)]
theorem conv_tri (f g h : Nat → R) (t : Nat) : conv (conv f g) h t = rsum (t + 1) fun i => rsum (t + 1) fun j => rsum (t + 1) fun k => if i + j + k = t then f i * g j * h k else 0 := by
 rw [conv_dbl (conv f g) h (Nat.lt_succ_self t)];have e1 : ∀ s,s < t + 1 → (rsum (t + 1) fun k => if s + k = t then conv f g s * h k else 0) = rsum (t + 1) fun i => rsum (t + 1) fun j => rsum (t + 1) fun k => if i + j = s then (if s + k = t then f i * g j * h k else 0) else 0 := fun s hs => by
  have e2 : ∀ k,(if s + k = t then conv f g s * h k else 0) = rsum (t + 1) fun i => rsum (t + 1) fun j => if i + j = s then (if s + k = t then f i * g j * h k else 0) else 0 := fun k => by
   by_cases e : s + k = t
   ·simp only [if_pos e];rw [conv_dbl f g hs,← rsum_mul_right];refine rsum_congr fun i _ => ?_
    rw [← rsum_mul_right];refine rsum_congr fun j _ => ?_
    by_cases e3 : i + j = s
    ·rw [if_pos e3,if_pos e3]
    ·rw [if_neg e3,if_neg e3,zero_mul]
   ·simp only [if_neg e,ite_self];rw [rsum_eq_zero fun i _ => rsum_eq_zero fun j _ => rfl]
  rw [rsum_congr fun k _ => e2 k,rsum_swap];refine rsum_congr fun i _ => ?_
  rw [rsum_swap]
 rw [rsum_congr e1,rsum_swap];refine rsum_congr fun i hi => ?_
 rw [rsum_swap];refine rsum_congr fun j hj => ?_
 rw [rsum_swap];refine rsum_congr fun k hk => ?_
 by_cases e : i + j < t + 1
 ·rw [rsum_single (k := i + j) e fun s _ hne => if_neg (fun e2 => hne e2.symm),if_pos rfl]
 ·rw [if_neg (by omega),rsum_eq_zero fun s hs => if_neg (by omega)]
theorem conv_assoc (f g h : Nat → R) (t : Nat) : conv (conv f g) h t = conv f (conv g h) t := by
 rw [conv_comm f,conv_tri,conv_tri];rw [rsum_congr fun i _ => rsum_swap (t + 1) (t + 1) fun j k => if i + j + k = t then f i * g j * h k else 0];rw [rsum_swap];rw [rsum_congr fun k _ => rsum_swap (t + 1) (t + 1) fun i j => if i + j + k = t then f i * g j * h k else 0];rw [rsum_swap];refine rsum_congr fun j _ => rsum_congr fun k _ => rsum_congr fun i _ => ?_
 by_cases e : i + j + k = t
 ·rw [if_pos e,if_pos (by omega)]; ac_rfl
 ·rw [if_neg e,if_neg (by omega)]
theorem conv_addr (f g h : Nat → R) (t : Nat) : conv f (fun s => g s + h s) t = conv f g t + conv f h t := by
 unfold conv
 rw [← rsum_add];exact rsum_congr fun i _ => mul_add _ _ _
structure Pl (R : Type) [CRing R] where
 c : Nat → R
 fin : ∃ n,LtD c n
theorem Pl.ext' {a b : Pl R} (h : ∀ t,a.c t = b.c t) : a = b := by
 obtain ⟨f,hf⟩ := a;obtain ⟨g,hg⟩ := b;have e : f = g := funext h;subst e;rfl
instance : Add (Pl R) := ⟨fun a b => ⟨fun t => a.c t + b.c t,by
 obtain ⟨n,hn⟩ := a.fin;obtain ⟨m,hm⟩ := b.fin;exact ⟨n + m,fun t ht => by show a.c t + b.c t = 0; rw [hn t (by omega),hm t (by omega),add_zero]⟩⟩⟩
instance : Mul (Pl R) := ⟨fun a b => ⟨conv a.c b.c,by
 obtain ⟨n,hn⟩ := a.fin;obtain ⟨m,hm⟩ := b.fin;exact ⟨n + m,fun t ht => conv_high hn hm (by omega)⟩⟩⟩
instance : Neg (Pl R) := ⟨fun a => ⟨fun t => - a.c t,by
 obtain ⟨n,hn⟩ := a.fin;exact ⟨n,fun t ht => by show -a.c t = 0; rw [hn t ht,neg_zero]⟩⟩⟩
instance : Zero (Pl R) := ⟨⟨fun _ => 0,0,fun _ _ => rfl⟩⟩
instance : One (Pl R) := ⟨⟨fun t => if t = 0 then 1 else 0,1,fun t ht => if_neg (by omega)⟩⟩
instance : CRing (Pl R) where
 add_assoc' a b c := Pl.ext' fun t => add_a _ _ _
 add_comm' a b := Pl.ext' fun t => add_c _ _
 mul_assoc' a b c := Pl.ext' fun t => conv_assoc a.c b.c c.c t
 mul_comm' a b := Pl.ext' fun t => conv_comm a.c b.c t
 zero_add' a := Pl.ext' fun t => zero_add _
 neg_add' a := Pl.ext' fun t => neg_add _
 one_mul' a := Pl.ext' fun t => by
  show conv (fun t => if t = 0 then (1 : R) else 0) a.c t = a.c t
  unfold conv
  rw [rsum_single (k := 0) (by omega) fun i _ hne => by dsimp only; rw [if_neg hne,zero_mul]];dsimp only;rw [if_pos rfl,one_mul,Nat.sub_zero]
 mul_add' a b c := Pl.ext' fun t => conv_addr a.c b.c c.c t
def Pl.lin (x : R) : Pl R := ⟨fun t => if t = 0 then -x else if t = 1 then 1 else 0,2,fun t ht => by dsimp only; rw [if_neg (by omega),if_neg (by omega)]⟩
end
section
variable {F : Type} [CField F]
open CField (inv)
end
end Cw

namespace Cw
section
variable {R : Type} [CRing R]
theorem nsm_zero_r (n : Nat) : nsm n (0 : R) = 0 := by rw [nsm_mul,mul_zero]
def hP : List (R × R) → Pl R
 | [] => 1
 | (x,_) :: l => Pl.lin x * hP l
end
section
variable {F : Type} [CField F]
open CField (inv)
end
end Cw

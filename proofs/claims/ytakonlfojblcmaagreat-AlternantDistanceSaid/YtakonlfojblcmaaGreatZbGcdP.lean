/- Plain algebra: the ring of polynomials as coefficient functions, division, coprime polynomials. No Go here. Plain law of layer 19: the rational function of a word, and squarefree Goppa polynomials in characteristic 2. No Go here. Plain law of layer 5: division with remainder, step by step. No Go here. Plain: greatest common divisors and derivatives of lists of coefficients. No Go here. -/
import Derived.Test.YtakonlfojblcmaaGreatZbPoR
namespace Cw
section
variable {R : Type} [CRing R]
theorem conv_dbl (f g : Nat → R) {t N : Nat} (h : t < N) : conv f g t = rsum N fun i => rsum N fun j => if i + j = t then f i * g j else 0 := by
 unfold conv
 rw [rsum_tail (n := t + 1) (m := N) (by omega) fun i h1 _ => rsum_eq_zero fun j _ => if_neg (by omega)]
 refine rsum_congr fun i hi => ?_
 rw [rsum_single (k := t - i) (by omega) fun j _ hne => if_neg (by omega), if_pos (by omega)]
theorem conv_tri (f g h : Nat → R) (t : Nat) : conv (conv f g) h t = rsum (t + 1) fun i => rsum (t + 1) fun j => rsum (t + 1) fun k => if i + j + k = t then f i * g j * h k else 0 := by
 rw [conv_dbl (conv f g) h (Nat.lt_succ_self t)]
 have e1 : ∀ s, s < t + 1 → (rsum (t + 1) fun k => if s + k = t then conv f g s * h k else 0) = rsum (t + 1) fun i => rsum (t + 1) fun j => rsum (t + 1) fun k => if i + j = s then (if s + k = t then f i * g j * h k else 0) else 0 := fun s hs => by
  have e2 : ∀ k, (if s + k = t then conv f g s * h k else 0) = rsum (t + 1) fun i => rsum (t + 1) fun j => if i + j = s then (if s + k = t then f i * g j * h k else 0) else 0 := fun k => by
   by_cases e : s + k = t
   ·simp only [if_pos e]
    rw [conv_dbl f g hs, ← rsum_mul_right]
    refine rsum_congr fun i _ => ?_
    rw [← rsum_mul_right]
    refine rsum_congr fun j _ => ?_
    by_cases e3 : i + j = s
    ·rw [if_pos e3, if_pos e3]
    ·rw [if_neg e3, if_neg e3, zero_mul]
   ·simp only [if_neg e, ite_self]
    rw [rsum_eq_zero fun i _ => rsum_eq_zero fun j _ => rfl]
  rw [rsum_congr fun k _ => e2 k, rsum_swap]
  refine rsum_congr fun i _ => ?_
  rw [rsum_swap]
 rw [rsum_congr e1, rsum_swap]
 refine rsum_congr fun i hi => ?_
 rw [rsum_swap]
 refine rsum_congr fun j hj => ?_
 rw [rsum_swap]
 refine rsum_congr fun k hk => ?_
 by_cases e : i + j < t + 1
 ·rw [rsum_single (k := i + j) e fun s _ hne => if_neg (fun e2 => hne e2.symm), if_pos rfl]
 ·rw [if_neg (by omega), rsum_eq_zero fun s hs => if_neg (by omega)]
theorem conv_assoc (f g h : Nat → R) (t : Nat) : conv (conv f g) h t = conv f (conv g h) t := by
 rw [conv_comm f, conv_tri, conv_tri]
 rw [rsum_congr fun i _ => rsum_swap (t + 1) (t + 1) fun j k => if i + j + k = t then f i * g j * h k else 0]
 rw [rsum_swap]
 rw [rsum_congr fun k _ => rsum_swap (t + 1) (t + 1) fun i j => if i + j + k = t then f i * g j * h k else 0]
 rw [rsum_swap]
 refine rsum_congr fun j _ => rsum_congr fun k _ => rsum_congr fun i _ => ?_
 by_cases e : i + j + k = t
 ·rw [if_pos e, if_pos (by omega)]; ac_rfl
 ·rw [if_neg e, if_neg (by omega)]
theorem conv_addr (f g h : Nat → R) (t : Nat) : conv f (fun s => g s + h s) t = conv f g t + conv f h t := by
 unfold conv
 rw [← rsum_add]
 exact rsum_congr fun i _ => mul_add _ _ _
structure Pl (R : Type) [CRing R] where
 c : Nat → R
 fin : ∃ n, LtD c n
theorem Pl.ext' {a b : Pl R} (h : ∀ t, a.c t = b.c t) : a = b := by
 obtain ⟨f, hf⟩ := a
 obtain ⟨g, hg⟩ := b
 have e : f = g := funext h
 subst e
 rfl
instance : Add (Pl R) := ⟨fun a b => ⟨fun t => a.c t + b.c t, by
 obtain ⟨n, hn⟩ := a.fin
 obtain ⟨m, hm⟩ := b.fin
 exact ⟨n + m, fun t ht => by show a.c t + b.c t = 0; rw [hn t (by omega), hm t (by omega), add_zero]⟩⟩⟩
instance : Mul (Pl R) := ⟨fun a b => ⟨conv a.c b.c, by
 obtain ⟨n, hn⟩ := a.fin
 obtain ⟨m, hm⟩ := b.fin
 exact ⟨n + m, fun t ht => conv_high hn hm (by omega)⟩⟩⟩
instance : Neg (Pl R) := ⟨fun a => ⟨fun t => - a.c t, by
 obtain ⟨n, hn⟩ := a.fin
 exact ⟨n, fun t ht => by show -a.c t = 0; rw [hn t ht, neg_zero]⟩⟩⟩
instance : Zero (Pl R) := ⟨⟨fun _ => 0, 0, fun _ _ => rfl⟩⟩
instance : One (Pl R) := ⟨⟨fun t => if t = 0 then 1 else 0, 1, fun t ht => if_neg (by omega)⟩⟩
theorem pl_one (t : Nat) : (1 : Pl R).c t = if t = 0 then 1 else 0 := rfl
instance : CRing (Pl R) where
 add_assoc' a b c := Pl.ext' fun t => add_a _ _ _
 add_comm' a b := Pl.ext' fun t => add_c _ _
 mul_assoc' a b c := Pl.ext' fun t => conv_assoc a.c b.c c.c t
 mul_comm' a b := Pl.ext' fun t => conv_comm a.c b.c t
 zero_add' a := Pl.ext' fun t => zero_add _
 neg_add' a := Pl.ext' fun t => neg_add _
 one_mul' a := Pl.ext' fun t => by
  show conv (fun t => if t = 0 then (1 : R) else 0) a.c t = a.c t
  unfold conv
  rw [rsum_single (k := 0) (by omega) fun i _ hne => by dsimp only; rw [if_neg hne, zero_mul]]
  dsimp only
  rw [if_pos rfl, one_mul, Nat.sub_zero]
 mul_add' a b c := Pl.ext' fun t => conv_addr a.c b.c c.c t
def Pl.lt (a : Pl R) (n : Nat) : Prop := LtD a.c n
def Pl.k (x : R) : Pl R := ⟨fun t => if t = 0 then x else 0, 1, fun t ht => if_neg (by omega)⟩
def Pl.lin (x : R) : Pl R := ⟨fun t => if t = 0 then -x else if t = 1 then 1 else 0, 2, fun t ht => by dsimp only; rw [if_neg (by omega), if_neg (by omega)]⟩
theorem pl_k_mul (x : R) (a : Pl R) (t : Nat) : (Pl.k x * a).c t = x * a.c t := by
 show conv (fun t => if t = 0 then x else 0) a.c t = _
 unfold conv
 rw [rsum_single (k := 0) (by omega) fun i _ hne => by dsimp only; rw [if_neg hne, zero_mul]]
 dsimp only
 rw [if_pos rfl, Nat.sub_zero]
theorem pl_lin_mul (x : R) (a : Pl R) (t : Nat) : (Pl.lin x * a).c t = (if t = 0 then 0 else a.c (t - 1)) - x * a.c t := by
 show conv (fun t => if t = 0 then -x else if t = 1 then 1 else 0) a.c t = _
 unfold conv
 cases t with
 | zero =>
  rw [rsum_succ, rsum_zero, zero_add]
  dsimp only
  rw [if_pos rfl, if_pos rfl, zero_sub, neg_mul]
 | succ k =>
  rw [rsum_succ_left, rsum_succ_left, rsum_eq_zero (n := k) fun i hi => by dsimp only; rw [if_neg (by omega), if_neg (by omega), zero_mul]]
  dsimp only
  rw [if_pos rfl, if_neg (by omega), if_pos rfl, if_neg (by omega), add_zero, one_mul, neg_mul, sub_d, add_c]
  rfl
noncomputable def Pl.ev (a : Pl R) (x : R) : R := vl a.c (Classical.choose a.fin) x
theorem pl_ev {a : Pl R} {n : Nat} (h : a.lt n) (x : R) : a.ev x = vl a.c n x := by
 have h2 := Classical.choose_spec a.fin
 unfold Pl.ev
 rcases Nat.le_total n (Classical.choose a.fin) with g | g
 ·exact vl_more h g x
 ·exact (vl_more h2 g x).symm
theorem ev_mul (a b : Pl R) (x : R) : (a * b).ev x = a.ev x * b.ev x := by
 obtain ⟨n, hn⟩ := a.fin
 obtain ⟨m, hm⟩ := b.fin
 rw [pl_ev hn, pl_ev hm, pl_ev (a := a * b) (n := n + m) (fun t ht => conv_high hn hm (by omega))]
 exact vl_conv hn hm x
theorem ev_k (y x : R) : (Pl.k y).ev x = y := by
 rw [pl_ev (n := 1) (fun t ht => if_neg (by omega))]
 unfold vl
 rw [rsum_succ, rsum_zero, zero_add]
 show (if (0 : Nat) = 0 then y else 0) * 1 = y
 rw [if_pos rfl, mul_one]
theorem ev_lin (y x : R) : (Pl.lin y).ev x = x - y := by
 rw [pl_ev (n := 2) (fun t ht => by show (if t = 0 then -y else if t = 1 then 1 else 0) = 0; rw [if_neg (by omega), if_neg (by omega)])]
 unfold vl
 rw [rsum_succ, rsum_succ, rsum_zero, zero_add]
 show (if (0 : Nat) = 0 then -y else if (0 : Nat) = 1 then (1 : R) else 0) * 1 + (if (1 : Nat) = 0 then -y else if 1 = 1 then 1 else 0) * (1 * x) = x - y
 rw [if_pos rfl, if_neg (by omega), if_pos rfl, mul_one, one_mul, one_mul, add_c]
 rfl
def Pl.dvd (a b : Pl R) : Prop := ∃ c, b = c * a
theorem Pl.dvd.add {a b c : Pl R} (h : a.dvd b) (g : a.dvd c) : a.dvd (b + c) := by
 obtain ⟨u, rfl⟩ := h
 obtain ⟨v, rfl⟩ := g
 exact ⟨u + v, (add_mul _ _ _).symm⟩
theorem Pl.dvd.mul {a b : Pl R} (h : a.dvd b) (c : Pl R) : a.dvd (c * b) := by
 obtain ⟨u, rfl⟩ := h
 exact ⟨c * u, (mul_a _ _ _).symm⟩
theorem Pl.dvd.zero (a : Pl R) : a.dvd 0 := ⟨0, (zero_mul a).symm⟩
def Cop (a b : Pl R) : Prop := ∃ u v, u * a + v * b = 1
end
section
variable {F : Type} [CField F]
open CField (inv)
theorem dvd_zero {g a : Pl F} {n : Nat} (hg : g.lt (n + 1)) (h0 : g.c n ≠ 0) (ha : a.lt n) (h : g.dvd a) : a = 0 := by
 obtain ⟨q, rfl⟩ := h
 obtain ⟨N, hN⟩ := q.fin
 have hz := conv_short (f := g.c) (g := q.c) (a := n) h0 hg (fun t ht => by
  rw [conv_comm]; exact ha t ht) N hN
 have e : q = 0 := Pl.ext' hz
 rw [e, zero_mul]
end
end Cw

namespace Cw
section
variable {R : Type} [CRing R]
theorem nsm_zero_r (n : Nat) : nsm n (0 : R) = 0 := by rw [nsm_mul, mul_zero]
def Pl.D (a : Pl R) : Pl R := ⟨fun t => nsm (t + 1) (a.c (t + 1)), by
 obtain ⟨n, hn⟩ := a.fin
 exact ⟨n, fun t ht => by dsimp only; rw [hn (t + 1) (by omega), nsm_zero_r]⟩⟩
theorem pl_D (a : Pl R) (t : Nat) : a.D.c t = nsm (t + 1) (a.c (t + 1)) := rfl
def hP : List (R × R) → Pl R
 | [] => 1
 | (x, _) :: l => Pl.lin x * hP l
end
section
variable {F : Type} [CField F]
open CField (inv)
end
end Cw

namespace Go.Proofs.YtakonlfojblcmaaGreat
open Go.RowKit Cw
open Cw.CField (inv)

section
variable {D : Desc}
def remF (f g : Nat → R D) (iv : R D) (d Q : Nat) : Nat → Nat → R D
 | 0 => f
 | s + 1 => fun t => remF f g iv d Q s t - if Q - 1 - s ≤ t then remF f g iv d Q s (Q - 1 - s + d) * iv * g (t - (Q - 1 - s)) else 0
def quoF (f g : Nat → R D) (iv : R D) (d Q : Nat) (n : Nat) : R D := remF f g iv d Q (Q - 1 - n) (n + d) * iv
def quoS (f g : Nat → R D) (iv : R D) (d Q s : Nat) (i : Nat) : R D := if Q - s ≤ i ∧ i < Q then quoF f g iv d Q i else 0
variable {f g : Nat → R D} {iv : R D} {d Q : Nat}
theorem remF_succ {s n : Nat} (hs : Q = n + 1 + s) (t : Nat) : remF f g iv d Q (s + 1) t = remF f g iv d Q s t - if n ≤ t then quoF f g iv d Q n * g (t - n) else 0 := by
 show remF f g iv d Q s t - (if Q - 1 - s ≤ t then remF f g iv d Q s (Q - 1 - s + d) * iv * g (t - (Q - 1 - s)) else 0) = _
 unfold quoF
 rw [show Q - 1 - s = n by omega, show Q - 1 - n = s by omega]
theorem quoF_at {s n : Nat} (hs : Q = n + 1 + s) : quoF f g iv d Q n = remF f g iv d Q s (n + d) * iv := by unfold quoF; rw [show Q - 1 - n = s by omega]
theorem remF_lt (hf : LtD f (d + Q)) (hg : LtD g (d + 1)) (hiv : iv * g d = 1) : ∀ s, s ≤ Q → LtD (remF f g iv d Q s) (d + Q - s)
 | 0, _ => hf
 | s + 1, h => fun t ht => by
  obtain ⟨n, hn⟩ : ∃ n, Q = n + 1 + s := ⟨Q - 1 - s, by omega⟩
  have ih := remF_lt hf hg hiv s (by omega)
  rw [remF_succ hn, if_pos (by omega), quoF_at hn]
  by_cases e : t = n + d
  ·rw [e, show n + d - n = d by omega, mul_a, hiv, mul_one, sub_self]
  ·rw [ih t (by omega), hg _ (by omega), mul_zero, sub_zero]
theorem conv_add_l {R : Type} [CRing R] (f h g : Nat → R) (t : Nat) : conv (fun s => f s + h s) g t = conv f g t + conv h g t := by
 unfold conv
 rw [← rsum_add]
 exact rsum_congr fun i _ => add_mul _ _ _
theorem conv_single {R : Type} [CRing R] (n : Nat) (c : R) (g : Nat → R) (t : Nat) : conv (fun s => if s = n then c else 0) g t = if n ≤ t then c * g (t - n) else 0 := by
 unfold conv
 by_cases h : n ≤ t
 ·rw [if_pos h, rsum_single (k := n) (by omega) fun i _ hne => by dsimp only; rw [if_neg hne, zero_mul]]
  dsimp only
  rw [if_pos rfl]
 ·rw [if_neg h]
  exact rsum_eq_zero fun i hi => by dsimp only; rw [if_neg (by omega), zero_mul]
theorem quoS_succ {s n : Nat} (hs : Q = n + 1 + s) (i : Nat) : quoS f g iv d Q (s + 1) i = quoS f g iv d Q s i + if i = n then quoF f g iv d Q n else 0 := by
 unfold quoS
 by_cases e : i = n
 ·rw [if_pos (by omega), if_neg (by omega), if_pos e, zero_add, e]
 ·rw [if_neg e, add_zero]
  by_cases e2 : Q - s ≤ i ∧ i < Q
  ·rw [if_pos e2, if_pos (by omega)]
  ·rw [if_neg e2, if_neg (by omega)]
theorem remF_eq : ∀ s, s ≤ Q → ∀ t, f t = conv (quoS f g iv d Q s) g t + remF f g iv d Q s t
 | 0, _, t => by
  rw [show conv (quoS f g iv d Q 0) g t = 0 from rsum_eq_zero fun i _ => by unfold quoS; rw [if_neg (by omega), zero_mul], zero_add]; rfl
 | s + 1, h, t => by
  obtain ⟨n, hn⟩ : ∃ n, Q = n + 1 + s := ⟨Q - 1 - s, by omega⟩
  rw [remF_eq s (by omega) t, remF_succ hn, show quoS f g iv d Q (s + 1) = fun i => quoS f g iv d Q s i + if i = n then quoF f g iv d Q n else 0 from funext fun i => quoS_succ hn i, conv_add_l, conv_single, add_a]
  congr 1
  rw [add_c, sub_add_cancel]
end
theorem div_ok {F : FD} {p q : List Int} {d A Q : Nat} (hq : (canI F.toDesc q).length = d + 1) (hA : (canI F.toDesc p).length = A) (hQ : Q = A - d) :
  DivI F.toDesc p q (canL (fun i => ci (quoS (cfR F.toDesc p) (cfR F.toDesc q) (inv (cfR F.toDesc q d)) d Q Q i)) Q) (canL (fun i => ci (remF (cfR F.toDesc p) (cfR F.toDesc q) (inv (cfR F.toDesc q d)) d Q Q i)) A) := by
 have hf : LtD (cfR F.toDesc p) (d + Q) := fun t ht => by rw [← cfR_canI]; exact cfR_out F.toDesc (by omega)
 have hg : LtD (cfR F.toDesc q) (d + 1) := fun t ht => by rw [← cfR_canI]; exact cfR_out F.toDesc (by omega)
 have hl : cfR F.toDesc q d ≠ 0 := by rw [← cfR_canI]; exact can_lead (canI_canI F.toDesc q) hq
 have hr := remF_lt hf hg (inv_mul hl) Q (Nat.le_refl _)
 have hQ0 : ∀ i, Q ≤ i → quoS (cfR F.toDesc p) (cfR F.toDesc q) (inv (cfR F.toDesc q d)) d Q Q i = 0 := fun i hi => by unfold quoS; rw [if_neg (by omega)]
 have hR0 : ∀ i, A ≤ i → remF (cfR F.toDesc p) (cfR F.toDesc q) (inv (cfR F.toDesc q d)) d Q Q i = 0 := fun i hi => by
  by_cases e : A ≤ d
  ·have e2 : Q = 0 := by omega
   rw [e2]
   show cfR F.toDesc p i = 0
   rw [← cfR_canI]; exact cfR_out F.toDesc (by omega)
  ·exact hr i (by omega)
 refine ⟨canI_can _ _ hQ0, canI_can _ _ hR0, fun s => ?_, ?_⟩
 ·rw [cfR_can _ _ hQ0, cfR_can _ _ hR0]
  exact remF_eq Q (Nat.le_refl _) s
 ·rw [hq]
  have := can_short (canI_can _ _ hR0) (n := d) fun t ht => by rw [cfR_can _ _ hR0]; exact hr t (by omega)
  omega
end Go.Proofs.YtakonlfojblcmaaGreat

namespace Go.Proofs.YtakonlfojblcmaaGreat
open Go.RowKit Cw
open Cw.CField (inv)
def plI (D : Desc) (p : List Int) : Pl (R D) := ⟨cfR D p, p.length, cfR_lt D p⟩
theorem DivI.pl {D : Desc} {p q quo rem : List Int} (h : DivI D p q quo rem) : plI D p = plI D quo * plI D q + plI D rem := Pl.ext' h.eq
theorem plI_nil (D : Desc) : plI D [] = 0 := Pl.ext' fun _ => cfR_out D (Nat.zero_le _)
structure GcdI (D : Desc) (a b : Pl (R D)) (l : List Int) : Prop where
 can : canI D l = l
 da : (plI D l).dvd a
 db : (plI D l).dvd b
 bez : ∃ u v, u * a + v * b = plI D l
theorem plI_canI (D : Desc) (p : List Int) : plI D (canI D p) = plI D p := Pl.ext' fun t => congrFun (cfR_canI D p) t
theorem GcdI.step {D : Desc} {p q quo rem l : List Int} (hd : DivI D p q quo rem) (h : GcdI D (plI D q) (plI D rem) l) : GcdI D (plI D p) (plI D q) l := by
 refine ⟨h.can, ?_, h.da, ?_⟩
 ·rw [hd.pl]
  exact (h.da.mul _).add h.db
 ·obtain ⟨u, v, e⟩ := h.bez
  refine ⟨v, u - v * plI D quo, ?_⟩
  rw [← e, hd.pl, mul_add, sub_d, add_mul, neg_mul]
  rw [show v * plI D quo * plI D q = v * (plI D quo * plI D q) from mul_a _ _ _]
  generalize v * (plI D quo * plI D q) = x
  generalize v * plI D rem = y
  generalize u * plI D q = z
  rw [show x + y + (z + -x) = z + y + (x + -x) by ac_rfl, add_neg, add_zero]
section
variable {F : FD}
theorem GcdI.one {a b : Pl (R F.toDesc)} {l : List Int} (h : GcdI F.toDesc a b l) : l.length = 1 ↔ Cop a b := by
 constructor
 ·intro e
  have h0 : cfR F.toDesc l 0 ≠ 0 := can_lead h.can e
  obtain ⟨u, v, e2⟩ := h.bez
  refine ⟨Pl.k (inv (cfR F.toDesc l 0)) * u, Pl.k (inv (cfR F.toDesc l 0)) * v, ?_⟩
  rw [mul_a, mul_a, ← mul_add, e2]
  refine Pl.ext' fun t => ?_
  rw [pl_k_mul, pl_one]
  show _ * cfR F.toDesc l t = _
  by_cases ht : t = 0
  ·subst ht; rw [if_pos rfl, inv_mul h0]
  ·rw [if_neg ht, cfR_out F.toDesc (show l.length ≤ t by omega), mul_zero]
 ·rintro ⟨u, v, e⟩
  have h1 : (plI F.toDesc l).dvd 1 := by rw [← e]; exact (h.da.mul u).add (h.db.mul v)
  have hne : l.length ≠ 0 := fun e0 => by
   obtain ⟨q, e2⟩ := h1
   rw [List.eq_nil_of_length_eq_zero e0, plI_nil, mul_zero] at e2
   have := congrArg (fun a : Pl (R F.toDesc) => a.c 0) e2
   rw [pl_one, if_pos rfl] at this
   exact one_ne this
  refine Classical.byContradiction fun hn => ?_
  obtain ⟨n, hl⟩ : ∃ n, l.length = n + 1 := ⟨l.length - 1, by omega⟩
  have h3 := dvd_zero (g := plI F.toDesc l) (a := 1) (n := n) (fun t ht => cfR_out _ (by omega)) (can_lead h.can hl) (fun t ht => if_neg (by omega)) h1
  have := congrArg (fun a : Pl (R F.toDesc) => a.c 0) h3
  rw [pl_one, if_pos rfl] at this
  exact one_ne this
theorem GcdI.monic {p l : List Int} {x : R F.toDesc} (hx : x ≠ 0) (hl : canI F.toDesc l = l) (h : ∀ t, cfR F.toDesc l t = x * cfR F.toDesc p t) : GcdI F.toDesc (plI F.toDesc p) 0 l := by
 have e : plI F.toDesc l = Pl.k x * plI F.toDesc p := Pl.ext' fun t => by rw [pl_k_mul]; exact h t
 have e2 : plI F.toDesc p = Pl.k (inv x) * plI F.toDesc l := Pl.ext' fun t => by
  rw [pl_k_mul]
  show cfR F.toDesc p t = inv x * cfR F.toDesc l t
  rw [h t, ← mul_a, inv_mul hx, one_mul]
 refine ⟨hl, ⟨_, e2⟩, Pl.dvd.zero _, Pl.k x, 0, ?_⟩
 rw [zero_mul, add_zero, e]
theorem GcdI.nil : GcdI F.toDesc 0 0 [] := ⟨rfl, Pl.dvd.zero _, Pl.dvd.zero _, 0, 0, by rw [plI_nil, zero_mul, add_zero]⟩
end
def derI (D : Desc) (p : List Int) : List Int := canL (fun i => ci (nsm (i + 1) (cfR D p (i + 1)))) (p.length - 1)
theorem derI_can (D : Desc) (p : List Int) : canI D (derI D p) = derI D p := canI_can (fun i => nsm (i + 1) (cfR D p (i + 1))) _ fun i h => by rw [cfR_out D (by omega), nsm_zero_r]
theorem derI_pl (D : Desc) (p : List Int) : plI D (derI D p) = (plI D p).D := Pl.ext' fun t => by
 show cfR D (derI D p) t = nsm (t + 1) (cfR D p (t + 1))
 have h := cfR_can (fun i => nsm (i + 1) (cfR D p (i + 1))) (p.length - 1) fun i h => by rw [cfR_out D (by omega), nsm_zero_r]
 exact congrFun h t
theorem derI_le (D : Desc) (p : List Int) : (derI D p).length ≤ p.length - 1 := by unfold derI; rw [canL_length]; exact cdeg_le _ _
theorem nsm_mod_D (D : Desc) (n : Nat) : nsm n (1 : R D) = nsm (n % D.p) 1 := by
 have h : n = n / D.p * D.p + n % D.p := by rw [Nat.mul_comm]; exact (Nat.div_add_mod n D.p).symm
 have h2 : nsm (n / D.p * D.p) (1 : R D) = 0 := nsm_dvd char_R ⟨n / D.p, Nat.mul_comm _ _⟩ 1
 rw [h, nsm_add, h2, zero_add, ← h]
theorem eli_mod (D : Desc) (n : Nat) : eli D ((n % D.p : Nat) : Int) = nsm n 1 := by
 have hp := D.p2
 have hm := D.m1
 have h1 : n % D.p < D.p := Nat.mod_lt _ (by omega)
 have h2 : D.p ≤ D.q := by
  have : D.p ^ 1 ≤ D.p ^ D.m := Nat.pow_le_pow_right (by omega) hm
  rw [Nat.pow_one] at this
  exact this
 have h3 : eli D ((n % D.p : Nat) : Int) = rel D (n % D.p) := by
  unfold eli
  rw [if_pos ⟨by omega, by omega⟩]
  rfl
 rw [h3, nsm_mod_D D n]
 generalize n % D.p = k at h1
 refine R.ext' fun i hi => ?_
 rw [nsm_v, one_v hi]
 unfold rel
 rw [cut_v hi]
 by_cases e : i = 0
 ·subst e
  rw [if_pos rfl, zp_nsm, Nat.pow_zero, Nat.div_one]
 ·have h5 : k < D.p ^ i := by
   have : D.p ^ 1 ≤ D.p ^ i := Nat.pow_le_pow_right (by omega) (by omega)
   rw [Nat.pow_one] at this
   omega
  rw [if_neg e, nsm_zero_r, Nat.div_eq_of_lt h5, zp_zero]
end Go.Proofs.YtakonlfojblcmaaGreat

/- Plain algebra: the ring of polynomials as coefficient functions, division, coprime polynomials. No Go here. Plain law of layer 19: the rational function of a word, and squarefree Goppa polynomials in characteristic 2. No Go here. Plain law of layer 19: words over a subfield, their images, coordinates and traces. No Go here. Plain: the code of the words whose images meet checks over the greater field. No Go here. -/
import Derived.Test.YtakonlfojblcmaaGreatZgNrm
import Derived.Test.YtakonlfojblcmaaGreatZgDsS
import Derived.Test.YtakonlfojblcmaaGreatZgPoR
import Derived.Test.YtakonlfojblcmaaGreatZgApR
import Derived.Test.YtakonlfojblcmaaGreatZgDiv5
set_option linter.unusedVariables false
set_option linter.unusedSimpArgs false
namespace Cw
section
variable {R : Type} [CRing R]
theorem conv_dbl (f g : Nat → R) {t N : Nat} (h : t < N) : conv f g t = rsum N fun i => rsum N fun j => if i + j = t then f i * g j else 0 := by
 unfold conv
 rw [rsum_tail (n := t + 1) (m := N) (by omega) fun i h1 _ => rsum_eq_zero fun j _ => if_neg (by omega)];refine rsum_congr fun i hi => ?_
 rw [rsum_single (k := t - i) (by omega) fun j _ hne => if_neg (by omega), if_pos (by omega)]
theorem conv_tri (f g h : Nat → R) (t : Nat) : conv (conv f g) h t = rsum (t + 1) fun i => rsum (t + 1) fun j => rsum (t + 1) fun k => if i + j + k = t then f i * g j * h k else 0 := by
 rw [conv_dbl (conv f g) h (Nat.lt_succ_self t)];have e1 : ∀ s, s < t + 1 → (rsum (t + 1) fun k => if s + k = t then conv f g s * h k else 0) = rsum (t + 1) fun i => rsum (t + 1) fun j => rsum (t + 1) fun k => if i + j = s then (if s + k = t then f i * g j * h k else 0) else 0 := fun s hs => by
  have e2 : ∀ k, (if s + k = t then conv f g s * h k else 0) = rsum (t + 1) fun i => rsum (t + 1) fun j => if i + j = s then (if s + k = t then f i * g j * h k else 0) else 0 := fun k => by
   by_cases e : s + k = t
   ·simp only [if_pos e];rw [conv_dbl f g hs, ← rsum_mul_right];refine rsum_congr fun i _ => ?_
    rw [← rsum_mul_right];refine rsum_congr fun j _ => ?_
    by_cases e3 : i + j = s
    ·rw [if_pos e3, if_pos e3]
    ·rw [if_neg e3, if_neg e3, zero_mul]
   ·simp only [if_neg e, ite_self];rw [rsum_eq_zero fun i _ => rsum_eq_zero fun j _ => rfl]
  rw [rsum_congr fun k _ => e2 k, rsum_swap];refine rsum_congr fun i _ => ?_
  rw [rsum_swap]
 rw [rsum_congr e1, rsum_swap];refine rsum_congr fun i hi => ?_
 rw [rsum_swap];refine rsum_congr fun j hj => ?_
 rw [rsum_swap];refine rsum_congr fun k hk => ?_
 by_cases e : i + j < t + 1
 ·rw [rsum_single (k := i + j) e fun s _ hne => if_neg (fun e2 => hne e2.symm), if_pos rfl]
 ·rw [if_neg (by omega), rsum_eq_zero fun s hs => if_neg (by omega)]
theorem conv_assoc (f g h : Nat → R) (t : Nat) : conv (conv f g) h t = conv f (conv g h) t := by
 rw [conv_comm f, conv_tri, conv_tri];rw [rsum_congr fun i _ => rsum_swap (t + 1) (t + 1) fun j k => if i + j + k = t then f i * g j * h k else 0];rw [rsum_swap];rw [rsum_congr fun k _ => rsum_swap (t + 1) (t + 1) fun i j => if i + j + k = t then f i * g j * h k else 0];rw [rsum_swap];refine rsum_congr fun j _ => rsum_congr fun k _ => rsum_congr fun i _ => ?_
 by_cases e : i + j + k = t
 ·rw [if_pos e, if_pos (by omega)]; ac_rfl
 ·rw [if_neg e, if_neg (by omega)]
theorem conv_addr (f g h : Nat → R) (t : Nat) : conv f (fun s => g s + h s) t = conv f g t + conv f h t := by
 unfold conv
 rw [← rsum_add];exact rsum_congr fun i _ => mul_add _ _ _
structure Pl (R : Type) [CRing R] where
 c : Nat → R
 fin : ∃ n, LtD c n
theorem Pl.ext' {a b : Pl R} (h : ∀ t, a.c t = b.c t) : a = b := by
 obtain ⟨f, hf⟩ := a;obtain ⟨g, hg⟩ := b;have e : f = g := funext h;subst e;rfl
instance : Add (Pl R) := ⟨fun a b => ⟨fun t => a.c t + b.c t, by
 obtain ⟨n, hn⟩ := a.fin;obtain ⟨m, hm⟩ := b.fin;exact ⟨n + m, fun t ht => by show a.c t + b.c t = 0; rw [hn t (by omega), hm t (by omega), add_zero]⟩⟩⟩
instance : Mul (Pl R) := ⟨fun a b => ⟨conv a.c b.c, by
 obtain ⟨n, hn⟩ := a.fin;obtain ⟨m, hm⟩ := b.fin;exact ⟨n + m, fun t ht => conv_high hn hm (by omega)⟩⟩⟩
instance : Neg (Pl R) := ⟨fun a => ⟨fun t => - a.c t, by
 obtain ⟨n, hn⟩ := a.fin;exact ⟨n, fun t ht => by show -a.c t = 0; rw [hn t ht, neg_zero]⟩⟩⟩
instance : Zero (Pl R) := ⟨⟨fun _ => 0, 0, fun _ _ => rfl⟩⟩
instance : One (Pl R) := ⟨⟨fun t => if t = 0 then 1 else 0, 1, fun t ht => if_neg (by omega)⟩⟩
theorem pl_add (a b : Pl R) (t : Nat) : (a + b).c t = a.c t + b.c t := rfl
theorem pl_mul (a b : Pl R) (t : Nat) : (a * b).c t = conv a.c b.c t := rfl
theorem pl_one (t : Nat) : (1 : Pl R).c t = if t = 0 then 1 else 0 := rfl
instance : CRing (Pl R) where
 add_assoc' a b c := Pl.ext' fun t => add_a _ _ _
 add_comm' a b := Pl.ext' fun t => add_c _ _
 mul_assoc' a b c := Pl.ext' fun t => conv_assoc a.c b.c c.c t
 mul_comm' a b := Pl.ext' fun t => conv_comm a.c b.c t
 zero_add' a := Pl.ext' fun t => zero_add _
 neg_add' a := Pl.ext' fun t => neg_add _
 one_mul' a := Pl.ext' fun t => by
  show conv (fun t => if t = 0 then (1 : R) else 0) a.c t = a.c t
  unfold conv
  rw [rsum_single (k := 0) (by omega) fun i _ hne => by dsimp only; rw [if_neg hne, zero_mul]];dsimp only;rw [if_pos rfl, one_mul, Nat.sub_zero]
 mul_add' a b c := Pl.ext' fun t => conv_addr a.c b.c c.c t
def Pl.lt (a : Pl R) (n : Nat) : Prop := LtD a.c n
def Pl.k (x : R) : Pl R := ⟨fun t => if t = 0 then x else 0, 1, fun t ht => if_neg (by omega)⟩
def Pl.lin (x : R) : Pl R := ⟨fun t => if t = 0 then -x else if t = 1 then 1 else 0, 2, fun t ht => by dsimp only; rw [if_neg (by omega), if_neg (by omega)]⟩
theorem pl_k_mul (x : R) (a : Pl R) (t : Nat) : (Pl.k x * a).c t = x * a.c t := by
 show conv (fun t => if t = 0 then x else 0) a.c t = _
 unfold conv
 rw [rsum_single (k := 0) (by omega) fun i _ hne => by dsimp only; rw [if_neg hne, zero_mul]];dsimp only;rw [if_pos rfl, Nat.sub_zero]
theorem pl_lin_mul (x : R) (a : Pl R) (t : Nat) : (Pl.lin x * a).c t = (if t = 0 then 0 else a.c (t - 1)) - x * a.c t := by
 show conv (fun t => if t = 0 then -x else if t = 1 then 1 else 0) a.c t = _
 unfold conv
 cases t with
 | zero =>
  rw [rsum_succ, rsum_zero, zero_add];dsimp only;rw [if_pos rfl, if_pos rfl, zero_sub, neg_mul]
 | succ k =>
  rw [rsum_succ_left, rsum_succ_left, rsum_eq_zero (n := k) fun i hi => by dsimp only; rw [if_neg (by omega), if_neg (by omega), zero_mul]];dsimp only;rw [if_pos rfl, if_neg (by omega), if_pos rfl, if_neg (by omega), add_zero, one_mul, neg_mul, sub_d, add_c];rfl
noncomputable def Pl.ev (a : Pl R) (x : R) : R := vl a.c (Classical.choose a.fin) x
theorem pl_ev {a : Pl R} {n : Nat} (h : a.lt n) (x : R) : a.ev x = vl a.c n x := by
 have h2 := Classical.choose_spec a.fin;unfold Pl.ev;rcases Nat.le_total n (Classical.choose a.fin) with g | g
 ·exact vl_more h g x
 ·exact (vl_more h2 g x).symm
theorem ev_mul (a b : Pl R) (x : R) : (a * b).ev x = a.ev x * b.ev x := by
 obtain ⟨n, hn⟩ := a.fin;obtain ⟨m, hm⟩ := b.fin;rw [pl_ev hn, pl_ev hm, pl_ev (a := a * b) (n := n + m) (fun t ht => conv_high hn hm (by omega))];exact vl_conv hn hm x
theorem ev_k (y x : R) : (Pl.k y).ev x = y := by
 rw [pl_ev (n := 1) (fun t ht => if_neg (by omega))];unfold vl;rw [rsum_succ, rsum_zero, zero_add]
 show (if (0 : Nat) = 0 then y else 0) * 1 = y
 rw [if_pos rfl, mul_one]
theorem ev_lin (y x : R) : (Pl.lin y).ev x = x - y := by
 rw [pl_ev (n := 2) (fun t ht => by show (if t = 0 then -y else if t = 1 then 1 else 0) = 0; rw [if_neg (by omega), if_neg (by omega)])];unfold vl;rw [rsum_succ, rsum_succ, rsum_zero, zero_add]
 show (if (0 : Nat) = 0 then -y else if (0 : Nat) = 1 then (1 : R) else 0) * 1 + (if (1 : Nat) = 0 then -y else if 1 = 1 then 1 else 0) * (1 * x) = x - y
 rw [if_pos rfl, if_neg (by omega), if_pos rfl, mul_one, one_mul, one_mul, add_c];rfl
def Pl.dvd (a b : Pl R) : Prop := ∃ c, b = c * a
theorem Pl.dvd.add {a b c : Pl R} (h : a.dvd b) (g : a.dvd c) : a.dvd (b + c) := by
 obtain ⟨u, rfl⟩ := h;obtain ⟨v, rfl⟩ := g;exact ⟨u + v, (add_mul _ _ _).symm⟩
theorem Pl.dvd.mul {a b : Pl R} (h : a.dvd b) (c : Pl R) : a.dvd (c * b) := by
 obtain ⟨u, rfl⟩ := h;exact ⟨c * u, (mul_a _ _ _).symm⟩
theorem Pl.dvd.self (a c : Pl R) : a.dvd (c * a) := ⟨c, rfl⟩
theorem Pl.dvd.zero (a : Pl R) : a.dvd 0 := ⟨0, (zero_mul a).symm⟩
theorem Pl.dvd.neg {a b : Pl R} (h : a.dvd b) : a.dvd (-b) := by
 obtain ⟨u, rfl⟩ := h;exact ⟨-u, (neg_mul _ _).symm⟩
theorem Pl.dvd.sub {a b c : Pl R} (h : a.dvd b) (g : a.dvd c) : a.dvd (b - c) := by rw [sub_d]; exact h.add g.neg
def Cop (a b : Pl R) : Prop := ∃ u v, u * a + v * b = 1
theorem Cop.dvd {a b c : Pl R} (h : Cop a b) (g : a.dvd (b * c)) : a.dvd c := by
 obtain ⟨u, v, e⟩ := h;have e2 : c = (u * c) * a + v * (b * c) := by
  have e3 : c = (u * a + v * b) * c := by rw [e, one_mul]
  rw [add_mul] at e3;rw [show (u * c) * a = u * a * c by ac_rfl, show v * (b * c) = v * b * c by ac_rfl];exact e3
 rw [e2];exact (Pl.dvd.self a _).add (g.mul v)
end
section
variable {F : Type} [CField F]
open CField (inv)
theorem pl_quot (a : Pl F) (x : F) {n : Nat} (hn : a.lt (n + 1)) : ∃ q : Pl F, a = Pl.k (a.ev x) + Pl.lin x * q ∧ q.lt n ∧ ∀ l, q.c l = rsum (n - l) fun k => a.c (l + 1 + k) * pw x k := by
 have hlt : LtD (fun l => rsum (n - l) fun k => a.c (l + 1 + k) * pw x k) n := fun t ht => by
  dsimp only;rw [show n - t = 0 by omega]; rfl
 refine ⟨⟨fun l => rsum (n - l) fun k => a.c (l + 1 + k) * pw x k, n, hlt⟩, Pl.ext' fun t => ?_, hlt, fun _ => rfl⟩;rw [pl_add, pl_lin_mul]
 show a.c t = (if t = 0 then a.ev x else 0) + _
 dsimp only;rcases Nat.eq_zero_or_pos t with h | h
 ·subst h;rw [if_pos rfl, if_pos rfl, pl_ev hn];unfold vl;rw [rsum_succ_left, zero_sub, Nat.sub_zero, ← rsum_mul_left, pw_zero, mul_one, add_a, ← rsum_neg, ← rsum_add, rsum_eq_zero fun i _ => ?_, add_zero];rw [pw_succ', Nat.zero_add, Nat.add_comm 1 i, show a.c (i + 1) * (x * pw x i) = x * (a.c (i + 1) * pw x i) by ac_rfl, add_neg]
 ·obtain ⟨k, rfl⟩ : ∃ k, t = k + 1 := ⟨t - 1, by omega⟩;rw [if_neg (by omega), if_neg (by omega), zero_add, Nat.add_sub_cancel];by_cases hk : k < n
  ·rw [show n - k = (n - (k + 1)) + 1 by omega, rsum_succ_left, ← rsum_mul_left, pw_zero, mul_one, Nat.add_zero, sub_d, add_a, ← rsum_neg, ← rsum_add, rsum_eq_zero fun i _ => ?_, add_zero];rw [pw_succ', show k + 1 + (i + 1) = k + 1 + 1 + i by omega, show a.c (k + 1 + 1 + i) * (x * pw x i) = x * (a.c (k + 1 + 1 + i) * pw x i) by ac_rfl, add_neg]
  ·rw [hn (k + 1) (by omega), show n - k = 0 by omega, show n - (k + 1) = 0 by omega, rsum_zero, rsum_zero, mul_zero, sub_zero]
theorem pl_fin (a : Pl F) : ∃ n, a.lt (n + 1) := by
 obtain ⟨n, hn⟩ := a.fin;exact ⟨n, LtD.mono hn (by omega)⟩
theorem lin_strike {g a : Pl F} {x : F} (hx : g.ev x ≠ 0) (h : g.dvd (Pl.lin x * a)) : g.dvd a := by
 obtain ⟨n, hn⟩ := pl_fin g;obtain ⟨q, e, -, -⟩ := pl_quot g x hn;generalize g.ev x = y at e hx;refine Cop.dvd (b := Pl.lin x) ⟨Pl.k (inv y), -(Pl.k (inv y) * q), ?_⟩ h;have e1 : Pl.k (inv y) * Pl.k y = 1 := Pl.ext' fun t => by
  rw [pl_k_mul, pl_one]
  show inv y * (if t = 0 then y else 0) = _
  by_cases ht : t = 0
  ·rw [if_pos ht, if_pos ht, inv_mul hx]
  ·rw [if_neg ht, if_neg ht, mul_zero]
 have e2 : Pl.k (inv y) * g = 1 + Pl.k (inv y) * q * Pl.lin x := by
  rw [e, mul_add, e1]; ac_rfl
 rw [e2, neg_mul, add_a, add_neg, add_zero]
theorem dvd_zero {g a : Pl F} {n : Nat} (hg : g.lt (n + 1)) (h0 : g.c n ≠ 0) (ha : a.lt n) (h : g.dvd a) : a = 0 := by
 obtain ⟨q, rfl⟩ := h;obtain ⟨N, hN⟩ := q.fin;have hz := conv_short (f := g.c) (g := q.c) (a := n) h0 hg (fun t ht => by
  rw [conv_comm]; exact ha t ht) N hN
 have e : q = 0 := Pl.ext' hz;rw [e, zero_mul]
end
end Cw

namespace Cw
section
variable {R : Type} [CRing R]
theorem nsm_rsum (n k : Nat) (f : Nat → R) : nsm n (rsum k f) = rsum k fun i => nsm n (f i) := by
 rw [nsm_mul, ← rsum_mul_left];exact rsum_congr fun i _ => (nsm_mul n (f i)).symm
theorem nsm_zero_r (n : Nat) : nsm n (0 : R) = 0 := by rw [nsm_mul, mul_zero]
def Pl.D (a : Pl R) : Pl R := ⟨fun t => nsm (t + 1) (a.c (t + 1)), by
 obtain ⟨n, hn⟩ := a.fin;exact ⟨n, fun t ht => by dsimp only; rw [hn (t + 1) (by omega), nsm_zero_r]⟩⟩
theorem pl_D (a : Pl R) (t : Nat) : a.D.c t = nsm (t + 1) (a.c (t + 1)) := rfl
theorem D_mul (a b : Pl R) : (a * b).D = a.D * b + a * b.D := Pl.ext' fun t => by
 rw [pl_D, pl_mul, pl_add, pl_mul, pl_mul];have e1 : conv a.D.c b.c t = rsum (t + 2) fun s => nsm s (a.c s) * b.c (t + 1 - s) := by
  rw [rsum_succ_left (t + 1)];rw [show nsm 0 (a.c 0) * b.c (t + 1 - 0) = 0 from by rw [nsm_zero, zero_mul], zero_add];unfold conv
  exact rsum_congr fun s _ => by rw [show t + 1 - (s + 1) = t - s by omega]; rfl
 have e2 : conv a.c b.D.c t = rsum (t + 2) fun s => a.c s * nsm (t + 1 - s) (b.c (t + 1 - s)) := by
  rw [rsum_succ (t + 1), show t + 1 - (t + 1) = 0 by omega, nsm_zero, mul_zero, add_zero];unfold conv
  exact rsum_congr fun s hs => by rw [pl_D, show t - s + 1 = t + 1 - s by omega]
 rw [e1, e2, ← rsum_add]
 show nsm (t + 1) (rsum (t + 2) fun s => a.c s * b.c (t + 1 - s)) = _
 rw [nsm_rsum];refine rsum_congr fun s hs => ?_
 rw [← nsm_mul_right, mul_c (a.c s) (nsm _ _), ← nsm_mul_right, mul_c (b.c _) (a.c s), ← nsm_add]
 congr 1
 omega
theorem D_D (h2 : nsm 2 (1 : R) = 0) (a : Pl R) : a.D.D = 0 := Pl.ext' fun t => by
 rw [pl_D, pl_D, ← nsm_nsm];obtain ⟨k, hk⟩ : ∃ k, (t + 1) * (t + 1 + 1) = 2 * k := by
  rcases Nat.mod_two_eq_zero_or_one t with h | h
  ·exact ⟨(t + 1) * (t / 2 + 1), by rw [show t + 1 + 1 = 2 * (t / 2 + 1) by omega]; exact Nat.mul_left_comm _ _ _⟩
  ·exact ⟨(t / 2 + 1) * (t + 1 + 1), by rw [← Nat.mul_assoc]; congr 1; omega⟩
 rw [hk];exact nsm_dvd h2 (Nat.dvd_mul_right _ _) _
theorem sqf_two {g a : Pl R} (ha : a.D = 0) (hs : Cop g g.D) (h : g.dvd a) : (g * g).dvd a := by
 obtain ⟨q, rfl⟩ := h;rw [D_mul] at ha;have h1 : g.dvd (g.D * q) := by
  have e : g.D * q = -q.D * g := by
   rw [neg_mul, mul_c g.D q];exact neg_unique ha
  rw [e];exact Pl.dvd.self g _
 obtain ⟨r, rfl⟩ := hs.dvd h1;exact ⟨r, by ac_rfl⟩
def hP : List (R × R) → Pl R
 | [] => 1
 | (x, _) :: l => Pl.lin x * hP l
def nP : List (R × R) → Pl R
 | [] => 0
 | (x, u) :: l => Pl.k u * hP l + Pl.lin x * nP l
def lsum {α : Type} (f : α → R) : List α → R
 | [] => 0
 | a :: l => f a + lsum f l
theorem lsum_append {α : Type} (f : α → R) (l m : List α) : lsum f (l ++ m) = lsum f l + lsum f m := by
 induction l with
 | nil => exact (zero_add _).symm
 | cons a l ih => show f a + lsum f (l ++ m) = f a + lsum f l + lsum f m; rw [ih, add_a]
theorem lsum_range (f : Nat → R) (n : Nat) : lsum f (List.range n) = rsum n f := by
 induction n with
 | zero => rfl
 | succ n ih => rw [List.range_succ, lsum_append, ih, rsum_succ]; show _ + (f n + 0) = _; rw [add_zero]
theorem lsum_map {α β : Type} (f : β → R) (g : α → β) (l : List α) : lsum f (l.map g) = lsum (fun a => f (g a)) l := by
 induction l with
 | nil => rfl
 | cons a l ih => show f (g a) + lsum f (l.map g) = _; rw [ih]; rfl
theorem lsum_filter {α : Type} (f : α → R) (p : α → Bool) {l : List α} (h : ∀ a ∈ l, p a = false → f a = 0) : lsum f (l.filter p) = lsum f l := by
 induction l with
 | nil => rfl
 | cons a l ih =>
  have ih2 := ih fun b hb => h b (List.mem_cons_of_mem _ hb)
  rw [List.filter_cons]
  cases e : p a with
  | true => rw [if_pos rfl]; show f a + lsum f (l.filter p) = f a + lsum f l; rw [ih2]
  | false => rw [if_neg (by decide), ih2]; show _ = f a + lsum f l; rw [h a (List.mem_cons_self ..) e, zero_add]
theorem nP_one {l : List (R × R)} (h : ∀ a ∈ l, a.2 = 1) : nP l = (hP l).D := by
 induction l with
 | nil =>
  refine Pl.ext' fun t => ?_
  show (0 : R) = nsm (t + 1) (if t + 1 = 0 then 1 else 0)
  rw [if_neg (by omega), nsm_zero_r]
 | cons a l ih =>
  obtain ⟨x, u⟩ := a;have hu : u = 1 := h (x, u) (List.mem_cons_self ..)
  show Pl.k u * hP l + Pl.lin x * nP l = (Pl.lin x * hP l).D
  rw [D_mul, ih fun b hb => h b (List.mem_cons_of_mem _ hb), hu]
  congr 1
  congr 1
  refine Pl.ext' fun t => ?_
  rw [pl_D]
  show (if t = 0 then (1 : R) else 0) = nsm (t + 1) (if t + 1 = 0 then -x else if t + 1 = 1 then 1 else 0)
  rw [if_neg (show ¬ t + 1 = 0 by omega)];by_cases e : t = 0
  ·rw [if_pos e, if_pos (by omega), e, nsm_one]
  ·rw [if_neg e, if_neg (by omega), nsm_zero_r]
end
section
variable {F : Type} [CField F]
open CField (inv)
noncomputable def gsum (g : Pl F) (l : List (F × F)) (i : Nat) : F := lsum (fun a => a.2 * inv (g.ev a.1) * pw a.1 i) l
theorem nP_mod {g : Pl F} {n : Nat} (hg : g.lt (n + 1)) : ∀ l : List (F × F), (∀ a ∈ l, g.ev a.1 ≠ 0) → ∃ s : Pl F, g.dvd (nP l + hP l * s) ∧ s.lt n ∧ ∀ i, s.c i = rsum (n - i) fun k => g.c (i + 1 + k) * gsum g l k
 | [], _ => ⟨0, by
   show g.dvd (0 + 1 * 0)
   rw [mul_zero, add_zero];exact Pl.dvd.zero g, fun _ _ => rfl, fun i => (rsum_eq_zero fun k _ => mul_zero _).symm⟩
 | (x, u) :: l, h => by
  obtain ⟨s, h1, h2, h3⟩ := nP_mod hg l fun b hb => h b (List.mem_cons_of_mem _ hb)
  have hx : g.ev x ≠ 0 := h (x, u) (List.mem_cons_self ..);obtain ⟨q, e, q1, q2⟩ := pl_quot g x hg;have hck : ∀ k, gsum g ((x, u) :: l) k = u * inv (g.ev x) * pw x k + gsum g l k := fun _ => rfl
  generalize g.ev x = y at e hx hck;refine ⟨Pl.k (u * inv y) * q + s, ?_, fun t ht => ?_, fun i => ?_⟩
  ·have e1 : Pl.k u = Pl.k (u * inv y) * Pl.k (y) := Pl.ext' fun t => by
    rw [pl_k_mul]
    show (if t = 0 then u else 0) = u * inv y * (if t = 0 then y else 0)
    by_cases ht : t = 0
    ·rw [if_pos ht, if_pos ht, mul_a, inv_mul hx, mul_one]
    ·rw [if_neg ht, if_neg ht, mul_zero]
   have e2 : Pl.k u + Pl.lin x * (Pl.k (u * inv y) * q) = Pl.k (u * inv y) * g := by
    rw [e1];rw [e, mul_add]
    ac_rfl
   have e3 : nP ((x, u) :: l) + hP ((x, u) :: l) * (Pl.k (u * inv y) * q + s) = hP l * (Pl.k (u * inv y) * g) + Pl.lin x * (nP l + hP l * s) := by
    show Pl.k u * hP l + Pl.lin x * nP l + Pl.lin x * hP l * (Pl.k (u * inv y) * q + s) = _
    rw [← e2, mul_add (Pl.lin x * hP l), mul_add (hP l), mul_add (Pl.lin x)]
    ac_rfl
   rw [e3];exact (Pl.dvd.self g _ |>.mul _).add (h1.mul _)
  ·show _ = (0 : F)
   rw [pl_add, pl_k_mul, q1 t ht, h2 t ht, mul_zero, add_zero]
  ·rw [pl_add, pl_k_mul, q2, h3, ← rsum_mul_left, ← rsum_add];refine rsum_congr fun k _ => ?_
   rw [hck, mul_add]
   congr 1
   ac_rfl
theorem hP_strike {g a : Pl F} : ∀ l : List (F × F), (∀ b ∈ l, g.ev b.1 ≠ 0) → g.dvd (hP l * a) → g.dvd a
 | [], _, h => by rwa [show hP ([] : List (F × F)) * a = a from one_mul a] at h
 | (x, u) :: l, h0, h => by
  refine hP_strike l (fun b hb => h0 b (List.mem_cons_of_mem _ hb)) (lin_strike (x := x) (h0 (x, u) (List.mem_cons_self ..)) ?_)
  rwa [show hP ((x, u) :: l) * a = Pl.lin x * (hP l * a) from mul_a _ _ _] at h
theorem rat_iff {g : Pl F} {n : Nat} (hg : g.lt (n + 1)) (h0 : g.c n ≠ 0) (l : List (F × F)) (hl : ∀ a ∈ l, g.ev a.1 ≠ 0) : g.dvd (nP l) ↔ ∀ i, i < n → gsum g l i = 0 := by
 obtain ⟨s, h1, h2, h3⟩ := nP_mod hg l hl;constructor
 ·intro h;have h4 : g.dvd (hP l * s) := by
   have h5 := h1.sub h;rw [add_c, add_sub_cancel] at h5;exact h5
  have hs : s = 0 := dvd_zero hg h0 h2 (hP_strike l hl h4);intro i
  induction i using Nat.strongRecOn with
  | _ i ih =>
   intro hi;have h5 := h3 (n - 1 - i);rw [hs, show n - (n - 1 - i) = i + 1 by omega, rsum_succ, rsum_eq_zero (n := i) fun k hk => by rw [ih k hk (by omega), mul_zero], zero_add, show n - 1 - i + 1 + i = n by omega] at h5;rcases mul_eq_zero h5.symm with h6 | h6
   ·exact absurd h6 h0
   ·exact h6
 ·intro h;have hs : s = 0 := Pl.ext' fun t => by
   rw [h3];exact rsum_eq_zero fun k hk => by rw [h k (by omega), mul_zero]
  rw [hs, mul_zero, add_zero] at h1;exact h1
theorem lt_mul {g h : Pl F} {n m : Nat} (hg : g.lt (n + 1)) (hh : h.lt (m + 1)) : (g * h).lt (n + m + 1) := fun t ht => conv_high hg hh (by omega)
theorem c_mul {g h : Pl F} {n m : Nat} (hg : g.lt (n + 1)) (hh : h.lt (m + 1)) : (g * h).c (n + m) = g.c n * h.c m := conv_lead hg hh
theorem gsum_square (h2 : nsm 2 (1 : F) = 0) {g : Pl F} {n : Nat} (hg : g.lt (n + 1)) (h0 : g.c n ≠ 0) (hs : Cop g g.D) (l : List (F × F)) (hl : ∀ a ∈ l, g.ev a.1 ≠ 0) (h01 : ∀ a ∈ l, a.2 = 0 ∨ a.2 = 1)
  (h : ∀ i, i < n → gsum g l i = 0) : ∀ i, i < n + n → gsum (g * g) l i = 0 := by
 classical
 have hm : ∀ a ∈ l.filter (fun a => decide (a.2 = 1)), a ∈ l ∧ a.2 = 1 := fun a ha => by
  obtain ⟨g1, g2⟩ := List.mem_filter.1 ha;exact ⟨g1, of_decide_eq_true g2⟩
 have hz : ∀ a ∈ l, decide (a.2 = 1) = false → a.2 = 0 := fun a ha e => (h01 a ha).resolve_right (of_decide_eq_false e)
 have ef : ∀ (q : Pl F) i, gsum q (l.filter fun a => decide (a.2 = 1)) i = gsum q l i := fun q i => lsum_filter _ _ fun a ha e => by rw [hz a ha e, mul_a, zero_mul]
 have h3 := (rat_iff hg h0 (l.filter fun a => decide (a.2 = 1)) (fun a ha => hl a (hm a ha).1)).2 fun i hi => (ef g i).trans (h i hi)
 rw [nP_one fun a ha => (hm a ha).2] at h3;have h4 := sqf_two (D_D h2 _) hs h3;rw [← nP_one fun a ha => (hm a ha).2] at h4;intro i hi;rw [← ef];refine (rat_iff (lt_mul hg hg) (by rw [c_mul hg hg]; exact mul_ne_zero h0 h0) _ fun a ha => ?_).1 h4 i hi;rw [ev_mul];exact mul_ne_zero (hl a (hm a ha).1) (hl a (hm a ha).1)
end
end Cw

namespace Go.Proofs.YtakonlfojblcmaaGreat
open Go.RowKit Cw
open Cw.CField (inv)
section
variable {S F : FD} {r : R F.toDesc}
theorem char_two (hp : S.p = F.p) : nsm S.p (1 : R F.toDesc) = 0 := by rw [hp]; exact char_R
theorem phi_onto (hp : S.p = F.p) (h0 : muV S F r = 0) {y : R F.toDesc} (hy : InSub S.m y) : ∃ u : R S.toDesc, phi S F r u = y := by
 refine Classical.byContradiction fun hno => ?_
 have hc := char_two (S := S) (F := F) hp;have hq : S.q = F.p ^ S.m := by rw [← hp]; rfl
 have h2 := S.toDesc.q2;have hfix : ∀ x : R F.toDesc, InSub S.m x → pw x S.q = x := fun x hx => by
  have h3 : pw x (F.p ^ S.m) = x := hx;rw [← hq] at h3; exact h3
 have ha : ∀ i, InSub S.m (if i < S.q then phi S F r (rel S.toDesc i) else y) := fun i => by
  by_cases e : i < S.q
  ·rw [if_pos e]; exact phi_sub hp hc h0 _
  ·rw [if_neg e]; exact hy
 have key := rsum_roots (n := S.q + 1) (f := fun i => if i = S.q then (1 : R F.toDesc) else if i = 1 then -1 else 0) (a := fun i => if i < S.q then phi S F r (rel S.toDesc i) else y)
  (fun i j hi hj e => by
   by_cases g1 : i < S.q
   ·by_cases g2 : j < S.q
    ·rw [if_pos g1, if_pos g2] at e;have h3 := congrArg rcode (phi_inj hc h0 e);rw [rcode_rel g1, rcode_rel g2] at h3;exact h3
    ·rw [if_pos g1, if_neg g2] at e;exact absurd ⟨_, e⟩ hno
   ·by_cases g2 : j < S.q
    ·rw [if_neg g1, if_pos g2] at e;exact absurd ⟨_, e.symm⟩ hno
    ·omega)
  (fun k _ => by
   have h3 := hfix _ (ha k);generalize (if k < S.q then phi S F r (rel S.toDesc k) else y) = x at h3 ⊢;rw [rsum_succ, if_pos rfl, one_mul, rsum_single (k := 1) (by omega) fun i hi hne => by rw [if_neg (by omega), if_neg hne, zero_mul]];rw [if_neg (by omega), if_pos rfl, pw_one, neg_mul, one_mul, h3, neg_add]) (i := S.q) (by omega)
 rw [if_pos rfl] at key;exact one_ne key
open Classical in
noncomputable def bk (S F : FD) (r : R F.toDesc) (y : R F.toDesc) : R S.toDesc := if h : ∃ u, phi S F r u = y then Classical.choose h else 0
theorem bk_phi (hp : S.p = F.p) (h0 : muV S F r = 0) (u : R S.toDesc) : bk S F r (phi S F r u) = u := by
 have h : ∃ u', phi S F r u' = phi S F r u := ⟨u, rfl⟩;unfold bk;rw [dif_pos h];exact phi_inj (char_two hp) h0 (Classical.choose_spec h)
theorem phi_bk (hp : S.p = F.p) (h0 : muV S F r = 0) {y : R F.toDesc} (hy : InSub S.m y) : phi S F r (bk S F r y) = y := by
 have h := phi_onto hp h0 hy;unfold bk;rw [dif_pos h];exact Classical.choose_spec h
theorem bk_out {y : R F.toDesc} (h : ¬ ∃ u, phi S F r u = y) : bk S F r y = 0 := by unfold bk; rw [dif_neg h]
theorem phi_eq_zero (hp : S.p = F.p) (h0 : muV S F r = 0) {u : R S.toDesc} : phi S F r u = 0 ↔ u = 0 := by
 refine ⟨fun h => phi_inj (char_two hp) h0 (h.trans (phi_zero r).symm), fun h => by rw [h, phi_zero]⟩
theorem row_iff (hp : S.p = F.p) (h0 : muV S F r = 0) {n N : Nat} {b : Nat → R F.toDesc} (hI : IndS S.m n b) {h : Nat → R F.toDesc} {c : Nat → Nat → R F.toDesc}
  (hc : ∀ j, j < N → (∀ t, t < n → InSub S.m (c j t)) ∧ rsum n (fun t => c j t * b t) = h j) (u : Nat → R S.toDesc) :
  rsum N (fun j => h j * phi S F r (u j)) = 0 ↔ ∀ t, t < n → rsum N (fun j => bk S F r (c j t) * u j) = 0 := by
 have hcc := char_two (S := S) (F := F) hp;have e1 : ∀ t, t < n → phi S F r (rsum N fun j => bk S F r (c j t) * u j) = rsum N fun j => c j t * phi S F r (u j) := fun t ht => by
  rw [phi_rsum hp];exact rsum_congr fun j hj => by rw [phi_mul hcc h0, phi_bk hp h0 ((hc j hj).1 t ht)]
 have e2 : rsum N (fun j => h j * phi S F r (u j)) = rsum n fun t => (rsum N fun j => c j t * phi S F r (u j)) * b t := by
  rw [rsum_congr (g := fun j => rsum n fun t => c j t * phi S F r (u j) * b t) fun j hj => by
   rw [← (hc j hj).2, ← rsum_mul_right];exact rsum_congr fun t _ => by ac_rfl, rsum_swap]
  exact rsum_congr fun t _ => rsum_mul_right _ _ _
 rw [e2];constructor
 ·intro hz t ht;have h1 := hI _ (fun t ht => InSub.rsum fun j hj => ((hc j hj).1 t ht).mul (phi_sub hp hcc h0 _)) hz t ht;exact (phi_eq_zero hp h0).1 ((e1 t ht).trans h1)
 ·intro hz;exact rsum_eq_zero fun t ht => by rw [← e1 t ht, hz t ht, phi_zero, zero_mul]
end
end Go.Proofs.YtakonlfojblcmaaGreat
namespace Cw
section
variable {F : Type} [CField F]
theorem hP_ev : ∀ (l : List (F × F)) (x : F), (hP l).ev x = 0 ↔ ∃ a ∈ l, a.1 = x
 | [], x => by
  show (1 : Pl F).ev x = 0 ↔ _
  rw [show (1 : Pl F) = Pl.k 1 from rfl, ev_k];exact ⟨fun h => absurd h one_ne, fun ⟨a, h, _⟩ => by cases h⟩
 | (y, v) :: l, x => by
  show (Pl.lin y * hP l).ev x = 0 ↔ _
  rw [ev_mul, ev_lin];constructor
  ·intro h;rcases mul_eq_zero h with e | e
   ·exact ⟨(y, v), List.mem_cons_self .., (sub_eq_zero e).symm⟩
   ·obtain ⟨a, h1, h2⟩ := (hP_ev l x).1 e;exact ⟨a, List.mem_cons_of_mem _ h1, h2⟩
  ·rintro ⟨a, h1, h2⟩;rcases List.mem_cons.1 h1 with e | e
   ·rw [e] at h2;rw [show y = x from h2, sub_self, zero_mul]
   ·rw [(hP_ev l x).2 ⟨a, e, h2⟩, mul_zero]
theorem hP_lt : ∀ l : List (F × F), (hP l).lt (l.length + 1)
 | [] => fun t ht => if_neg (by simp at ht; omega)
 | (y, v) :: l => fun t ht => by
  have ih := hP_lt l;rw [List.length_cons] at ht
  show (Pl.lin y * hP l).c t = 0
  rw [pl_lin_mul, if_neg (by omega), ih (t - 1) (by omega), ih t (by omega), mul_zero, sub_zero]
theorem van_weight {N t : Nat} {x y u : Nat → F} (hinj : ∀ i j, i < N → j < N → x i = x j → i = j) (hy : ∀ j, j < N → y j ≠ 0) (h : ∀ i, i < t → rsum N (fun j => y j * pw (x j) i * u j) = 0) (p : Nat → Bool) (hp : ∀ j, j < N → (p j = false → u j = 0))
  {j0 : Nat} (hj0 : j0 < N) (hu : u j0 ≠ 0) : t + 1 ≤ ((List.range N).filter p).length := by
 refine Classical.byContradiction fun hlt => ?_
 have hm0 : j0 ∈ (List.range N).filter p := List.mem_filter.2 ⟨List.mem_range.2 hj0, by
  cases e : p j0 with
  | true => rfl
  | false => exact absurd (hp j0 hj0 e) hu⟩
 obtain ⟨T, hT⟩ : ∃ T, T = (((List.range N).filter p).erase j0) := ⟨_, rfl⟩;have hl : T.length + 1 = ((List.range N).filter p).length := by
  rw [hT, List.length_erase_of_mem hm0];have := List.length_pos_of_mem hm0;omega
 have hnd : ((List.range N).filter p).Nodup := List.Pairwise.filter _ List.nodup_range;obtain ⟨f, hf⟩ : ∃ f, f = hP (T.map fun j => (x j, (1 : F))) := ⟨_, rfl⟩;have hft : f.lt t := by
  have h1 := hP_lt (T.map fun j => (x j, (1 : F)));rw [List.length_map, ← hf] at h1;exact LtD.mono h1 (by omega)
 have e1 : rsum N (fun j => y j * u j * f.ev (x j)) = 0 := by
  rw [rsum_congr (g := fun j => rsum t fun i => f.c i * (y j * pw (x j) i * u j)) fun j _ => by
   rw [pl_ev hft];unfold vl;rw [← rsum_mul_left];exact rsum_congr fun i _ => by ac_rfl, rsum_swap]
  exact rsum_eq_zero fun i hi => by rw [rsum_mul_left, h i hi, mul_zero]
 rw [rsum_single (k := j0) hj0 fun j hj hne => ?_] at e1
 ·rcases mul_eq_zero e1 with e | e
  ·exact mul_ne_zero (hy j0 hj0) hu e
  ·rw [hf] at e;obtain ⟨a, h1, h2⟩ := (hP_ev _ _).1 e;obtain ⟨j, hj, rfl⟩ := List.mem_map.1 h1;rw [hT, hnd.mem_erase_iff] at hj;exact hj.1 (hinj j j0 (List.mem_range.1 (List.mem_filter.1 hj.2).1) hj0 h2)
 ·cases e : p j with
  | false => rw [hp j hj e, mul_zero, zero_mul]
  | true =>
   have h3 : f.ev (x j) = 0 := by
    rw [hf];refine (hP_ev _ _).2 ⟨(x j, 1), List.mem_map.2 ⟨j, ?_, rfl⟩, rfl⟩;rw [hT, hnd.mem_erase_iff];exact ⟨hne, List.mem_filter.2 ⟨List.mem_range.2 hj, e⟩⟩
   rw [h3, mul_zero]
end
end Cw

namespace Go.Proofs.YtakonlfojblcmaaGreat
open Go.RowKit Cw
section
variable {S F : FD} {r : R F.toDesc} {N t k n : Nat} {h : Nat → Nat → R F.toDesc} {E : Nat → Nat → R S.toDesc}
def Meets (S F : FD) (r : R F.toDesc) (N t : Nat) (h : Nat → Nat → R F.toDesc) (u : Nat → R S.toDesc) : Prop := ∀ i, i < t → rsum N (fun j => h i j * phi S F r (u j)) = 0
def Tells (S F : FD) (r : R F.toDesc) (N t : Nat) (h : Nat → Nat → R F.toDesc) (k : Nat) (E : Nat → Nat → R S.toDesc) : Prop := ∀ u, Orth k N E u ↔ Meets S F r N t h u
theorem Tells.zero (S F : FD) (r : R F.toDesc) (N : Nat) (h : Nat → Nat → R F.toDesc) (E : Nat → Nat → R S.toDesc) : Tells S F r N 0 h 0 E := fun _ => ⟨fun _ i hi => absurd hi (Nat.not_lt_zero i), fun _ i hi => absurd hi (Nat.not_lt_zero i)⟩
noncomputable def lineM (S F : FD) (r : R F.toDesc) (c : Nat → Nat → R F.toDesc) : Nat → Nat → R S.toDesc := fun i j => bk S F r (c j i)
theorem Meets.succ (u : Nat → R S.toDesc) : Meets S F r N (t + 1) h u ↔ Meets S F r N t h u ∧ rsum N (fun j => h t j * phi S F r (u j)) = 0 := by
 constructor
 ·intro g;exact ⟨fun i hi => g i (by omega), g t (by omega)⟩
 ·rintro ⟨g1, g2⟩ i hi;by_cases e : i = t
  ·subst e; exact g2
  ·exact g1 i (by omega)
theorem Tells.step (hp : S.p = F.p) (h0 : muV S F r = 0) {b : Nat → R F.toDesc} (hI : IndS S.m n b) (hT : Tells S F r N t h k E) {c : Nat → Nat → R F.toDesc}
  (hc : ∀ j, j < N → (∀ i, i < n → InSub S.m (c j i)) ∧ rsum n (fun i => c j i * b i) = h t j) :
  Tells S F r N (t + 1) h (rkS S (k + n) N (stackR k E (lineM S F r c))) (elS (k + n) (stackR k E (lineM S F r c)) N).1 := fun u => by
 have h1 : Orth (rkS S (k + n) N (stackR k E (lineM S F r c))) N (elS (k + n) (stackR k E (lineM S F r c)) N).1 u ↔ Orth (k + n) N (stackR k E (lineM S F r c)) u := Orth.same (elS_span (k + n) N (stackR k E (lineM S F r c))) u;rw [h1, orth_stack, hT u, Meets.succ, row_iff hp h0 hI hc u];exact Iff.rfl
noncomputable def kerK (S : FD) (k N : Nat) (E : Nat → Nat → R S.toDesc) : Nat := (npv (pvF (elS k E N).2) (rkS S k N E) N).length
noncomputable def kerM (S : FD) (k N : Nat) (E : Nat → Nat → R S.toDesc) : Nat → Nat → R S.toDesc := (elS (kerK S k N E) (nulM (rkS S k N E) N (pvF (elS k E N).2) (elS k E N).1) N).1
theorem kerK_le (S : FD) (k N : Nat) (E : Nat → Nat → R S.toDesc) : kerK S k N E ≤ N := by
 have h := List.length_filter_le (fun c => !decide (∃ i, i < rkS S k N E ∧ pvF (elS k E N).2 i = c)) (List.range N);rw [List.length_range] at h; exact h
theorem Tells.code (hT : Tells S F r N t h k E) (u : Nat → R S.toDesc) :
  Span (rkS S (kerK S k N E) N (kerM S k N E)) N (elS (kerK S k N E) (kerM S k N E) N).1 u ↔ Meets S F r N t h u := by
 have h1 := same_iff (elS_span (kerK S k N E) N (kerM S k N E)) u;have hr : rkS S (kerK S k N E) N (nulM (rkS S k N E) N (pvF (elS k E N).2) (elS k E N).1) = kerK S k N E := elS_rank nul_indep;have h2 := elS_span (kerK S k N E) N (nulM (rkS S k N E) N (pvF (elS k E N).2) (elS k E N).1);rw [show (elS (kerK S k N E) (nulM (rkS S k N E) N (pvF (elS k E N).2) (elS k E N).1) N).2.length = kerK S k N E from hr] at h2;have h3 : Span (kerK S k N E) N (kerM S k N E) u ↔ _ := same_iff h2 u;have h4 := nul_iff (elS_RR k N E) u;have h5 : Orth (rkS S k N E) N (elS k E N).1 u ↔ Orth k N E u := Orth.same (elS_span k N E) u;exact h1.trans (h3.trans (h4.trans (h5.trans (hT u))))
theorem ker_dim {T : Nat} (hk : k ≤ T) : N ≤ rkS S (kerK S k N E) N (kerM S k N E) + T := by
 have hr : rkS S (kerK S k N E) N (nulM (rkS S k N E) N (pvF (elS k E N).2) (elS k E N).1) = kerK S k N E := elS_rank nul_indep;have hc := canl_elS S (kerK S k N E) N (nulM (rkS S k N E) N (pvF (elS k E N).2) (elS k E N).1);rw [hr] at hc;have h1 : rkS S (kerK S k N E) N (kerM S k N E) = kerK S k N E := hc.1;have hR := elS_RR k N E;have h2 : kerK S k N E + rkS S k N E = N := npv_len (m := N) _ hR.lt hR.inj;have h3 : rkS S k N E ≤ k := (elS_le k E N).1;omega
end
end Go.Proofs.YtakonlfojblcmaaGreat

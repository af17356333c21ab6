/- Plain law of layer 38: Gao's decoder, over coefficients. No Go here. Plain algebra: the ring of polynomials as coefficient functions, division, coprime polynomials. No Go here. Plain law of layer 38: Euclid's algorithm of Gao's decoder, over lists of coefficients. No Go here. -/
import Derived.Test.YtakonlfojblcmaaZaP1
import Derived.Test.YtakonlfojblcmaaZaGpoP
namespace Cw
section
variable {R : Type} [CRing R]
theorem rsum_tail {n m : Nat} (h : n ≤ m) {f : Nat → R} (hz : ∀ i, n ≤ i → i < m → f i = 0) : rsum m f = rsum n f := by
  obtain ⟨d, rfl⟩ : ∃ d, m = n + d := ⟨m - n, by omega⟩
  rw [rsum_split, rsum_eq_zero (n := d) fun i hi => hz (n + i) (by omega) (by omega), add_zero]
theorem rsum_rev : ∀ (n : Nat) (f : Nat → R), rsum n f = rsum n fun i => f (n - 1 - i)
  | 0, _ => rfl
  | n + 1, f => by
    rw [rsum_succ_left n (fun i => f (n + 1 - 1 - i)), rsum_succ, rsum_rev n f, add_c]
    congr 1
    exact rsum_congr fun i _ => by rw [show n + 1 - 1 - (i + 1) = n - 1 - i by omega]
/-- The coefficients at n and above are 0. -/
def LtD (f : Nat → R) (n : Nat) : Prop := ∀ t, n ≤ t → f t = 0
theorem LtD.mono {f : Nat → R} {n m : Nat} (h : LtD f n) (hn : n ≤ m) : LtD f m := fun t ht => h t (Nat.le_trans hn ht)
/-- The value of the polynomial with the coefficients f below n. -/
def vl (f : Nat → R) (n : Nat) (x : R) : R := rsum n fun t => f t * pw x t
theorem vl_more {f : Nat → R} {n m : Nat} (h : LtD f n) (hm : n ≤ m) (x : R) : vl f m x = vl f n x := rsum_tail hm fun i h1 _ => by rw [h i h1, zero_mul]
theorem conv_sum {f g : Nat → R} {M : Nat} (hf : LtD f M) (t : Nat) : conv f g t = rsum M fun s => if s ≤ t then f s * g (t - s) else 0 := by
  rw [← convP_full f g hf t]; unfold convP; rw [if_neg (by omega), add_zero]
theorem vl_conv {f g : Nat → R} {M N : Nat} (hf : LtD f M) (hg : LtD g N) (x : R) : vl (conv f g) (M + N) x = vl f M x * vl g N x := by
  unfold vl
  refine (rsum_congr (g := fun t => rsum M fun s => (if s ≤ t then f s * g (t - s) else 0) * pw x t) fun t _ => by rw [conv_sum hf t, rsum_mul_right]).trans ?_
  rw [rsum_swap, ← rsum_mul_right]
  refine rsum_congr fun s hs => ?_
  rw [show M + N = s + (M + N - s) by omega, rsum_split, rsum_eq_zero (n := s) fun i hi => by rw [if_neg (by omega), zero_mul], zero_add, ← rsum_mul_left]
  refine (rsum_tail (n := N) (by omega) fun i h1 _ => by rw [show s + i - s = i by omega, hg i h1, mul_zero]; by_cases e : s ≤ s + i <;> simp only [e, if_true, if_false, zero_mul]).trans ?_
  exact rsum_congr fun i _ => by rw [if_pos (by omega), show s + i - s = i by omega, pw_add]; ac_rfl
theorem conv_comm (f g : Nat → R) (t : Nat) : conv f g t = conv g f t := by
  unfold conv
  rw [rsum_rev]
  exact rsum_congr fun i hi => by rw [show t + 1 - 1 - i = t - i by omega, show t - (t - i) = i by omega, mul_c]
theorem conv_lead {f g : Nat → R} {a b : Nat} (hf : LtD f (a + 1)) (hg : LtD g (b + 1)) : conv f g (a + b) = f a * g b := by
  unfold conv
  rw [rsum_single (k := a) (by omega) fun i hi hne => ?_, show a + b - a = b by omega]
  rcases Nat.lt_or_ge a i with h | h
  · rw [hf i h, zero_mul]
  · rw [hg (a + b - i) (by omega), mul_zero]
theorem LtD.conv {f g : Nat → R} {M N : Nat} (hf : LtD f M) (hg : LtD g N) : LtD (conv f g) (M + N - 1) := fun t ht => conv_high hf hg (by omega)
end
section
variable {F : Type} [CField F]
/-- A product with a polynomial of degree a that is 0 from a on is 0. -/
theorem conv_short {f g : Nat → F} {a : Nat} (hf : f a ≠ 0) (hfl : LtD f (a + 1)) (h : ∀ t, a ≤ t → conv f g t = 0) : ∀ N, LtD g N → ∀ t, g t = 0
  | 0, hg, t => hg t (Nat.zero_le _)
  | N + 1, hg, t => by
    have h1 := h (a + N) (by omega)
    rw [conv_lead hfl hg] at h1
    rcases mul_eq_zero h1 with e | e
    · exact absurd e hf
    · exact conv_short hf hfl h N (fun s hs => by
        by_cases e2 : s = N
        · rw [e2]; exact e
        · exact hg s (by omega)) t
end
end Cw

namespace Cw
section
variable {R : Type} [CRing R]
/-- A sum over two indices that add up to t. -/
theorem conv_dbl (f g : Nat → R) {t N : Nat} (h : t < N) : conv f g t = rsum N fun i => rsum N fun j => if i + j = t then f i * g j else 0 := by
  unfold conv
  rw [rsum_tail (n := t + 1) (m := N) (by omega) fun i h1 _ => rsum_eq_zero fun j _ => if_neg (by omega)]
  refine rsum_congr fun i hi => ?_
  rw [rsum_single (k := t - i) (by omega) fun j _ hne => if_neg (by omega), if_pos (by omega)]
theorem conv_tri (f g h : Nat → R) (t : Nat) : conv (conv f g) h t = rsum (t + 1) fun i => rsum (t + 1) fun j => rsum (t + 1) fun k => if i + j + k = t then f i * g j * h k else 0 := by
  rw [conv_dbl (conv f g) h (Nat.lt_succ_self t)]
  have e1 : ∀ s, s < t + 1 → (rsum (t + 1) fun k => if s + k = t then conv f g s * h k else 0) = rsum (t + 1) fun i => rsum (t + 1) fun j => rsum (t + 1) fun k => if i + j = s then (if s + k = t then f i * g j * h k else 0) else 0 := fun s hs => by
    have e2 : ∀ k, (if s + k = t then conv f g s * h k else 0) = rsum (t + 1) fun i => rsum (t + 1) fun j => if i + j = s then (if s + k = t then f i * g j * h k else 0) else 0 := fun k => by
      by_cases e : s + k = t
      · simp only [if_pos e]
        rw [conv_dbl f g hs, ← rsum_mul_right]
        refine rsum_congr fun i _ => ?_
        rw [← rsum_mul_right]
        refine rsum_congr fun j _ => ?_
        by_cases e3 : i + j = s
        · rw [if_pos e3, if_pos e3]
        · rw [if_neg e3, if_neg e3, zero_mul]
      · simp only [if_neg e, ite_self]
        rw [rsum_eq_zero fun i _ => rsum_eq_zero fun j _ => rfl]
    rw [rsum_congr fun k _ => e2 k, rsum_swap]
    refine rsum_congr fun i _ => ?_
    rw [rsum_swap]
  rw [rsum_congr e1, rsum_swap]
  refine rsum_congr fun i hi => ?_
  rw [rsum_swap]
  refine rsum_congr fun j hj => ?_
  rw [rsum_swap]
  refine rsum_congr fun k hk => ?_
  by_cases e : i + j < t + 1
  · rw [rsum_single (k := i + j) e fun s _ hne => if_neg (fun e2 => hne e2.symm), if_pos rfl]
  · rw [if_neg (by omega), rsum_eq_zero fun s hs => if_neg (by omega)]
theorem conv_assoc (f g h : Nat → R) (t : Nat) : conv (conv f g) h t = conv f (conv g h) t := by
  rw [conv_comm f, conv_tri, conv_tri]
  rw [rsum_congr fun i _ => rsum_swap (t + 1) (t + 1) fun j k => if i + j + k = t then f i * g j * h k else 0]
  rw [rsum_swap]
  rw [rsum_congr fun k _ => rsum_swap (t + 1) (t + 1) fun i j => if i + j + k = t then f i * g j * h k else 0]
  rw [rsum_swap]
  refine rsum_congr fun j _ => rsum_congr fun k _ => rsum_congr fun i _ => ?_
  by_cases e : i + j + k = t
  · rw [if_pos e, if_pos (by omega)]; ac_rfl
  · rw [if_neg e, if_neg (by omega)]
theorem conv_addr (f g h : Nat → R) (t : Nat) : conv f (fun s => g s + h s) t = conv f g t + conv f h t := by
  unfold conv
  rw [← rsum_add]
  exact rsum_congr fun i _ => mul_add _ _ _
/-- A polynomial. -/
structure Pl (R : Type) [CRing R] where
  c : Nat → R
  fin : ∃ n, LtD c n
theorem Pl.ext' {a b : Pl R} (h : ∀ t, a.c t = b.c t) : a = b := by
  obtain ⟨f, hf⟩ := a
  obtain ⟨g, hg⟩ := b
  have e : f = g := funext h
  subst e
  rfl
instance : Add (Pl R) := ⟨fun a b => ⟨fun t => a.c t + b.c t, by
  obtain ⟨n, hn⟩ := a.fin
  obtain ⟨m, hm⟩ := b.fin
  exact ⟨n + m, fun t ht => by show a.c t + b.c t = 0; rw [hn t (by omega), hm t (by omega), add_zero]⟩⟩⟩
instance : Mul (Pl R) := ⟨fun a b => ⟨conv a.c b.c, by
  obtain ⟨n, hn⟩ := a.fin
  obtain ⟨m, hm⟩ := b.fin
  exact ⟨n + m, fun t ht => conv_high hn hm (by omega)⟩⟩⟩
instance : Neg (Pl R) := ⟨fun a => ⟨fun t => - a.c t, by
  obtain ⟨n, hn⟩ := a.fin
  exact ⟨n, fun t ht => by show -a.c t = 0; rw [hn t ht, neg_zero]⟩⟩⟩
instance : Zero (Pl R) := ⟨⟨fun _ => 0, 0, fun _ _ => rfl⟩⟩
instance : One (Pl R) := ⟨⟨fun t => if t = 0 then 1 else 0, 1, fun t ht => if_neg (by omega)⟩⟩
theorem pl_one (t : Nat) : (1 : Pl R).c t = if t = 0 then 1 else 0 := rfl
instance : CRing (Pl R) where
  add_assoc' a b c := Pl.ext' fun t => add_a _ _ _
  add_comm' a b := Pl.ext' fun t => add_c _ _
  mul_assoc' a b c := Pl.ext' fun t => conv_assoc a.c b.c c.c t
  mul_comm' a b := Pl.ext' fun t => conv_comm a.c b.c t
  zero_add' a := Pl.ext' fun t => zero_add _
  neg_add' a := Pl.ext' fun t => neg_add _
  one_mul' a := Pl.ext' fun t => by
    show conv (fun t => if t = 0 then (1 : R) else 0) a.c t = a.c t
    unfold conv
    rw [rsum_single (k := 0) (by omega) fun i _ hne => by dsimp only; rw [if_neg hne, zero_mul]]
    dsimp only
    rw [if_pos rfl, one_mul, Nat.sub_zero]
  mul_add' a b c := Pl.ext' fun t => conv_addr a.c b.c c.c t
/-- The polynomial has a degree below n. -/
def Pl.lt (a : Pl R) (n : Nat) : Prop := LtD a.c n
/-- A constant, and X minus a constant. -/
def Pl.k (x : R) : Pl R := ⟨fun t => if t = 0 then x else 0, 1, fun t ht => if_neg (by omega)⟩
def Pl.lin (x : R) : Pl R := ⟨fun t => if t = 0 then -x else if t = 1 then 1 else 0, 2, fun t ht => by dsimp only; rw [if_neg (by omega), if_neg (by omega)]⟩
theorem pl_k_mul (x : R) (a : Pl R) (t : Nat) : (Pl.k x * a).c t = x * a.c t := by
  show conv (fun t => if t = 0 then x else 0) a.c t = _
  unfold conv
  rw [rsum_single (k := 0) (by omega) fun i _ hne => by dsimp only; rw [if_neg hne, zero_mul]]
  dsimp only
  rw [if_pos rfl, Nat.sub_zero]
/-- a divides b. -/
def Pl.dvd (a b : Pl R) : Prop := ∃ c, b = c * a
theorem Pl.dvd.add {a b c : Pl R} (h : a.dvd b) (g : a.dvd c) : a.dvd (b + c) := by
  obtain ⟨u, rfl⟩ := h
  obtain ⟨v, rfl⟩ := g
  exact ⟨u + v, (add_mul _ _ _).symm⟩
theorem Pl.dvd.mul {a b : Pl R} (h : a.dvd b) (c : Pl R) : a.dvd (c * b) := by
  obtain ⟨u, rfl⟩ := h
  exact ⟨c * u, (mul_a _ _ _).symm⟩
theorem Pl.dvd.self (a c : Pl R) : a.dvd (c * a) := ⟨c, rfl⟩
theorem Pl.dvd.refl (a : Pl R) : a.dvd a := ⟨1, (one_mul a).symm⟩
theorem Pl.dvd.zero (a : Pl R) : a.dvd 0 := ⟨0, (zero_mul a).symm⟩
theorem Pl.dvd.trans {a b c : Pl R} (h : a.dvd b) (g : b.dvd c) : a.dvd c := by
  obtain ⟨u, rfl⟩ := h
  obtain ⟨v, rfl⟩ := g
  exact ⟨v * u, (mul_a _ _ _).symm⟩
theorem Pl.dvd.neg {a b : Pl R} (h : a.dvd b) : a.dvd (-b) := by
  obtain ⟨u, rfl⟩ := h
  exact ⟨-u, (neg_mul _ _).symm⟩
/-- Only multiples of 1 divide both. -/
def Cop (a b : Pl R) : Prop := ∃ u v, u * a + v * b = 1
theorem Cop.dvd {a b c : Pl R} (h : Cop a b) (g : a.dvd (b * c)) : a.dvd c := by
  obtain ⟨u, v, e⟩ := h
  have e2 : c = (u * c) * a + v * (b * c) := by
    have e3 : c = (u * a + v * b) * c := by rw [e, one_mul]
    rw [add_mul] at e3
    rw [show (u * c) * a = u * a * c by ac_rfl, show v * (b * c) = v * b * c by ac_rfl]
    exact e3
  rw [e2]
  exact (Pl.dvd.self a _).add (g.mul v)
end
section
variable {F : Type} [CField F]
open CField (inv)
/-- A multiple of degree below that of the divisor is 0. -/
theorem dvd_zero {g a : Pl F} {n : Nat} (hg : g.lt (n + 1)) (h0 : g.c n ≠ 0) (ha : a.lt n) (h : g.dvd a) : a = 0 := by
  obtain ⟨q, rfl⟩ := h
  obtain ⟨N, hN⟩ := q.fin
  have hz := conv_short (f := g.c) (g := q.c) (a := n) h0 hg (fun t ht => by
    rw [conv_comm]; exact ha t ht) N hN
  have e : q = 0 := Pl.ext' hz
  rw [e, zero_mul]
end
end Cw

namespace Go.Proofs.Ytakonlfojblcmaa
open Go.RowKit Cw
open Cw.CField (inv)

theorem cfR_lt (D : Desc) (p : List Int) : LtD (cfR D p) p.length := fun _ h => cfR_out D h
theorem pevI_vl (D : Desc) (p : List Int) (x : R D) {N : Nat} (h : p.length ≤ N) : pevI D p x = vl (cfR D p) N x := (pevI_more D p x h).symm
theorem can_len {D : Desc} {p : List Int} (hc : canI D p = p) {n : Nat} (h1 : cfR D p n ≠ 0) (h2 : LtD (cfR D p) (n + 1)) : p.length = n + 1 := by
  have h3 := can_short hc h2
  have h4 : n < p.length := Classical.byContradiction fun h => h1 (cfR_out D (by omega))
  omega
theorem cfR_one (D : Desc) (s : Nat) : cfR D [1] s = if s = 0 then 1 else 0 := by
  cases s with
  | zero => rw [if_pos rfl]; exact eli_one
  | succ s => rw [if_neg (by omega)]; exact cfR_out D (by simp)
theorem conv_one (D : Desc) (g : Nat → R D) (t : Nat) : conv (cfR D [1]) g t = g t := by
  unfold conv
  rw [rsum_single (k := 0) (by omega) fun i _ hne => by rw [cfR_one, if_neg hne, zero_mul], cfR_one, if_pos rfl, one_mul, Nat.sub_zero]
/-- What a division with remainder hands back. -/
structure DivI (D : Desc) (p q quo rem : List Int) : Prop where
  cq : canI D quo = quo
  cr : canI D rem = rem
  eq : ∀ s, cfR D p s = conv (cfR D quo) (cfR D q) s + cfR D rem s
  lt : rem.length < (canI D q).length
theorem DivI.val {D : Desc} {p q quo rem : List Int} (h : DivI D p q quo rem) (x : R D) : pevI D p x = pevI D quo x * pevI D q x + pevI D rem x := by
  obtain ⟨N, hN⟩ : ∃ N, N = p.length + (quo.length + q.length) + rem.length := ⟨_, rfl⟩
  have hc : LtD (conv (cfR D quo) (cfR D q)) (quo.length + q.length) := ((cfR_lt D quo).conv (cfR_lt D q)).mono (by omega)
  rw [pevI_vl D p x (N := N) (by omega), pevI_vl D rem x (N := N) (by omega), pevI_vl D quo x (Nat.le_refl _), pevI_vl D q x (Nat.le_refl _), ← vl_conv (cfR_lt D quo) (cfR_lt D q), ← vl_more hc (show _ ≤ N by omega)]
  unfold vl
  rw [← rsum_add]
  exact rsum_congr fun i _ => by rw [h.eq, add_mul]
/-- The degree of a quotient. -/
theorem DivI.deg {F : FD} {p q quo rem : List Int} (h : DivI F.toDesc p q quo rem) (hp : canI F.toDesc p = p) (hq : canI F.toDesc q = q) (h0 : 1 ≤ q.length) (hl : q.length ≤ p.length) : quo.length + q.length = p.length + 1 := by
  obtain ⟨b, hb⟩ : ∃ b, q.length = b + 1 := ⟨q.length - 1, by omega⟩
  obtain ⟨a, ha⟩ : ∃ a, p.length = a + 1 := ⟨p.length - 1, by omega⟩
  have hr := h.lt
  rw [hq] at hr
  have lp := can_lead hp ha
  have lq := can_lead hq hb
  by_cases hz : quo.length = 0
  · exfalso
    apply lp
    rw [h.eq, cfR_out F.toDesc (p := rem) (by omega), add_zero]
    exact conv_high (M := 0) (N := b + 1) (fun t _ => cfR_out F.toDesc (by omega)) (fun t ht => cfR_out F.toDesc (by omega)) (by omega)
  obtain ⟨c, hc⟩ : ∃ c, quo.length = c + 1 := ⟨quo.length - 1, by omega⟩
  have lc := can_lead h.cq hc
  have h1 : cfR F.toDesc p (c + b) ≠ 0 := by
    rw [h.eq, cfR_out F.toDesc (p := rem) (by omega), add_zero, conv_lead (hc ▸ cfR_lt F.toDesc quo) (hb ▸ cfR_lt F.toDesc q)]
    exact mul_ne_zero lc lq
  have h2 : c + b ≤ a := Classical.byContradiction fun e => h1 (cfR_out F.toDesc (by omega))
  have h3 : a ≤ c + b := Classical.byContradiction fun e => lp (by
    rw [h.eq, cfR_out F.toDesc (p := rem) (by omega), add_zero]
    exact conv_high (hc ▸ cfR_lt F.toDesc quo) (hb ▸ cfR_lt F.toDesc q) (by omega))
  omega
theorem pevI_prodL (D : Desc) (p q : List Int) (x : R D) : pevI D (prodL D p q) x = pevI D p x * pevI D q x := by
  have hle := prodL_le D p q
  rw [pevI_vl D _ x (N := p.length + q.length) (by omega), cfR_prodL, vl_conv (cfR_lt D p) (cfR_lt D q), pevI_vl D p x (Nat.le_refl _), pevI_vl D q x (Nat.le_refl _)]
theorem canI_combL (D : Desc) (p : List Int) (a : Int) (q : List Int) : canI D (combL D p a q) = combL D p a q := canI_can _ _ fun i h => by unfold combF; rw [cfR_out D (by omega), cfR_out D (by omega), mul_zero, add_zero]

/-- Euclid's algorithm under way: the last two remainders and their cofactors, at n points. -/
structure EI (F : FD) (n k : Nat) (X Y : Nat → R F.toDesc) (a b old t : List Int) : Prop where
  ca : canI F.toDesc a = a
  cb : canI F.toDesc b = b
  ct : canI F.toDesc t = t
  lab : b.length < a.length
  lot : old.length < t.length
  sum : t.length + a.length = n + 2
  bd : n + k + 2 ≤ 2 * a.length
  va : ∀ i, i < n → pevI F.toDesc old (X i) * Y i = pevI F.toDesc a (X i)
  vb : ∀ i, i < n → pevI F.toDesc t (X i) * Y i = pevI F.toDesc b (X i)
/-- The next cofactor. -/
def nextL (D : Desc) (old q t : List Int) : List Int := combL D old (ci (-(1 : R D))) (prodL D (prodL D [1] q) t)
theorem cfR_nextL (D : Desc) (old q t : List Int) (s : Nat) : cfR D (nextL D old q t) s = cfR D old s - conv (cfR D q) (cfR D t) s := by
  unfold nextL
  rw [cfR_combL]
  unfold combF
  rw [eli_ci, cfR_prodL, cfR_prodL, neg_mul, one_mul, sub_d, show conv (cfR D [1]) (cfR D q) = cfR D q from funext fun s => conv_one D _ s]
theorem pevI_one (D : Desc) (x : R D) : pevI D [1] x = 1 := by
  rw [pevI_vl D [1] x (N := 1) (by simp)]
  unfold vl
  rw [rsum_succ, rsum_zero, zero_add, cfR_one, if_pos rfl, one_mul]; rfl
theorem pevI_nextL (D : Desc) (old q t : List Int) (x : R D) : pevI D (nextL D old q t) x = pevI D old x - pevI D q x * pevI D t x := by
  unfold nextL
  rw [pevI_comb, eli_ci, pevI_prodL, pevI_prodL, pevI_one, one_mul, neg_mul, one_mul, sub_d]
theorem EI.step {F : FD} {n k : Nat} {X Y : Nat → R F.toDesc} {a b old t q r : List Int} (h : EI F n k X Y a b old t) (hb : n + k + 2 ≤ 2 * b.length) (hd : DivI F.toDesc a b q r) : EI F n k X Y b r t (nextL F.toDesc old q t) := by
  have hlt := hd.lt
  rw [h.cb] at hlt
  have hdeg := hd.deg h.ca h.cb (by omega) (by have := h.lab; omega)
  have h1 := h.lab; have h2 := h.lot; have h3 := h.sum
  obtain ⟨c, hc⟩ : ∃ c, q.length = c + 1 := ⟨q.length - 1, by omega⟩
  obtain ⟨dt, ht⟩ : ∃ dt, t.length = dt + 1 := ⟨t.length - 1, by omega⟩
  have lc := can_lead hd.cq hc
  have lt := can_lead h.ct ht
  have hcn : canI F.toDesc (nextL F.toDesc old q t) = nextL F.toDesc old q t := canI_combL _ _ _ _
  have hl : (nextL F.toDesc old q t).length = c + dt + 1 := can_len hcn (by
    rw [cfR_nextL, cfR_out F.toDesc (p := old) (by omega), conv_lead (hc ▸ cfR_lt F.toDesc q) (ht ▸ cfR_lt F.toDesc t), zero_sub]
    intro e
    exact mul_ne_zero lc lt (by rw [← neg_neg (cfR F.toDesc q c * cfR F.toDesc t dt), e, neg_zero])) fun s hs => by
      rw [cfR_nextL, cfR_out F.toDesc (p := old) (by omega), conv_high (hc ▸ cfR_lt F.toDesc q) (ht ▸ cfR_lt F.toDesc t) (by omega), sub_zero]
  refine ⟨h.cb, hd.cr, hcn, hlt, by omega, by omega, hb, h.vb, fun i hi => ?_⟩
  rw [pevI_nextL, sub_mul, mul_a, h.vb i hi, h.va i hi, hd.val, add_c, add_sub_cancel]
/-- How many of the n values are wrong. -/
def wr (D : Desc) (n : Nat) (X Y : Nat → R D) (m : List Int) : Nat := ((List.range n).filter fun i => ci (pevI D m (X i)) != ci (Y i)).length
end Go.Proofs.Ytakonlfojblcmaa

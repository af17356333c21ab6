/- Plain law of layer 38: Gao's decoder, over coefficients. No Go here. Plain algebra: the ring of polynomials as coefficient functions, division, coprime polynomials. No Go here. Layer 5 of the program: combine. Plain law of layer 5: At, Add, Scale, Sub, Power over lists; the step of a division. No Go here. Plain law of layer 38: Euclid's algorithm of Gao's decoder, over lists of coefficients. No Go here. -/
import Derived.IntWalk
import Derived.Test.YtakonlfojblcmaaZdP1
import Derived.Test.YtakonlfojblcmaaZdGpoA
import Derived.Test.YtakonlfojblcmaaZdPoR
namespace Cw
section
variable {R : Type} [CRing R]
theorem rsum_tail {n m : Nat} (h : n ≤ m) {f : Nat → R} (hz : ∀ i, n ≤ i → i < m → f i = 0) : rsum m f = rsum n f := by
  obtain ⟨d, rfl⟩ : ∃ d, m = n + d := ⟨m - n, by omega⟩
  rw [rsum_split, rsum_eq_zero (n := d) fun i hi => hz (n + i) (by omega) (by omega), add_zero]
theorem rsum_rev : ∀ (n : Nat) (f : Nat → R), rsum n f = rsum n fun i => f (n - 1 - i)
  | 0, _ => rfl
  | n + 1, f => by
    rw [rsum_succ_left n (fun i => f (n + 1 - 1 - i)), rsum_succ, rsum_rev n f, add_c]
    congr 1
    exact rsum_congr fun i _ => by rw [show n + 1 - 1 - (i + 1) = n - 1 - i by omega]
def LtD (f : Nat → R) (n : Nat) : Prop := ∀ t, n ≤ t → f t = 0
theorem conv_comm (f g : Nat → R) (t : Nat) : conv f g t = conv g f t := by
  unfold conv
  rw [rsum_rev]
  exact rsum_congr fun i hi => by rw [show t + 1 - 1 - i = t - i by omega, show t - (t - i) = i by omega, mul_c]
theorem conv_lead {f g : Nat → R} {a b : Nat} (hf : LtD f (a + 1)) (hg : LtD g (b + 1)) : conv f g (a + b) = f a * g b := by
  unfold conv
  rw [rsum_single (k := a) (by omega) fun i hi hne => ?_, show a + b - a = b by omega]
  rcases Nat.lt_or_ge a i with h | h
  · rw [hf i h, zero_mul]
  · rw [hg (a + b - i) (by omega), mul_zero]
end
section
variable {F : Type} [CField F]
theorem conv_short {f g : Nat → F} {a : Nat} (hf : f a ≠ 0) (hfl : LtD f (a + 1)) (h : ∀ t, a ≤ t → conv f g t = 0) : ∀ N, LtD g N → ∀ t, g t = 0
  | 0, hg, t => hg t (Nat.zero_le _)
  | N + 1, hg, t => by
    have h1 := h (a + N) (by omega)
    rw [conv_lead hfl hg] at h1
    rcases mul_eq_zero h1 with e | e
    · exact absurd e hf
    · exact conv_short hf hfl h N (fun s hs => by
        by_cases e2 : s = N
        · rw [e2]; exact e
        · exact hg s (by omega)) t
end
end Cw

namespace Cw
section
variable {R : Type} [CRing R]
theorem conv_dbl (f g : Nat → R) {t N : Nat} (h : t < N) : conv f g t = rsum N fun i => rsum N fun j => if i + j = t then f i * g j else 0 := by
  unfold conv
  rw [rsum_tail (n := t + 1) (m := N) (by omega) fun i h1 _ => rsum_eq_zero fun j _ => if_neg (by omega)]
  refine rsum_congr fun i hi => ?_
  rw [rsum_single (k := t - i) (by omega) fun j _ hne => if_neg (by omega), if_pos (by omega)]
theorem conv_tri (f g h : Nat → R) (t : Nat) : conv (conv f g) h t = rsum (t + 1) fun i => rsum (t + 1) fun j => rsum (t + 1) fun k => if i + j + k = t then f i * g j * h k else 0 := by
  rw [conv_dbl (conv f g) h (Nat.lt_succ_self t)]
  have e1 : ∀ s, s < t + 1 → (rsum (t + 1) fun k => if s + k = t then conv f g s * h k else 0) = rsum (t + 1) fun i => rsum (t + 1) fun j => rsum (t + 1) fun k => if i + j = s then (if s + k = t then f i * g j * h k else 0) else 0 := fun s hs => by
    have e2 : ∀ k, (if s + k = t then conv f g s * h k else 0) = rsum (t + 1) fun i => rsum (t + 1) fun j => if i + j = s then (if s + k = t then f i * g j * h k else 0) else 0 := fun k => by
      by_cases e : s + k = t
      · simp only [if_pos e]
        rw [conv_dbl f g hs, ← rsum_mul_right]
        refine rsum_congr fun i _ => ?_
        rw [← rsum_mul_right]
        refine rsum_congr fun j _ => ?_
        by_cases e3 : i + j = s
        · rw [if_pos e3, if_pos e3]
        · rw [if_neg e3, if_neg e3, zero_mul]
      · simp only [if_neg e, ite_self]
        rw [rsum_eq_zero fun i _ => rsum_eq_zero fun j _ => rfl]
    rw [rsum_congr fun k _ => e2 k, rsum_swap]
    refine rsum_congr fun i _ => ?_
    rw [rsum_swap]
  rw [rsum_congr e1, rsum_swap]
  refine rsum_congr fun i hi => ?_
  rw [rsum_swap]
  refine rsum_congr fun j hj => ?_
  rw [rsum_swap]
  refine rsum_congr fun k hk => ?_
  by_cases e : i + j < t + 1
  · rw [rsum_single (k := i + j) e fun s _ hne => if_neg (fun e2 => hne e2.symm), if_pos rfl]
  · rw [if_neg (by omega), rsum_eq_zero fun s hs => if_neg (by omega)]
theorem conv_assoc (f g h : Nat → R) (t : Nat) : conv (conv f g) h t = conv f (conv g h) t := by
  rw [conv_comm f, conv_tri, conv_tri]
  rw [rsum_congr fun i _ => rsum_swap (t + 1) (t + 1) fun j k => if i + j + k = t then f i * g j * h k else 0]
  rw [rsum_swap]
  rw [rsum_congr fun k _ => rsum_swap (t + 1) (t + 1) fun i j => if i + j + k = t then f i * g j * h k else 0]
  rw [rsum_swap]
  refine rsum_congr fun j _ => rsum_congr fun k _ => rsum_congr fun i _ => ?_
  by_cases e : i + j + k = t
  · rw [if_pos e, if_pos (by omega)]; ac_rfl
  · rw [if_neg e, if_neg (by omega)]
theorem conv_addr (f g h : Nat → R) (t : Nat) : conv f (fun s => g s + h s) t = conv f g t + conv f h t := by
  unfold conv
  rw [← rsum_add]
  exact rsum_congr fun i _ => mul_add _ _ _
structure Pl (R : Type) [CRing R] where
  c : Nat → R
  fin : ∃ n, LtD c n
theorem Pl.ext' {a b : Pl R} (h : ∀ t, a.c t = b.c t) : a = b := by
  obtain ⟨f, hf⟩ := a
  obtain ⟨g, hg⟩ := b
  have e : f = g := funext h
  subst e
  rfl
instance : Add (Pl R) := ⟨fun a b => ⟨fun t => a.c t + b.c t, by
  obtain ⟨n, hn⟩ := a.fin
  obtain ⟨m, hm⟩ := b.fin
  exact ⟨n + m, fun t ht => by show a.c t + b.c t = 0; rw [hn t (by omega), hm t (by omega), add_zero]⟩⟩⟩
instance : Mul (Pl R) := ⟨fun a b => ⟨conv a.c b.c, by
  obtain ⟨n, hn⟩ := a.fin
  obtain ⟨m, hm⟩ := b.fin
  exact ⟨n + m, fun t ht => conv_high hn hm (by omega)⟩⟩⟩
instance : Neg (Pl R) := ⟨fun a => ⟨fun t => - a.c t, by
  obtain ⟨n, hn⟩ := a.fin
  exact ⟨n, fun t ht => by show -a.c t = 0; rw [hn t ht, neg_zero]⟩⟩⟩
instance : Zero (Pl R) := ⟨⟨fun _ => 0, 0, fun _ _ => rfl⟩⟩
instance : One (Pl R) := ⟨⟨fun t => if t = 0 then 1 else 0, 1, fun t ht => if_neg (by omega)⟩⟩
theorem pl_one (t : Nat) : (1 : Pl R).c t = if t = 0 then 1 else 0 := rfl
instance : CRing (Pl R) where
  add_assoc' a b c := Pl.ext' fun t => add_a _ _ _
  add_comm' a b := Pl.ext' fun t => add_c _ _
  mul_assoc' a b c := Pl.ext' fun t => conv_assoc a.c b.c c.c t
  mul_comm' a b := Pl.ext' fun t => conv_comm a.c b.c t
  zero_add' a := Pl.ext' fun t => zero_add _
  neg_add' a := Pl.ext' fun t => neg_add _
  one_mul' a := Pl.ext' fun t => by
    show conv (fun t => if t = 0 then (1 : R) else 0) a.c t = a.c t
    unfold conv
    rw [rsum_single (k := 0) (by omega) fun i _ hne => by dsimp only; rw [if_neg hne, zero_mul]]
    dsimp only
    rw [if_pos rfl, one_mul, Nat.sub_zero]
  mul_add' a b c := Pl.ext' fun t => conv_addr a.c b.c c.c t
def Pl.lt (a : Pl R) (n : Nat) : Prop := LtD a.c n
def Pl.k (x : R) : Pl R := ⟨fun t => if t = 0 then x else 0, 1, fun t ht => if_neg (by omega)⟩
def Pl.lin (x : R) : Pl R := ⟨fun t => if t = 0 then -x else if t = 1 then 1 else 0, 2, fun t ht => by dsimp only; rw [if_neg (by omega), if_neg (by omega)]⟩
theorem pl_k_mul (x : R) (a : Pl R) (t : Nat) : (Pl.k x * a).c t = x * a.c t := by
  show conv (fun t => if t = 0 then x else 0) a.c t = _
  unfold conv
  rw [rsum_single (k := 0) (by omega) fun i _ hne => by dsimp only; rw [if_neg hne, zero_mul]]
  dsimp only
  rw [if_pos rfl, Nat.sub_zero]
def Pl.dvd (a b : Pl R) : Prop := ∃ c, b = c * a
theorem Pl.dvd.add {a b c : Pl R} (h : a.dvd b) (g : a.dvd c) : a.dvd (b + c) := by
  obtain ⟨u, rfl⟩ := h
  obtain ⟨v, rfl⟩ := g
  exact ⟨u + v, (add_mul _ _ _).symm⟩
theorem Pl.dvd.mul {a b : Pl R} (h : a.dvd b) (c : Pl R) : a.dvd (c * b) := by
  obtain ⟨u, rfl⟩ := h
  exact ⟨c * u, (mul_a _ _ _).symm⟩
theorem Pl.dvd.zero (a : Pl R) : a.dvd 0 := ⟨0, (zero_mul a).symm⟩
def Cop (a b : Pl R) : Prop := ∃ u v, u * a + v * b = 1
end
section
variable {F : Type} [CField F]
open CField (inv)
theorem dvd_zero {g a : Pl F} {n : Nat} (hg : g.lt (n + 1)) (h0 : g.c n ≠ 0) (ha : a.lt n) (h : g.dvd a) : a = 0 := by
  obtain ⟨q, rfl⟩ := h
  obtain ⟨N, hN⟩ := q.fin
  have hz := conv_short (f := g.c) (g := q.c) (a := n) h0 hg (fun t ht => by
    rw [conv_comm]; exact ha t ht) N hN
  have e : q = 0 := Pl.ext' hz
  rw [e, zero_mul]
end
end Cw

namespace Go.Proofs.Ytakonlfojblcmaa
open Go.RowKit Cw
attribute [local go_sem] Oper.semAt_some

theorem mix_lst {n k : Nat} {f h : Nat → Int} (e : ∀ i, k ≤ i → h i = f i) : mix n k f h = lst n f := by
  unfold mix
  exact lst_congr fun i _ => by
    by_cases e2 : i < k
    · rw [if_pos e2]
    · rw [if_neg e2, e i (by omega)]

theorem Own.of_take {w : World} {g B n N : Nat} {f : Nat → Int} (h : IB w g (lst n f)) (hN : N ≤ n) (hB : B ≤ g) (hl : n ≤ maxLen) : Own w B (.slice (some ⟨g, 0, none⟩) N n) (lst N f) := by
  unfold IB at h
  refine ⟨by simp [lst_length], .inr ⟨g, n, ((lst n f).map (Value.int .i64)).toArray, by rw [lst_length], hB, h, by rw [lst_length]; exact hN, hl, by simp [lst_length], ?_⟩⟩
  rw [lst_length, Nat.mul_one]
  show ((lst n f).map (Value.int .i64)).take N = _
  rw [← List.map_take, lst_take f hN]

end Go.Proofs.Ytakonlfojblcmaa

namespace Go.Proofs.Ytakonlfojblcmaa
open Go.RowKit Cw
open CField (inv)

theorem canI_can {D : Desc} (f : Nat → R D) (n : Nat) (h : ∀ i, n ≤ i → f i = 0) : canI D (canL (fun i => ci (f i)) n) = canL (fun i => ci (f i)) n := by
  have e := cfR_can f n h
  unfold canI
  rw [canL_congr (g := fun i => ci (f i)) fun i _ => by unfold cfI; rw [e]]
  exact (canL_more (by rw [canL_length]; exact cdeg_le _ _) fun i h1 h2 => by
    rw [canL_length] at h1
    exact cdeg_zero (fun i => ci (f i)) n h1 h2).symm
theorem canI_lst (D : Desc) (f : Nat → R D) (n : Nat) : canI D (lst n fun i => ci (f i)) = canL (fun i => ci (f i)) n := by
  unfold canI
  rw [lst_length]
  exact canL_congr fun i hi => by unfold cfI cfR; rw [lst_get _ hi, eli_ci]
theorem canI_canI (D : Desc) (p : List Int) : canI D (canI D p) = canI D p := canI_can (cfR D p) _ fun i h => cfR_out D h
theorem can_short {D : Desc} {p : List Int} (hc : canI D p = p) {n : Nat} (h : ∀ t, n ≤ t → cfR D p t = 0) : p.length ≤ n := by
  by_cases hl : n ≤ p.length
  · rw [← hc]
    unfold canI
    rw [canL_more hl fun i h1 _ => by unfold cfI; rw [h i h1, ci_zero], canL_length]
    exact cdeg_le _ _
  · omega
theorem can_lead {D : Desc} {p : List Int} (hc : canI D p = p) {n : Nat} (hn : p.length = n + 1) : cfR D p n ≠ 0 := fun h => by
  have := can_short hc (n := n) fun t ht => by
    by_cases e : t = n
    · rw [e]; exact h
    · exact cfR_out D (by omega)
  omega
end Go.Proofs.Ytakonlfojblcmaa

namespace Go.Proofs.Ytakonlfojblcmaa
open Go.RowKit Cw
open Cw.CField (inv)

theorem cfR_lt (D : Desc) (p : List Int) : LtD (cfR D p) p.length := fun _ h => cfR_out D h
structure DivI (D : Desc) (p q quo rem : List Int) : Prop where
  cq : canI D quo = quo
  cr : canI D rem = rem
  eq : ∀ s, cfR D p s = conv (cfR D quo) (cfR D q) s + cfR D rem s
  lt : rem.length < (canI D q).length
structure EI (F : FD) (n k : Nat) (X Y : Nat → R F.toDesc) (a b old t : List Int) : Prop where
  ca : canI F.toDesc a = a
  cb : canI F.toDesc b = b
  ct : canI F.toDesc t = t
  lab : b.length < a.length
  lot : old.length < t.length
  sum : t.length + a.length = n + 2
  bd : n + k + 2 ≤ 2 * a.length
  va : ∀ i, i < n → pevI F.toDesc old (X i) * Y i = pevI F.toDesc a (X i)
  vb : ∀ i, i < n → pevI F.toDesc t (X i) * Y i = pevI F.toDesc b (X i)
def wr (D : Desc) (n : Nat) (X Y : Nat → R D) (m : List Int) : Nat := ((List.range n).filter fun i => ci (pevI D m (X i)) != ci (Y i)).length
end Go.Proofs.Ytakonlfojblcmaa

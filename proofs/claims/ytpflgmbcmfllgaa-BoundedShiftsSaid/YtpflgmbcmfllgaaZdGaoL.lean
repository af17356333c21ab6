/- Plain law of layer 38: Euclid's algorithm of Gao's decoder, over lists of coefficients. No Go here. -/
import Derived.Test.YtpflgmbcmfllgaaZdGaoP
import Derived.Test.YtpflgmbcmfllgaaZdGpoP
import Derived.Test.YtpflgmbcmfllgaaZdGrsP
namespace Go.Proofs.Ytpflgmbcmfllgaa
open Go.RowKit Cw
open Cw.CField (inv)

theorem cfR_lt (D : Desc) (p : List Int) : LtD (cfR D p) p.length := fun _ h => cfR_out D h
theorem pevI_vl (D : Desc) (p : List Int) (x : R D) {N : Nat} (h : p.length ≤ N) : pevI D p x = vl (cfR D p) N x := (pevI_more D p x h).symm
theorem can_len {D : Desc} {p : List Int} (hc : canI D p = p) {n : Nat} (h1 : cfR D p n ≠ 0) (h2 : LtD (cfR D p) (n + 1)) : p.length = n + 1 := by
  have h3 := can_short hc h2
  have h4 : n < p.length := Classical.byContradiction fun h => h1 (cfR_out D (by omega))
  omega
theorem cfR_one (D : Desc) (s : Nat) : cfR D [1] s = if s = 0 then 1 else 0 := by
  cases s with
  | zero => rw [if_pos rfl]; exact eli_one
  | succ s => rw [if_neg (by omega)]; exact cfR_out D (by simp)
theorem conv_one (D : Desc) (g : Nat → R D) (t : Nat) : conv (cfR D [1]) g t = g t := by
  unfold conv
  rw [rsum_single (k := 0) (by omega) fun i _ hne => by rw [cfR_one, if_neg hne, zero_mul], cfR_one, if_pos rfl, one_mul, Nat.sub_zero]
/-- What a division with remainder hands back. -/
structure DivI (D : Desc) (p q quo rem : List Int) : Prop where
  cq : canI D quo = quo
  cr : canI D rem = rem
  eq : ∀ s, cfR D p s = conv (cfR D quo) (cfR D q) s + cfR D rem s
  lt : rem.length < (canI D q).length
theorem DivI.val {D : Desc} {p q quo rem : List Int} (h : DivI D p q quo rem) (x : R D) : pevI D p x = pevI D quo x * pevI D q x + pevI D rem x := by
  obtain ⟨N, hN⟩ : ∃ N, N = p.length + (quo.length + q.length) + rem.length := ⟨_, rfl⟩
  have hc : LtD (conv (cfR D quo) (cfR D q)) (quo.length + q.length) := ((cfR_lt D quo).conv (cfR_lt D q)).mono (by omega)
  rw [pevI_vl D p x (N := N) (by omega), pevI_vl D rem x (N := N) (by omega), pevI_vl D quo x (Nat.le_refl _), pevI_vl D q x (Nat.le_refl _), ← vl_conv (cfR_lt D quo) (cfR_lt D q), ← vl_more hc (show _ ≤ N by omega)]
  unfold vl
  rw [← rsum_add]
  exact rsum_congr fun i _ => by rw [h.eq, add_mul]
/-- The degree of a quotient. -/
theorem DivI.deg {F : FD} {p q quo rem : List Int} (h : DivI F.toDesc p q quo rem) (hp : canI F.toDesc p = p) (hq : canI F.toDesc q = q) (h0 : 1 ≤ q.length) (hl : q.length ≤ p.length) : quo.length + q.length = p.length + 1 := by
  obtain ⟨b, hb⟩ : ∃ b, q.length = b + 1 := ⟨q.length - 1, by omega⟩
  obtain ⟨a, ha⟩ : ∃ a, p.length = a + 1 := ⟨p.length - 1, by omega⟩
  have hr := h.lt
  rw [hq] at hr
  have lp := can_lead hp ha
  have lq := can_lead hq hb
  by_cases hz : quo.length = 0
  · exfalso
    apply lp
    rw [h.eq, cfR_out F.toDesc (p := rem) (by omega), add_zero]
    exact conv_high (M := 0) (N := b + 1) (fun t _ => cfR_out F.toDesc (by omega)) (fun t ht => cfR_out F.toDesc (by omega)) (by omega)
  obtain ⟨c, hc⟩ : ∃ c, quo.length = c + 1 := ⟨quo.length - 1, by omega⟩
  have lc := can_lead h.cq hc
  have h1 : cfR F.toDesc p (c + b) ≠ 0 := by
    rw [h.eq, cfR_out F.toDesc (p := rem) (by omega), add_zero, conv_lead (hc ▸ cfR_lt F.toDesc quo) (hb ▸ cfR_lt F.toDesc q)]
    exact mul_ne_zero lc lq
  have h2 : c + b ≤ a := Classical.byContradiction fun e => h1 (cfR_out F.toDesc (by omega))
  have h3 : a ≤ c + b := Classical.byContradiction fun e => lp (by
    rw [h.eq, cfR_out F.toDesc (p := rem) (by omega), add_zero]
    exact conv_high (hc ▸ cfR_lt F.toDesc quo) (hb ▸ cfR_lt F.toDesc q) (by omega))
  omega
theorem pevI_prodL (D : Desc) (p q : List Int) (x : R D) : pevI D (prodL D p q) x = pevI D p x * pevI D q x := by
  have hle := prodL_le D p q
  rw [pevI_vl D _ x (N := p.length + q.length) (by omega), cfR_prodL, vl_conv (cfR_lt D p) (cfR_lt D q), pevI_vl D p x (Nat.le_refl _), pevI_vl D q x (Nat.le_refl _)]
theorem canI_combL (D : Desc) (p : List Int) (a : Int) (q : List Int) : canI D (combL D p a q) = combL D p a q := canI_can _ _ fun i h => by unfold combF; rw [cfR_out D (by omega), cfR_out D (by omega), mul_zero, add_zero]

/-- Euclid's algorithm under way: the last two remainders and their cofactors, at n points. -/
structure EI (F : FD) (n k : Nat) (X Y : Nat → R F.toDesc) (a b old t : List Int) : Prop where
  ca : canI F.toDesc a = a
  cb : canI F.toDesc b = b
  ct : canI F.toDesc t = t
  lab : b.length < a.length
  lot : old.length < t.length
  sum : t.length + a.length = n + 2
  bd : n + k + 2 ≤ 2 * a.length
  va : ∀ i, i < n → pevI F.toDesc old (X i) * Y i = pevI F.toDesc a (X i)
  vb : ∀ i, i < n → pevI F.toDesc t (X i) * Y i = pevI F.toDesc b (X i)
/-- The next cofactor. -/
def nextL (D : Desc) (old q t : List Int) : List Int := combL D old (ci (-(1 : R D))) (prodL D (prodL D [1] q) t)
theorem cfR_nextL (D : Desc) (old q t : List Int) (s : Nat) : cfR D (nextL D old q t) s = cfR D old s - conv (cfR D q) (cfR D t) s := by
  unfold nextL
  rw [cfR_combL]
  unfold combF
  rw [eli_ci, cfR_prodL, cfR_prodL, neg_mul, one_mul, sub_d, show conv (cfR D [1]) (cfR D q) = cfR D q from funext fun s => conv_one D _ s]
theorem pevI_one (D : Desc) (x : R D) : pevI D [1] x = 1 := by
  rw [pevI_vl D [1] x (N := 1) (by simp)]
  unfold vl
  rw [rsum_succ, rsum_zero, zero_add, cfR_one, if_pos rfl, one_mul]; rfl
theorem pevI_nextL (D : Desc) (old q t : List Int) (x : R D) : pevI D (nextL D old q t) x = pevI D old x - pevI D q x * pevI D t x := by
  unfold nextL
  rw [pevI_comb, eli_ci, pevI_prodL, pevI_prodL, pevI_one, one_mul, neg_mul, one_mul, sub_d]
theorem EI.step {F : FD} {n k : Nat} {X Y : Nat → R F.toDesc} {a b old t q r : List Int} (h : EI F n k X Y a b old t) (hb : n + k + 2 ≤ 2 * b.length) (hd : DivI F.toDesc a b q r) : EI F n k X Y b r t (nextL F.toDesc old q t) := by
  have hlt := hd.lt
  rw [h.cb] at hlt
  have hdeg := hd.deg h.ca h.cb (by omega) (by have := h.lab; omega)
  have h1 := h.lab; have h2 := h.lot; have h3 := h.sum
  obtain ⟨c, hc⟩ : ∃ c, q.length = c + 1 := ⟨q.length - 1, by omega⟩
  obtain ⟨dt, ht⟩ : ∃ dt, t.length = dt + 1 := ⟨t.length - 1, by omega⟩
  have lc := can_lead hd.cq hc
  have lt := can_lead h.ct ht
  have hcn : canI F.toDesc (nextL F.toDesc old q t) = nextL F.toDesc old q t := canI_combL _ _ _ _
  have hl : (nextL F.toDesc old q t).length = c + dt + 1 := can_len hcn (by
    rw [cfR_nextL, cfR_out F.toDesc (p := old) (by omega), conv_lead (hc ▸ cfR_lt F.toDesc q) (ht ▸ cfR_lt F.toDesc t), zero_sub]
    intro e
    exact mul_ne_zero lc lt (by rw [← neg_neg (cfR F.toDesc q c * cfR F.toDesc t dt), e, neg_zero])) fun s hs => by
      rw [cfR_nextL, cfR_out F.toDesc (p := old) (by omega), conv_high (hc ▸ cfR_lt F.toDesc q) (ht ▸ cfR_lt F.toDesc t) (by omega), sub_zero]
  refine ⟨h.cb, hd.cr, hcn, hlt, by omega, by omega, hb, h.vb, fun i hi => ?_⟩
  rw [pevI_nextL, sub_mul, mul_a, h.vb i hi, h.va i hi, hd.val, add_c, add_sub_cancel]
/-- How many of the n values are wrong. -/
def wr (D : Desc) (n : Nat) (X Y : Nat → R D) (m : List Int) : Nat := ((List.range n).filter fun i => ci (pevI D m (X i)) != ci (Y i)).length
theorem wr_congr {D : Desc} {n : Nat} {X Y : Nat → R D} {m m' : List Int} (h : ∀ x, pevI D m x = pevI D m' x) : wr D n X Y m = wr D n X Y m' := by
  unfold wr
  congr 2
  funext i
  rw [h]
/-- What Gao's decoder finds, and when it finds nothing. -/
def GaoOK (D : Desc) (n k : Nat) (X Y : Nat → R D) (m : List Int) : Prop := canI D m = m ∧ m.length ≤ k ∧ 2 * wr D n X Y m + k ≤ n
def GaoNo (D : Desc) (n k : Nat) (X Y : Nat → R D) : Prop := ∀ P : List Int, P.length ≤ k → n < 2 * wr D n X Y P + k
theorem EI.find {F : FD} {n k : Nat} {X Y : Nat → R F.toDesc} (hX : ∀ i j, i < n → j < n → X i = X j → i = j) {a b old t m r : List Int} (h : EI F n k X Y a b old t) (hb : 2 * b.length ≤ n + k + 1) (hd : DivI F.toDesc b t m r) {P : List Int} (hP : P.length ≤ k) (hw : 2 * wr F.toDesc n X Y P + k ≤ n) : r = [] ∧ m.length ≤ k ∧ ∀ x, pevI F.toDesc m x = pevI F.toDesc P x := by
  have h1 := h.lab; have h2 := h.lot; have h3 := h.sum; have h4 := h.bd
  obtain ⟨dt, ht⟩ : ∃ dt, t.length = dt + 1 := ⟨t.length - 1, by omega⟩
  have hlt := hd.lt
  rw [h.ct] at hlt
  have hk := gao_key (n := n) (k := k) (dt := dt) (B := b.length) hX (P := cfR F.toDesc P) (t := cfR F.toDesc t) (b := cfR F.toDesc b) ((cfR_lt F.toDesc P).mono hP) (ht ▸ cfR_lt F.toDesc t) (by omega) (cfR_lt F.toDesc b) hb
    (fun i hi => by rw [← pevI_vl F.toDesc t (X i) (Nat.le_of_eq ht), ← pevI_vl F.toDesc b (X i) (Nat.le_refl _)]; exact h.vb i hi)
    (fun i => ci (pevI F.toDesc P (X i)) == ci (Y i)) (fun i hi hp => by rw [← pevI_vl F.toDesc P (X i) hP]; exact ci_inj (by simpa using hp)) hw
  obtain ⟨e1, e2⟩ := div_uniq (a := dt) (N := max P.length m.length) (can_lead h.ct ht) (ht ▸ cfR_lt F.toDesc t) hk hd.eq (fun s hs => cfR_out F.toDesc (by omega)) ((cfR_lt F.toDesc P).mono (by omega)) ((cfR_lt F.toDesc m).mono (by omega))
  have hr0 : r.length ≤ 0 := can_short hd.cr fun s _ => e2 s
  refine ⟨List.eq_nil_of_length_eq_zero (by omega), can_short hd.cq fun s hs => by rw [← e1]; exact cfR_out F.toDesc (by omega), fun x => ?_⟩
  rw [pevI_vl F.toDesc m x (N := max P.length m.length) (by omega), pevI_vl F.toDesc P x (N := max P.length m.length) (by omega)]
  unfold vl
  exact rsum_congr fun i _ => by rw [e1]
end Go.Proofs.Ytpflgmbcmfllgaa

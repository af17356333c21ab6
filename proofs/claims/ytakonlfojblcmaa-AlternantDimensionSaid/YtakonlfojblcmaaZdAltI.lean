/- Plain: the example of layer 19, a Goppa code of 4 words. No Go here. Plain: independent words in the span of K rows are at most K; the dimension of a code over the small field. No Go here. Plain law of layer 39: the syndromes are 0 just for codewords. Plain: the words of an alternant code are those whose images are codewords of the Reed-Solomon code; its dimension, its weights. No Go here. -/
import Derived.Test.YtakonlfojblcmaaZdPlyP
import Derived.Test.YtakonlfojblcmaaZdGcdP
import Derived.Test.YtakonlfojblcmaaZdAltR
namespace Go.Proofs.Ytakonlfojblcmaa
open Go.RowKit Cw
open Cw.CField (inv)
noncomputable def gopM (F : FD) (poly pts : List Int) : Nat → Nat → R F.toDesc := fun i j => pw (eli F.toDesc (pts[j]?.getD 0)) i * inv (pevI F.toDesc poly (eli F.toDesc (pts[j]?.getD 0)))
def D2 : Desc where
  p := 2
  m := 1
  mod := []
  hp := prime_dec (by decide) (by decide)
  m1 := by decide
  m8 := by decide
  hq := by decide
  hlen := by decide
  hmod := fun j => by simp
theorem qpos19 (D : Desc) : 0 < D.q := by have := D.q2; omega
theorem good2 : Good D2.p D2.m (modL D2) := ⟨D2, rfl, rfl, rfl, .inl rfl⟩
theorem good8 : Good E2_3.p E2_3.m (modL E2_3) := ⟨E2_3, rfl, rfl, rfl, .inr E2_3_irr⟩
def pts19 : List Int := [0, 1, 2, 3, 4, 5, 6, 7]
def alIv : List Nat := [1, 1, 4, 4, 6, 6, 2, 2]
def alH : List (List Nat) := [[1, 1, 4, 4, 6, 6, 2, 2], [0, 1, 3, 7, 5, 3, 7, 5]]
def tB (l : List Nat) (i : Nat) : Bool := decide (rcode (rsum 8 fun j => rel E2_3 (((alH.getD i []).getD j 0) * l.getD j 0)) = 0)
def al0 : List Nat := [0, 0, 0, 0, 0, 0, 0, 0]
def al1 : List Nat := [1, 1, 1, 0, 1, 0, 1, 0]
def al2 : List Nat := [1, 1, 0, 1, 0, 1, 0, 1]
def al3 : List Nat := [0, 0, 1, 1, 1, 1, 1, 1]
def alB (l : List Nat) : Bool := !(tB l 0 && tB l 1) || (decide (l = al0) || decide (l = al1) || decide (l = al2) || decide (l = al3))
theorem key19 : ∀ b0 b1 b2 b3 b4 b5 b6 b7 : Fin 2, alB [b0.val, b1.val, b2.val, b3.val, b4.val, b5.val, b6.val, b7.val] = true := by decide +kernel
theorem in1 : ∀ i : Fin 2, tB al1 i.val = true := by decide +kernel
theorem in2 : ∀ i : Fin 2, tB al2 i.val = true := by decide +kernel
theorem iv19 : ∀ j : Fin 8, rcode (pevI E2_3 [1, 1, 1] (eli E2_3 (pts19[j.val]?.getD 0)) * rel E2_3 (alIv.getD j.val 0)) = rcode (1 : R E2_3) := by decide +kernel
theorem h19 : ∀ i : Fin 2, ∀ j : Fin 8, rcode (pw (eli E2_3 (pts19[j.val]?.getD 0)) i.val * rel E2_3 (alIv.getD j.val 0)) = rcode (rel E2_3 ((alH.getD i.val []).getD j.val 0)) := by decide +kernel
theorem iv19D {D : Desc} (h : D = E2_3) (j : Fin 8) : rcode (pevI D [1, 1, 1] (eli D (pts19[j.val]?.getD 0)) * rel D (alIv.getD j.val 0)) = rcode (1 : R D) := by subst h; exact iv19 j
theorem h19D {D : Desc} (h : D = E2_3) (i : Fin 2) (j : Fin 8) : rcode (pw (eli D (pts19[j.val]?.getD 0)) i.val * rel D (alIv.getD j.val 0)) = rcode (rel D ((alH.getD i.val []).getD j.val 0)) := by subst h; exact h19 i j
theorem tBD {D : Desc} (h : D = E2_3) (l : List Nat) (i : Nat) : rsum 8 (fun j => rel D (((alH.getD i []).getD j 0) * l.getD j 0)) = 0 ↔ tB l i = true := by
  subst h
  unfold tB
  rw [decide_eq_true_iff]
  constructor
  · intro g; rw [g]; exact rcode_zero
  · intro g; exact rcode_inj (g.trans rcode_zero.symm)
theorem gopM19 {F : FD} (hF : F.toDesc = E2_3) {i j : Nat} (hi : i < 2) (hj : j < 8) : gopM F [1, 1, 1] pts19 i j = rel F.toDesc ((alH.getD i []).getD j 0) := by
  have h1 := rcode_inj (iv19D hF ⟨j, hj⟩)
  dsimp only at h1
  have h2 := rcode_inj (h19D hF ⟨i, hi⟩ ⟨j, hj⟩)
  dsimp only at h2
  unfold gopM
  rw [← inv_unique h1]
  exact h2
theorem bit_cases {D : Desc} (h : D = D2) (x : R D) : x = 0 ∧ rcode x = 0 ∨ x = 1 ∧ rcode x = 1 := by
  subst h
  have h : rcode x < 2 := rcode_lt x
  have h1 : rcode x = 0 ∨ rcode x = 1 := by omega
  rcases h1 with e | e
  · exact .inl ⟨rcode_inj (e.trans rcode_zero.symm), e⟩
  · exact .inr ⟨rcode_inj (e.trans rcode_one.symm), e⟩
theorem meets19 {S F : FD} (hS : S.toDesc = D2) (hF : F.toDesc = E2_3) (r : R F.toDesc) {u : Nat → R S.toDesc} {l : List Nat} (hl : ∀ j, j < 8 → rcode (u j) = l.getD j 0) :
    Meets S F r 8 2 (gopM F [1, 1, 1] pts19) u ↔ ∀ i : Fin 2, tB l i.val = true := by
  have key : ∀ i, i < 2 → (rsum 8 (fun j => gopM F [1, 1, 1] pts19 i j * phi S F r (u j)) = 0 ↔ tB l i = true) := fun i hi => by
    have e : rsum 8 (fun j => gopM F [1, 1, 1] pts19 i j * phi S F r (u j)) = rsum 8 fun j => rel F.toDesc (((alH.getD i []).getD j 0) * l.getD j 0) := rsum_congr fun j hj => by
      rw [gopM19 hF hi hj, ← hl j hj]
      rcases bit_cases hS (u j) with ⟨e1, e2⟩ | ⟨e1, e2⟩
      · rw [e2, e1, phi_zero, mul_zero, Nat.mul_zero]
        exact (rcode_inj ((rcode_rel (qpos19 F.toDesc)).trans rcode_zero.symm)).symm
      · rw [e2, e1, phi_one, mul_one, Nat.mul_one]
    rw [e]
    exact tBD hF l i
  constructor
  · intro h i; exact (key i.val i.isLt).1 (h i.val i.isLt)
  · intro h i hi; exact (key i hi).2 (h ⟨i, hi⟩)
def alC (D : Desc) : Nat → Nat → R D := fun i j => rel D ((if i = 0 then al1 else al2).getD j 0)
def finB (a b : Nat) (l : List Nat) : Bool := decide (∀ j : Fin 8, rcode (rel D2 (l.getD j.val 0)) = rcode (rel D2 a * alC D2 0 j.val + rel D2 b * alC D2 1 j.val))
theorem finD {D : Desc} (h : D = D2) {a b : Nat} {l : List Nat} (hb : finB a b l = true) (j : Fin 8) : rel D (l.getD j.val 0) = rel D a * alC D 0 j.val + rel D b * alC D 1 j.val := by
  subst h
  exact rcode_inj (of_decide_eq_true hb j)
theorem fin0 : finB 0 0 al0 = true := by decide +kernel
theorem fin1 : finB 1 0 al1 = true := by decide +kernel
theorem fin2 : finB 0 1 al2 = true := by decide +kernel
theorem fin3 : finB 1 1 al3 = true := by decide +kernel
theorem span19 {S F : FD} (hS : S.toDesc = D2) (hF : F.toDesc = E2_3) (r : R F.toDesc) (u : Nat → R S.toDesc) (h : Meets S F r 8 2 (gopM F [1, 1, 1] pts19) u) : Span 2 8 (alC S.toDesc) u := by
  have hlt : ∀ j, rcode (u j) < 2 := fun j => by rcases bit_cases hS (u j) with ⟨-, e⟩ | ⟨-, e⟩ <;> omega
  have h1 := (meets19 hS hF r (u := u) (l := [rcode (u 0), rcode (u 1), rcode (u 2), rcode (u 3), rcode (u 4), rcode (u 5), rcode (u 6), rcode (u 7)]) (fun j hj => by
    match j, hj with
    | 0, _ => rfl
    | 1, _ => rfl
    | 2, _ => rfl
    | 3, _ => rfl
    | 4, _ => rfl
    | 5, _ => rfl
    | 6, _ => rfl
    | 7, _ => rfl)).1 h
  have h2 := key19 ⟨_, hlt 0⟩ ⟨_, hlt 1⟩ ⟨_, hlt 2⟩ ⟨_, hlt 3⟩ ⟨_, hlt 4⟩ ⟨_, hlt 5⟩ ⟨_, hlt 6⟩ ⟨_, hlt 7⟩
  unfold alB at h2
  rw [show tB [rcode (u 0), rcode (u 1), rcode (u 2), rcode (u 3), rcode (u 4), rcode (u 5), rcode (u 6), rcode (u 7)] 0 = true from h1 0, show tB [rcode (u 0), rcode (u 1), rcode (u 2), rcode (u 3), rcode (u 4), rcode (u 5), rcode (u 6), rcode (u 7)] 1 = true from h1 1] at h2
  simp only [Bool.and_self, Bool.not_true, Bool.false_or, Bool.or_eq_true, decide_eq_true_eq] at h2
  have fin : ∀ (a b : Nat) (l : List Nat), finB a b l = true → [rcode (u 0), rcode (u 1), rcode (u 2), rcode (u 3), rcode (u 4), rcode (u 5), rcode (u 6), rcode (u 7)] = l → Span 2 8 (alC S.toDesc) u := fun a b l hd e => by
    refine ⟨fun i => if i = 0 then rel S.toDesc a else rel S.toDesc b, fun j hj => ?_⟩
    rw [rsum_succ, rsum_succ, rsum_zero, zero_add]
    dsimp only
    rw [if_pos rfl, if_neg (by omega)]
    refine Eq.trans ?_ (finD hS hd ⟨j, hj⟩)
    have e2 : rcode (u j) = l.getD j 0 := by
      rw [← e]
      match j, hj with
      | 0, _ => rfl
      | 1, _ => rfl
      | 2, _ => rfl
      | 3, _ => rfl
      | 4, _ => rfl
      | 5, _ => rfl
      | 6, _ => rfl
      | 7, _ => rfl
    show u j = rel S.toDesc (l.getD j 0)
    rw [← e2, rel_rcode]
  rcases h2 with ((e | e) | e) | e
  · exact fin 0 0 al0 fin0 e
  · exact fin 1 0 al1 fin1 e
  · exact fin 0 1 al2 fin2 e
  · exact fin 1 1 al3 fin3 e
theorem row19 {S F : FD} (hS : S.toDesc = D2) (hF : F.toDesc = E2_3) (r : R F.toDesc) {i : Nat} (hi : i < 2) : Meets S F r 8 2 (gopM F [1, 1, 1] pts19) (alC S.toDesc i) := by
  have hq : ∀ (l : List Nat), (∀ j : Fin 8, l.getD j.val 0 < 2) → ∀ j, j < 8 → rcode (rel S.toDesc (l.getD j 0)) = l.getD j 0 := fun l hl j hj => rcode_rel (by rw [hS]; exact hl ⟨j, hj⟩)
  by_cases e : i = 0
  · subst e
    exact (meets19 hS hF r (u := alC S.toDesc 0) (l := al1) fun j hj => hq al1 (by decide) j hj).2 in1
  · obtain rfl : i = 1 := by omega
    exact (meets19 hS hF r (u := alC S.toDesc 1) (l := al2) fun j hj => hq al2 (by decide) j hj).2 in2
theorem indep19 {S : FD} (hS : S.toDesc = D2) : Indep 2 8 (alC S.toDesc) := fun c hc i hi => by
  have h1 : ∀ n, n < 2 → n = 0 ∨ n = 1 := fun n h => by omega
  have e0 : rel S.toDesc 0 = 0 := rcode_inj ((rcode_rel (qpos19 S.toDesc)).trans rcode_zero.symm)
  have e1 : rel S.toDesc 1 = 1 := rcode_inj ((rcode_rel (by have := S.toDesc.q2; omega)).trans rcode_one.symm)
  have a := hc 2 (by omega)
  have b := hc 3 (by omega)
  rw [rsum_succ, rsum_succ, rsum_zero, zero_add] at a b
  rw [show alC S.toDesc 0 2 = 1 from e1, show alC S.toDesc 1 2 = 0 from e0, mul_one, mul_zero, add_zero] at a
  rw [show alC S.toDesc 0 3 = 0 from e0, show alC S.toDesc 1 3 = 1 from e1, mul_one, mul_zero, zero_add] at b
  rcases h1 i hi with e | e
  · rw [e]; exact a
  · rw [e]; exact b
theorem alv_k {S F : FD} (hS : S.toDesc = D2) (hF : F.toDesc = E2_3) {r : R F.toDesc} {k : Nat} {C : Nat → Nat → R S.toDesc} (hcan : Canl S k 8 C) (hs : ∀ u, Span k 8 C u ↔ Meets S F r 8 2 (gopM F [1, 1, 1] pts19) u) : k = 2 := by
  have h1 : SameSpan k 2 8 C (alC S.toDesc) := ⟨fun i hi => span19 hS hF r _ ((hs _).1 (Span.row _ hi)), fun i hi => (hs _).2 (row19 hS hF r hi)⟩
  have h2 := (elS_uniq h1).1
  rw [elS_rank (indep19 hS)] at h2
  have h3 := hcan.1
  unfold rkS at h3
  omega
theorem der19 {D : Desc} (h : D = E2_3) : (plI D (derI D [1, 1, 1])) = 1 := by
  subst h
  rw [derI_pl]
  refine Pl.ext' fun t => ?_
  rw [pl_D, pl_one]
  show nsm (t + 1) (cfR E2_3 [1, 1, 1] (t + 1)) = if t = 0 then 1 else 0
  match t with
  | 0 => exact rcode_inj (by decide +kernel)
  | 1 => exact rcode_inj (by decide +kernel)
  | t + 2 => rw [cfR_out _ (by simp), nsm_zero_r, if_neg (by omega)]
theorem cop19 {F : FD} (hF : F.toDesc = E2_3) : Cop (plI F.toDesc [1, 1, 1]) (plI F.toDesc (derI F.toDesc [1, 1, 1])) := by
  refine ⟨0, 1, ?_⟩
  rw [zero_mul, zero_add, one_mul]
  exact der19 hF
end Go.Proofs.Ytakonlfojblcmaa

namespace Cw
section
variable {F : Type} [CField F] [DecidableEq F]
open Go.Proofs.Ytakonlfojblcmaa
theorem indep_le {k K N : Nat} {A B : Nat → Nat → F} (hA : Indep k N A) (h : ∀ i, i < k → Span K N B (A i)) : k ≤ K := by
  refine Classical.byContradiction fun hlt => ?_
  have h2 : ∀ i, ∃ c : Nat → F, i < k → ∀ j, j < N → A i j = rsum K (fun t => c t * B t j) := fun i => by
    by_cases e : i < k
    · obtain ⟨c, hc⟩ := h i e; exact ⟨c, fun _ => hc⟩
    · exact ⟨fun _ => 0, fun e2 => absurd e2 e⟩
  obtain ⟨M, hM⟩ : ∃ M : Nat → Nat → F, ∀ i, i < k → ∀ j, j < N → A i j = rsum K (fun t => M i t * B t j) := ⟨fun i => Classical.choose (h2 i), fun i hi => Classical.choose_spec (h2 i) hi⟩
  have hR := elS_RR K k (fun t i => M i t)
  have hle := (elS_le K (fun t i => M i t) k).1
  have hlen := npv_len (m := k) (elS K (fun t i => M i t) k).2.length hR.lt hR.inj
  have hpos : 0 < (npv (pvF (elS K (fun t i => M i t) k).2) (elS K (fun t i => M i t) k).2.length k).length := by omega
  have hS := (nul_iff hR _).1 (Span.row (m := k) (nulM (elS K (fun t i => M i t) k).2.length k (pvF (elS K (fun t i => M i t) k).2) (elS K (fun t i => M i t) k).1) hpos)
  have hO := (Orth.same (elS_span K k (fun t i => M i t)) _).1 hS
  have hI := nul_indep (F := F) (m := k) (r := (elS K (fun t i => M i t) k).2.length) (p := pvF (elS K (fun t i => M i t) k).2) (A := (elS K (fun t i => M i t) k).1)
  generalize hu : nulM (elS K (fun t i => M i t) k).2.length k (pvF (elS K (fun t i => M i t) k).2) (elS K (fun t i => M i t) k).1 = Q at hO hI
  have hz : ∀ i, i < k → Q 0 i = 0 := hA (Q 0) fun j hj => by
    rw [rsum_congr (g := fun i => rsum K fun t => Q 0 i * (M i t * B t j)) fun i hi => by rw [hM i hi j hj, rsum_mul_left], rsum_swap]
    refine rsum_eq_zero fun t ht => ?_
    have h3 := hO t ht
    rw [rsum_congr (g := fun i => M i t * Q 0 i * B t j) fun i _ => by ac_rfl, rsum_mul_right, h3, zero_mul]
  have h4 := hI (fun t => if t = 0 then 1 else 0) (fun j hj => by
    rw [rsum_single (k := 0) hpos fun i _ hne => by rw [if_neg hne, zero_mul], if_pos rfl, one_mul]
    exact hz j hj) 0 hpos
  rw [if_pos rfl] at h4
  exact one_ne h4
end
end Cw
namespace Go.Proofs.Ytakonlfojblcmaa
open Go.RowKit Cw
section
variable {S F : FD} {r : R F.toDesc} {N t k n : Nat} {h : Nat → Nat → R F.toDesc}
theorem phi_indep {C : Nat → Nat → R S.toDesc} (hcan : Canl S k N C) : Indep k N (fun i j => phi S F r (C i j)) := fun c hc i hi => by
  have hR := elS_RR k N C
  have hk : (elS k C N).2.length = k := hcan.1
  rw [hk] at hR
  have hrow : ∀ i, i < k → ∀ j, j < N → (elS k C N).1 i j = C i j := fun i hi j hj => by
    have h1 := hcan.2 i hi
    have h2 : (rowsL S.toDesc N (elS k C N).1 i)[j]?.getD 0 = (rowsL S.toDesc N C i)[j]?.getD 0 := by rw [h1]
    rw [rowsL_get _ _ _ hj, rowsL_get _ _ _ hj] at h2
    exact ci_inj h2
  have hp := hR.lt i hi
  have h1 := hc _ hp
  dsimp only at h1
  rw [rsum_single (k := i) hi fun t ht hne => by
    rw [← hrow t ht _ hp, hR.zero t i ht hi hne, phi_zero, mul_zero]] at h1
  rw [← hrow i hi _ hp, hR.one i hi, phi_one, mul_one] at h1
  exact h1
end
end Go.Proofs.Ytakonlfojblcmaa

namespace Cw
section lagsyn
variable {F : Type} [CField F]
open CField (inv)
theorem lag_last {n : Nat} (hn : 1 ≤ n) (a : Nat → F) (hinj : ∀ i j, i < n → j < n → a i = a j → i = j) : rsum n (fun i => pw (a i) (n - 1) * inv (lval a i (a i) n)) = 1 := by
  have h := lag_top hn a hinj (fun t => if t = n - 1 then 1 else 0)
  rw [if_pos rfl] at h
  rw [← h]
  exact rsum_congr fun i _ => by
    rw [rsum_single (k := n - 1) (by omega) (fun t _ ht => by rw [if_neg ht, zero_mul]), if_pos rfl, one_mul]
def lagc (a y : Nat → F) (n t : Nat) : F := rsum n fun i => y i * inv (lval a i (a i) n) * lcf a i n t
theorem lagc_val {n : Nat} (a y : Nat → F) (hinj : ∀ i j, i < n → j < n → a i = a j → i = j) {k : Nat} (hk : k < n) : rsum n (fun t => lagc a y n t * pw (a k) t) = y k := by
  have e1 : ∀ t, t < n → lagc a y n t * pw (a k) t = rsum n fun i => y i * inv (lval a i (a i) n) * (lcf a i n t * pw (a k) t) := fun t _ => by
    unfold lagc
    rw [← rsum_mul_right]
    exact rsum_congr fun i _ => by rw [mul_a]
  rw [rsum_congr e1, rsum_swap]
  have e2 : ∀ i, i < n → rsum n (fun t => y i * inv (lval a i (a i) n) * (lcf a i n t * pw (a k) t)) = y i * inv (lval a i (a i) n) * lval a i (a k) n := fun i hi => by
    rw [rsum_mul_left, lcf_sum a i (a k) n n (by unfold ldeg; rw [if_pos hi]; omega)]
  rw [rsum_congr e2, rsum_single hk (fun i hi hik => by rw [lval_zero a (fun e => hik e.symm) n hk, mul_zero]), mul_a, inv_mul (lval_ne a hinj hk n (Nat.le_refl _)), mul_one]
theorem syn_coef {n N i : Nat} (a y c : Nat → F) (h : ∀ j, j < n → y j = rsum N fun t => c t * pw (a j) t) :
    rsum n (fun j => inv (lval a j (a j) n) * (pw (a j) i * y j)) = rsum N fun t => c t * rsum n fun j => pw (a j) (i + t) * inv (lval a j (a j) n) := by
  have e1 : ∀ j, j < n → inv (lval a j (a j) n) * (pw (a j) i * y j) = rsum N fun t => c t * (pw (a j) (i + t) * inv (lval a j (a j) n)) := fun j hj => by
    rw [h j hj, ← rsum_mul_left, ← rsum_mul_left]
    exact rsum_congr fun t _ => by rw [pw_add]; ac_rfl
  rw [rsum_congr e1, rsum_swap]
  exact rsum_congr fun t _ => by rw [rsum_mul_left]
theorem syn_iff {n kn : Nat} (hk : kn ≤ n) (hn : 1 ≤ n) (a y : Nat → F) (hinj : ∀ i j, i < n → j < n → a i = a j → i = j) :
    (∀ i, i < n - kn → rsum n (fun j => inv (lval a j (a j) n) * (pw (a j) i * y j)) = 0) ↔ ∃ c : Nat → F, ∀ j, j < n → y j = rsum kn fun t => c t * pw (a j) t := by
  constructor
  · intro h
    have hv := fun j (hj : j < n) => (lagc_val a y hinj hj).symm
    have hz : ∀ d, d < n - kn → lagc a y n (n - 1 - d) = 0 := by
      intro d
      induction d using Nat.strongRecOn with
      | _ d ih =>
        intro hd
        have h1 := h d hd
        rw [syn_coef a y (lagc a y n) hv, rsum_single (k := n - 1 - d) (by omega) (fun t ht hne => ?_), show d + (n - 1 - d) = n - 1 by omega, lag_last hn a hinj, mul_one] at h1
        · exact h1
        · by_cases hlt : t < n - 1 - d
          · rw [lag_pow (by omega) a hinj, mul_zero]
          · have h2 := ih (n - 1 - t) (by omega) (by omega)
            rw [show n - 1 - (n - 1 - t) = t by omega] at h2
            rw [h2, zero_mul]
    refine ⟨lagc a y n, fun j hj => ?_⟩
    rw [hv j hj]
    refine rsum_tail hk fun t h1 h2 => ?_
    have h3 := hz (n - 1 - t) (by omega)
    rw [show n - 1 - (n - 1 - t) = t by omega] at h3
    rw [h3, zero_mul]
  · rintro ⟨c, hc⟩ i hi
    rw [syn_coef a y c hc]
    exact rsum_eq_zero fun t ht => by rw [lag_pow (by omega) a hinj, mul_zero]
end lagsyn
end Cw
namespace Go.Proofs.Ytakonlfojblcmaa
open Go.RowKit Cw
open Cw.CField (inv)
theorem wgt_zero_iff (l : List Int) : wgt l = 0 ↔ ∀ x ∈ l, x = 0 := by
  constructor
  · intro h x hx
    unfold wgt at h
    have h1 := List.length_eq_zero_iff.1 h
    have h2 := List.filter_eq_nil_iff.1 h1 x hx
    simpa using h2
  · exact wgt_zero
theorem syn_has {F : FD} {kn : Nat} {pts mul wl : List Int} (hz : gchkD F.toDesc kn pts mul = 0) :
    (decide (wgt (synL F kn pts mul wl) = 0)) = inB F kn pts mul wl := by
  obtain ⟨hn1, -, hlen, hp, hm, ht, h0, hK0, hKn⟩ := gchkD_zero hz
  have hinj := pts_inj hp ht
  have hmi : ∀ i, i < pts.length → eli F.toDesc (mul[i]?.getD 0) ≠ 0 := fun i hi => eli_ne (elB_iff.1 hm i (by omega)) fun e => h0 (e ▸ mem_get (by omega))
  have hdu : ∀ i, i < pts.length → eli F.toDesc ((dualL F pts mul)[i]?.getD 0) = inv (eli F.toDesc (mul[i]?.getD 0)) * inv (lval (fun j => eli F.toDesc (pts[j]?.getD 0)) i (eli F.toDesc (pts[i]?.getD 0)) pts.length) := fun i hi => by
    rw [dualL_get hi]
    unfold dualV
    rw [eli_ci, dprod_mul, dprod_lval, inv_mul_d]
  have key := syn_iff (F := R F.toDesc) (n := pts.length) (kn := kn) (by omega) hn1 (fun j => eli F.toDesc (pts[j]?.getD 0)) (fun j => inv (eli F.toDesc (mul[j]?.getD 0)) * eli F.toDesc (wl[j]?.getD 0)) hinj
  have hs : ∀ i, rsum pts.length (fun j => eli F.toDesc ((rowsL F.toDesc pts.length (gM F.toDesc pts (dualL F pts mul)) i)[j]?.getD 0) * eli F.toDesc (wl[j]?.getD 0)) = rsum pts.length fun j => inv (lval (fun j => eli F.toDesc (pts[j]?.getD 0)) j (eli F.toDesc (pts[j]?.getD 0)) pts.length) * (pw (eli F.toDesc (pts[j]?.getD 0)) i * (inv (eli F.toDesc (mul[j]?.getD 0)) * eli F.toDesc (wl[j]?.getD 0))) := fun i => by
    refine rsum_congr fun j hj => ?_
    rw [rowsL, rowL_get _ _ hj, eli_ci]
    unfold gM
    rw [hdu j hj]
    ac_rfl
  have h1 : wgt (synL F kn pts mul wl) = 0 ↔ ∀ i, i < pts.length - kn → rsum pts.length (fun j => inv (lval (fun j => eli F.toDesc (pts[j]?.getD 0)) j (eli F.toDesc (pts[j]?.getD 0)) pts.length) * (pw (eli F.toDesc (pts[j]?.getD 0)) i * (inv (eli F.toDesc (mul[j]?.getD 0)) * eli F.toDesc (wl[j]?.getD 0)))) = 0 := by
    rw [wgt_zero_iff]
    have hL : ((pts.length : Int) - (kn : Int)).toNat = pts.length - kn := by omega
    unfold synL
    rw [hL]
    constructor
    · intro h i hi
      rw [← hs i]
      exact ci_eq_zero.1 (h _ (List.mem_map.2 ⟨i, List.mem_range.2 hi, rfl⟩))
    · intro h x hx
      obtain ⟨i, hi, rfl⟩ := List.mem_map.1 hx
      have h2 := h i (List.mem_range.1 hi)
      rw [← hs i] at h2
      exact ci_eq_zero.2 h2
  have h2 : (∃ c : Nat → R F.toDesc, ∀ j, j < pts.length → inv (eli F.toDesc (mul[j]?.getD 0)) * eli F.toDesc (wl[j]?.getD 0) = rsum kn fun t => c t * pw (eli F.toDesc (pts[j]?.getD 0)) t) ↔ Span kn pts.length (gM F.toDesc pts mul) (fun j => eli F.toDesc (wl[j]?.getD 0)) := by
    have hg : ∀ (c : Nat → R F.toDesc) j, rsum kn (fun i => c i * gM F.toDesc pts mul i j) = eli F.toDesc (mul[j]?.getD 0) * rsum kn fun t => c t * pw (eli F.toDesc (pts[j]?.getD 0)) t := fun c j => by
      rw [← rsum_mul_left]
      exact rsum_congr fun t _ => by unfold gM; ac_rfl
    constructor
    · rintro ⟨c, hc⟩
      refine ⟨c, fun j hj => ?_⟩
      rw [hg, ← hc j hj, ← mul_a, mul_inv (hmi j hj), one_mul]
    · rintro ⟨c, hc⟩
      refine ⟨c, fun j hj => ?_⟩
      have h3 := hc j hj
      dsimp only at h3
      rw [h3, hg, ← mul_a, inv_mul (hmi j hj), one_mul]
  have h3 := (h1.trans key).trans (h2.trans (inB_iff hz).symm)
  cases hb : inB F kn pts mul wl with
  | true => exact decide_eq_true (h3.2 hb)
  | false => exact decide_eq_false fun h => by rw [h3.1 h] at hb; cases hb
end Go.Proofs.Ytakonlfojblcmaa

namespace Go.Proofs.Ytakonlfojblcmaa
open Go.RowKit Cw
open Cw.CField (inv)
section
variable {S F : FD} {r : R F.toDesc} {kn k : Nat} {pts mul wl : List Int} {u : Nat → R S.toDesc}
noncomputable def altH (F : FD) (pts mul : List Int) : Nat → Nat → R F.toDesc := gM F.toDesc pts (dualL F pts mul)
theorem meets_in (hz : gchkD F.toDesc kn pts mul = 0) (hw : ∀ j, j < pts.length → eli F.toDesc (wl[j]?.getD 0) = phi S F r (u j)) : Meets S F r pts.length (pts.length - kn) (altH F pts mul) u ↔ inB F kn pts mul wl = true := by
  rw [← syn_has hz, decide_eq_true_iff, wgt_zero_iff]
  have hL : ((pts.length : Int) - (kn : Int)).toNat = pts.length - kn := by omega
  have hs : ∀ i, rsum pts.length (fun j => eli F.toDesc ((rowsL F.toDesc pts.length (gM F.toDesc pts (dualL F pts mul)) i)[j]?.getD 0) * eli F.toDesc (wl[j]?.getD 0)) = rsum pts.length fun j => altH F pts mul i j * phi S F r (u j) := fun i => rsum_congr fun j hj => by
    rw [rowsL, rowL_get _ _ hj, eli_ci, hw j hj]
    rfl
  unfold synL
  rw [hL]
  constructor
  · intro h x hx
    obtain ⟨i, hi, rfl⟩ := List.mem_map.1 hx
    rw [hs i, h i (List.mem_range.1 hi), ci_zero]
  · intro h i hi
    rw [← hs i]
    exact ci_eq_zero.1 (h _ (List.mem_map.2 ⟨i, List.mem_range.2 hi, rfl⟩))
theorem alt_dim (hz : gchkD F.toDesc kn pts mul = 0) {C : Nat → Nat → R S.toDesc} (hcan : Canl S k pts.length C) (hs : ∀ u, Span k pts.length C u ↔ Meets S F r pts.length (pts.length - kn) (altH F pts mul) u) : k ≤ kn := by
  refine indep_le (phi_indep (r := r) hcan) (B := gM F.toDesc pts mul) fun i hi => ?_
  have hw : ∀ j, j < pts.length → eli F.toDesc ((lst pts.length fun j => ci (phi S F r (C i j)))[j]?.getD 0) = phi S F r (C i j) := fun j hj => by rw [lst_get _ hj, eli_ci]
  have h1 := (meets_in (r := r) hz hw).1 ((hs _).1 (Span.row C hi))
  exact ((inB_iff hz).1 h1).congr fun j hj => (hw j hj).symm
end
end Go.Proofs.Ytakonlfojblcmaa

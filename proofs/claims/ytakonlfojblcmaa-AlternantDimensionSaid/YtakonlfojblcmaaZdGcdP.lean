/- Plain law of layer 19: the rational function of a word, and squarefree Goppa polynomials in characteristic 2. No Go here. Plain law of layer 19: words over a subfield, their images, coordinates and traces. No Go here. Plain: the code of the words whose images meet checks over the greater field. No Go here. Plain law of layer 5: division with remainder, step by step. No Go here. Plain: greatest common divisors and derivatives of lists of coefficients. No Go here. -/
import Derived.Test.YtakonlfojblcmaaZdBasL
import Derived.Test.YtakonlfojblcmaaZdNrm
import Derived.Test.YtakonlfojblcmaaZdCodP
import Derived.Test.YtakonlfojblcmaaZdPlyP
import Derived.Test.YtakonlfojblcmaaZdPoR
import Derived.Test.YtakonlfojblcmaaZdApR
namespace Cw
section
variable {R : Type} [CRing R]
theorem nsm_zero_r (n : Nat) : nsm n (0 : R) = 0 := by rw [nsm_mul, mul_zero]
def Pl.D (a : Pl R) : Pl R := ⟨fun t => nsm (t + 1) (a.c (t + 1)), by
  obtain ⟨n, hn⟩ := a.fin
  exact ⟨n, fun t ht => by dsimp only; rw [hn (t + 1) (by omega), nsm_zero_r]⟩⟩
theorem pl_D (a : Pl R) (t : Nat) : a.D.c t = nsm (t + 1) (a.c (t + 1)) := rfl
def hP : List (R × R) → Pl R
  | [] => 1
  | (x, _) :: l => Pl.lin x * hP l
end
section
variable {F : Type} [CField F]
open CField (inv)
end
end Cw

namespace Go.Proofs.Ytakonlfojblcmaa
open Go.RowKit Cw
open Cw.CField (inv)
section
variable {S F : FD} {r : R F.toDesc}
theorem char_two (hp : S.p = F.p) : nsm S.p (1 : R F.toDesc) = 0 := by rw [hp]; exact char_R
theorem phi_onto (hp : S.p = F.p) (h0 : muV S F r = 0) {y : R F.toDesc} (hy : InSub S.m y) : ∃ u : R S.toDesc, phi S F r u = y := by
  refine Classical.byContradiction fun hno => ?_
  have hc := char_two (S := S) (F := F) hp
  have hq : S.q = F.p ^ S.m := by rw [← hp]; rfl
  have h2 := S.toDesc.q2
  have hfix : ∀ x : R F.toDesc, InSub S.m x → pw x S.q = x := fun x hx => by
    have h3 : pw x (F.p ^ S.m) = x := hx
    rw [← hq] at h3; exact h3
  have ha : ∀ i, InSub S.m (if i < S.q then phi S F r (rel S.toDesc i) else y) := fun i => by
    by_cases e : i < S.q
    · rw [if_pos e]; exact phi_sub hp hc h0 _
    · rw [if_neg e]; exact hy
  have key := rsum_roots (n := S.q + 1) (f := fun i => if i = S.q then (1 : R F.toDesc) else if i = 1 then -1 else 0) (a := fun i => if i < S.q then phi S F r (rel S.toDesc i) else y)
    (fun i j hi hj e => by
      by_cases g1 : i < S.q
      · by_cases g2 : j < S.q
        · rw [if_pos g1, if_pos g2] at e
          have h3 := congrArg rcode (phi_inj hc h0 e)
          rw [rcode_rel g1, rcode_rel g2] at h3
          exact h3
        · rw [if_pos g1, if_neg g2] at e
          exact absurd ⟨_, e⟩ hno
      · by_cases g2 : j < S.q
        · rw [if_neg g1, if_pos g2] at e
          exact absurd ⟨_, e.symm⟩ hno
        · omega)
    (fun k _ => by
      have h3 := hfix _ (ha k)
      generalize (if k < S.q then phi S F r (rel S.toDesc k) else y) = x at h3 ⊢
      rw [rsum_succ, if_pos rfl, one_mul, rsum_single (k := 1) (by omega) fun i hi hne => by rw [if_neg (by omega), if_neg hne, zero_mul]]
      rw [if_neg (by omega), if_pos rfl, pw_one, neg_mul, one_mul, h3, neg_add]) (i := S.q) (by omega)
  rw [if_pos rfl] at key
  exact one_ne key
open Classical in
noncomputable def bk (S F : FD) (r : R F.toDesc) (y : R F.toDesc) : R S.toDesc := if h : ∃ u, phi S F r u = y then Classical.choose h else 0
theorem bk_phi (hp : S.p = F.p) (h0 : muV S F r = 0) (u : R S.toDesc) : bk S F r (phi S F r u) = u := by
  have h : ∃ u', phi S F r u' = phi S F r u := ⟨u, rfl⟩
  unfold bk
  rw [dif_pos h]
  exact phi_inj (char_two hp) h0 (Classical.choose_spec h)
theorem phi_bk (hp : S.p = F.p) (h0 : muV S F r = 0) {y : R F.toDesc} (hy : InSub S.m y) : phi S F r (bk S F r y) = y := by
  have h := phi_onto hp h0 hy
  unfold bk
  rw [dif_pos h]
  exact Classical.choose_spec h
theorem bk_out {y : R F.toDesc} (h : ¬ ∃ u, phi S F r u = y) : bk S F r y = 0 := by unfold bk; rw [dif_neg h]
theorem phi_eq_zero (hp : S.p = F.p) (h0 : muV S F r = 0) {u : R S.toDesc} : phi S F r u = 0 ↔ u = 0 := by
  refine ⟨fun h => phi_inj (char_two hp) h0 (h.trans (phi_zero r).symm), fun h => by rw [h, phi_zero]⟩
theorem row_iff (hp : S.p = F.p) (h0 : muV S F r = 0) {n N : Nat} {b : Nat → R F.toDesc} (hI : IndS S.m n b) {h : Nat → R F.toDesc} {c : Nat → Nat → R F.toDesc}
    (hc : ∀ j, j < N → (∀ t, t < n → InSub S.m (c j t)) ∧ rsum n (fun t => c j t * b t) = h j) (u : Nat → R S.toDesc) :
    rsum N (fun j => h j * phi S F r (u j)) = 0 ↔ ∀ t, t < n → rsum N (fun j => bk S F r (c j t) * u j) = 0 := by
  have hcc := char_two (S := S) (F := F) hp
  have e1 : ∀ t, t < n → phi S F r (rsum N fun j => bk S F r (c j t) * u j) = rsum N fun j => c j t * phi S F r (u j) := fun t ht => by
    rw [phi_rsum hp]
    exact rsum_congr fun j hj => by rw [phi_mul hcc h0, phi_bk hp h0 ((hc j hj).1 t ht)]
  have e2 : rsum N (fun j => h j * phi S F r (u j)) = rsum n fun t => (rsum N fun j => c j t * phi S F r (u j)) * b t := by
    rw [rsum_congr (g := fun j => rsum n fun t => c j t * phi S F r (u j) * b t) fun j hj => by
      rw [← (hc j hj).2, ← rsum_mul_right]
      exact rsum_congr fun t _ => by ac_rfl, rsum_swap]
    exact rsum_congr fun t _ => rsum_mul_right _ _ _
  rw [e2]
  constructor
  · intro hz t ht
    have h1 := hI _ (fun t ht => InSub.rsum fun j hj => ((hc j hj).1 t ht).mul (phi_sub hp hcc h0 _)) hz t ht
    exact (phi_eq_zero hp h0).1 ((e1 t ht).trans h1)
  · intro hz
    exact rsum_eq_zero fun t ht => by rw [← e1 t ht, hz t ht, phi_zero, zero_mul]
end
end Go.Proofs.Ytakonlfojblcmaa
namespace Cw
section
variable {F : Type} [CField F]
end
end Cw

namespace Go.Proofs.Ytakonlfojblcmaa
open Go.RowKit Cw
section
variable {S F : FD} {r : R F.toDesc} {N t k n : Nat} {h : Nat → Nat → R F.toDesc} {E : Nat → Nat → R S.toDesc}
def Meets (S F : FD) (r : R F.toDesc) (N t : Nat) (h : Nat → Nat → R F.toDesc) (u : Nat → R S.toDesc) : Prop := ∀ i, i < t → rsum N (fun j => h i j * phi S F r (u j)) = 0
def Tells (S F : FD) (r : R F.toDesc) (N t : Nat) (h : Nat → Nat → R F.toDesc) (k : Nat) (E : Nat → Nat → R S.toDesc) : Prop := ∀ u, Orth k N E u ↔ Meets S F r N t h u
theorem Tells.zero (S F : FD) (r : R F.toDesc) (N : Nat) (h : Nat → Nat → R F.toDesc) (E : Nat → Nat → R S.toDesc) : Tells S F r N 0 h 0 E := fun _ => ⟨fun _ i hi => absurd hi (Nat.not_lt_zero i), fun _ i hi => absurd hi (Nat.not_lt_zero i)⟩
noncomputable def lineM (S F : FD) (r : R F.toDesc) (c : Nat → Nat → R F.toDesc) : Nat → Nat → R S.toDesc := fun i j => bk S F r (c j i)
theorem Meets.succ (u : Nat → R S.toDesc) : Meets S F r N (t + 1) h u ↔ Meets S F r N t h u ∧ rsum N (fun j => h t j * phi S F r (u j)) = 0 := by
  constructor
  · intro g
    exact ⟨fun i hi => g i (by omega), g t (by omega)⟩
  · rintro ⟨g1, g2⟩ i hi
    by_cases e : i = t
    · subst e; exact g2
    · exact g1 i (by omega)
theorem Tells.step (hp : S.p = F.p) (h0 : muV S F r = 0) {b : Nat → R F.toDesc} (hI : IndS S.m n b) (hT : Tells S F r N t h k E) {c : Nat → Nat → R F.toDesc}
    (hc : ∀ j, j < N → (∀ i, i < n → InSub S.m (c j i)) ∧ rsum n (fun i => c j i * b i) = h t j) :
    Tells S F r N (t + 1) h (rkS S (k + n) N (stackR k E (lineM S F r c))) (elS (k + n) (stackR k E (lineM S F r c)) N).1 := fun u => by
  have h1 : Orth (rkS S (k + n) N (stackR k E (lineM S F r c))) N (elS (k + n) (stackR k E (lineM S F r c)) N).1 u ↔ Orth (k + n) N (stackR k E (lineM S F r c)) u := Orth.same (elS_span (k + n) N (stackR k E (lineM S F r c))) u
  rw [h1, orth_stack, hT u, Meets.succ, row_iff hp h0 hI hc u]
  exact Iff.rfl
noncomputable def kerK (S : FD) (k N : Nat) (E : Nat → Nat → R S.toDesc) : Nat := (npv (pvF (elS k E N).2) (rkS S k N E) N).length
noncomputable def kerM (S : FD) (k N : Nat) (E : Nat → Nat → R S.toDesc) : Nat → Nat → R S.toDesc := (elS (kerK S k N E) (nulM (rkS S k N E) N (pvF (elS k E N).2) (elS k E N).1) N).1
theorem kerK_le (S : FD) (k N : Nat) (E : Nat → Nat → R S.toDesc) : kerK S k N E ≤ N := by
  have h := List.length_filter_le (fun c => !decide (∃ i, i < rkS S k N E ∧ pvF (elS k E N).2 i = c)) (List.range N)
  rw [List.length_range] at h; exact h
theorem Tells.code (hT : Tells S F r N t h k E) (u : Nat → R S.toDesc) :
    Span (rkS S (kerK S k N E) N (kerM S k N E)) N (elS (kerK S k N E) (kerM S k N E) N).1 u ↔ Meets S F r N t h u := by
  have h1 := same_iff (elS_span (kerK S k N E) N (kerM S k N E)) u
  have hr : rkS S (kerK S k N E) N (nulM (rkS S k N E) N (pvF (elS k E N).2) (elS k E N).1) = kerK S k N E := elS_rank nul_indep
  have h2 := elS_span (kerK S k N E) N (nulM (rkS S k N E) N (pvF (elS k E N).2) (elS k E N).1)
  rw [show (elS (kerK S k N E) (nulM (rkS S k N E) N (pvF (elS k E N).2) (elS k E N).1) N).2.length = kerK S k N E from hr] at h2
  have h3 : Span (kerK S k N E) N (kerM S k N E) u ↔ _ := same_iff h2 u
  have h4 := nul_iff (elS_RR k N E) u
  have h5 : Orth (rkS S k N E) N (elS k E N).1 u ↔ Orth k N E u := Orth.same (elS_span k N E) u
  exact h1.trans (h3.trans (h4.trans (h5.trans (hT u))))
theorem ker_dim {T : Nat} (hk : k ≤ T) : N ≤ rkS S (kerK S k N E) N (kerM S k N E) + T := by
  have hr : rkS S (kerK S k N E) N (nulM (rkS S k N E) N (pvF (elS k E N).2) (elS k E N).1) = kerK S k N E := elS_rank nul_indep
  have hc := canl_elS S (kerK S k N E) N (nulM (rkS S k N E) N (pvF (elS k E N).2) (elS k E N).1)
  rw [hr] at hc
  have h1 : rkS S (kerK S k N E) N (kerM S k N E) = kerK S k N E := hc.1
  have hR := elS_RR k N E
  have h2 : kerK S k N E + rkS S k N E = N := npv_len (m := N) _ hR.lt hR.inj
  have h3 : rkS S k N E ≤ k := (elS_le k E N).1
  omega
end
end Go.Proofs.Ytakonlfojblcmaa

namespace Go.Proofs.Ytakonlfojblcmaa
open Go.RowKit Cw
open Cw.CField (inv)

section
variable {D : Desc}
def remF (f g : Nat → R D) (iv : R D) (d Q : Nat) : Nat → Nat → R D
  | 0 => f
  | s + 1 => fun t => remF f g iv d Q s t - if Q - 1 - s ≤ t then remF f g iv d Q s (Q - 1 - s + d) * iv * g (t - (Q - 1 - s)) else 0
def quoF (f g : Nat → R D) (iv : R D) (d Q : Nat) (n : Nat) : R D := remF f g iv d Q (Q - 1 - n) (n + d) * iv
def quoS (f g : Nat → R D) (iv : R D) (d Q s : Nat) (i : Nat) : R D := if Q - s ≤ i ∧ i < Q then quoF f g iv d Q i else 0
variable {f g : Nat → R D} {iv : R D} {d Q : Nat}
theorem remF_succ {s n : Nat} (hs : Q = n + 1 + s) (t : Nat) : remF f g iv d Q (s + 1) t = remF f g iv d Q s t - if n ≤ t then quoF f g iv d Q n * g (t - n) else 0 := by
  show remF f g iv d Q s t - (if Q - 1 - s ≤ t then remF f g iv d Q s (Q - 1 - s + d) * iv * g (t - (Q - 1 - s)) else 0) = _
  unfold quoF
  rw [show Q - 1 - s = n by omega, show Q - 1 - n = s by omega]
theorem quoF_at {s n : Nat} (hs : Q = n + 1 + s) : quoF f g iv d Q n = remF f g iv d Q s (n + d) * iv := by unfold quoF; rw [show Q - 1 - n = s by omega]
theorem remF_lt (hf : LtD f (d + Q)) (hg : LtD g (d + 1)) (hiv : iv * g d = 1) : ∀ s, s ≤ Q → LtD (remF f g iv d Q s) (d + Q - s)
  | 0, _ => hf
  | s + 1, h => fun t ht => by
    obtain ⟨n, hn⟩ : ∃ n, Q = n + 1 + s := ⟨Q - 1 - s, by omega⟩
    have ih := remF_lt hf hg hiv s (by omega)
    rw [remF_succ hn, if_pos (by omega), quoF_at hn]
    by_cases e : t = n + d
    · rw [e, show n + d - n = d by omega, mul_a, hiv, mul_one, sub_self]
    · rw [ih t (by omega), hg _ (by omega), mul_zero, sub_zero]
theorem conv_add_l {R : Type} [CRing R] (f h g : Nat → R) (t : Nat) : conv (fun s => f s + h s) g t = conv f g t + conv h g t := by
  unfold conv
  rw [← rsum_add]
  exact rsum_congr fun i _ => add_mul _ _ _
theorem conv_single {R : Type} [CRing R] (n : Nat) (c : R) (g : Nat → R) (t : Nat) : conv (fun s => if s = n then c else 0) g t = if n ≤ t then c * g (t - n) else 0 := by
  unfold conv
  by_cases h : n ≤ t
  · rw [if_pos h, rsum_single (k := n) (by omega) fun i _ hne => by dsimp only; rw [if_neg hne, zero_mul]]
    dsimp only
    rw [if_pos rfl]
  · rw [if_neg h]
    exact rsum_eq_zero fun i hi => by dsimp only; rw [if_neg (by omega), zero_mul]
theorem quoS_succ {s n : Nat} (hs : Q = n + 1 + s) (i : Nat) : quoS f g iv d Q (s + 1) i = quoS f g iv d Q s i + if i = n then quoF f g iv d Q n else 0 := by
  unfold quoS
  by_cases e : i = n
  · rw [if_pos (by omega), if_neg (by omega), if_pos e, zero_add, e]
  · rw [if_neg e, add_zero]
    by_cases e2 : Q - s ≤ i ∧ i < Q
    · rw [if_pos e2, if_pos (by omega)]
    · rw [if_neg e2, if_neg (by omega)]
theorem remF_eq : ∀ s, s ≤ Q → ∀ t, f t = conv (quoS f g iv d Q s) g t + remF f g iv d Q s t
  | 0, _, t => by
    rw [show conv (quoS f g iv d Q 0) g t = 0 from rsum_eq_zero fun i _ => by unfold quoS; rw [if_neg (by omega), zero_mul], zero_add]; rfl
  | s + 1, h, t => by
    obtain ⟨n, hn⟩ : ∃ n, Q = n + 1 + s := ⟨Q - 1 - s, by omega⟩
    rw [remF_eq s (by omega) t, remF_succ hn, show quoS f g iv d Q (s + 1) = fun i => quoS f g iv d Q s i + if i = n then quoF f g iv d Q n else 0 from funext fun i => quoS_succ hn i, conv_add_l, conv_single, add_a]
    congr 1
    rw [add_c, sub_add_cancel]
end
theorem div_ok {F : FD} {p q : List Int} {d A Q : Nat} (hq : (canI F.toDesc q).length = d + 1) (hA : (canI F.toDesc p).length = A) (hQ : Q = A - d) :
    DivI F.toDesc p q (canL (fun i => ci (quoS (cfR F.toDesc p) (cfR F.toDesc q) (inv (cfR F.toDesc q d)) d Q Q i)) Q) (canL (fun i => ci (remF (cfR F.toDesc p) (cfR F.toDesc q) (inv (cfR F.toDesc q d)) d Q Q i)) A) := by
  have hf : LtD (cfR F.toDesc p) (d + Q) := fun t ht => by rw [← cfR_canI]; exact cfR_out F.toDesc (by omega)
  have hg : LtD (cfR F.toDesc q) (d + 1) := fun t ht => by rw [← cfR_canI]; exact cfR_out F.toDesc (by omega)
  have hl : cfR F.toDesc q d ≠ 0 := by rw [← cfR_canI]; exact can_lead (canI_canI F.toDesc q) hq
  have hr := remF_lt hf hg (inv_mul hl) Q (Nat.le_refl _)
  have hQ0 : ∀ i, Q ≤ i → quoS (cfR F.toDesc p) (cfR F.toDesc q) (inv (cfR F.toDesc q d)) d Q Q i = 0 := fun i hi => by unfold quoS; rw [if_neg (by omega)]
  have hR0 : ∀ i, A ≤ i → remF (cfR F.toDesc p) (cfR F.toDesc q) (inv (cfR F.toDesc q d)) d Q Q i = 0 := fun i hi => by
    by_cases e : A ≤ d
    · have e2 : Q = 0 := by omega
      rw [e2]
      show cfR F.toDesc p i = 0
      rw [← cfR_canI]; exact cfR_out F.toDesc (by omega)
    · exact hr i (by omega)
  refine ⟨canI_can _ _ hQ0, canI_can _ _ hR0, fun s => ?_, ?_⟩
  · rw [cfR_can _ _ hQ0, cfR_can _ _ hR0]
    exact remF_eq Q (Nat.le_refl _) s
  · rw [hq]
    have := can_short (canI_can _ _ hR0) (n := d) fun t ht => by rw [cfR_can _ _ hR0]; exact hr t (by omega)
    omega
end Go.Proofs.Ytakonlfojblcmaa

namespace Go.Proofs.Ytakonlfojblcmaa
open Go.RowKit Cw
open Cw.CField (inv)
def plI (D : Desc) (p : List Int) : Pl (R D) := ⟨cfR D p, p.length, cfR_lt D p⟩
theorem DivI.pl {D : Desc} {p q quo rem : List Int} (h : DivI D p q quo rem) : plI D p = plI D quo * plI D q + plI D rem := Pl.ext' h.eq
theorem plI_nil (D : Desc) : plI D [] = 0 := Pl.ext' fun _ => cfR_out D (Nat.zero_le _)
structure GcdI (D : Desc) (a b : Pl (R D)) (l : List Int) : Prop where
  can : canI D l = l
  da : (plI D l).dvd a
  db : (plI D l).dvd b
  bez : ∃ u v, u * a + v * b = plI D l
theorem plI_canI (D : Desc) (p : List Int) : plI D (canI D p) = plI D p := Pl.ext' fun t => congrFun (cfR_canI D p) t
theorem GcdI.step {D : Desc} {p q quo rem l : List Int} (hd : DivI D p q quo rem) (h : GcdI D (plI D q) (plI D rem) l) : GcdI D (plI D p) (plI D q) l := by
  refine ⟨h.can, ?_, h.da, ?_⟩
  · rw [hd.pl]
    exact (h.da.mul _).add h.db
  · obtain ⟨u, v, e⟩ := h.bez
    refine ⟨v, u - v * plI D quo, ?_⟩
    rw [← e, hd.pl, mul_add, sub_d, add_mul, neg_mul]
    rw [show v * plI D quo * plI D q = v * (plI D quo * plI D q) from mul_a _ _ _]
    generalize v * (plI D quo * plI D q) = x
    generalize v * plI D rem = y
    generalize u * plI D q = z
    rw [show x + y + (z + -x) = z + y + (x + -x) by ac_rfl, add_neg, add_zero]
section
variable {F : FD}
theorem GcdI.one {a b : Pl (R F.toDesc)} {l : List Int} (h : GcdI F.toDesc a b l) : l.length = 1 ↔ Cop a b := by
  constructor
  · intro e
    have h0 : cfR F.toDesc l 0 ≠ 0 := can_lead h.can e
    obtain ⟨u, v, e2⟩ := h.bez
    refine ⟨Pl.k (inv (cfR F.toDesc l 0)) * u, Pl.k (inv (cfR F.toDesc l 0)) * v, ?_⟩
    rw [mul_a, mul_a, ← mul_add, e2]
    refine Pl.ext' fun t => ?_
    rw [pl_k_mul, pl_one]
    show _ * cfR F.toDesc l t = _
    by_cases ht : t = 0
    · subst ht; rw [if_pos rfl, inv_mul h0]
    · rw [if_neg ht, cfR_out F.toDesc (show l.length ≤ t by omega), mul_zero]
  · rintro ⟨u, v, e⟩
    have h1 : (plI F.toDesc l).dvd 1 := by rw [← e]; exact (h.da.mul u).add (h.db.mul v)
    have hne : l.length ≠ 0 := fun e0 => by
      obtain ⟨q, e2⟩ := h1
      rw [List.eq_nil_of_length_eq_zero e0, plI_nil, mul_zero] at e2
      have := congrArg (fun a : Pl (R F.toDesc) => a.c 0) e2
      rw [pl_one, if_pos rfl] at this
      exact one_ne this
    refine Classical.byContradiction fun hn => ?_
    obtain ⟨n, hl⟩ : ∃ n, l.length = n + 1 := ⟨l.length - 1, by omega⟩
    have h3 := dvd_zero (g := plI F.toDesc l) (a := 1) (n := n) (fun t ht => cfR_out _ (by omega)) (can_lead h.can hl) (fun t ht => if_neg (by omega)) h1
    have := congrArg (fun a : Pl (R F.toDesc) => a.c 0) h3
    rw [pl_one, if_pos rfl] at this
    exact one_ne this
theorem GcdI.monic {p l : List Int} {x : R F.toDesc} (hx : x ≠ 0) (hl : canI F.toDesc l = l) (h : ∀ t, cfR F.toDesc l t = x * cfR F.toDesc p t) : GcdI F.toDesc (plI F.toDesc p) 0 l := by
  have e : plI F.toDesc l = Pl.k x * plI F.toDesc p := Pl.ext' fun t => by rw [pl_k_mul]; exact h t
  have e2 : plI F.toDesc p = Pl.k (inv x) * plI F.toDesc l := Pl.ext' fun t => by
    rw [pl_k_mul]
    show cfR F.toDesc p t = inv x * cfR F.toDesc l t
    rw [h t, ← mul_a, inv_mul hx, one_mul]
  refine ⟨hl, ⟨_, e2⟩, Pl.dvd.zero _, Pl.k x, 0, ?_⟩
  rw [zero_mul, add_zero, e]
theorem GcdI.nil : GcdI F.toDesc 0 0 [] := ⟨rfl, Pl.dvd.zero _, Pl.dvd.zero _, 0, 0, by rw [plI_nil, zero_mul, add_zero]⟩
end
def derI (D : Desc) (p : List Int) : List Int := canL (fun i => ci (nsm (i + 1) (cfR D p (i + 1)))) (p.length - 1)
theorem derI_can (D : Desc) (p : List Int) : canI D (derI D p) = derI D p := canI_can (fun i => nsm (i + 1) (cfR D p (i + 1))) _ fun i h => by rw [cfR_out D (by omega), nsm_zero_r]
theorem derI_pl (D : Desc) (p : List Int) : plI D (derI D p) = (plI D p).D := Pl.ext' fun t => by
  show cfR D (derI D p) t = nsm (t + 1) (cfR D p (t + 1))
  have h := cfR_can (fun i => nsm (i + 1) (cfR D p (i + 1))) (p.length - 1) fun i h => by rw [cfR_out D (by omega), nsm_zero_r]
  exact congrFun h t
theorem derI_le (D : Desc) (p : List Int) : (derI D p).length ≤ p.length - 1 := by unfold derI; rw [canL_length]; exact cdeg_le _ _
theorem nsm_mod_D (D : Desc) (n : Nat) : nsm n (1 : R D) = nsm (n % D.p) 1 := by
  have h : n = n / D.p * D.p + n % D.p := by rw [Nat.mul_comm]; exact (Nat.div_add_mod n D.p).symm
  have h2 : nsm (n / D.p * D.p) (1 : R D) = 0 := nsm_dvd char_R ⟨n / D.p, Nat.mul_comm _ _⟩ 1
  rw [h, nsm_add, h2, zero_add, ← h]
theorem eli_mod (D : Desc) (n : Nat) : eli D ((n % D.p : Nat) : Int) = nsm n 1 := by
  have hp := D.p2
  have hm := D.m1
  have h1 : n % D.p < D.p := Nat.mod_lt _ (by omega)
  have h2 : D.p ≤ D.q := by
    have : D.p ^ 1 ≤ D.p ^ D.m := Nat.pow_le_pow_right (by omega) hm
    rw [Nat.pow_one] at this
    exact this
  have h3 : eli D ((n % D.p : Nat) : Int) = rel D (n % D.p) := by
    unfold eli
    rw [if_pos ⟨by omega, by omega⟩]
    rfl
  rw [h3, nsm_mod_D D n]
  generalize n % D.p = k at h1
  refine R.ext' fun i hi => ?_
  rw [nsm_v, one_v hi]
  unfold rel
  rw [cut_v hi]
  by_cases e : i = 0
  · subst e
    rw [if_pos rfl, zp_nsm, Nat.pow_zero, Nat.div_one]
  · have h5 : k < D.p ^ i := by
      have : D.p ^ 1 ≤ D.p ^ i := Nat.pow_le_pow_right (by omega) (by omega)
      rw [Nat.pow_one] at this
      omega
    rw [if_neg e, nsm_zero_r, Nat.div_eq_of_lt h5, zp_zero]
end Go.Proofs.Ytakonlfojblcmaa

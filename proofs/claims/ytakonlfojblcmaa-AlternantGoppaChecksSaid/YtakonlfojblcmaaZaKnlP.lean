/- Plain: the dual spaces of sums, of interleaved words, of words (u, u + v). No Go here. Plain law of layer 19: the rational function of a word, and squarefree Goppa polynomials in characteristic 2. No Go here. Plain law of layer 19: words over a subfield, their images, coordinates and traces. No Go here. Plain: the code of the words whose images meet checks over the greater field. No Go here. -/
import Derived.Test.YtakonlfojblcmaaZaEmb
import Derived.Test.YtakonlfojblcmaaZaBasL
import Derived.Test.YtakonlfojblcmaaZaNrm
import Derived.Test.YtakonlfojblcmaaZaNulP
import Derived.Test.YtakonlfojblcmaaZaCodP
import Derived.Test.YtakonlfojblcmaaZaPlyP
import Derived.Test.YtakonlfojblcmaaZaPoR
import Derived.Test.YtakonlfojblcmaaZaApR
namespace Cw
theorem npv_step {p : Nat → Nat} {r m : Nat} : npv p (r + 1) m = (npv p r m).filter fun c => c != p r := by
  unfold npv
  rw [List.filter_filter]
  refine List.filter_congr fun c _ => ?_
  by_cases h : ∃ i, i < r ∧ p i = c
  · have h2 : ∃ i, i < r + 1 ∧ p i = c := by obtain ⟨i, h1, e⟩ := h; exact ⟨i, by omega, e⟩
    simp [h, h2]
  · by_cases e : p r = c
    · have h2 : ∃ i, i < r + 1 ∧ p i = c := ⟨r, by omega, e⟩
      subst e
      simp [h2]
    · have h2 : ¬ ∃ i, i < r + 1 ∧ p i = c := fun ⟨i, h1, e1⟩ => h ⟨i, by
        by_cases g : i = r
        · subst g; exact absurd e1 e
        · omega, e1⟩
      have e2 : (c != p r) = true := by rw [bne_iff_ne]; exact fun g => e g.symm
      simp only [h, h2, e2, decide_false, Bool.not_false, Bool.and_self]
theorem npv_len {p : Nat → Nat} {m : Nat} : ∀ r, (∀ i, i < r → p i < m) → (∀ i j, i < r → j < r → p i = p j → i = j) → (npv p r m).length + r = m
  | 0, _, _ => by
    have e : npv p 0 m = List.range m := by
      unfold npv
      refine List.filter_eq_self.2 fun c _ => ?_
      simp
    rw [e, List.length_range]; rfl
  | r + 1, h1, h2 => by
    have ih := npv_len r (fun i hi => h1 i (by omega)) (fun i j hi hj e => h2 i j (by omega) (by omega) e)
    have hm : p r ∈ npv p r m := npv_mem.2 ⟨h1 r (by omega), fun i hi e => by have := h2 i r (by omega) (by omega) e; omega⟩
    have h3 : (npv p (r + 1) m).length + 1 = (npv p r m).length := by
      rw [npv_step, ← List.Nodup.erase_eq_filter (npv_nodup p r m), List.length_erase_of_mem hm]
      have := List.length_pos_of_mem hm
      omega
    omega
end Cw
namespace Cw
open Go.Proofs.Ytakonlfojblcmaa (joinF)
open Go.Proofs.Ytakonlfojblcmaa (stackR sumR ploR stackR_lo stackR_hi)
section
variable {F : Type} [CField F]
theorem orth_stack {K1 K2 m : Nat} {A B : Nat → Nat → F} {u : Nat → F} : Orth (K1 + K2) m (stackR K1 A B) u ↔ Orth K1 m A u ∧ Orth K2 m B u := by
  constructor
  · intro h
    refine ⟨fun i hi => ?_, fun i hi => ?_⟩
    · have h1 := h i (by omega); rw [stackR_lo A B hi] at h1; exact h1
    · have h1 := h (K1 + i) (by omega); rw [stackR_hi A B] at h1; exact h1
  · rintro ⟨h1, h2⟩ i hi
    by_cases g : i < K1
    · rw [stackR_lo A B g]; exact h1 i g
    · have h3 := h2 (i - K1) (by omega)
      rw [← stackR_hi A B (K := K1), show K1 + (i - K1) = i by omega] at h3
      exact h3
/-- D spans the words orthogonal to A. -/
def DualM (K' K m : Nat) (D A : Nat → Nat → F) : Prop := ∀ u, Span K' m D u ↔ Orth K m A u
theorem DualM.same {K' K K2 m : Nat} {D A B : Nat → Nat → F} (h : DualM K' K m D A) (hs : SameSpan K2 K m B A) : DualM K' K2 m D B := fun u => (h u).trans (Orth.same hs u).symm
end
end Cw

namespace Cw
section
variable {R : Type} [CRing R]
theorem nsm_zero_r (n : Nat) : nsm n (0 : R) = 0 := by rw [nsm_mul, mul_zero]
/-- The formal derivative. -/
def Pl.D (a : Pl R) : Pl R := ⟨fun t => nsm (t + 1) (a.c (t + 1)), by
  obtain ⟨n, hn⟩ := a.fin
  exact ⟨n, fun t ht => by dsimp only; rw [hn (t + 1) (by omega), nsm_zero_r]⟩⟩
theorem pl_D (a : Pl R) (t : Nat) : a.D.c t = nsm (t + 1) (a.c (t + 1)) := rfl
/-- The product of the linear factors, and the numerator. -/
def hP : List (R × R) → Pl R
  | [] => 1
  | (x, _) :: l => Pl.lin x * hP l
end
section
variable {F : Type} [CField F]
open CField (inv)
end
end Cw

namespace Go.Proofs.Ytakonlfojblcmaa
open Go.RowKit Cw
open Cw.CField (inv)
section
variable {S F : FD} {r : R F.toDesc}
theorem char_two (hp : S.p = F.p) : nsm S.p (1 : R F.toDesc) = 0 := by rw [hp]; exact char_R
/-- Each element of the subfield is an image. -/
theorem phi_onto (hp : S.p = F.p) (h0 : muV S F r = 0) {y : R F.toDesc} (hy : InSub S.m y) : ∃ u : R S.toDesc, phi S F r u = y := by
  refine Classical.byContradiction fun hno => ?_
  have hc := char_two (S := S) (F := F) hp
  have hq : S.q = F.p ^ S.m := by rw [← hp]; rfl
  have h2 := S.toDesc.q2
  have hfix : ∀ x : R F.toDesc, InSub S.m x → pw x S.q = x := fun x hx => by
    have h3 : pw x (F.p ^ S.m) = x := hx
    rw [← hq] at h3; exact h3
  have ha : ∀ i, InSub S.m (if i < S.q then phi S F r (rel S.toDesc i) else y) := fun i => by
    by_cases e : i < S.q
    · rw [if_pos e]; exact phi_sub hp hc h0 _
    · rw [if_neg e]; exact hy
  have key := rsum_roots (n := S.q + 1) (f := fun i => if i = S.q then (1 : R F.toDesc) else if i = 1 then -1 else 0) (a := fun i => if i < S.q then phi S F r (rel S.toDesc i) else y)
    (fun i j hi hj e => by
      by_cases g1 : i < S.q
      · by_cases g2 : j < S.q
        · rw [if_pos g1, if_pos g2] at e
          have h3 := congrArg rcode (phi_inj hc h0 e)
          rw [rcode_rel g1, rcode_rel g2] at h3
          exact h3
        · rw [if_pos g1, if_neg g2] at e
          exact absurd ⟨_, e⟩ hno
      · by_cases g2 : j < S.q
        · rw [if_neg g1, if_pos g2] at e
          exact absurd ⟨_, e.symm⟩ hno
        · omega)
    (fun k _ => by
      have h3 := hfix _ (ha k)
      generalize (if k < S.q then phi S F r (rel S.toDesc k) else y) = x at h3 ⊢
      rw [rsum_succ, if_pos rfl, one_mul, rsum_single (k := 1) (by omega) fun i hi hne => by rw [if_neg (by omega), if_neg hne, zero_mul]]
      rw [if_neg (by omega), if_pos rfl, pw_one, neg_mul, one_mul, h3, neg_add]) (i := S.q) (by omega)
  rw [if_pos rfl] at key
  exact one_ne key
open Classical in
/-- The element whose image is y; 0 for the others. -/
noncomputable def bk (S F : FD) (r : R F.toDesc) (y : R F.toDesc) : R S.toDesc := if h : ∃ u, phi S F r u = y then Classical.choose h else 0
theorem bk_phi (hp : S.p = F.p) (h0 : muV S F r = 0) (u : R S.toDesc) : bk S F r (phi S F r u) = u := by
  have h : ∃ u', phi S F r u' = phi S F r u := ⟨u, rfl⟩
  unfold bk
  rw [dif_pos h]
  exact phi_inj (char_two hp) h0 (Classical.choose_spec h)
theorem phi_bk (hp : S.p = F.p) (h0 : muV S F r = 0) {y : R F.toDesc} (hy : InSub S.m y) : phi S F r (bk S F r y) = y := by
  have h := phi_onto hp h0 hy
  unfold bk
  rw [dif_pos h]
  exact Classical.choose_spec h
theorem bk_out {y : R F.toDesc} (h : ¬ ∃ u, phi S F r u = y) : bk S F r y = 0 := by unfold bk; rw [dif_neg h]
theorem phi_eq_zero (hp : S.p = F.p) (h0 : muV S F r = 0) {u : R S.toDesc} : phi S F r u = 0 ↔ u = 0 := by
  refine ⟨fun h => phi_inj (char_two hp) h0 (h.trans (phi_zero r).symm), fun h => by rw [h, phi_zero]⟩
/-- A sum with images is 0 just if those of the coordinates are. -/
theorem row_iff (hp : S.p = F.p) (h0 : muV S F r = 0) {n N : Nat} {b : Nat → R F.toDesc} (hI : IndS S.m n b) {h : Nat → R F.toDesc} {c : Nat → Nat → R F.toDesc}
    (hc : ∀ j, j < N → (∀ t, t < n → InSub S.m (c j t)) ∧ rsum n (fun t => c j t * b t) = h j) (u : Nat → R S.toDesc) :
    rsum N (fun j => h j * phi S F r (u j)) = 0 ↔ ∀ t, t < n → rsum N (fun j => bk S F r (c j t) * u j) = 0 := by
  have hcc := char_two (S := S) (F := F) hp
  have e1 : ∀ t, t < n → phi S F r (rsum N fun j => bk S F r (c j t) * u j) = rsum N fun j => c j t * phi S F r (u j) := fun t ht => by
    rw [phi_rsum hp]
    exact rsum_congr fun j hj => by rw [phi_mul hcc h0, phi_bk hp h0 ((hc j hj).1 t ht)]
  have e2 : rsum N (fun j => h j * phi S F r (u j)) = rsum n fun t => (rsum N fun j => c j t * phi S F r (u j)) * b t := by
    rw [rsum_congr (g := fun j => rsum n fun t => c j t * phi S F r (u j) * b t) fun j hj => by
      rw [← (hc j hj).2, ← rsum_mul_right]
      exact rsum_congr fun t _ => by ac_rfl, rsum_swap]
    exact rsum_congr fun t _ => rsum_mul_right _ _ _
  rw [e2]
  constructor
  · intro hz t ht
    have h1 := hI _ (fun t ht => InSub.rsum fun j hj => ((hc j hj).1 t ht).mul (phi_sub hp hcc h0 _)) hz t ht
    exact (phi_eq_zero hp h0).1 ((e1 t ht).trans h1)
  · intro hz
    exact rsum_eq_zero fun t ht => by rw [← e1 t ht, hz t ht, phi_zero, zero_mul]
end
end Go.Proofs.Ytakonlfojblcmaa
namespace Cw
section
variable {F : Type} [CField F]
end
end Cw

namespace Go.Proofs.Ytakonlfojblcmaa
open Go.RowKit Cw
section
variable {S F : FD} {r : R F.toDesc} {N t k n : Nat} {h : Nat → Nat → R F.toDesc} {E : Nat → Nat → R S.toDesc}
/-- The word's image meets the first t checks. -/
def Meets (S F : FD) (r : R F.toDesc) (N t : Nat) (h : Nat → Nat → R F.toDesc) (u : Nat → R S.toDesc) : Prop := ∀ i, i < t → rsum N (fun j => h i j * phi S F r (u j)) = 0
/-- The rows E tell the words that meet the first t checks. -/
def Tells (S F : FD) (r : R F.toDesc) (N t : Nat) (h : Nat → Nat → R F.toDesc) (k : Nat) (E : Nat → Nat → R S.toDesc) : Prop := ∀ u, Orth k N E u ↔ Meets S F r N t h u
theorem Tells.zero (S F : FD) (r : R F.toDesc) (N : Nat) (h : Nat → Nat → R F.toDesc) (E : Nat → Nat → R S.toDesc) : Tells S F r N 0 h 0 E := fun _ => ⟨fun _ i hi => absurd hi (Nat.not_lt_zero i), fun _ i hi => absurd hi (Nat.not_lt_zero i)⟩
/-- The coordinates, a row for each element of the basis. -/
noncomputable def lineM (S F : FD) (r : R F.toDesc) (c : Nat → Nat → R F.toDesc) : Nat → Nat → R S.toDesc := fun i j => bk S F r (c j i)
theorem Meets.succ (u : Nat → R S.toDesc) : Meets S F r N (t + 1) h u ↔ Meets S F r N t h u ∧ rsum N (fun j => h t j * phi S F r (u j)) = 0 := by
  constructor
  · intro g
    exact ⟨fun i hi => g i (by omega), g t (by omega)⟩
  · rintro ⟨g1, g2⟩ i hi
    by_cases e : i = t
    · subst e; exact g2
    · exact g1 i (by omega)
theorem Tells.step (hp : S.p = F.p) (h0 : muV S F r = 0) {b : Nat → R F.toDesc} (hI : IndS S.m n b) (hT : Tells S F r N t h k E) {c : Nat → Nat → R F.toDesc}
    (hc : ∀ j, j < N → (∀ i, i < n → InSub S.m (c j i)) ∧ rsum n (fun i => c j i * b i) = h t j) :
    Tells S F r N (t + 1) h (rkS S (k + n) N (stackR k E (lineM S F r c))) (elS (k + n) (stackR k E (lineM S F r c)) N).1 := fun u => by
  have h1 : Orth (rkS S (k + n) N (stackR k E (lineM S F r c))) N (elS (k + n) (stackR k E (lineM S F r c)) N).1 u ↔ Orth (k + n) N (stackR k E (lineM S F r c)) u := Orth.same (elS_span (k + n) N (stackR k E (lineM S F r c))) u
  rw [h1, orth_stack, hT u, Meets.succ, row_iff hp h0 hI hc u]
  exact Iff.rfl
/-- The code that such rows tell. -/
noncomputable def kerK (S : FD) (k N : Nat) (E : Nat → Nat → R S.toDesc) : Nat := (npv (pvF (elS k E N).2) (rkS S k N E) N).length
noncomputable def kerM (S : FD) (k N : Nat) (E : Nat → Nat → R S.toDesc) : Nat → Nat → R S.toDesc := (elS (kerK S k N E) (nulM (rkS S k N E) N (pvF (elS k E N).2) (elS k E N).1) N).1
theorem kerK_le (S : FD) (k N : Nat) (E : Nat → Nat → R S.toDesc) : kerK S k N E ≤ N := by
  have h := List.length_filter_le (fun c => !decide (∃ i, i < rkS S k N E ∧ pvF (elS k E N).2 i = c)) (List.range N)
  rw [List.length_range] at h; exact h
theorem Tells.code (hT : Tells S F r N t h k E) (u : Nat → R S.toDesc) :
    Span (rkS S (kerK S k N E) N (kerM S k N E)) N (elS (kerK S k N E) (kerM S k N E) N).1 u ↔ Meets S F r N t h u := by
  have h1 := same_iff (elS_span (kerK S k N E) N (kerM S k N E)) u
  have hr : rkS S (kerK S k N E) N (nulM (rkS S k N E) N (pvF (elS k E N).2) (elS k E N).1) = kerK S k N E := elS_rank nul_indep
  have h2 := elS_span (kerK S k N E) N (nulM (rkS S k N E) N (pvF (elS k E N).2) (elS k E N).1)
  rw [show (elS (kerK S k N E) (nulM (rkS S k N E) N (pvF (elS k E N).2) (elS k E N).1) N).2.length = kerK S k N E from hr] at h2
  have h3 : Span (kerK S k N E) N (kerM S k N E) u ↔ _ := same_iff h2 u
  have h4 := nul_iff (elS_RR k N E) u
  have h5 : Orth (rkS S k N E) N (elS k E N).1 u ↔ Orth k N E u := Orth.same (elS_span k N E) u
  exact h1.trans (h3.trans (h4.trans (h5.trans (hT u))))
theorem ker_dim {T : Nat} (hk : k ≤ T) : N ≤ rkS S (kerK S k N E) N (kerM S k N E) + T := by
  have hr : rkS S (kerK S k N E) N (nulM (rkS S k N E) N (pvF (elS k E N).2) (elS k E N).1) = kerK S k N E := elS_rank nul_indep
  have hc := canl_elS S (kerK S k N E) N (nulM (rkS S k N E) N (pvF (elS k E N).2) (elS k E N).1)
  rw [hr] at hc
  have h1 : rkS S (kerK S k N E) N (kerM S k N E) = kerK S k N E := hc.1
  have hR := elS_RR k N E
  have h2 : kerK S k N E + rkS S k N E = N := npv_len (m := N) _ hR.lt hR.inj
  have h3 : rkS S k N E ≤ k := (elS_le k E N).1
  omega
end
end Go.Proofs.Ytakonlfojblcmaa

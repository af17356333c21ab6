/- Plain law of layer 19: words over a subfield, their images, coordinates and traces. No Go here. Plain: the code of the words whose images meet checks over the greater field. No Go here. Plain: the example of layer 19, a Goppa code of 4 words. No Go here. -/
import Derived.Test.YtakonlfojblcmaaGreatZbBasL
import Derived.Test.YtakonlfojblcmaaGreatZbNrm
import Derived.Test.YtakonlfojblcmaaGreatZbDsS
import Derived.Test.YtakonlfojblcmaaGreatZbPoR
import Derived.Test.YtakonlfojblcmaaGreatZbKer
import Derived.Test.YtakonlfojblcmaaGreatZbGcdP
namespace Go.Proofs.YtakonlfojblcmaaGreat
open Go.RowKit Cw
open Cw.CField (inv)
section
variable {S F : FD} {r : R F.toDesc}
theorem char_two (hp : S.p = F.p) : nsm S.p (1 : R F.toDesc) = 0 := by rw [hp]; exact char_R
theorem phi_onto (hp : S.p = F.p) (h0 : muV S F r = 0) {y : R F.toDesc} (hy : InSub S.m y) : ∃ u : R S.toDesc, phi S F r u = y := by
 refine Classical.byContradiction fun hno => ?_
 have hc := char_two (S := S) (F := F) hp
 have hq : S.q = F.p ^ S.m := by rw [← hp]; rfl
 have h2 := S.toDesc.q2
 have hfix : ∀ x : R F.toDesc, InSub S.m x → pw x S.q = x := fun x hx => by
  have h3 : pw x (F.p ^ S.m) = x := hx
  rw [← hq] at h3; exact h3
 have ha : ∀ i, InSub S.m (if i < S.q then phi S F r (rel S.toDesc i) else y) := fun i => by
  by_cases e : i < S.q
  ·rw [if_pos e]; exact phi_sub hp hc h0 _
  ·rw [if_neg e]; exact hy
 have key := rsum_roots (n := S.q + 1) (f := fun i => if i = S.q then (1 : R F.toDesc) else if i = 1 then -1 else 0) (a := fun i => if i < S.q then phi S F r (rel S.toDesc i) else y)
  (fun i j hi hj e => by
   by_cases g1 : i < S.q
   ·by_cases g2 : j < S.q
    ·rw [if_pos g1, if_pos g2] at e
     have h3 := congrArg rcode (phi_inj hc h0 e)
     rw [rcode_rel g1, rcode_rel g2] at h3
     exact h3
    ·rw [if_pos g1, if_neg g2] at e
     exact absurd ⟨_, e⟩ hno
   ·by_cases g2 : j < S.q
    ·rw [if_neg g1, if_pos g2] at e
     exact absurd ⟨_, e.symm⟩ hno
    ·omega)
  (fun k _ => by
   have h3 := hfix _ (ha k)
   generalize (if k < S.q then phi S F r (rel S.toDesc k) else y) = x at h3 ⊢
   rw [rsum_succ, if_pos rfl, one_mul, rsum_single (k := 1) (by omega) fun i hi hne => by rw [if_neg (by omega), if_neg hne, zero_mul]]
   rw [if_neg (by omega), if_pos rfl, pw_one, neg_mul, one_mul, h3, neg_add]) (i := S.q) (by omega)
 rw [if_pos rfl] at key
 exact one_ne key
open Classical in
noncomputable def bk (S F : FD) (r : R F.toDesc) (y : R F.toDesc) : R S.toDesc := if h : ∃ u, phi S F r u = y then Classical.choose h else 0
theorem bk_phi (hp : S.p = F.p) (h0 : muV S F r = 0) (u : R S.toDesc) : bk S F r (phi S F r u) = u := by
 have h : ∃ u', phi S F r u' = phi S F r u := ⟨u, rfl⟩
 unfold bk
 rw [dif_pos h]
 exact phi_inj (char_two hp) h0 (Classical.choose_spec h)
theorem phi_bk (hp : S.p = F.p) (h0 : muV S F r = 0) {y : R F.toDesc} (hy : InSub S.m y) : phi S F r (bk S F r y) = y := by
 have h := phi_onto hp h0 hy
 unfold bk
 rw [dif_pos h]
 exact Classical.choose_spec h
theorem bk_out {y : R F.toDesc} (h : ¬ ∃ u, phi S F r u = y) : bk S F r y = 0 := by unfold bk; rw [dif_neg h]
theorem phi_eq_zero (hp : S.p = F.p) (h0 : muV S F r = 0) {u : R S.toDesc} : phi S F r u = 0 ↔ u = 0 := by
 refine ⟨fun h => phi_inj (char_two hp) h0 (h.trans (phi_zero r).symm), fun h => by rw [h, phi_zero]⟩
theorem row_iff (hp : S.p = F.p) (h0 : muV S F r = 0) {n N : Nat} {b : Nat → R F.toDesc} (hI : IndS S.m n b) {h : Nat → R F.toDesc} {c : Nat → Nat → R F.toDesc}
  (hc : ∀ j, j < N → (∀ t, t < n → InSub S.m (c j t)) ∧ rsum n (fun t => c j t * b t) = h j) (u : Nat → R S.toDesc) :
  rsum N (fun j => h j * phi S F r (u j)) = 0 ↔ ∀ t, t < n → rsum N (fun j => bk S F r (c j t) * u j) = 0 := by
 have hcc := char_two (S := S) (F := F) hp
 have e1 : ∀ t, t < n → phi S F r (rsum N fun j => bk S F r (c j t) * u j) = rsum N fun j => c j t * phi S F r (u j) := fun t ht => by
  rw [phi_rsum hp]
  exact rsum_congr fun j hj => by rw [phi_mul hcc h0, phi_bk hp h0 ((hc j hj).1 t ht)]
 have e2 : rsum N (fun j => h j * phi S F r (u j)) = rsum n fun t => (rsum N fun j => c j t * phi S F r (u j)) * b t := by
  rw [rsum_congr (g := fun j => rsum n fun t => c j t * phi S F r (u j) * b t) fun j hj => by
   rw [← (hc j hj).2, ← rsum_mul_right]
   exact rsum_congr fun t _ => by ac_rfl, rsum_swap]
  exact rsum_congr fun t _ => rsum_mul_right _ _ _
 rw [e2]
 constructor
 ·intro hz t ht
  have h1 := hI _ (fun t ht => InSub.rsum fun j hj => ((hc j hj).1 t ht).mul (phi_sub hp hcc h0 _)) hz t ht
  exact (phi_eq_zero hp h0).1 ((e1 t ht).trans h1)
 ·intro hz
  exact rsum_eq_zero fun t ht => by rw [← e1 t ht, hz t ht, phi_zero, zero_mul]
end
end Go.Proofs.YtakonlfojblcmaaGreat
namespace Cw
section
variable {F : Type} [CField F]
theorem hP_ev : ∀ (l : List (F × F)) (x : F), (hP l).ev x = 0 ↔ ∃ a ∈ l, a.1 = x
 | [], x => by
  show (1 : Pl F).ev x = 0 ↔ _
  rw [show (1 : Pl F) = Pl.k 1 from rfl, ev_k]
  exact ⟨fun h => absurd h one_ne, fun ⟨a, h, _⟩ => by cases h⟩
 | (y, v) :: l, x => by
  show (Pl.lin y * hP l).ev x = 0 ↔ _
  rw [ev_mul, ev_lin]
  constructor
  ·intro h
   rcases mul_eq_zero h with e | e
   ·exact ⟨(y, v), List.mem_cons_self .., (sub_eq_zero e).symm⟩
   ·obtain ⟨a, h1, h2⟩ := (hP_ev l x).1 e
    exact ⟨a, List.mem_cons_of_mem _ h1, h2⟩
  ·rintro ⟨a, h1, h2⟩
   rcases List.mem_cons.1 h1 with e | e
   ·rw [e] at h2
    rw [show y = x from h2, sub_self, zero_mul]
   ·rw [(hP_ev l x).2 ⟨a, e, h2⟩, mul_zero]
theorem hP_lt : ∀ l : List (F × F), (hP l).lt (l.length + 1)
 | [] => fun t ht => if_neg (by simp at ht; omega)
 | (y, v) :: l => fun t ht => by
  have ih := hP_lt l
  rw [List.length_cons] at ht
  show (Pl.lin y * hP l).c t = 0
  rw [pl_lin_mul, if_neg (by omega), ih (t - 1) (by omega), ih t (by omega), mul_zero, sub_zero]
theorem van_weight {N t : Nat} {x y u : Nat → F} (hinj : ∀ i j, i < N → j < N → x i = x j → i = j) (hy : ∀ j, j < N → y j ≠ 0) (h : ∀ i, i < t → rsum N (fun j => y j * pw (x j) i * u j) = 0) (p : Nat → Bool) (hp : ∀ j, j < N → (p j = false → u j = 0))
  {j0 : Nat} (hj0 : j0 < N) (hu : u j0 ≠ 0) : t + 1 ≤ ((List.range N).filter p).length := by
 refine Classical.byContradiction fun hlt => ?_
 have hm0 : j0 ∈ (List.range N).filter p := List.mem_filter.2 ⟨List.mem_range.2 hj0, by
  cases e : p j0 with
  | true => rfl
  | false => exact absurd (hp j0 hj0 e) hu⟩
 obtain ⟨T, hT⟩ : ∃ T, T = (((List.range N).filter p).erase j0) := ⟨_, rfl⟩
 have hl : T.length + 1 = ((List.range N).filter p).length := by
  rw [hT, List.length_erase_of_mem hm0]
  have := List.length_pos_of_mem hm0
  omega
 have hnd : ((List.range N).filter p).Nodup := List.Pairwise.filter _ List.nodup_range
 obtain ⟨f, hf⟩ : ∃ f, f = hP (T.map fun j => (x j, (1 : F))) := ⟨_, rfl⟩
 have hft : f.lt t := by
  have h1 := hP_lt (T.map fun j => (x j, (1 : F)))
  rw [List.length_map, ← hf] at h1
  exact LtD.mono h1 (by omega)
 have e1 : rsum N (fun j => y j * u j * f.ev (x j)) = 0 := by
  rw [rsum_congr (g := fun j => rsum t fun i => f.c i * (y j * pw (x j) i * u j)) fun j _ => by
   rw [pl_ev hft]
   unfold vl
   rw [← rsum_mul_left]
   exact rsum_congr fun i _ => by ac_rfl, rsum_swap]
  exact rsum_eq_zero fun i hi => by rw [rsum_mul_left, h i hi, mul_zero]
 rw [rsum_single (k := j0) hj0 fun j hj hne => ?_] at e1
 ·rcases mul_eq_zero e1 with e | e
  ·exact mul_ne_zero (hy j0 hj0) hu e
  ·rw [hf] at e
   obtain ⟨a, h1, h2⟩ := (hP_ev _ _).1 e
   obtain ⟨j, hj, rfl⟩ := List.mem_map.1 h1
   rw [hT, hnd.mem_erase_iff] at hj
   exact hj.1 (hinj j j0 (List.mem_range.1 (List.mem_filter.1 hj.2).1) hj0 h2)
 ·cases e : p j with
  | false => rw [hp j hj e, mul_zero, zero_mul]
  | true =>
   have h3 : f.ev (x j) = 0 := by
    rw [hf]
    refine (hP_ev _ _).2 ⟨(x j, 1), List.mem_map.2 ⟨j, ?_, rfl⟩, rfl⟩
    rw [hT, hnd.mem_erase_iff]
    exact ⟨hne, List.mem_filter.2 ⟨List.mem_range.2 hj, e⟩⟩
   rw [h3, mul_zero]
end
end Cw

namespace Go.Proofs.YtakonlfojblcmaaGreat
open Go.RowKit Cw
section
variable {S F : FD} {r : R F.toDesc} {N t k n : Nat} {h : Nat → Nat → R F.toDesc} {E : Nat → Nat → R S.toDesc}
def Meets (S F : FD) (r : R F.toDesc) (N t : Nat) (h : Nat → Nat → R F.toDesc) (u : Nat → R S.toDesc) : Prop := ∀ i, i < t → rsum N (fun j => h i j * phi S F r (u j)) = 0
def Tells (S F : FD) (r : R F.toDesc) (N t : Nat) (h : Nat → Nat → R F.toDesc) (k : Nat) (E : Nat → Nat → R S.toDesc) : Prop := ∀ u, Orth k N E u ↔ Meets S F r N t h u
theorem Tells.zero (S F : FD) (r : R F.toDesc) (N : Nat) (h : Nat → Nat → R F.toDesc) (E : Nat → Nat → R S.toDesc) : Tells S F r N 0 h 0 E := fun _ => ⟨fun _ i hi => absurd hi (Nat.not_lt_zero i), fun _ i hi => absurd hi (Nat.not_lt_zero i)⟩
noncomputable def lineM (S F : FD) (r : R F.toDesc) (c : Nat → Nat → R F.toDesc) : Nat → Nat → R S.toDesc := fun i j => bk S F r (c j i)
theorem Meets.succ (u : Nat → R S.toDesc) : Meets S F r N (t + 1) h u ↔ Meets S F r N t h u ∧ rsum N (fun j => h t j * phi S F r (u j)) = 0 := by
 constructor
 ·intro g
  exact ⟨fun i hi => g i (by omega), g t (by omega)⟩
 ·rintro ⟨g1, g2⟩ i hi
  by_cases e : i = t
  ·subst e; exact g2
  ·exact g1 i (by omega)
theorem Tells.step (hp : S.p = F.p) (h0 : muV S F r = 0) {b : Nat → R F.toDesc} (hI : IndS S.m n b) (hT : Tells S F r N t h k E) {c : Nat → Nat → R F.toDesc}
  (hc : ∀ j, j < N → (∀ i, i < n → InSub S.m (c j i)) ∧ rsum n (fun i => c j i * b i) = h t j) :
  Tells S F r N (t + 1) h (rkS S (k + n) N (stackR k E (lineM S F r c))) (elS (k + n) (stackR k E (lineM S F r c)) N).1 := fun u => by
 have h1 : Orth (rkS S (k + n) N (stackR k E (lineM S F r c))) N (elS (k + n) (stackR k E (lineM S F r c)) N).1 u ↔ Orth (k + n) N (stackR k E (lineM S F r c)) u := Orth.same (elS_span (k + n) N (stackR k E (lineM S F r c))) u
 rw [h1, orth_stack, hT u, Meets.succ, row_iff hp h0 hI hc u]
 exact Iff.rfl
noncomputable def kerK (S : FD) (k N : Nat) (E : Nat → Nat → R S.toDesc) : Nat := (npv (pvF (elS k E N).2) (rkS S k N E) N).length
noncomputable def kerM (S : FD) (k N : Nat) (E : Nat → Nat → R S.toDesc) : Nat → Nat → R S.toDesc := (elS (kerK S k N E) (nulM (rkS S k N E) N (pvF (elS k E N).2) (elS k E N).1) N).1
theorem kerK_le (S : FD) (k N : Nat) (E : Nat → Nat → R S.toDesc) : kerK S k N E ≤ N := by
 have h := List.length_filter_le (fun c => !decide (∃ i, i < rkS S k N E ∧ pvF (elS k E N).2 i = c)) (List.range N)
 rw [List.length_range] at h; exact h
theorem Tells.code (hT : Tells S F r N t h k E) (u : Nat → R S.toDesc) :
  Span (rkS S (kerK S k N E) N (kerM S k N E)) N (elS (kerK S k N E) (kerM S k N E) N).1 u ↔ Meets S F r N t h u := by
 have h1 := same_iff (elS_span (kerK S k N E) N (kerM S k N E)) u
 have hr : rkS S (kerK S k N E) N (nulM (rkS S k N E) N (pvF (elS k E N).2) (elS k E N).1) = kerK S k N E := elS_rank nul_indep
 have h2 := elS_span (kerK S k N E) N (nulM (rkS S k N E) N (pvF (elS k E N).2) (elS k E N).1)
 rw [show (elS (kerK S k N E) (nulM (rkS S k N E) N (pvF (elS k E N).2) (elS k E N).1) N).2.length = kerK S k N E from hr] at h2
 have h3 : Span (kerK S k N E) N (kerM S k N E) u ↔ _ := same_iff h2 u
 have h4 := nul_iff (elS_RR k N E) u
 have h5 : Orth (rkS S k N E) N (elS k E N).1 u ↔ Orth k N E u := Orth.same (elS_span k N E) u
 exact h1.trans (h3.trans (h4.trans (h5.trans (hT u))))
theorem ker_dim {T : Nat} (hk : k ≤ T) : N ≤ rkS S (kerK S k N E) N (kerM S k N E) + T := by
 have hr : rkS S (kerK S k N E) N (nulM (rkS S k N E) N (pvF (elS k E N).2) (elS k E N).1) = kerK S k N E := elS_rank nul_indep
 have hc := canl_elS S (kerK S k N E) N (nulM (rkS S k N E) N (pvF (elS k E N).2) (elS k E N).1)
 rw [hr] at hc
 have h1 : rkS S (kerK S k N E) N (kerM S k N E) = kerK S k N E := hc.1
 have hR := elS_RR k N E
 have h2 : kerK S k N E + rkS S k N E = N := npv_len (m := N) _ hR.lt hR.inj
 have h3 : rkS S k N E ≤ k := (elS_le k E N).1
 omega
end
end Go.Proofs.YtakonlfojblcmaaGreat

namespace Go.Proofs.YtakonlfojblcmaaGreat
open Go.RowKit Cw
open Cw.CField (inv)
noncomputable def gopM (F : FD) (poly pts : List Int) : Nat → Nat → R F.toDesc := fun i j => pw (eli F.toDesc (pts[j]?.getD 0)) i * inv (pevI F.toDesc poly (eli F.toDesc (pts[j]?.getD 0)))
def D2 : Desc where
 p := 2
 m := 1
 mod := []
 hp := prime_dec (by decide) (by decide)
 m1 := by decide
 m8 := by decide
 hq := by decide
 hlen := by decide
 hmod := fun j => by simp
theorem qpos19 (D : Desc) : 0 < D.q := by have := D.q2; omega
theorem good2 : Good D2.p D2.m (modL D2) := ⟨D2, rfl, rfl, rfl, .inl rfl⟩
theorem good8 : Good E2_3.p E2_3.m (modL E2_3) := ⟨E2_3, rfl, rfl, rfl, .inr E2_3_irr⟩
def pts19 : List Int := [0, 1, 2, 3, 4, 5, 6, 7]
def alIv : List Nat := [1, 1, 4, 4, 6, 6, 2, 2]
def alH : List (List Nat) := [[1, 1, 4, 4, 6, 6, 2, 2], [0, 1, 3, 7, 5, 3, 7, 5]]
def tB (l : List Nat) (i : Nat) : Bool := decide (rcode (rsum 8 fun j => rel E2_3 (((alH.getD i []).getD j 0) * l.getD j 0)) = 0)
def al0 : List Nat := [0, 0, 0, 0, 0, 0, 0, 0]
def al1 : List Nat := [1, 1, 1, 0, 1, 0, 1, 0]
def al2 : List Nat := [1, 1, 0, 1, 0, 1, 0, 1]
def al3 : List Nat := [0, 0, 1, 1, 1, 1, 1, 1]
def alB (l : List Nat) : Bool := !(tB l 0 && tB l 1) || (decide (l = al0) || decide (l = al1) || decide (l = al2) || decide (l = al3))
theorem key19 : ∀ b0 b1 b2 b3 b4 b5 b6 b7 : Fin 2, alB [b0.val, b1.val, b2.val, b3.val, b4.val, b5.val, b6.val, b7.val] = true := by decide +kernel
theorem in1 : ∀ i : Fin 2, tB al1 i.val = true := by decide +kernel
theorem in2 : ∀ i : Fin 2, tB al2 i.val = true := by decide +kernel
theorem iv19 : ∀ j : Fin 8, rcode (pevI E2_3 [1, 1, 1] (eli E2_3 (pts19[j.val]?.getD 0)) * rel E2_3 (alIv.getD j.val 0)) = rcode (1 : R E2_3) := by decide +kernel
theorem h19 : ∀ i : Fin 2, ∀ j : Fin 8, rcode (pw (eli E2_3 (pts19[j.val]?.getD 0)) i.val * rel E2_3 (alIv.getD j.val 0)) = rcode (rel E2_3 ((alH.getD i.val []).getD j.val 0)) := by decide +kernel
theorem iv19D {D : Desc} (h : D = E2_3) (j : Fin 8) : rcode (pevI D [1, 1, 1] (eli D (pts19[j.val]?.getD 0)) * rel D (alIv.getD j.val 0)) = rcode (1 : R D) := by subst h; exact iv19 j
theorem h19D {D : Desc} (h : D = E2_3) (i : Fin 2) (j : Fin 8) : rcode (pw (eli D (pts19[j.val]?.getD 0)) i.val * rel D (alIv.getD j.val 0)) = rcode (rel D ((alH.getD i.val []).getD j.val 0)) := by subst h; exact h19 i j
theorem tBD {D : Desc} (h : D = E2_3) (l : List Nat) (i : Nat) : rsum 8 (fun j => rel D (((alH.getD i []).getD j 0) * l.getD j 0)) = 0 ↔ tB l i = true := by
 subst h
 unfold tB
 rw [decide_eq_true_iff]
 constructor
 ·intro g; rw [g]; exact rcode_zero
 ·intro g; exact rcode_inj (g.trans rcode_zero.symm)
theorem gopM19 {F : FD} (hF : F.toDesc = E2_3) {i j : Nat} (hi : i < 2) (hj : j < 8) : gopM F [1, 1, 1] pts19 i j = rel F.toDesc ((alH.getD i []).getD j 0) := by
 have h1 := rcode_inj (iv19D hF ⟨j, hj⟩)
 dsimp only at h1
 have h2 := rcode_inj (h19D hF ⟨i, hi⟩ ⟨j, hj⟩)
 dsimp only at h2
 unfold gopM
 rw [← inv_unique h1]
 exact h2
theorem bit_cases {D : Desc} (h : D = D2) (x : R D) : x = 0 ∧ rcode x = 0 ∨ x = 1 ∧ rcode x = 1 := by
 subst h
 have h : rcode x < 2 := rcode_lt x
 have h1 : rcode x = 0 ∨ rcode x = 1 := by omega
 rcases h1 with e | e
 ·exact .inl ⟨rcode_inj (e.trans rcode_zero.symm), e⟩
 ·exact .inr ⟨rcode_inj (e.trans rcode_one.symm), e⟩
theorem meets19 {S F : FD} (hS : S.toDesc = D2) (hF : F.toDesc = E2_3) (r : R F.toDesc) {u : Nat → R S.toDesc} {l : List Nat} (hl : ∀ j, j < 8 → rcode (u j) = l.getD j 0) :
  Meets S F r 8 2 (gopM F [1, 1, 1] pts19) u ↔ ∀ i : Fin 2, tB l i.val = true := by
 have key : ∀ i, i < 2 → (rsum 8 (fun j => gopM F [1, 1, 1] pts19 i j * phi S F r (u j)) = 0 ↔ tB l i = true) := fun i hi => by
  have e : rsum 8 (fun j => gopM F [1, 1, 1] pts19 i j * phi S F r (u j)) = rsum 8 fun j => rel F.toDesc (((alH.getD i []).getD j 0) * l.getD j 0) := rsum_congr fun j hj => by
   rw [gopM19 hF hi hj, ← hl j hj]
   rcases bit_cases hS (u j) with ⟨e1, e2⟩ | ⟨e1, e2⟩
   ·rw [e2, e1, phi_zero, mul_zero, Nat.mul_zero]
    exact (rcode_inj ((rcode_rel (qpos19 F.toDesc)).trans rcode_zero.symm)).symm
   ·rw [e2, e1, phi_one, mul_one, Nat.mul_one]
  rw [e]
  exact tBD hF l i
 constructor
 ·intro h i; exact (key i.val i.isLt).1 (h i.val i.isLt)
 ·intro h i hi; exact (key i hi).2 (h ⟨i, hi⟩)
def alC (D : Desc) : Nat → Nat → R D := fun i j => rel D ((if i = 0 then al1 else al2).getD j 0)
def finB (a b : Nat) (l : List Nat) : Bool := decide (∀ j : Fin 8, rcode (rel D2 (l.getD j.val 0)) = rcode (rel D2 a * alC D2 0 j.val + rel D2 b * alC D2 1 j.val))
theorem finD {D : Desc} (h : D = D2) {a b : Nat} {l : List Nat} (hb : finB a b l = true) (j : Fin 8) : rel D (l.getD j.val 0) = rel D a * alC D 0 j.val + rel D b * alC D 1 j.val := by
 subst h
 exact rcode_inj (of_decide_eq_true hb j)
theorem fin0 : finB 0 0 al0 = true := by decide +kernel
theorem fin1 : finB 1 0 al1 = true := by decide +kernel
theorem fin2 : finB 0 1 al2 = true := by decide +kernel
theorem fin3 : finB 1 1 al3 = true := by decide +kernel
theorem span19 {S F : FD} (hS : S.toDesc = D2) (hF : F.toDesc = E2_3) (r : R F.toDesc) (u : Nat → R S.toDesc) (h : Meets S F r 8 2 (gopM F [1, 1, 1] pts19) u) : Span 2 8 (alC S.toDesc) u := by
 have hlt : ∀ j, rcode (u j) < 2 := fun j => by rcases bit_cases hS (u j) with ⟨-, e⟩ | ⟨-, e⟩ <;> omega
 have h1 := (meets19 hS hF r (u := u) (l := [rcode (u 0), rcode (u 1), rcode (u 2), rcode (u 3), rcode (u 4), rcode (u 5), rcode (u 6), rcode (u 7)]) (fun j hj => by
  match j, hj with
  | 0, _ => rfl
  | 1, _ => rfl
  | 2, _ => rfl
  | 3, _ => rfl
  | 4, _ => rfl
  | 5, _ => rfl
  | 6, _ => rfl
  | 7, _ => rfl)).1 h
 have h2 := key19 ⟨_, hlt 0⟩ ⟨_, hlt 1⟩ ⟨_, hlt 2⟩ ⟨_, hlt 3⟩ ⟨_, hlt 4⟩ ⟨_, hlt 5⟩ ⟨_, hlt 6⟩ ⟨_, hlt 7⟩
 unfold alB at h2
 rw [show tB [rcode (u 0), rcode (u 1), rcode (u 2), rcode (u 3), rcode (u 4), rcode (u 5), rcode (u 6), rcode (u 7)] 0 = true from h1 0, show tB [rcode (u 0), rcode (u 1), rcode (u 2), rcode (u 3), rcode (u 4), rcode (u 5), rcode (u 6), rcode (u 7)] 1 = true from h1 1] at h2
 simp only [Bool.and_self, Bool.not_true, Bool.false_or, Bool.or_eq_true, decide_eq_true_eq] at h2
 have fin : ∀ (a b : Nat) (l : List Nat), finB a b l = true → [rcode (u 0), rcode (u 1), rcode (u 2), rcode (u 3), rcode (u 4), rcode (u 5), rcode (u 6), rcode (u 7)] = l → Span 2 8 (alC S.toDesc) u := fun a b l hd e => by
  refine ⟨fun i => if i = 0 then rel S.toDesc a else rel S.toDesc b, fun j hj => ?_⟩
  rw [rsum_succ, rsum_succ, rsum_zero, zero_add]
  dsimp only
  rw [if_pos rfl, if_neg (by omega)]
  refine Eq.trans ?_ (finD hS hd ⟨j, hj⟩)
  have e2 : rcode (u j) = l.getD j 0 := by
   rw [← e]
   match j, hj with
   | 0, _ => rfl
   | 1, _ => rfl
   | 2, _ => rfl
   | 3, _ => rfl
   | 4, _ => rfl
   | 5, _ => rfl
   | 6, _ => rfl
   | 7, _ => rfl
  show u j = rel S.toDesc (l.getD j 0)
  rw [← e2, rel_rcode]
 rcases h2 with ((e | e) | e) | e
 ·exact fin 0 0 al0 fin0 e
 ·exact fin 1 0 al1 fin1 e
 ·exact fin 0 1 al2 fin2 e
 ·exact fin 1 1 al3 fin3 e
theorem row19 {S F : FD} (hS : S.toDesc = D2) (hF : F.toDesc = E2_3) (r : R F.toDesc) {i : Nat} (hi : i < 2) : Meets S F r 8 2 (gopM F [1, 1, 1] pts19) (alC S.toDesc i) := by
 have hq : ∀ (l : List Nat), (∀ j : Fin 8, l.getD j.val 0 < 2) → ∀ j, j < 8 → rcode (rel S.toDesc (l.getD j 0)) = l.getD j 0 := fun l hl j hj => rcode_rel (by rw [hS]; exact hl ⟨j, hj⟩)
 by_cases e : i = 0
 ·subst e
  exact (meets19 hS hF r (u := alC S.toDesc 0) (l := al1) fun j hj => hq al1 (by decide) j hj).2 in1
 ·obtain rfl : i = 1 := by omega
  exact (meets19 hS hF r (u := alC S.toDesc 1) (l := al2) fun j hj => hq al2 (by decide) j hj).2 in2
theorem indep19 {S : FD} (hS : S.toDesc = D2) : Indep 2 8 (alC S.toDesc) := fun c hc i hi => by
 have h1 : ∀ n, n < 2 → n = 0 ∨ n = 1 := fun n h => by omega
 have e0 : rel S.toDesc 0 = 0 := rcode_inj ((rcode_rel (qpos19 S.toDesc)).trans rcode_zero.symm)
 have e1 : rel S.toDesc 1 = 1 := rcode_inj ((rcode_rel (by have := S.toDesc.q2; omega)).trans rcode_one.symm)
 have a := hc 2 (by omega)
 have b := hc 3 (by omega)
 rw [rsum_succ, rsum_succ, rsum_zero, zero_add] at a b
 rw [show alC S.toDesc 0 2 = 1 from e1, show alC S.toDesc 1 2 = 0 from e0, mul_one, mul_zero, add_zero] at a
 rw [show alC S.toDesc 0 3 = 0 from e0, show alC S.toDesc 1 3 = 1 from e1, mul_one, mul_zero, zero_add] at b
 rcases h1 i hi with e | e
 ·rw [e]; exact a
 ·rw [e]; exact b
theorem alv_k {S F : FD} (hS : S.toDesc = D2) (hF : F.toDesc = E2_3) {r : R F.toDesc} {k : Nat} {C : Nat → Nat → R S.toDesc} (hcan : Canl S k 8 C) (hs : ∀ u, Span k 8 C u ↔ Meets S F r 8 2 (gopM F [1, 1, 1] pts19) u) : k = 2 := by
 have h1 : SameSpan k 2 8 C (alC S.toDesc) := ⟨fun i hi => span19 hS hF r _ ((hs _).1 (Span.row _ hi)), fun i hi => (hs _).2 (row19 hS hF r hi)⟩
 have h2 := (elS_uniq h1).1
 rw [elS_rank (indep19 hS)] at h2
 have h3 := hcan.1
 unfold rkS at h3
 omega
theorem der19 {D : Desc} (h : D = E2_3) : (plI D (derI D [1, 1, 1])) = 1 := by
 subst h
 rw [derI_pl]
 refine Pl.ext' fun t => ?_
 rw [pl_D, pl_one]
 show nsm (t + 1) (cfR E2_3 [1, 1, 1] (t + 1)) = if t = 0 then 1 else 0
 match t with
 | 0 => exact rcode_inj (by decide +kernel)
 | 1 => exact rcode_inj (by decide +kernel)
 | t + 2 => rw [cfR_out _ (by simp), nsm_zero_r, if_neg (by omega)]
theorem cop19 {F : FD} (hF : F.toDesc = E2_3) : Cop (plI F.toDesc [1, 1, 1]) (plI F.toDesc (derI F.toDesc [1, 1, 1])) := by
 refine ⟨0, 1, ?_⟩
 rw [zero_mul, zero_add, one_mul]
 exact der19 hF
end Go.Proofs.YtakonlfojblcmaaGreat

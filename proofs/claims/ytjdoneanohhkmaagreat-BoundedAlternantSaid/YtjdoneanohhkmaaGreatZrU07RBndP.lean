/- Plain law of layer 18: a description without some positions, its code. No Go here. Plain law of layer 39: positions that are not erased, error positions. No Go here. Layer 18: Puncture of the program, Without of the reference. Plain law of layer 18: a word is a codeword just if its first entries' message has it as codeword. No Go here. -/
import Derived.Test.YtjdoneanohhkmaaGreatZrU07RLA
import Derived.Test.YtjdoneanohhkmaaGreatZrU07RDivP
import Derived.Test.YtjdoneanohhkmaaGreatZrU07RGpoD
import Derived.Test.YtjdoneanohhkmaaGreatZrU07REnc
import Derived.Test.YtjdoneanohhkmaaGreatZrU07RGrsU
namespace Cw
section
variable {F : Type} [CField F] [DecidableEq F]
end
end Cw
namespace Go.Proofs.YtjdoneanohhkmaaGreat
section
open Go.RowKit Cw

def idxL (a : List Int) : Nat → List Nat
 | 0 => []
 | k + 1 => if (k : Int) ∈ a then idxL a k else idxL a k ++ [k]
def selL (l a : List Int) (k : Nat) : List Int := (idxL a k).map fun i => l[i]?.getD 0
theorem idxL_yes {a : List Int} {k : Nat} (h : (k : Int) ∈ a) : idxL a (k + 1) = idxL a k := if_pos h
theorem idxL_no {a : List Int} {k : Nat} (h : ¬ (k : Int) ∈ a) : idxL a (k + 1) = idxL a k ++ [k] := if_neg h
theorem selL_yes {l a : List Int} {k : Nat} (h : (k : Int) ∈ a) : selL l a (k + 1) = selL l a k := by unfold selL; rw [idxL_yes h]
theorem selL_no {l a : List Int} {k : Nat} (h : ¬ (k : Int) ∈ a) : selL l a (k + 1) = selL l a k ++ [l[k]?.getD 0] := by unfold selL; rw [idxL_no h,List.map_append]; rfl
theorem selL_length (l a : List Int) (k : Nat) : (selL l a k).length = (idxL a k).length := List.length_map _
theorem idxL_le (a : List Int) : ∀ k,(idxL a k).length ≤ k
 | 0 => Nat.le_refl _
 | k + 1 => by
  have ih := idxL_le a k;by_cases h : (k : Int) ∈ a
  ·rw [idxL_yes h]; omega
  ·rw [idxL_no h,List.length_append]; simp; omega
theorem idxL_mem {a : List Int} {i : Nat} : ∀ {k : Nat},i ∈ idxL a k ↔ i < k ∧ ¬ (i : Int) ∈ a
 | 0 => ⟨fun h => (by cases h),fun h => absurd h.1 (Nat.not_lt_zero _)⟩
 | k + 1 => by
  have ih := idxL_mem (a := a) (i := i) (k := k);by_cases h : (k : Int) ∈ a
  ·rw [idxL_yes h,ih];constructor
   ·rintro ⟨h1,h2⟩; exact ⟨by omega,h2⟩
   ·rintro ⟨h1,h2⟩;refine ⟨?_,h2⟩;rcases Nat.lt_or_ge i k with h3 | h3
    ·exact h3
    ·obtain rfl : i = k := by omega
     exact absurd h h2
  ·rw [idxL_no h,List.mem_append,ih,List.mem_singleton];constructor
   ·rintro (⟨h1,h2⟩ | rfl)
    ·exact ⟨by omega,h2⟩
    ·exact ⟨by omega,h⟩
   ·rintro ⟨h1,h2⟩;by_cases e : i = k
    ·exact .inr e
    ·exact .inl ⟨by omega,h2⟩
theorem idxL_nodup (a : List Int) : ∀ k,(idxL a k).Nodup
 | 0 => List.nodup_nil
 | k + 1 => by
  have ih := idxL_nodup a k;by_cases h : (k : Int) ∈ a
  ·rw [idxL_yes h]; exact ih
  ·rw [idxL_no h,List.nodup_append];refine ⟨ih,by simp,fun x hx y hy e => ?_⟩;have h1 := (idxL_mem.1 hx).1;have h2 : y = k := by simpa using hy
   omega
theorem idxL_get {a : List Int} {k j : Nat} (hj : j < (idxL a k).length) : (idxL a k)[j]?.getD 0 < k := by
 rw [List.getElem?_eq_getElem hj,Option.getD_some];exact (idxL_mem.1 (List.getElem_mem hj)).1
theorem selL_get {l a : List Int} {k j : Nat} (hj : j < (idxL a k).length) : (selL l a k)[j]?.getD 0 = l[(idxL a k)[j]?.getD 0]?.getD 0 := by
 unfold selL;rw [List.getElem?_map,List.getElem?_eq_getElem hj];rfl
end
section
open Go.RowKit Cw
open Cw.CField (inv)

theorem cnt_idx (U : List Nat) (p : Nat → Bool) : ((List.range U.length).filter fun j => p (U[j]?.getD 0)).length = (U.filter p).length := by
 have e : U = (List.range U.length).map fun j => U[j]?.getD 0 := by
  apply List.ext_getElem
  ·simp
  ·intro i h1 h2;simp [h1]
 conv => rhs; rw [e]
 rw [List.filter_map,List.length_map];rfl
def errL (c w er : List Int) : Nat → List Int
 | 0 => []
 | k + 1 => if (k : Int) ∈ er then errL c w er k else if c[k]?.getD 0 = w[k]?.getD 0 then errL c w er k else errL c w er k ++ [(k : Int)]
theorem errL_in {c w er : List Int} {k : Nat} (h : (k : Int) ∈ er) : errL c w er (k + 1) = errL c w er k := if_pos h
theorem errL_eq {c w er : List Int} {k : Nat} (h : c[k]?.getD 0 = w[k]?.getD 0) : errL c w er (k + 1) = errL c w er k := by
 by_cases h1 : (k : Int) ∈ er
 ·exact errL_in h1
 ·show (if (k : Int) ∈ er then _ else _) = _
  rw [if_neg h1,if_pos h]
theorem errL_ne {c w er : List Int} {k : Nat} (h1 : ¬ (k : Int) ∈ er) (h : c[k]?.getD 0 ≠ w[k]?.getD 0) : errL c w er (k + 1) = errL c w er k ++ [(k : Int)] := by
 show (if (k : Int) ∈ er then _ else _) = _
 rw [if_neg h1,if_neg h]
theorem errL_le (c w er : List Int) : ∀ k,(errL c w er k).length ≤ k
 | 0 => Nat.le_refl _
 | k + 1 => by
  have ih := errL_le c w er k;by_cases h1 : (k : Int) ∈ er
  ·rw [errL_in h1]; omega
  ·by_cases h2 : c[k]?.getD 0 = w[k]?.getD 0
   ·rw [errL_eq h2]; omega
   ·rw [errL_ne h1 h2,List.length_append,List.length_singleton]; omega
theorem errL_count {c w er : List Int} {n : Nat} (p : Nat → Bool) (h : ∀ i,i < n → (p i = true ↔ c[i]?.getD 0 ≠ w[i]?.getD 0)) : ∀ k,k ≤ n → (errL c w er k).length = ((idxL er k).filter p).length
 | 0,_ => rfl
 | k + 1,hk => by
  have ih := errL_count (er := er) p h k (by omega);by_cases h1 : (k : Int) ∈ er
  ·rw [errL_in h1,idxL_yes h1]; exact ih
  ·rw [idxL_no h1,List.filter_append,List.length_append];by_cases h2 : c[k]?.getD 0 = w[k]?.getD 0
   ·have h3 : p k = false := Bool.eq_false_iff.2 fun e => (h k (by omega)).1 e h2
    rw [errL_eq h2,ih]; simp [h3]
   ·have h3 : p k = true := (h k (by omega)).2 h2;rw [errL_ne h1 h2,List.length_append,ih]; simp [h3]
theorem idxL_count {er : List Int} {n : Nat} (hr : ∀ x ∈ er,0 ≤ x ∧ x < (n : Int)) (hd : er.Nodup) : (idxL er n).length + er.length = n := by
 have h1 := filter_both (fun i : Nat => decide ((i : Int) ∈ er)) n;have e1 : ((List.range n).filter fun i : Nat => !decide ((i : Int) ∈ er)).length = (idxL er n).length := by
  refine ((List.perm_ext_iff_of_nodup (List.Pairwise.filter _ List.nodup_range) (idxL_nodup er n)).2 fun i => ?_).length_eq;rw [idxL_mem,List.mem_filter,List.mem_range];simp
 have e2 : ((List.range n).filter fun i : Nat => decide ((i : Int) ∈ er)).length = er.length := by
  have hp : List.Perm (((List.range n).filter fun i : Nat => decide ((i : Int) ∈ er)).map fun i : Nat => (i : Int)) er := by
   refine (List.perm_ext_iff_of_nodup ?_ hd).2 fun x => ?_
   ·refine List.pairwise_map.2 (List.Pairwise.imp_of_mem ?_ (List.Pairwise.filter _ (List.nodup_range (n := n))));intro x y _ _ hne e;exact hne (by omega)
   ·rw [List.mem_map];constructor
    ·rintro ⟨i,hi,rfl⟩;exact of_decide_eq_true (List.mem_filter.1 hi).2
    ·intro hx;obtain ⟨h3,h4⟩ := hr x hx;exact ⟨x.toNat,List.mem_filter.2 ⟨List.mem_range.2 (by omega),decide_eq_true (show ((x.toNat : Nat) : Int) ∈ er by rw [Int.toNat_of_nonneg h3]; exact hx)⟩,by omega⟩
  have h2 := hp.length_eq;rw [List.length_map] at h2;exact h2
 omega
noncomputable def ysV (D : FD) (mul w : List Int) (i : Nat) : Int := ci (eli D.toDesc (w[i]?.getD 0) * inv (eli D.toDesc (mul[i]?.getD 0)))
noncomputable def ysA (D : FD) (n : Nat) (mul w : List Int) : List Int := lst n (ysV D mul w)
section
variable {F : FD} {kn : Nat} {pts mul w er : List Int}
theorem ys_iff {i : Nat} (hm : eli F.toDesc (mul[i]?.getD 0) ≠ 0) (hw : 0 ≤ w[i]?.getD 0 ∧ w[i]?.getD 0 < (F.q : Int)) (u : R F.toDesc) : u = eli F.toDesc (ysV F mul w i) ↔ ci (eli F.toDesc (mul[i]?.getD 0) * u) = w[i]?.getD 0 := by
 unfold ysV;rw [eli_ci];constructor
 ·rintro rfl;rw [mul_lc,mul_inv hm,mul_one,ci_eli_in hw]
 ·intro h;have h2 : eli F.toDesc (w[i]?.getD 0) = eli F.toDesc (mul[i]?.getD 0) * u := by rw [← h,eli_ci]
  rw [h2,mul_c,← mul_a,inv_mul hm,one_mul]
noncomputable def xsP (F : FD) (pts er : List Int) : Nat → R F.toDesc := fun j => eli F.toDesc ((selL pts er pts.length)[j]?.getD 0)
noncomputable def ysP (F : FD) (pts mul w er : List Int) : Nat → R F.toDesc := fun j => eli F.toDesc ((selL (ysA F pts.length mul w) er pts.length)[j]?.getD 0)
theorem xsP_inj (hz : gchkD F.toDesc kn pts mul = 0) : ∀ i j,i < (idxL er pts.length).length → j < (idxL er pts.length).length → xsP F pts er i = xsP F pts er j → i = j := by
 obtain ⟨-,-,-,hp,-,ht,-,-,-⟩ := gchkD_zero hz;intro i j hi hj e;unfold xsP at e;rw [selL_get hi,selL_get hj] at e;have h1 := pts_inj hp ht _ _ (idxL_get hi) (idxL_get hj) e;rw [List.getElem?_eq_getElem hi,List.getElem?_eq_getElem hj] at h1;exact (List.getElem_inj (idxL_nodup er pts.length)).1 h1
theorem wr_err (hz : gchkD F.toDesc kn pts mul = 0) (hw : w.length = pts.length) (hel : elB F.toDesc w = true) (m : List Int) : wr F.toDesc (idxL er pts.length).length (xsP F pts er) (ysP F pts mul w er) m = (errL (wordL F.toDesc pts mul m) w er pts.length).length := by
 obtain ⟨-,-,hlen,-,hm,-,h0,-,-⟩ := gchkD_zero hz;have hne : ∀ i,i < pts.length → eli F.toDesc (mul[i]?.getD 0) ≠ 0 := fun i hi => eli_ne (elB_iff.1 hm i (by omega)) fun e => h0 (e ▸ mem_get (by omega))
 obtain ⟨p,hp⟩ : ∃ p : Nat → Bool,p = fun i => ci (pevI F.toDesc m (eli F.toDesc (pts[i]?.getD 0))) != ci (eli F.toDesc (ysV F mul w i)) := ⟨_,rfl⟩
 rw [errL_count p (fun i hi => ?_) _ (Nat.le_refl _),← cnt_idx]
 ·unfold wr
  congr 1
  refine List.filter_congr fun j hj => ?_
  rw [List.mem_range] at hj;have h1 := idxL_get hj;rw [hp];unfold xsP ysP;rw [selL_get hj,selL_get hj];unfold ysA;rw [lst_get _ h1]
 ·rw [hp];unfold wordL;rw [lst_get _ hi,bne_iff_ne];refine not_congr ⟨fun h => (ys_iff (hne i hi) (elB_iff.1 hel i (by omega)) _).1 (ci_inj h),fun h => ?_⟩;rw [(ys_iff (hne i hi) (elB_iff.1 hel i (by omega)) _).2 h]
def DecOK (D : Desc) (kn : Nat) (pts mul w er msg : List Int) : Prop := msg.length = kn ∧ elB D msg = true ∧ 2 * (errL (wordL D pts mul msg) w er pts.length).length + er.length + kn ≤ pts.length
def DecNo (D : Desc) (kn : Nat) (pts mul w er : List Int) : Prop := ∀ msg : List Int,msg.length ≤ kn → pts.length < 2 * (errL (wordL D pts mul msg) w er pts.length).length + er.length + kn
theorem dec_no (hz : gchkD F.toDesc kn pts mul = 0) (hw : w.length = pts.length) (hel : elB F.toDesc w = true) (hr : ∀ x ∈ er,0 ≤ x ∧ x < (pts.length : Int)) (hd : er.Nodup) (h : GaoNo F.toDesc (idxL er pts.length).length kn (xsP F pts er) (ysP F pts mul w er)) : DecNo F.toDesc kn pts mul w er := fun msg hm => by
 have h1 := h msg hm;rw [wr_err hz hw hel] at h1;have := idxL_count hr hd;omega
def padL (m : List Int) (kn : Nat) : List Int := m ++ List.replicate (kn - m.length) 0
theorem cfR_padL (D : Desc) (m : List Int) (kn : Nat) (s : Nat) : cfR D (padL m kn) s = cfR D m s := by
 unfold cfR padL;by_cases h : s < m.length
 ·rw [List.getElem?_append_left h]
 ·rw [List.getElem?_append_right (by omega),List.getElem?_eq_none (show m.length ≤ s by omega),List.getElem?_replicate];by_cases h2 : s - m.length < kn - m.length
  ·rw [if_pos h2]; rfl
  ·rw [if_neg h2]
theorem padL_length {m : List Int} {kn : Nat} (h : m.length ≤ kn) : (padL m kn).length = kn := by unfold padL; rw [List.length_append,List.length_replicate]; omega
theorem pevI_padL (D : Desc) {m : List Int} {kn : Nat} (h : m.length ≤ kn) (x : R D) : pevI D (padL m kn) x = pevI D m x := by
 rw [pevI_vl D (padL m kn) x (N := kn) (by rw [padL_length h]; omega),pevI_vl D m x h];exact rsum_congr fun i _ => by rw [cfR_padL]
theorem wordL_congr (D : Desc) (pts mul : List Int) {m m' : List Int} (h : ∀ x,pevI D m x = pevI D m' x) : wordL D pts mul m = wordL D pts mul m' := by unfold wordL; exact lst_congr fun i _ => by rw [h]
theorem elB_padL {D : Desc} {m : List Int} {kn : Nat} (h : elB D m = true) : elB D (padL m kn) = true := elB_iff.2 fun j hj => by
 by_cases e : j < m.length
 ·unfold padL; rw [List.getElem?_append_left e]; exact elB_iff.1 h j e
 ·have h2 : (padL m kn)[j]?.getD 0 = 0 := by
   unfold padL;rw [List.getElem?_append_right (by omega),List.getElem?_replicate];by_cases h3 : j - m.length < kn - m.length
   ·rw [if_pos h3]; rfl
   ·rw [if_neg h3]; rfl
  rw [h2];have := D.q2;exact ⟨Int.le_refl _,by show (0 : Int) < _; omega⟩
theorem elB_can {D : Desc} {m : List Int} (h : canI D m = m) : elB D m = true := elB_iff.2 fun j hj => by
 rw [← h] at hj ⊢;unfold canI at hj ⊢;rw [canL_length] at hj;unfold canL;rw [lst_get _ hj];exact ⟨ci_nonneg _,ci_lt _⟩
theorem dec_ok (hz : gchkD F.toDesc kn pts mul = 0) (hw : w.length = pts.length) (hel : elB F.toDesc w = true) (hr : ∀ x ∈ er,0 ≤ x ∧ x < (pts.length : Int)) (hd : er.Nodup) {m : List Int} (h : GaoOK F.toDesc (idxL er pts.length).length kn (xsP F pts er) (ysP F pts mul w er) m) : DecOK F.toDesc kn pts mul w er (padL m kn) := by
 obtain ⟨h1,h2,h3⟩ := h;rw [wr_err hz hw hel] at h3;have := idxL_count hr hd;refine ⟨padL_length h2,elB_padL (elB_can h1),?_⟩;rw [wordL_congr F.toDesc pts mul (pevI_padL F.toDesc h2)];omega
end
end
section
open Go.RowKit Cw
attribute [local go_sem] Oper.semAt_some

section
variable {W W' : World} {bd : Nat} {u0 u1 u2 u3 v1 v2 u : Value} {l1 l2 l' : List Int}
end
theorem take_succ_mem {l : List Int} {k : Nat} (hk : k < l.length) (x : Int) : x ∈ l.take (k + 1) ↔ x ∈ l.take k ∨ x = l[k]?.getD 0 := by
 rw [List.take_succ_eq_append_getElem hk,List.mem_append,List.mem_singleton,List.getElem?_eq_getElem hk,Option.getD_some]
theorem take_succ_nodup {l : List Int} {k : Nat} (hk : k < l.length) (h : (l.take k).Nodup) (hn : ¬ l[k]?.getD 0 ∈ l.take k) : (l.take (k + 1)).Nodup := by
 rw [List.take_succ_eq_append_getElem hk,List.nodup_append];rw [List.getElem?_eq_getElem hk,Option.getD_some] at hn;refine ⟨h,by simp,fun x hx y hy e => hn ?_⟩;have : y = l[k] := by simpa using hy
 rw [← this,← e]; exact hx
theorem not_nodup_take {l : List Int} {k : Nat} (hk : k < l.length) (hn : l[k]?.getD 0 ∈ l.take k) : ¬ l.Nodup := fun h => by
 have h2 : (l.take (k + 1)).Nodup := List.Pairwise.sublist (List.take_sublist _ _) h;rw [List.take_succ_eq_append_getElem hk,List.nodup_append] at h2;rw [List.getElem?_eq_getElem hk,Option.getD_some] at hn;exact h2.2.2 _ hn _ (List.mem_singleton.2 rfl) rfl
theorem seen_step {l : List Int} {k x : Nat} (hk : k < l.length) (hx : l[k]?.getD 0 = (x : Int)) : (fun i : Nat => if i = x then true else decide ((i : Int) ∈ l.take k)) = fun i : Nat => decide ((i : Int) ∈ l.take (k + 1)) := funext fun i => by
 by_cases e : i = x
 ·rw [if_pos e]; exact (decide_eq_true ((take_succ_mem hk _).2 (.inr (by rw [hx,e])))).symm
 ·rw [if_neg e];by_cases h : (i : Int) ∈ l.take k
  ·rw [decide_eq_true h,decide_eq_true ((take_succ_mem hk _).2 (.inl h))]
  ·rw [decide_eq_false h,decide_eq_false fun h2 => ?_];rcases (take_succ_mem hk _).1 h2 with h3 | h3
   ·exact h h3
   ·rw [hx] at h3; exact e (by omega)

end
section
open Go.RowKit Cw

noncomputable def inB (F : FD) (kn : Nat) (pts mul word : List Int) : Bool := all0 (rowL F.toDesc pts.length (restF kn (fun i => fnz (rowsL F.toDesc pts.length (elS kn (gM F.toDesc pts mul) pts.length).1 i)) (elS kn (gM F.toDesc pts mul) pts.length).1 (fun j => eli F.toDesc (word[j]?.getD 0))))
section
variable {F : FD} {kn : Nat} {pts mul word : List Int}
theorem fnz_piv (hz : gchkD F.toDesc kn pts mul = 0) {i : Nat} (hi : i < kn) : fnz (rowsL F.toDesc pts.length (elS kn (gM F.toDesc pts mul) pts.length).1 i) = pvF (elS kn (gM F.toDesc pts mul) pts.length).2 i ∧ pvF (elS kn (gM F.toDesc pts mul) pts.length).2 i < pts.length := by
 have hrk := gM_rank hz;rw [Int.toNat_natCast] at hrk;unfold rkS at hrk;have hRR := elS_RR kn pts.length (gM F.toDesc pts mul);rw [hrk] at hRR;have hlt := hRR.lt i hi;refine ⟨fnz_eq _ _ (by rw [rowsL,rowL_length]; omega) (fun j hj => ?_) (.inr ?_),hlt⟩
 ·rw [rowsL,rowL_get _ _ (by omega),hRR.low i hi j hj]; exact ci_zero
 ·rw [rowsL,rowL_get _ _ hlt,hRR.one i hi];intro e;exact one_ne (ci_eq_zero.1 e)
theorem inB_iff (hz : gchkD F.toDesc kn pts mul = 0) : inB F kn pts mul word = true ↔ Span kn pts.length (gM F.toDesc pts mul) (fun j => eli F.toDesc (word[j]?.getD 0)) := by
 have hrk := gM_rank hz;rw [Int.toNat_natCast] at hrk;have hrk' := hrk;unfold rkS at hrk';have hRR := elS_RR kn pts.length (gM F.toDesc pts mul);have hsp := elS_span kn pts.length (gM F.toDesc pts mul);rw [hrk'] at hRR hsp;have hall : inB F kn pts mul word = true ↔ ∀ j,j < pts.length → restF kn (fun i => fnz (rowsL F.toDesc pts.length (elS kn (gM F.toDesc pts mul) pts.length).1 i)) (elS kn (gM F.toDesc pts mul) pts.length).1 (fun j => eli F.toDesc (word[j]?.getD 0)) j = 0 := by
  unfold inB all0;rw [decide_eq_true_iff];constructor
  ·intro h j hj;exact ci_eq_zero.1 (h _ (List.mem_map.2 ⟨j,List.mem_range.2 hj,rfl⟩))
  ·intro h x hx;obtain ⟨j,hj,rfl⟩ := List.mem_map.1 hx;exact ci_eq_zero.2 (h j (List.mem_range.1 hj))
 rw [hall];constructor
 ·intro h;refine Span.trans (B := (elS kn (gM F.toDesc pts mul) pts.length).1) (n' := kn) ⟨fun i => eli F.toDesc (word[fnz (rowsL F.toDesc pts.length (elS kn (gM F.toDesc pts mul) pts.length).1 i)]?.getD 0),fun j hj => ?_⟩ hsp.1;have h1 := h j hj;unfold restF at h1;dsimp only at h1 ⊢;rw [rsum_congr fun i _ => neg_mul _ _,rsum_neg] at h1;exact sub_eq_zero h1
 ·intro h j hj;obtain ⟨c,hc⟩ := h.trans hsp.2;dsimp only at hc;unfold restF;dsimp only;rw [rsum_congr (g := fun i => -(c i * (elS kn (gM F.toDesc pts mul) pts.length).1 i j)) fun i hi => by
   rw [(fnz_piv hz hi).1,neg_mul]
   congr 2
   exact hRR.coef (v := fun j => eli F.toDesc (word[j]?.getD 0)) hc hi,rsum_neg,← hc j hj,add_neg]
end
end
end Go.Proofs.YtjdoneanohhkmaaGreat

/- Plain: least weights of direct sums, of words (u, u + v), of products and of interleaved codes. No Go here. Plain: the words of a code by their index; the least weight as the reference finds it; ranks of combined rows. No Go here. Distance of any code: its number, and what it says if it is at least 1; results as codes without an error. Numbers of words and distances of results of chapter 14. CombineDistances: what the functions answer, with no program in sight. The reference's codes: Check, List, Word, Has of a canonical code. ref12.Has of any valid code and word: whether the word is in the rows' span. Plain: sums and products of three codes, in both orders of the brackets; transposed words. No Go here. Plain: the dual spaces of sums, of interleaved words, of words (u, u + v). No Go here. Plain law of layer 19: words over a subfield, their images, coordinates and traces. No Go here. Plain: the code of the words whose images meet checks over the greater field. No Go here. The program's kernel of a matrix. -/
import Derived.IntWalk
import Derived.Test.YtjdoneanohhkmaaGreatZpNrm
import Derived.Test.YtjdoneanohhkmaaGreatZpHasB
import Derived.Test.YtjdoneanohhkmaaGreatZpCodP
import Derived.Test.YtjdoneanohhkmaaGreatZpCodC
import Derived.Test.YtjdoneanohhkmaaGreatZpPlyQ
import Derived.Test.YtjdoneanohhkmaaGreatZpPoR
import Derived.Test.YtjdoneanohhkmaaGreatZpApR
import Derived.Test.YtjdoneanohhkmaaGreatZpGopRow
namespace Cw
open Go.Proofs.YtjdoneanohhkmaaGreat (joinF)
open Go.Proofs.YtjdoneanohhkmaaGreat (stackR sumR ploR)
section pl
variable {F : Type} [CField F]
end pl
section wt
variable {F : Type} [CField F] [DecidableEq F]
end wt
end Cw

namespace Go.Proofs.YtjdoneanohhkmaaGreat
section
open Go.RowKit Cw

section rank
variable {F : Type} [CField F]
theorem RR.congr {m r : Nat} {p : Nat → Nat} {A B : Nat → Nat → F} (h : RR m r p A) (e : ∀ i,i < r → ∀ j,j < m → A i j = B i j) : RR m r p B where
 lt := h.lt
 mono := h.mono
 one := fun i hi => by rw [← e i hi _ (h.lt i hi)]; exact h.one i hi
 zero := fun i j hi hj hne => by rw [← e i hi _ (h.lt j hj)]; exact h.zero i j hi hj hne
 low := fun i hi j hj => by rw [← e i hi j (Nat.lt_trans hj (h.lt i hi))]; exact h.low i hi j hj
end rank

theorem canl_RR {F : FD} {n m : Nat} {M : Nat → Nat → R F.toDesc} (h : Canl F n m M) : ∃ p,RR m n p M := by
 have h1 := elS_RR n m M;have hk : (elS n M m).2.length = n := h.1;rw [hk] at h1;exact ⟨_,RR.congr h1 fun i hi j hj => rowL_inj (D := F.toDesc) (h.2 i hi) hj⟩
section words
variable {F : FD} {n m : Nat} {M : Nat → Nat → R F.toDesc}
end words
end
section
open Go.RowKit Cw

theorem vc_res (F : FD) (hgood : Good F.p F.m (modL F.toDesc)) (n m : Nat) (M : Nat → Nat → R F.toDesc) (h1 : 1 ≤ m) (h2 : m ≤ 64) : VC F.p F.m m (modL F.toDesc) (rkS F n m M) (rowsL F.toDesc m (elS n M m).1) F m (elS n M m).1 :=
 ⟨rfl,rfl,rfl,hgood,rfl,h1,h2,fun _ _ => rfl,canl_elS F n m M⟩
end
section
open Go.RowKit Cw

section res
variable {F : FD} {n m : Nat} {M : Nat → Nat → R F.toDesc}
end res
end
section
open Go.RowKit Cw

end
section
open Go.RowKit Cw
attribute [local go_sem] Oper.semAt_some

set_option maxHeartbeats 1000000 in
theorem Check12_ok (F : FD) (hgood : Good F.p F.m (modL F.toDesc)) (n m : Nat) (M : Nat → Nat → R F.toDesc) (hcan : Canl F n m M) (A Ar : Option Addr) (c cr : Nat) (w : World) (hr : Rd w w.heap.size A (modL F.toDesc)) (hrm : RdM w w.heap.size Ar n (rowsL F.toDesc m M)) (hn : n ≤ 256) (hm1 : 1 ≤ m) (hm : m ≤ 64) :
  Calls Tryz.prog 35 #[.agg #[.int .i64 F.p,.int .i64 F.m,.slice A F.mod.length c,.int .i64 m,.slice Ar n cr]] w fun e w' => e = .returned (.int .i64 0) ∧ Below w.heap.size w w' := by
 have hp1 := F.p256; have hp2 := F.m8;have hml : (modL F.toDesc).length ≤ maxLen := by have := F.hlen; have := F.m8; rw [modL_length,F.hlen]; unfold maxLen; split <;> omega
 have hC := fun W a => Check_any F.p F.m (modL F.toDesc) A c W (by omega) (by omega) hml a
 rw [chk_yes hgood,modL_length] at hC;replace hC := fun W a => Lib.hid (hC W a)
 have h10 := fun W a b => Lib.hid (Check10_ok F hgood n m M hcan A Ar c cr W a b hn (by omega))
 obtain ⟨Z,hZ⟩ : ∃ Z,Z = w.alloc (.cells #[.int .i64 F.p,.int .i64 F.m,.slice A F.mod.length c,.int .i64 m,.slice Ar n cr] 27) := ⟨_,rfl⟩;have hB : Below w.heap.size w Z := by rw [hZ]; exact (Below.refl _ _).alloc (Nat.le_refl _) _
 have hZs : w.heap.size < Z.heap.size := by rw [hZ]; simp
 have f5 := Five.new w (.int .i64 F.p) (.int .i64 F.m) (.slice A F.mod.length c) (.int .i64 m) (.slice Ar n cr) 27;have f5H : Hid (Five Z w.heap.size (.int .i64 F.p) (.int .i64 F.m) (.slice A F.mod.length c) (.int .i64 m) (.slice Ar n cr)) := by rw [hZ]; exact f5
 have hC1 := hC Z ((hr.below hB).more hB.size);replace hZ := Lib.hid hZ;clear hcan hgood;go_enter Tryz.func35,Tryz.ntmps35;obtain ⟨a0,a1,a2,a3,a4,-⟩ := f5;go_wp2_with (fail);rw [← hZ.out];(with_reducible refine hC1.out.mono ?_);rintro e w1 ⟨rfl,hb1⟩;have hB1 := hB.trans (hb1.mono hB.size);clear a0 a1 a2 a3 a4;obtain ⟨a0,a1,a2,a3,a4,-⟩ := f5H.out.keep hb1 hZs;have hm0 : ¬ (m : Int) < 1 := by omega
 have hm2 : ¬ (64 : Int) < (m : Int) := by omega
 go_wp2_with (fail);(with_reducible refine (h10 w1 ((hr.below hB1).more hB1.size) ((hrm.below hB1).more hB1.size)).out.mono ?_);rintro e w2 ⟨rfl,hb2⟩;go_wp2_with (fail);go_ret;exact ⟨rfl,hB1.trans (hb2.mono hB1.size)⟩

set_option maxHeartbeats 1000000 in
theorem List12_any (D : Desc) (l : List Int) (N : Int) (A A1 : Option Addr) (c c1 : Nat) (w : World) (hr1 : Rd w w.heap.size A1 l) (hl : l.length ≤ 1000000) :
  Calls Tryz.prog 154 #[.agg #[.int .i64 D.p,.int .i64 D.m,.slice A D.mod.length c],.slice A1 l.length c1,.int .i64 N] w fun e w' => e = .returned (.int .i64 (elErr D l N 4)) ∧ Below w.heap.size w w' := by
 have hE := fun W a => Lib.hid (Entries9_any D l A A1 c c1 W a hl)
 obtain ⟨Z,hZ⟩ : ∃ Z,Z = w.alloc (.cells #[.int .i64 D.p,.int .i64 D.m,.slice A D.mod.length c] 24) := ⟨_,rfl⟩;have hB : Below w.heap.size w Z := by rw [hZ]; exact (Below.refl _ _).alloc (Nat.le_refl _) _
 obtain ⟨q0,q1,q2⟩ := alloc3 w (.int .i64 D.p) (.int .i64 D.m) (.slice A D.mod.length c) 24;have hE1 := hE Z ((hr1.below hB).more hB.size);replace hZ := Lib.hid hZ;clear hE;by_cases hN : (l.length : Int) ≠ N
 ·rw [show elErr D l N 4 = 4 from if_pos hN];have hb : ((l.length : Int) != N) = true := by rw [bne_iff_ne]; exact hN
  replace hN := Lib.hid hN;go_enter Tryz.func154,Tryz.ntmps154;go_wp2_with (fail);go_ret;rw [← hZ.out];exact ⟨rfl,hB⟩
 ·rw [show elErr D l N 4 = elE D l from if_neg hN];have hb : ((l.length : Int) != N) = false := by rw [bne_eq_false_iff_eq]; exact Classical.not_not.1 hN
  replace hN := Lib.hid hN;go_enter Tryz.func154,Tryz.ntmps154;go_wp2_with (fail);rw [← hZ.out];(with_reducible refine hE1.out.mono ?_);rintro e w1 ⟨rfl,hb1⟩;go_wp2_with (fail);go_ret;exact ⟨rfl,hB.trans (hb1.mono hB.size)⟩

set_option maxHeartbeats 1000000 in
theorem Word12_any (F : FD) (hgood : Good F.p F.m (modL F.toDesc)) (n m : Nat) (M : Nat → Nat → R F.toDesc) (hcan : Canl F n m M) (A Ar : Option Addr) (c cr : Nat) (l : List Int) (A1 : Option Addr) (c1 : Nat) (w : World) (hr : Rd w w.heap.size A (modL F.toDesc)) (hrm : RdM w w.heap.size Ar n (rowsL F.toDesc m M)) (hn : n ≤ 256) (hm1 : 1 ≤ m) (hm : m ≤ 64) (hr1 : Rd w w.heap.size A1 l) (hl : l.length ≤ 1000000) :
  Calls Tryz.prog 81 #[.agg #[.int .i64 F.p,.int .i64 F.m,.slice A F.mod.length c,.int .i64 m,.slice Ar n cr],.slice A1 l.length c1] w fun e w' => e = .returned (.int .i64 (elErr F.toDesc l m 4)) ∧ Below w.heap.size w w' := by
 have hC := fun W a b => Lib.hid (Check12_ok F hgood n m M hcan A Ar c cr W a b hn hm1 hm)
 have hL := fun W a => Lib.hid (List12_any F.toDesc l m A A1 c c1 W a hl)
 obtain ⟨Z,hZ⟩ : ∃ Z,Z = w.alloc (.cells #[.int .i64 F.p,.int .i64 F.m,.slice A F.mod.length c,.int .i64 m,.slice Ar n cr] 27) := ⟨_,rfl⟩;have hB : Below w.heap.size w Z := by rw [hZ]; exact (Below.refl _ _).alloc (Nat.le_refl _) _
 have hZs : w.heap.size < Z.heap.size := by rw [hZ]; simp
 have f5 := Five.new w (.int .i64 F.p) (.int .i64 F.m) (.slice A F.mod.length c) (.int .i64 m) (.slice Ar n cr) 27;have f5H : Hid (Five Z w.heap.size (.int .i64 F.p) (.int .i64 F.m) (.slice A F.mod.length c) (.int .i64 m) (.slice Ar n cr)) := by rw [hZ]; exact f5
 have hC1 := hC Z ((hr.below hB).more hB.size) ((hrm.below hB).more hB.size);replace hZ := Lib.hid hZ;clear hcan hgood hC;go_enter Tryz.func81,Tryz.ntmps81;obtain ⟨a0,a1,a2,a3,a4,-⟩ := f5;go_wp2_with (fail);rw [← hZ.out];(with_reducible refine hC1.out.mono ?_);rintro e w1 ⟨rfl,hb1⟩;have hB1 := hB.trans (hb1.mono hB.size);clear a0 a1 a2 a3 a4;obtain ⟨a0,a1,a2,a3,a4,-⟩ := f5H.out.keep hb1 hZs;go_wp2_with (fail);(with_reducible refine (hL w1 ((hr1.below hB1).more hB1.size)).out.mono ?_);rintro e w2 ⟨rfl,hb2⟩;go_wp2_with (fail);go_ret;exact ⟨rfl,hB1.trans (hb2.mono hB1.size)⟩

theorem Has12_yes (F : FD) (hgood : Good F.p F.m (modL F.toDesc)) (n m : Nat) (M : Nat → Nat → R F.toDesc) (hcan : Canl F n m M) (A Ar : Option Addr) (c cr : Nat) (u : Nat → R F.toDesc) (A1 : Option Addr) (c1 : Nat) (w : World) (hr : Rd w w.heap.size A (modL F.toDesc)) (hrm : RdM w w.heap.size Ar n (rowsL F.toDesc m M)) (hn : n ≤ 256) (hm1 : 1 ≤ m) (hm : m ≤ 64) (hr1 : Rd w w.heap.size A1 (rowL F.toDesc m u)) (hp : ∀ i,i < n → fnz (rowsL F.toDesc m M i) < m) :
  Calls Tryz.prog 19 #[.agg #[.int .i64 F.p,.int .i64 F.m,.slice A F.mod.length c,.int .i64 m,.slice Ar n cr],.slice A1 m c1] w fun e w' => e = .returned (.tuple #[.bool (all0 (rowL F.toDesc m (restF n (fun i => fnz (rowsL F.toDesc m M i)) M u))),.int .i64 0]) ∧ Below w.heap.size w w' := by
 have hW := fun W a b d => Word12_any F hgood n m M hcan A Ar c cr (rowL F.toDesc m u) A1 c1 W a b hn hm1 hm d (by rw [rowL_length]; omega)
 rw [show elErr F.toDesc (rowL F.toDesc m u) m 4 = 0 from by unfold elErr; rw [rowL_length,if_neg (by simp),if_neg (by rw [elB_rowL]; simp)],rowL_length] at hW;replace hW := fun W a b d => Lib.hid (hW W a b d)
 have hI := fun W a b d => Lib.hid (In10_any F.toDesc n m M u A Ar A1 c cr c1 W a b d (by omega) (by omega) hp)
 obtain ⟨Z,hZ⟩ : ∃ Z,Z = w.alloc (.cells #[.int .i64 F.p,.int .i64 F.m,.slice A F.mod.length c,.int .i64 m,.slice Ar n cr] 27) := ⟨_,rfl⟩;have hB : Below w.heap.size w Z := by rw [hZ]; exact (Below.refl _ _).alloc (Nat.le_refl _) _
 have hZs : w.heap.size < Z.heap.size := by rw [hZ]; simp
 have f5 := Five.new w (.int .i64 F.p) (.int .i64 F.m) (.slice A F.mod.length c) (.int .i64 m) (.slice Ar n cr) 27;have f5H : Hid (Five Z w.heap.size (.int .i64 F.p) (.int .i64 F.m) (.slice A F.mod.length c) (.int .i64 m) (.slice Ar n cr)) := by rw [hZ]; exact f5
 have hW1 := hW Z ((hr.below hB).more hB.size) ((hrm.below hB).more hB.size) ((hr1.below hB).more hB.size);replace hZ := Lib.hid hZ;clear hcan hgood hW hp;go_enter Tryz.func19,Tryz.ntmps19;obtain ⟨a0,a1,a2,a3,a4,-⟩ := f5;go_wp2_with (fail);rw [← hZ.out];(with_reducible refine hW1.out.mono ?_);rintro e w1 ⟨rfl,hb1⟩;have hB1 := hB.trans (hb1.mono hB.size);clear a0 a1 a2 a3 a4;obtain ⟨a0,a1,a2,a3,a4,-⟩ := f5H.out.keep hb1 hZs;have hI1 := hI w1 ((hr.below hB1).more hB1.size) ((hrm.below hB1).more hB1.size) ((hr1.below hB1).more hB1.size);go_wp2_with (fail);(with_reducible refine hI1.out.mono ?_);rintro e w2 ⟨rfl,hb2⟩;go_wp2_with (fail);go_ret2;exact ⟨rfl,hB1.trans (hb2.mono hB1.size)⟩
end
section
open Go.RowKit Cw

noncomputable def spB {D : Type} [CField D] (n m : Nat) (M : Nat → Nat → D) (u : Nat → D) : Bool := @decide (Span n m M u) (Classical.propDecidable _)
theorem spB_iff {D : Type} [CField D] {n m : Nat} {M : Nat → Nat → D} {u : Nat → D} : spB n m M u = true ↔ Span n m M u :=
 @decide_eq_true_iff _ (Classical.propDecidable _)
theorem fnz_RR {F : FD} {n m : Nat} {M : Nat → Nat → R F.toDesc} {p : Nat → Nat} (h : RR m n p M) {i : Nat} (hi : i < n) : fnz (rowsL F.toDesc m M i) = p i := by
 have hlt := h.lt i hi;refine fnz_eq _ _ (by rw [rowsL,rowL_length]; omega) (fun j hj => ?_) (.inr ?_)
 ·rw [rowsL,rowL_get _ _ (by omega),h.low i hi j hj]; exact ci_zero
 ·rw [rowsL,rowL_get _ _ hlt,h.one i hi];intro e;exact one_ne (ci_eq_zero.1 e)
theorem rest_span {F : FD} {n m : Nat} {M : Nat → Nat → R F.toDesc} {p : Nat → Nat} (h : RR m n p M) (u : Nat → R F.toDesc) : all0 (rowL F.toDesc m (restF n (fun i => fnz (rowsL F.toDesc m M i)) M u)) = spB n m M u := by
 rw [Bool.eq_iff_iff,spB_iff];have hall : all0 (rowL F.toDesc m (restF n (fun i => fnz (rowsL F.toDesc m M i)) M u)) = true ↔ ∀ j,j < m → restF n (fun i => fnz (rowsL F.toDesc m M i)) M u j = 0 := by
  unfold all0;rw [decide_eq_true_iff];constructor
  ·intro h j hj;exact ci_eq_zero.1 (h _ (List.mem_map.2 ⟨j,List.mem_range.2 hj,rfl⟩))
  ·intro h x hx;obtain ⟨j,hj,rfl⟩ := List.mem_map.1 hx;exact ci_eq_zero.2 (h j (List.mem_range.1 hj))
 rw [hall];constructor
 ·intro h;refine ⟨fun i => u (fnz (rowsL F.toDesc m M i)),fun j hj => ?_⟩;have h1 := h j hj;unfold restF at h1;dsimp only at h1 ⊢;rw [rsum_congr fun i _ => neg_mul _ _,rsum_neg] at h1;exact sub_eq_zero h1
 ·intro hs j hj;obtain ⟨c,hc⟩ := hs;unfold restF;dsimp only;rw [rsum_congr (g := fun i => -(c i * M i j)) fun i hi => by
   rw [fnz_RR h hi,neg_mul]
   congr 2
   exact h.coef hc hi,rsum_neg,← hc j hj,add_neg]
theorem Has12_vc {P M N : Int} {ml : List Int} {n : Nat} {rows : Nat → List Int} {F : FD} {m : Nat} {B : Nat → Nat → R F.toDesc} (hv : VC P M N ml n rows F m B) (u : Nat → R F.toDesc) (A Ar A1 : Option Addr) (c cr c1 : Nat) (w : World) (hr : Rd w w.heap.size A ml) (hrm : RdM w w.heap.size Ar n rows) (hr1 : Rd w w.heap.size A1 (rowL F.toDesc m u)) :
  Calls Tryz.prog 19 #[.agg #[.int .i64 P,.int .i64 M,.slice A ml.length c,.int .i64 N,.slice Ar n cr],.slice A1 m c1] w fun e w' => e = .returned (.tuple #[.bool (spB n m B u),.int .i64 0]) ∧ Below w.heap.size w w' := by
 have eP := hv.hP; have eM := hv.hM; have eL := hv.hl; have eN := hv.hN;have h1 := hv.le; have h2 := hv.m64; have h3 := hv.m1;have hrm2 := hrm.congr hv.hr;have hgood := hv.good;have hcan := hv.can;obtain ⟨p,hRR⟩ := canl_RR hcan;clear hv hrm;subst eP eM eL eN;rw [modL_length,← rest_span hRR u];exact Has12_yes F hgood n m B hcan A Ar c cr u A1 c1 w hr hrm2 (by omega) h3 h2 hr1 (fun i hi => by rw [fnz_RR hRR hi]; exact hRR.lt i hi)
end
end Go.Proofs.YtjdoneanohhkmaaGreat

namespace Cw
open Go.Proofs.YtjdoneanohhkmaaGreat (sumR)
section
variable {F : Type} [CField F]
theorem same_iff {n n' m : Nat} {A B : Nat → Nat → F} (h : SameSpan n n' m A B) (u : Nat → F) : Span n m A u ↔ Span n' m B u :=
 ⟨fun g => g.trans h.1,fun g => g.trans h.2⟩
end
end Cw
namespace Go.Proofs.YtjdoneanohhkmaaGreat
open Cw
section
variable {F : FD}
end
end Go.Proofs.YtjdoneanohhkmaaGreat

namespace Cw
theorem npv_step {p : Nat → Nat} {r m : Nat} : npv p (r + 1) m = (npv p r m).filter fun c => c != p r := by
 unfold npv;rw [List.filter_filter];refine List.filter_congr fun c _ => ?_
 by_cases h : ∃ i,i < r ∧ p i = c
 ·have h2 : ∃ i,i < r + 1 ∧ p i = c := by obtain ⟨i,h1,e⟩ := h; exact ⟨i,by omega,e⟩
  simp [h,h2]
 ·by_cases e : p r = c
  ·have h2 : ∃ i,i < r + 1 ∧ p i = c := ⟨r,by omega,e⟩;subst e;simp [h2]
  ·have h2 : ¬ ∃ i,i < r + 1 ∧ p i = c := fun ⟨i,h1,e1⟩ => h ⟨i,by
    by_cases g : i = r
    ·subst g; exact absurd e1 e
    ·omega,e1⟩
   have e2 : (c != p r) = true := by rw [bne_iff_ne]; exact fun g => e g.symm
   simp only [h,h2,e2,decide_false,Bool.not_false,Bool.and_self]
theorem npv_len {p : Nat → Nat} {m : Nat} : ∀ r,(∀ i,i < r → p i < m) → (∀ i j,i < r → j < r → p i = p j → i = j) → (npv p r m).length + r = m
 | 0,_,_ => by
  have e : npv p 0 m = List.range m := by
   unfold npv;refine List.filter_eq_self.2 fun c _ => ?_
   simp
  rw [e,List.length_range]; rfl
 | r + 1,h1,h2 => by
  have ih := npv_len r (fun i hi => h1 i (by omega)) (fun i j hi hj e => h2 i j (by omega) (by omega) e);have hm : p r ∈ npv p r m := npv_mem.2 ⟨h1 r (by omega),fun i hi e => by have := h2 i r (by omega) (by omega) e; omega⟩;have h3 : (npv p (r + 1) m).length + 1 = (npv p r m).length := by
   rw [npv_step,← List.Nodup.erase_eq_filter (npv_nodup p r m),List.length_erase_of_mem hm];have := List.length_pos_of_mem hm;omega
  omega
end Cw
namespace Cw
open Go.Proofs.YtjdoneanohhkmaaGreat (joinF)
open Go.Proofs.YtjdoneanohhkmaaGreat (stackR sumR ploR stackR_lo stackR_hi)
section
variable {F : Type} [CField F]
theorem orth_stack {K1 K2 m : Nat} {A B : Nat → Nat → F} {u : Nat → F} : Orth (K1 + K2) m (stackR K1 A B) u ↔ Orth K1 m A u ∧ Orth K2 m B u := by
 constructor
 ·intro h;refine ⟨fun i hi => ?_,fun i hi => ?_⟩
  ·have h1 := h i (by omega); rw [stackR_lo A B hi] at h1; exact h1
  ·have h1 := h (K1 + i) (by omega); rw [stackR_hi A B] at h1; exact h1
 ·rintro ⟨h1,h2⟩ i hi;by_cases g : i < K1
  ·rw [stackR_lo A B g]; exact h1 i g
  ·have h3 := h2 (i - K1) (by omega);rw [← stackR_hi A B (K := K1),show K1 + (i - K1) = i by omega] at h3;exact h3
end
end Cw

namespace Go.Proofs.YtjdoneanohhkmaaGreat
open Go.RowKit Cw
open Cw.CField (inv)
section
variable {S F : FD} {r : R F.toDesc}
theorem char_two (hp : S.p = F.p) : nsm S.p (1 : R F.toDesc) = 0 := by rw [hp]; exact char_R
theorem phi_onto (hp : S.p = F.p) (h0 : muV S F r = 0) {y : R F.toDesc} (hy : InSub S.m y) : ∃ u : R S.toDesc,phi S F r u = y := by
 refine Classical.byContradiction fun hno => ?_
 have hc := char_two (S := S) (F := F) hp;have hq : S.q = F.p ^ S.m := by rw [← hp]; rfl
 have h2 := S.toDesc.q2;have hfix : ∀ x : R F.toDesc,InSub S.m x → pw x S.q = x := fun x hx => by
  have h3 : pw x (F.p ^ S.m) = x := hx;rw [← hq] at h3; exact h3
 have ha : ∀ i,InSub S.m (if i < S.q then phi S F r (rel S.toDesc i) else y) := fun i => by
  by_cases e : i < S.q
  ·rw [if_pos e]; exact phi_sub hp hc h0 _
  ·rw [if_neg e]; exact hy
 have key := rsum_roots (n := S.q + 1) (f := fun i => if i = S.q then (1 : R F.toDesc) else if i = 1 then -1 else 0) (a := fun i => if i < S.q then phi S F r (rel S.toDesc i) else y)
  (fun i j hi hj e => by
   by_cases g1 : i < S.q
   ·by_cases g2 : j < S.q
    ·rw [if_pos g1,if_pos g2] at e;have h3 := congrArg rcode (phi_inj hc h0 e);rw [rcode_rel g1,rcode_rel g2] at h3;exact h3
    ·rw [if_pos g1,if_neg g2] at e;exact absurd ⟨_,e⟩ hno
   ·by_cases g2 : j < S.q
    ·rw [if_neg g1,if_pos g2] at e;exact absurd ⟨_,e.symm⟩ hno
    ·omega)
  (fun k _ => by
   have h3 := hfix _ (ha k);generalize (if k < S.q then phi S F r (rel S.toDesc k) else y) = x at h3 ⊢;rw [rsum_succ,if_pos rfl,one_mul,rsum_single (k := 1) (by omega) fun i hi hne => by rw [if_neg (by omega),if_neg hne,zero_mul]];rw [if_neg (by omega),if_pos rfl,pw_one,neg_mul,one_mul,h3,neg_add]) (i := S.q) (by omega)
 rw [if_pos rfl] at key;exact one_ne key
open Classical in
noncomputable def bk (S F : FD) (r : R F.toDesc) (y : R F.toDesc) : R S.toDesc := if h : ∃ u,phi S F r u = y then Classical.choose h else 0
theorem bk_phi (hp : S.p = F.p) (h0 : muV S F r = 0) (u : R S.toDesc) : bk S F r (phi S F r u) = u := by
 have h : ∃ u',phi S F r u' = phi S F r u := ⟨u,rfl⟩;unfold bk;rw [dif_pos h];exact phi_inj (char_two hp) h0 (Classical.choose_spec h)
theorem phi_bk (hp : S.p = F.p) (h0 : muV S F r = 0) {y : R F.toDesc} (hy : InSub S.m y) : phi S F r (bk S F r y) = y := by
 have h := phi_onto hp h0 hy;unfold bk;rw [dif_pos h];exact Classical.choose_spec h
theorem bk_out {y : R F.toDesc} (h : ¬ ∃ u,phi S F r u = y) : bk S F r y = 0 := by unfold bk; rw [dif_neg h]
theorem phi_eq_zero (hp : S.p = F.p) (h0 : muV S F r = 0) {u : R S.toDesc} : phi S F r u = 0 ↔ u = 0 := by
 refine ⟨fun h => phi_inj (char_two hp) h0 (h.trans (phi_zero r).symm),fun h => by rw [h,phi_zero]⟩
theorem row_iff (hp : S.p = F.p) (h0 : muV S F r = 0) {n N : Nat} {b : Nat → R F.toDesc} (hI : IndS S.m n b) {h : Nat → R F.toDesc} {c : Nat → Nat → R F.toDesc}
  (hc : ∀ j,j < N → (∀ t,t < n → InSub S.m (c j t)) ∧ rsum n (fun t => c j t * b t) = h j) (u : Nat → R S.toDesc) :
  rsum N (fun j => h j * phi S F r (u j)) = 0 ↔ ∀ t,t < n → rsum N (fun j => bk S F r (c j t) * u j) = 0 := by
 have hcc := char_two (S := S) (F := F) hp;have e1 : ∀ t,t < n → phi S F r (rsum N fun j => bk S F r (c j t) * u j) = rsum N fun j => c j t * phi S F r (u j) := fun t ht => by
  rw [phi_rsum hp];exact rsum_congr fun j hj => by rw [phi_mul hcc h0,phi_bk hp h0 ((hc j hj).1 t ht)]
 have e2 : rsum N (fun j => h j * phi S F r (u j)) = rsum n fun t => (rsum N fun j => c j t * phi S F r (u j)) * b t := by
  rw [rsum_congr (g := fun j => rsum n fun t => c j t * phi S F r (u j) * b t) fun j hj => by
   rw [← (hc j hj).2,← rsum_mul_right];exact rsum_congr fun t _ => by ac_rfl,rsum_swap]
  exact rsum_congr fun t _ => rsum_mul_right _ _ _
 rw [e2];constructor
 ·intro hz t ht;have h1 := hI _ (fun t ht => InSub.rsum fun j hj => ((hc j hj).1 t ht).mul (phi_sub hp hcc h0 _)) hz t ht;exact (phi_eq_zero hp h0).1 ((e1 t ht).trans h1)
 ·intro hz;exact rsum_eq_zero fun t ht => by rw [← e1 t ht,hz t ht,phi_zero,zero_mul]
end
end Go.Proofs.YtjdoneanohhkmaaGreat
namespace Cw
section
variable {F : Type} [CField F]
end
end Cw

namespace Go.Proofs.YtjdoneanohhkmaaGreat
section
open Go.RowKit Cw
section
variable {S F : FD} {r : R F.toDesc} {N t k n : Nat} {h : Nat → Nat → R F.toDesc} {E : Nat → Nat → R S.toDesc}
def Meets (S F : FD) (r : R F.toDesc) (N t : Nat) (h : Nat → Nat → R F.toDesc) (u : Nat → R S.toDesc) : Prop := ∀ i,i < t → rsum N (fun j => h i j * phi S F r (u j)) = 0
def Tells (S F : FD) (r : R F.toDesc) (N t : Nat) (h : Nat → Nat → R F.toDesc) (k : Nat) (E : Nat → Nat → R S.toDesc) : Prop := ∀ u,Orth k N E u ↔ Meets S F r N t h u
theorem Tells.zero (S F : FD) (r : R F.toDesc) (N : Nat) (h : Nat → Nat → R F.toDesc) (E : Nat → Nat → R S.toDesc) : Tells S F r N 0 h 0 E := fun _ => ⟨fun _ i hi => absurd hi (Nat.not_lt_zero i),fun _ i hi => absurd hi (Nat.not_lt_zero i)⟩
noncomputable def lineM (S F : FD) (r : R F.toDesc) (c : Nat → Nat → R F.toDesc) : Nat → Nat → R S.toDesc := fun i j => bk S F r (c j i)
theorem Meets.succ (u : Nat → R S.toDesc) : Meets S F r N (t + 1) h u ↔ Meets S F r N t h u ∧ rsum N (fun j => h t j * phi S F r (u j)) = 0 := by
 constructor
 ·intro g;exact ⟨fun i hi => g i (by omega),g t (by omega)⟩
 ·rintro ⟨g1,g2⟩ i hi;by_cases e : i = t
  ·subst e; exact g2
  ·exact g1 i (by omega)
theorem Tells.step (hp : S.p = F.p) (h0 : muV S F r = 0) {b : Nat → R F.toDesc} (hI : IndS S.m n b) (hT : Tells S F r N t h k E) {c : Nat → Nat → R F.toDesc}
  (hc : ∀ j,j < N → (∀ i,i < n → InSub S.m (c j i)) ∧ rsum n (fun i => c j i * b i) = h t j) :
  Tells S F r N (t + 1) h (rkS S (k + n) N (stackR k E (lineM S F r c))) (elS (k + n) (stackR k E (lineM S F r c)) N).1 := fun u => by
 have h1 : Orth (rkS S (k + n) N (stackR k E (lineM S F r c))) N (elS (k + n) (stackR k E (lineM S F r c)) N).1 u ↔ Orth (k + n) N (stackR k E (lineM S F r c)) u := Orth.same (elS_span (k + n) N (stackR k E (lineM S F r c))) u;rw [h1,orth_stack,hT u,Meets.succ,row_iff hp h0 hI hc u];exact Iff.rfl
noncomputable def kerK (S : FD) (k N : Nat) (E : Nat → Nat → R S.toDesc) : Nat := (npv (pvF (elS k E N).2) (rkS S k N E) N).length
noncomputable def kerM (S : FD) (k N : Nat) (E : Nat → Nat → R S.toDesc) : Nat → Nat → R S.toDesc := (elS (kerK S k N E) (nulM (rkS S k N E) N (pvF (elS k E N).2) (elS k E N).1) N).1
theorem kerK_le (S : FD) (k N : Nat) (E : Nat → Nat → R S.toDesc) : kerK S k N E ≤ N := by
 have h := List.length_filter_le (fun c => !decide (∃ i,i < rkS S k N E ∧ pvF (elS k E N).2 i = c)) (List.range N);rw [List.length_range] at h; exact h
theorem Tells.code (hT : Tells S F r N t h k E) (u : Nat → R S.toDesc) :
  Span (rkS S (kerK S k N E) N (kerM S k N E)) N (elS (kerK S k N E) (kerM S k N E) N).1 u ↔ Meets S F r N t h u := by
 have h1 := same_iff (elS_span (kerK S k N E) N (kerM S k N E)) u;have hr : rkS S (kerK S k N E) N (nulM (rkS S k N E) N (pvF (elS k E N).2) (elS k E N).1) = kerK S k N E := elS_rank nul_indep;have h2 := elS_span (kerK S k N E) N (nulM (rkS S k N E) N (pvF (elS k E N).2) (elS k E N).1);rw [show (elS (kerK S k N E) (nulM (rkS S k N E) N (pvF (elS k E N).2) (elS k E N).1) N).2.length = kerK S k N E from hr] at h2;have h3 : Span (kerK S k N E) N (kerM S k N E) u ↔ _ := same_iff h2 u;have h4 := nul_iff (elS_RR k N E) u;have h5 : Orth (rkS S k N E) N (elS k E N).1 u ↔ Orth k N E u := Orth.same (elS_span k N E) u;exact h1.trans (h3.trans (h4.trans (h5.trans (hT u))))
theorem ker_dim {T : Nat} (hk : k ≤ T) : N ≤ rkS S (kerK S k N E) N (kerM S k N E) + T := by
 have hr : rkS S (kerK S k N E) N (nulM (rkS S k N E) N (pvF (elS k E N).2) (elS k E N).1) = kerK S k N E := elS_rank nul_indep;have hc := canl_elS S (kerK S k N E) N (nulM (rkS S k N E) N (pvF (elS k E N).2) (elS k E N).1);rw [hr] at hc;have h1 : rkS S (kerK S k N E) N (kerM S k N E) = kerK S k N E := hc.1;have hR := elS_RR k N E;have h2 : kerK S k N E + rkS S k N E = N := npv_len (m := N) _ hR.lt hR.inj;have h3 : rkS S k N E ≤ k := (elS_le k E N).1;omega
end
end
section
open Go.RowKit Cw
attribute [local go_sem] Oper.semAt_some

def KerPost (F : FD) (n m : Nat) (M : Nat → Nat → R F.toDesc) (w : World) (e : Ending) (w' : World) : Prop :=
 ∃ p : Nat → Nat,p = pvF (elS n M m).2 ∧ ∃ Al,e = .returned (.tuple #[.agg #[.int .i64 m,.slice Al (npv p (rkS F n m M) m).length (npv p (rkS F n m M) m).length],.int .i64 0]) ∧ Below w.heap.size w w' ∧ RdMU w' w.heap.size w'.heap.size Al (npv p (rkS F n m M) m).length (rowsL F.toDesc m (elS (npv p (rkS F n m M) m).length (nulM (rkS F n m M) m p (elS n M m).1) m).1)
theorem conB_natL {pl : List Nat} {r : Nat} {p : Nat → Nat} (hl : pl.length = r) (hp : p = pvF pl) (c : Nat) : conB (natL pl) (c : Int) = decide (∃ i,i < r ∧ p i = c) := by
 unfold conB;refine decide_eq_decide.2 ⟨fun h => ?_,fun ⟨i,hi,e⟩ => ?_⟩
 ·obtain ⟨k,hk,e⟩ := List.getElem_of_mem h;have hk2 : k < pl.length := by rw [← natL_len]; exact hk
  refine ⟨k,by omega,?_⟩;have h1 := natL_pv pl hk2;rw [List.getElem?_eq_getElem hk] at h1;have h2 : ((pvF pl k : Nat) : Int) = (c : Int) := h1.symm.trans e;rw [hp]; omega
 ·have hk : i < (natL pl).length := by rw [natL_len]; omega
  have h1 := natL_pv pl (show i < pl.length by omega);rw [List.getElem?_eq_getElem hk,← hp,e] at h1;have h2 : (natL pl)[i] = (c : Int) := h1;rw [← h2]; exact List.getElem_mem hk
theorem kerPost_two (F0 F1 : FD) (h : F1.toDesc = F0.toDesc) (n m : Nat) (M : Nat → Nat → R F0.toDesc) : ∃ M1 : Nat → Nat → R F1.toDesc,rowsL F1.toDesc m M1 = rowsL F0.toDesc m M ∧ ∀ w e w',KerPost F1 n m M1 w e w' → KerPost F0 n m M w e w' := by
 obtain ⟨D0,g0,a0,b0,c0⟩ := F0;obtain ⟨D1,g1,a1,b1,c1⟩ := F1;dsimp only at h;subst h;exact ⟨M,rfl,fun _ _ _ hp => hp⟩
set_option maxRecDepth 100000 in
set_option maxHeartbeats 16000000 in
theorem gKernel_ok (F : FD) (hgood : Good F.p F.m (modL F.toDesc)) (n m : Nat) (M : Nat → Nat → R F.toDesc) (A Ar : Option Addr) (c cr : Nat) (w : World) (hr : Rd w w.heap.size A (modL F.toDesc)) (hrm : RdM w w.heap.size Ar n (rowsL F.toDesc m M)) (hn : n ≤ 256) (hm1 : 1 ≤ m) (hm : m ≤ 256) :
    Calls Tryz.prog 174 #[.agg #[.int .i64 F.p,.int .i64 F.m,.slice A F.mod.length c],.agg #[.int .i64 m,.slice Ar n cr]] w (KerPost F n m M w) := by
  have hO := fun X W h1 h2 h3 h4 h5 => Lib.hid (gOpenM_ok F hgood n m M A Ar c cr X W h1 h2 hn hm h3 h4 h5)
  obtain ⟨Z,hZ⟩ : ∃ Z,Z = ((w.alloc (.cells #[.int .i64 F.p,.int .i64 F.m,.slice A F.mod.length c] 24)).alloc (.cells #[.int .i64 m,.slice Ar n cr] 48)).alloc (.cells #[.int .i64 0,.slice none 0 0] 48) := ⟨_,rfl⟩;have hB : Below w.heap.size w Z := by rw [hZ]; exact (((Below.refl _ _).alloc (Nat.le_refl _) _).alloc (by simp) _).alloc (by simp; omega) _
  have hZs : Z.heap.size = w.heap.size + 1 + 1 + 1 := by rw [hZ]; simp
  have kz : (Z.cell? ⟨w.heap.size,0,none⟩ = some (.int .i64 F.p) ∧ Z.cell? ⟨w.heap.size,1,none⟩ = some (.int .i64 F.m) ∧ Z.cell? ⟨w.heap.size,2,none⟩ = some (.slice A F.mod.length c)) ∧
      (Z.cell? ⟨w.heap.size + 1,0,none⟩ = some (.int .i64 m) ∧ Z.cell? ⟨w.heap.size + 1,1,none⟩ = some (.slice Ar n cr)) ∧ Z.cell? ⟨w.heap.size + 1 + 1,0,none⟩ = some (.int .i64 0) ∧ Z.cell? ⟨w.heap.size + 1 + 1,1,none⟩ = some (.slice none 0 0) ∧
      Z.frozen? ⟨w.heap.size + 1 + 1,0,none⟩ = false ∧ Z.frozen? ⟨w.heap.size + 1 + 1,1,none⟩ = false := by rw [hZ]; simp [go_sem]
  obtain ⟨s,hs⟩ : ∃ s,s = w.heap.size := ⟨_,rfl⟩;rw [← hs] at kz hZs;obtain ⟨⟨z0,z1,z2⟩,⟨y0,y1⟩,kx⟩ := kz;have ky := Lib.hid (show Z.cell? ⟨s + 1,0,none⟩ = some (.int .i64 m) ∧ Z.cell? ⟨s + 1,1,none⟩ = some (.slice Ar n cr) from ⟨y0,y1⟩);replace kx := Lib.hid kx;have hb2 : Below Z.heap.size Z (Z.alloc (.cells #[.int .i64 m,.slice Ar n cr] 48)) := (Below.refl _ _).alloc (Nat.le_refl _) _;have hB2 := hB.trans (hb2.mono hB.size);have hO2 := hO (s + 1 + 1 + 1) _ ((hr.below hB2).more hB2.size) ((hrm.below hB2).more hB2.size) (by rw [World.size_alloc]; omega) (by rw [← hZs]; simp [go_sem]) (by rw [← hZs]; simp [go_sem]);have hsZ : s + 1 + 1 < Z.heap.size := by omega
  replace hZs := Lib.hid hZs;replace hZ := Lib.hid hZ;clear hO;go_enter Tryz.func174,Tryz.ntmps174;go_wp2_with (fail);rw [← hZ.out];simp only [← hs];have hsw : w.heap.size ≤ s := Nat.le_of_eq hs.symm;replace hs := Lib.hid hs;(with_reducible refine hO2.out.mono ?_);rintro e w1 ⟨g,F1,h1,rfl,hgf,hb1⟩;have hB1 := hB2.trans (hb1.mono hB2.size);have hbz := hb2.trans (hb1.mono hb2.size);obtain ⟨M1,hM1,hpost⟩ := kerPost_two F F1 h1 n m M;have hp9 := Lib.hid (hpost w);have hrm1 := (hrm.below hB1).more hB1.size;rw [← hM1] at hrm1;have hB0 := Lib.hid hB1;clear hM1 hpost hO2 hB2 hb2 hrm hr h1 hgood;have hC := Lib.hid (gCanon_any F1 n m M1 Ar cr g w1 hgf hrm1 (by omega) hm1 (by omega));clear hrm1;have k1 := Lib.hid (show w1.cell? ⟨s + 1,0,none⟩ = some (.int .i64 m) ∧ w1.cell? ⟨s + 1,1,none⟩ = some (.slice Ar n cr) from ⟨(hbz.cell (p := ⟨s + 1,0,none⟩) (show s + 1 < Z.heap.size by omega)).trans ky.out.1,(hbz.cell (p := ⟨s + 1,1,none⟩) (show s + 1 < Z.heap.size by omega)).trans ky.out.2⟩);have hs1 := hbz.size;obtain ⟨y0,y1⟩ := k1.out;go_wp2_with (fail);(with_reducible refine hC.out.mono ?_);rintro e w3 ⟨g3,vp,rfl,hown,hmp,hg3,hb3⟩;clear y0 y1 hC;have hbz3 := hbz.trans (hb3.mono hbz.size);have hB3 := hB0.out.trans (hb3.mono hB0.out.size);have kx3 : Hid (w3.cell? ⟨s + 1 + 1,0,none⟩ = some (.int .i64 0) ∧ w3.cell? ⟨s + 1 + 1,1,none⟩ = some (.slice none 0 0) ∧ w3.frozen? ⟨s + 1 + 1,0,none⟩ = false ∧ w3.frozen? ⟨s + 1 + 1,1,none⟩ = false) :=
    ⟨(hbz3.cell (p := ⟨s + 1 + 1,0,none⟩) (show s + 1 + 1 < Z.heap.size by omega)).trans kx.out.1,(hbz3.cell (p := ⟨s + 1 + 1,1,none⟩) (show s + 1 + 1 < Z.heap.size by omega)).trans kx.out.2.1,(hbz3.frozen (p := ⟨s + 1 + 1,0,none⟩) (show s + 1 + 1 < Z.heap.size by omega)).trans kx.out.2.2.1,(hbz3.frozen (p := ⟨s + 1 + 1,1,none⟩) (show s + 1 + 1 < Z.heap.size by omega)).trans kx.out.2.2.2⟩
  have k3 := Lib.hid (show w3.cell? ⟨s + 1,0,none⟩ = some (.int .i64 m) ∧ w3.cell? ⟨s + 1,1,none⟩ = some (.slice Ar n cr) from ⟨(hbz3.cell (p := ⟨s + 1,0,none⟩) (show s + 1 < Z.heap.size by omega)).trans ky.out.1,(hbz3.cell (p := ⟨s + 1,1,none⟩) (show s + 1 < Z.heap.size by omega)).trans ky.out.2⟩);have hs3 : s + 1 + 1 < w3.heap.size := Nat.lt_of_lt_of_le hsZ hbz3.size;have hgf3 := (hgf.below hb3).more hb3.size;obtain ⟨r,hrk⟩ : ∃ r,r = rkS F1 n m M1 := ⟨_,rfl⟩;obtain ⟨E,hE⟩ : ∃ E,E = (elS n M1 m).1 := ⟨_,rfl⟩;obtain ⟨pl,hpl⟩ : ∃ pl,pl = (elS n M1 m).2 := ⟨_,rfl⟩;obtain ⟨p,hp⟩ : ∃ p,p = pvF pl := ⟨_,rfl⟩;have hplr : Hid (pl.length = r) := by rw [hpl,hrk]; rfl
  have hcon := fun c => Lib.hid (conB_natL hplr.out hp c)
  have hRR : RR m r p E := by rw [hrk,hp,hpl,hE]; exact elS_RR n m M1
  have hrm64 : r ≤ m := by rw [hrk]; exact (elS_le n M1 m).2
  have hTm : (npv p r m).length ≤ m := by
    have h := List.length_filter_le (fun c => !decide (∃ i,i < r ∧ p i = c)) (List.range m);rw [List.length_range] at h; exact h
  have hpv : Hid (∀ i,i < r → (natL pl)[i]?.getD 0 = (p i : Int)) := fun i hi => by rw [hp]; exact natL_pv pl (by rw [hplr.out]; exact hi)
  have hnl : Hid ((natL pl).length = r) := (natL_len pl).trans hplr.out;have hin : Hid (rkS F1 (npv p r m).length m (nulM r m p E) = (npv p r m).length) := elS_rank nul_indep;rw [← hrk,← hE] at hmp;rw [← hrk];rw [← hpl] at hown;unfold KerPost at hp9;rw [← hrk,← hE,← hpl] at hp9;have hC2 := fun Ar' cr' W a b d => Lib.hid (gCanon_any F1 (npv p r m).length m (nulM r m p E) Ar' cr' g W a b d hm1 (by omega))
  rw [hin.out] at hC2;obtain ⟨T,hT⟩ : ∃ T,T = (npv p r m).length := ⟨_,rfl⟩;replace hrk := Lib.hid hrk;replace hE := Lib.hid hE;replace hpl := Lib.hid hpl;replace hp := Lib.hid hp;replace hT := Lib.hid hT;obtain ⟨Ap,cp,rfl,hcp1,hrp0,-⟩ := hown.form;have hrl0 := (hmp.rdmU hg3).rdm;rw [hnl.out] at hcp1 ⊢;clear hin hown hmp hbz hbz3 hb3 k1 ky kx hb1;obtain ⟨y0,y1⟩ := k3.out;go_wp2_with (fail);clear y0 y1;obtain ⟨V,hVe⟩ : ∃ V,V = w3.heap.size := ⟨_,rfl⟩;have hVl : V ≤ w3.heap.size := Nat.le_of_eq hVe;have hwV : w.heap.size ≤ V := by rw [hVe]; exact hB3.size
  have hsV : s + 1 + 1 < V := by rw [hVe]; exact hs3
  have hgV : GF w3 V g F1 := by rw [hVe]; exact hgf3
  have hrp : Rd w3 V Ap (natL pl) := by rw [hVe]; exact hrp0
  have hrl : RdM w3 V (some ⟨g3,0,none⟩) r (rowsL F1.toDesc m E) := by rw [hVe]; exact hrl0
  replace hVe := Lib.hid hVe;obtain ⟨rows,hrows⟩ : ∃ rows,rows = rowsL F1.toDesc m (nulM r m p E) := ⟨_,rfl⟩;have hrowl : Hid (∀ t,(rows t).length = m) := fun t => by rw [hrows,rowsL_length]
  replace hrows := Lib.hid hrows;clear hrp0 hrl0 hgf3 hgf;go_loopw [37,10,11,12,13,14] (fun i v _ _ _ _ wr => ∃ cc : Nat,cc ≤ m ∧ i = .int .i64 cc ∧ Hid (OwnM wr V v (npv p r cc).length rows) ∧ Below V w3 wr) (fun i _ _ _ _ _ _ => m - (intOf i).toNat)
  case atStart => exact ⟨0,by omega,rfl,Lib.hid (OwnM.nil _ _ _),Below.refl _ _⟩
  case round =>
    obtain ⟨wc,rfl⟩ : ∃ wc : World,wc = wr := ⟨_,rfl⟩;obtain ⟨cc,hcc,rfl,hown,hbc⟩ := hrel;have hVc : V ≤ wc.heap.size := Nat.le_trans hVl hbc.size;obtain ⟨Av,cv,rfl⟩ := hown.out.size;have y0 := (hbc.cell (p := ⟨s + 1,0,none⟩) (show s + 1 < V by omega)).trans k3.out.1;by_cases hcm : cc < m
    · have c0 : (0 : Int) ≤ (cc : Int) := by omega
      have c1 : (cc : Int) < (m : Int) := by omega
      have hCo := Contains_any (natL pl) (cc : Int) Ap cp wc ((hrp.below hbc).more hVc) (by rw [hnl.out]; unfold maxLen; omega);rw [hnl.out,(hcon cc).out] at hCo;by_cases hpc : ∃ i,i < r ∧ p i = cc
      · rw [decide_eq_true hpc] at hCo;replace hCo := Lib.hid hCo;have hown2 : Hid (OwnM wc V (.slice Av (npv p r cc).length cv) (npv p r (cc + 1)).length rows) := by rw [npv_skip hpc]; exact hown
        replace hpc := Lib.hid hpc;generalize (npv p r cc).length = t at *;go_wp2_with (fail);(with_reducible refine hCo.out.mono ?_);rintro e w5 ⟨rfl,rfl⟩;go_wp2_with (fail);go_roundw
        case rel => exact ⟨cc + 1,by omega,by go_num,hown2,hbc⟩
        case measure => simp [intOf]; omega
      · rw [decide_eq_false hpc] at hCo;replace hCo := Lib.hid hCo;have hmk := mk_ints m (by omega);obtain ⟨e1,e2⟩ := npv_at (m := m) hcm hpc;have hne : Hid (∀ i,i < r → p i ≠ cc) := fun i hi e => hpc ⟨i,hi,e⟩
        have hfull : Hid (nulL F1 m p E cc r = rows (npv p r cc).length) := by rw [hrows.out]; exact nulL_full F1 e1
        obtain ⟨t,ht⟩ : ∃ t,t = (npv p r cc).length := ⟨_,rfl⟩;rw [← ht] at hown hfull e2 ⊢;obtain ⟨t2,ht2⟩ : ∃ t2,t2 = (npv p r (cc + 1)).length := ⟨_,rfl⟩
        have htm : t < m + 1 := by have : (npv p r cc).length ≤ cc := by { have h := List.length_filter_le (fun c => !decide (∃ i,i < r ∧ p i = c)) (List.range cc); rw [List.length_range] at h; exact h }
                                   omega
        replace e1 := Lib.hid e1;replace e2 := Lib.hid e2;replace ht := Lib.hid ht;replace ht2 := Lib.hid ht2;replace hpc := Lib.hid hpc;obtain ⟨gx,hgx⟩ : ∃ g,g = wc.heap.size := ⟨_,rfl⟩;have hib0 := IB.newz wc m;have hcW := hib0.cell (i := cc) (by rw [List.length_replicate]; exact hcm);have hfW := hib0.frozen cc;obtain ⟨Y,hY⟩ : ∃ Y,Y = wc.alloc (.cells ((Array.replicate m (Value.int .i64 0)).setIfInBounds cc (Value.int .i64 1)) 3) := ⟨_,rfl⟩;have hibY : Hid (IB Y gx (nulL F1 m p E cc 0)) := by rw [hY,hgx,← nulL_zero,set_arr]; exact Lib.hid (IB.new wc _)
        have hbY : Below gx wc Y := by rw [hY,hgx]; exact (Below.refl _ _).alloc (Nat.le_refl _) _
        have hgV2 : V ≤ gx := by rw [hgx]; exact hVc
        have hbVY : Below V w3 Y := hbc.trans (hbY.mono hgV2);replace hY := Lib.hid hY;clear hib0;go_wp2_with (fail);(with_reducible refine hCo.out.mono ?_);rintro e w5 ⟨rfl,rfl⟩;go_wp2_with (fail);rw [← hY.out];simp only [← hgx];replace hgx := Lib.hid hgx;clear hmk hcW hfW hCo y0;go_loopw [51,13,14] (fun i _ _ wr => ∃ k : Nat,k ≤ r ∧ i = .int .i64 k ∧ Hid (IB wr gx (nulL F1 m p E cc k)) ∧ Below gx Y wr) (fun i _ _ _ => r - (intOf i).toNat)
        case atStart => exact ⟨0,by omega,rfl,hibY,Below.refl _ _⟩
        case round =>
          clear hibY;obtain ⟨wd,rfl⟩ : ∃ wd : World,wd = wr := ⟨_,rfl⟩;obtain ⟨k,hk,rfl,hibd,hbd⟩ := hrel;have hgl2 := hibd.out.lt;by_cases hkr : k < r
          · have j0 : (0 : Int) ≤ (k : Int) := by omega
            have j1 : (k : Int) < (r : Int) := by omega
            have hbVd := hbVY.trans (hbd.mono hgV2);obtain ⟨bp,op,rfl,hbp,hcp⟩ := hrp.at_ (k := k) (by rw [hnl.out]; exact hkr);rw [hpv.out k hkr] at hcp;replace hcp := (hbVd.cell (p := ⟨bp,op + k,none⟩) hbp).trans hcp;obtain ⟨br,orr,Ai,ci',er,hbr,hcr,hri,-,-⟩ := hrl.at_ hkr
            injection er with er
            injection er with e4 e5 e6
            subst e4 e5;rw [rowsL_length] at hcr;replace hcr := (hbVd.cell (p := ⟨g3,0 + k,none⟩) hbr).trans hcr;rw [Nat.zero_add] at hcr;have hri2 : Rd w3 V Ai (lst m fun c => ci (E k c)) := hri;obtain ⟨be,oe,rfl,hbe,hce⟩ := hri2.at_ (k := cc) (by rw [lst_length]; exact hcm);rw [lst_get _ hcm] at hce;replace hce := (hbVd.cell (p := ⟨be,oe + cc,none⟩) hbe).trans hce;have hpm := hRR.lt k hkr;have hset := fun W (h : IB W gx _) => (nulL_set F1 hRR hkr (hne.out k hkr)) ▸ h.set_ (p k) (ci (-(E k cc)))
            have hN := gNeg_any F1 (ci (E k cc)) g wd ((hgV.below hbVd).more (Nat.le_trans hVl hbVd.size));rw [eli_ci] at hN;obtain ⟨y,hy⟩ : ∃ y,y = ci (-(E k cc)) := ⟨_,rfl⟩;obtain ⟨x,hx⟩ : ∃ x,x = ci (E k cc) := ⟨_,rfl⟩;rw [← hy] at hset hN;rw [← hx] at hce hN;obtain ⟨pk,hpk⟩ : ∃ pk,pk = p k := ⟨_,rfl⟩;rw [← hpk] at hcp hset hpm;have p0 : (0 : Int) ≤ (pk : Int) := by omega
            have p1 : (pk : Int) < (m : Int) := by omega
            replace hN := Lib.hid hN;replace hy := Lib.hid hy;replace hx := Lib.hid hx;replace hpk := Lib.hid hpk;clear hri hri2;go_wp2_with (fail);(with_reducible refine hN.out.mono ?_);rintro e we ⟨rfl,hb⟩;have hibe := hibd.out.below hb hgl2;have hcW := hibe.cell (i := pk) (by rw [nulL,lst_length]; exact hpm);have hfW := hibe.frozen pk;have hstep := Lib.hid (hset _ hibe);have hbs : Below gx Y (we.setCell ⟨gx,pk,none⟩ (.int .i64 y)) := (hbd.trans (hb.mono (by omega))).setCell (p := ⟨gx,pk,none⟩) (Nat.le_refl _) _;clear hN hcp hcr hce hset;go_wp2_with (fail);clear hcW hfW;go_roundw
            case rel => exact ⟨k + 1,by omega,by go_num,hstep,hbs⟩
            case measure => simp [intOf]; omega
          · have hkr2 : k = r := by omega
            rw [hkr2,hfull.out] at hibd;have hbvd : Below gx wc wd := hbY.trans hbd;have hown2 : OwnM wd V (.slice Av t cv) t rows := hown.out.below (W := gx) hbvd (Nat.le_of_eq hgx.out.symm);have hlt0 := hown.out.lt0;rw [← hgx.out] at hlt0;have hVd : V ≤ wd.heap.size := by omega
            replace hlt0 := Lib.hid hlt0;go_wp2_with (at_builtin; refine wpList_appRow rfl (.tmp 69) (.tmp 71) rfl V _ t rows hown2 (some ⟨gx,0,none⟩) m m hibd.out.rd (hrowl.out t) (Nat.le_refl _) (by unfold maxLen; omega) gx hlt0.out (fun a e => by cases e; exact Nat.le_refl _) hgV2 rfl rfl rfl (by omega) hVd ?_; intro v' w' ho' hb');rw [← e2.out] at ho';replace ho' := Lib.hid ho';go_roundw
            case rel => exact ⟨cc + 1,by omega,by go_num,ho',(hbVY.trans (hbd.mono hgV2)).trans hb'⟩
            case measure => simp [intOf]; omega
    · have hcm2 : cc = m := by omega
      rw [hcm2,← hT.out] at hown ⊢;obtain ⟨A9,c9,e9,hrm9⟩ := OwnM.rdm hown.out;have e9' : A9 = Av ∧ c9 = cv := by injection e9 with g1 g2 g3; exact ⟨g1.symm,g3.symm⟩
      obtain ⟨rfl,rfl⟩ := e9';clear e9;have hBc := hB3.trans (hbc.mono hwV);have hq2 := hC2 A9 c9 wc ((hgV.below hbc).more hVc) (by rw [← hT.out,← hrows.out]; exact hrm9) (by omega);rw [← hT.out] at hq2;replace hcm2 := Lib.hid hcm2;go_wp2_with (fail);(with_reducible refine hq2.out.mono ?_);rintro e wz ⟨gz,vz,rfl,-,hmz,hgz,hbz⟩;clear hq2 y0;have hbV := hbc.trans (hbz.mono hVc);have y0 := (hbV.cell (p := ⟨s + 1,0,none⟩) (show s + 1 < V by omega)).trans k3.out.1;have v0 := (hbV.cell (p := ⟨s + 1 + 1,0,none⟩) hsV).trans kx3.out.1;have v1 := (hbV.cell (p := ⟨s + 1 + 1,1,none⟩) hsV).trans kx3.out.2.1;have e0 := (hbV.frozen (p := ⟨s + 1 + 1,0,none⟩) hsV).trans kx3.out.2.2.1;have e1 := (hbV.frozen (p := ⟨s + 1 + 1,1,none⟩) hsV).trans kx3.out.2.2.2;have hru := hmz.rdmU hgz;have hfin : Hid (RdMU ((wz.setCell ⟨s + 1 + 1,0,none⟩ (.int .i64 m)).setCell ⟨s + 1 + 1,1,none⟩ (.slice (some ⟨gz,0,none⟩) T T)) wc.heap.size wz.heap.size (some ⟨gz,0,none⟩) T (rowsL F1.toDesc m (elS T (nulM r m p E) m).1)) :=
        hru.keepU fun p hp _ => set2_above (b := s + 1 + 1) (L := wc.heap.size) (by omega) _ _ p hp
      have hsz : Hid (wz.heap.size ≤ ((wz.setCell ⟨s + 1 + 1,0,none⟩ (.int .i64 m)).setCell ⟨s + 1 + 1,1,none⟩ (.slice (some ⟨gz,0,none⟩) T T)).heap.size) := by unfold Hid; simp [World.setCell]
      have hBf := Lib.hid ((hBc.trans (hbz.mono hBc.size)).trans ((set2 (w3 := wz) (b := s + 1 + 1) (.int .i64 m) (.slice (some ⟨gz,0,none⟩) T T)).mono (by omega)));have hend := hp9.out (.returned (.tuple #[.agg #[.int .i64 m,.slice (some ⟨gz,0,none⟩) T T],.int .i64 0])) ((wz.setCell ⟨s + 1 + 1,0,none⟩ (.int .i64 m)).setCell ⟨s + 1 + 1,1,none⟩ (.slice (some ⟨gz,0,none⟩) T T)) ⟨p,hp.out,some ⟨gz,0,none⟩,by rw [← hT.out],hBf.out,by rw [← hT.out]; exact (hfin.out.low hBc.size).more hsz.out⟩;replace hend := Lib.hid hend;clear hfin hsz hBf hru hmz;go_wp2_with (fail);exact bodyPost_ret (v := .tuple #[.agg #[.int .i64 m,.slice (some ⟨gz,0,none⟩) T T],.int .i64 0]) (by simp [results,Tryz.results174,go_sem,v0,v1]) rfl hend.out
end
end Go.Proofs.YtjdoneanohhkmaaGreat

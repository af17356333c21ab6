/- Plain: the words orthogonal to the rows of a reduced matrix (the dual space). No Go here. Plain: interleaved rows, product rows, bursts. No Go here. Rows of combined codes, as lists. The program's field.Check; code.length, code.gen; open and Canonical of a matrix with an error; space.Check and code.Check, for any code. One header appended, as a step of a region that draws its order. A row appended to rows of the call's own; combine.Sum, Plotkin, Juxtapose: errors and codes. Plain: least weights of direct sums, of words (u, u + v), of products and of interleaved codes. No Go here. Plain: the words of a code by their index; the least weight as the reference finds it; ranks of combined rows. No Go here. Distance of any code: its number, and what it says if it is at least 1; results as codes without an error. Numbers of words and distances of results of chapter 14. CombineDistances: what the functions answer, with no program in sight. ref12.Has of any valid code and word: whether the word is in the rows' span. 'append(rows, lines...)' on rows without room: the rows and the lines, in a new block. Layer 09 of the reference: Null. -/
import Derived.Deep.RegionHeld3
import Derived.IntWalk
import Derived.Laws.MakeOwn
import Derived.Outline
import Derived.Test.YtjdoneanohhkmaaGreatZqV04RLA
import Derived.Test.YtjdoneanohhkmaaGreatZqV04RMat
import Derived.Test.YtjdoneanohhkmaaGreatZqV04RMH
import Derived.Test.YtjdoneanohhkmaaGreatZqV04RHasB
import Derived.Test.YtjdoneanohhkmaaGreatZqV04RMatX
import Derived.Test.YtjdoneanohhkmaaGreatZqV04RHasD
import Derived.Test.YtjdoneanohhkmaaGreatZqV04RBxs
import Derived.Test.YtjdoneanohhkmaaGreatZqV04RGrsB
import Derived.Test.YtjdoneanohhkmaaGreatZqV04RTk
set_option linter.unusedVariables false
set_option linter.unusedSimpArgs false
namespace Cw
section
variable {F : Type} [CField F]
def Orth (K m : Nat) (A : Nat → Nat → F) (u : Nat → F) : Prop := ∀ i,i < K → rsum m (fun j => A i j * u j) = 0
theorem Orth.span {K m : Nat} {A : Nat → Nat → F} {u v : Nat → F} (h : Orth K m A u) (hv : Span K m A v) : rsum m (fun j => v j * u j) = 0 := by
 obtain ⟨c,hc⟩ := hv;rw [rsum_congr (g := fun j => rsum K fun i => c i * (A i j * u j)) fun j hj => by
  rw [hc j hj,← rsum_mul_right]; exact rsum_congr fun i _ => mul_a _ _ _,rsum_swap]
 exact rsum_eq_zero fun i hi => by rw [rsum_mul_left,h i hi,mul_zero]
theorem Orth.same {K K' m : Nat} {A B : Nat → Nat → F} (hs : SameSpan K K' m A B) (u : Nat → F) : Orth K m A u ↔ Orth K' m B u :=
 ⟨fun h i hi => h.span (hs.2 i hi),fun h i hi => h.span (hs.1 i hi)⟩
def npv (p : Nat → Nat) (r m : Nat) : List Nat := (List.range m).filter fun c => !decide (∃ i,i < r ∧ p i = c)
theorem npv_succ (p : Nat → Nat) (r m : Nat) : npv p r (m + 1) = npv p r m ++ if ∃ i,i < r ∧ p i = m then [] else [m] := by
 unfold npv;rw [List.range_succ,List.filter_append]
 congr 1
 by_cases h : ∃ i,i < r ∧ p i = m
 ·rw [if_pos h]; simp [h]
 ·rw [if_neg h]; simp [h]
theorem npv_mem {p : Nat → Nat} {r m c : Nat} : c ∈ npv p r m ↔ c < m ∧ ∀ i,i < r → p i ≠ c := by
 unfold npv;rw [List.mem_filter,List.mem_range];simp
theorem rsum_npv {p : Nat → Nat} {r : Nat} (hinj : ∀ i j,i < r → j < r → p i = p j → i = j) (f : Nat → F) :
  ∀ m,rsum m f = rsum r (fun i => if p i < m then f (p i) else 0) + rsum (npv p r m).length (fun t => f ((npv p r m)[t]?.getD 0))
 | 0 => by
  rw [rsum_eq_zero (n := r) fun i _ => if_neg (Nat.not_lt_zero _)]
  show (0 : F) = 0 + 0
  rw [zero_add]
 | m + 1 => by
  rw [rsum_succ,rsum_npv hinj f m,npv_succ];by_cases h : ∃ i,i < r ∧ p i = m
  ·rw [if_pos h,List.append_nil];obtain ⟨k,hk,e⟩ := h;have e1 : rsum r (fun i => if p i < m + 1 then f (p i) else 0) = rsum r (fun i => if p i < m then f (p i) else 0) + f m := by
    have e2 : rsum r (fun i => if i = k then f m else 0) = f m := by rw [rsum_single hk fun i _ hne => if_neg hne,if_pos rfl]
    rw [← e2,← rsum_add];refine rsum_congr fun i hi => ?_
    by_cases g : i = k
    ·subst g; rw [if_pos (by omega),if_neg (by omega),if_pos rfl,e,zero_add]
    ·have hne : p i ≠ m := fun e3 => g (hinj i k hi hk (e3.trans e.symm))
     rw [if_neg g,add_zero];by_cases g2 : p i < m
     ·rw [if_pos g2,if_pos (by omega)]
     ·rw [if_neg g2,if_neg (by omega)]
   rw [e1]; ac_rfl
  ·rw [if_neg h,List.length_append,List.length_singleton,rsum_succ];have e1 : rsum r (fun i => if p i < m + 1 then f (p i) else 0) = rsum r (fun i => if p i < m then f (p i) else 0) := rsum_congr fun i hi => by
    have hne : p i ≠ m := fun e => h ⟨i,hi,e⟩
    by_cases g2 : p i < m
    ·rw [if_pos g2,if_pos (by omega)]
    ·rw [if_neg g2,if_neg (by omega)]
   have e2 : rsum (npv p r m).length (fun t => f ((npv p r m ++ [m])[t]?.getD 0)) = rsum (npv p r m).length (fun t => f ((npv p r m)[t]?.getD 0)) := rsum_congr fun t ht => by rw [List.getElem?_append_left ht]
   have e3 : f ((npv p r m ++ [m])[(npv p r m).length]?.getD 0) = f m := by rw [List.getElem?_append_right (Nat.le_refl _),Nat.sub_self]; rfl
   rw [e1,e2,e3]; ac_rfl
theorem npv_get {p : Nat → Nat} {r m t : Nat} (ht : t < (npv p r m).length) : (npv p r m)[t]?.getD 0 < m ∧ ∀ i,i < r → p i ≠ (npv p r m)[t]?.getD 0 := by
 have e : (npv p r m)[t]?.getD 0 ∈ npv p r m := by rw [List.getElem?_eq_getElem ht]; exact List.getElem_mem ht
 exact npv_mem.1 e
def nulR (r : Nat) (p : Nat → Nat) (A : Nat → Nat → F) (c : Nat) : Nat → F := fun j => (if j = c then 1 else 0) - rsum r fun i => if j = p i then A i c else 0
theorem nulR_piv {m r : Nat} {p : Nat → Nat} {A : Nat → Nat → F} (h : RR m r p A) {c i : Nat} (hi : i < r) (hc : p i ≠ c) : nulR r p A c (p i) = - A i c := by
 unfold nulR;rw [if_neg hc,rsum_single hi fun k hk hne => if_neg fun e => ?_,if_pos rfl]
 ·rw [zero_sub]
 ·have h1 := h.one i hi;rw [e,h.zero i k hi hk hne.symm] at h1;exact one_ne h1.symm
theorem nulR_oth {r : Nat} {p : Nat → Nat} (A : Nat → Nat → F) {c j : Nat} (hj : ∀ i,i < r → p i ≠ j) : nulR r p A c j = if j = c then 1 else 0 := by
 unfold nulR;rw [rsum_eq_zero fun i hi => if_neg fun e => hj i hi e.symm,sub_zero]
theorem RR.inj {m r : Nat} {p : Nat → Nat} {A : Nat → Nat → F} (h : RR m r p A) : ∀ i j,i < r → j < r → p i = p j → i = j := fun i j hi hj e => by
 rcases Nat.lt_trichotomy i j with g | g | g
 ·have := h.mono i j g hj; omega
 ·exact g
 ·have := h.mono j i g hi; omega
theorem npv_nodup (p : Nat → Nat) (r m : Nat) : (npv p r m).Nodup := List.Pairwise.filter _ List.nodup_range
theorem npv_inj {p : Nat → Nat} {r m s t : Nat} (hs : s < (npv p r m).length) (ht : t < (npv p r m).length) (e : (npv p r m)[s]?.getD 0 = (npv p r m)[t]?.getD 0) : s = t := by
 rw [List.getElem?_eq_getElem hs,List.getElem?_eq_getElem ht] at e;have hn := List.pairwise_iff_getElem.1 (npv_nodup p r m);have e' : (npv p r m)[s] = (npv p r m)[t] := e;rcases Nat.lt_trichotomy s t with g | g | g
 ·exact absurd e' (hn s t hs ht g)
 ·exact g
 ·exact absurd e'.symm (hn t s ht hs g)
def nulM (r m : Nat) (p : Nat → Nat) (A : Nat → Nat → F) : Nat → Nat → F := fun t => nulR r p A ((npv p r m)[t]?.getD 0)
theorem eq_neg_of_add {a b : F} (h : a + b = 0) : a = -b := by
 have h2 : a + b + -b = -b := by rw [h,zero_add]
 rwa [add_a,add_neg,add_zero] at h2
theorem nul_iff {m r : Nat} {p : Nat → Nat} {A : Nat → Nat → F} (h : RR m r p A) (u : Nat → F) : Span (npv p r m).length m (nulM r m p A) u ↔ Orth r m A u := by
 have hsum : ∀ f : Nat → F,rsum m f = rsum r (fun i => f (p i)) + rsum (npv p r m).length (fun t => f ((npv p r m)[t]?.getD 0)) := fun f => by
  rw [rsum_npv h.inj f m]
  congr 1
  exact rsum_congr fun i hi => if_pos (h.lt i hi)
 constructor
 ·intro hu i hi;have hrow : ∀ t,t < (npv p r m).length → rsum m (fun j => A i j * nulM r m p A t j) = 0 := fun t ht => by
   obtain ⟨hc,hn⟩ := npv_get ht;rw [hsum,rsum_single (k := i) hi fun k hk hne => by rw [h.zero i k hi hk hne.symm,zero_mul],rsum_single (k := t) ht fun s hs hne => ?_]
   ·unfold nulM;rw [nulR_piv h hi (hn i hi),nulR_oth A hn,if_pos rfl,h.one i hi,one_mul,mul_one,neg_add]
   ·unfold nulM;rw [nulR_oth A (npv_get hs).2,if_neg (fun e => hne (npv_inj hs ht e)),mul_zero]
  obtain ⟨c,hc⟩ := hu;rw [rsum_congr (g := fun j => rsum (npv p r m).length fun t => c t * (A i j * nulM r m p A t j)) fun j hj => by
   rw [hc j hj,← rsum_mul_left]; exact rsum_congr fun t _ => by ac_rfl,rsum_swap]
  exact rsum_eq_zero fun t ht => by rw [rsum_mul_left,hrow t ht,mul_zero]
 ·intro hu;refine ⟨fun t => u ((npv p r m)[t]?.getD 0),fun j hj => ?_⟩;by_cases g : ∃ i,i < r ∧ p i = j
  ·obtain ⟨i,hi,rfl⟩ := g;have h1 := hu i hi;rw [hsum,rsum_single (k := i) hi fun k hk hne => by rw [h.zero i k hi hk hne.symm,zero_mul],h.one i hi,one_mul] at h1;rw [rsum_congr (g := fun t => -(A i ((npv p r m)[t]?.getD 0) * u ((npv p r m)[t]?.getD 0))) fun t ht => by
    unfold nulM; rw [nulR_piv h hi ((npv_get ht).2 i hi),mul_neg,mul_c],rsum_neg]
   exact eq_neg_of_add h1
  ·have hn : ∀ i,i < r → p i ≠ j := fun i hi e => g ⟨i,hi,e⟩
   have hm : j ∈ npv p r m := npv_mem.2 ⟨hj,hn⟩;obtain ⟨t,ht,e⟩ := List.getElem_of_mem hm;have e' : (npv p r m)[t]?.getD 0 = j := by rw [List.getElem?_eq_getElem ht]; exact e
   rw [rsum_single (k := t) ht fun s hs hne => ?_]
   ·unfold nulM;dsimp only;rw [nulR_oth A hn,e',if_pos rfl,mul_one]
   ·unfold nulM;rw [nulR_oth A hn,if_neg (fun e2 => hne (npv_inj hs ht (e2.symm.trans e'.symm))),mul_zero]
theorem nul_indep {m r : Nat} {p : Nat → Nat} {A : Nat → Nat → F} : Indep (npv p r m).length m (nulM r m p A) := fun c hc t ht => by
 obtain ⟨hlt,hn⟩ := npv_get ht;have h1 := hc _ hlt;rw [rsum_single (k := t) ht fun s hs hne => by unfold nulM; rw [nulR_oth A hn,if_neg (fun e => hne (npv_inj hs ht e.symm)),mul_zero]] at h1;unfold nulM at h1;rw [nulR_oth A hn,if_pos rfl,mul_one] at h1;exact h1
end
end Cw
namespace Cw
theorem npv_pre {p : Nat → Nat} {r c : Nat} : ∀ {m : Nat},c ≤ m → ∃ l,npv p r m = npv p r c ++ l
 | 0,h => ⟨[],by rw [show c = 0 by omega,List.append_nil]⟩
 | m + 1,h => by
  by_cases e : c = m + 1
  ·exact ⟨[],by rw [e,List.append_nil]⟩
  ·obtain ⟨l,hl⟩ := npv_pre (p := p) (r := r) (m := m) (show c ≤ m by omega);exact ⟨l ++ _,by rw [npv_succ,hl,List.append_assoc]⟩
theorem npv_at {p : Nat → Nat} {r c m : Nat} (hc : c < m) (hn : ¬ ∃ i,i < r ∧ p i = c) : (npv p r m)[(npv p r c).length]?.getD 0 = c ∧ (npv p r (c + 1)).length = (npv p r c).length + 1 := by
 have e1 : npv p r (c + 1) = npv p r c ++ [c] := by rw [npv_succ,if_neg hn]
 obtain ⟨l,hl⟩ := npv_pre (p := p) (r := r) (show c + 1 ≤ m from hc);refine ⟨?_,by rw [e1,List.length_append,List.length_singleton]⟩;rw [hl,e1,List.append_assoc,List.getElem?_append_right (Nat.le_refl _),Nat.sub_self];rfl
theorem npv_skip {p : Nat → Nat} {r c : Nat} (hn : ∃ i,i < r ∧ p i = c) : npv p r (c + 1) = npv p r c := by
 rw [npv_succ,if_pos hn,List.append_nil]
def lead (p : Nat → Nat) : Nat → Nat → Int
 | 0,_ => -1
 | k + 1,c => if p k = c then (k : Int) else lead p k c
section
variable {F : Type} [CField F]
def nulK (p : Nat → Nat) (A : Nat → Nat → F) (c k : Nat) : Nat → F := fun j => (if j = c then 1 else 0) - rsum k fun i => if j = p i then A i c else 0
theorem nulK_step {m r : Nat} {p : Nat → Nat} {A : Nat → Nat → F} (h : RR m r p A) {c k : Nat} (hk : k < r) (hc : p k ≠ c) (j : Nat) : nulK p A c (k + 1) j = if j = p k then - A k c else nulK p A c k j := by
 unfold nulK;rw [rsum_succ];by_cases e : j = p k
 ·rw [if_pos e,if_pos e,if_neg (fun e2 => hc (e.symm.trans e2)),rsum_eq_zero (n := k) fun i hi => if_neg fun e2 => ?_,zero_add,zero_sub];have := h.inj i k (by omega) hk (e2.symm.trans e);omega
 ·rw [if_neg e,if_neg e,add_zero]
end
end Cw

namespace Cw
section cmb
variable {F : Type} [CField F]
open CField (inv)
def iv (s k : Nat) (u : Nat → F) : Nat → F := fun t => if t % s = k then u (t / s) else 0
end cmb
section burst
variable {F : Type} [CField F] [DecidableEq F]
end burst
end Cw

namespace Go.Proofs.YtjdoneanohhkmaaGreat
section
open Go.RowKit Cw
def joinF {X : Type} (n : Nat) (u v : Nat → X) : Nat → X := fun j => if j < n then u j else v (j - n)
theorem lst_join (n m : Nat) (u v : Nat → Int) : lst n u ++ lst m v = lst (n + m) (joinF n u v) := by
 unfold lst joinF;rw [List.range_add,List.map_append,List.map_map]
 congr 1
 ·exact List.map_congr_left fun j hj => by rw [if_pos (List.mem_range.1 hj)]
 ·exact List.map_congr_left fun j _ => by
   show v j = if n + j < n then u (n + j) else v (n + j - n)
   rw [if_neg (by omega),Nat.add_sub_cancel_left]
def stackR {X : Type} (K : Nat) (A B : Nat → X) : Nat → X := fun i => if i < K then A i else B (i - K)
theorem stackR_lo {X : Type} {K i : Nat} (A B : Nat → X) (h : i < K) : stackR K A B i = A i := if_pos h
theorem stackR_hi {X : Type} {K i : Nat} (A B : Nat → X) : stackR K A B (K + i) = B i := by unfold stackR; rw [if_neg (by omega),Nat.add_sub_cancel_left]
def sumR {F : Type} [CField F] (K n : Nat) (A B : Nat → Nat → F) : Nat → Nat → F := stackR K (fun i => joinF n (A i) fun _ => 0) (fun i => joinF n (fun _ => 0) (B i))
def ploR {F : Type} [CField F] (K n : Nat) (A B : Nat → Nat → F) : Nat → Nat → F := stackR K (fun i => joinF n (A i) (A i)) (fun i => joinF n (fun _ => 0) (B i))
end
section
open Go.RowKit Cw
attribute [local go_sem] Oper.semAt_some

theorem gen_yes (D : Desc) (A : Option Addr) (c : Nat) (w : World) (hr : Rd w w.heap.size A (modL D)) (hg : Good D.p D.m (modL D)) :
  Calls Tryz.prog 138 #[.agg #[.int .i64 D.p,.int .i64 D.m,.slice A D.mod.length c],.int .i64 D.q] w fun e w' => ∃ a n cv,e = .returned (.slice (some a) n cv) ∧ Below w.heap.size w w' := by
 refine (generator_any D A c w hr).mono ?_;rintro e w' ⟨v,rfl,hb,⟨u,-,ho⟩ | ⟨hno,-⟩⟩
 ·obtain ⟨Av,cv,rfl,-,hrv,-⟩ := ho.form;obtain ⟨b,o,rfl,-⟩ := hrv (by have := D.q2; rw [show (pwl u (D.q - 1)).length = D.q - 1 from lst_length _ _]; omega);exact ⟨_,_,_,rfl,hb⟩
 ·obtain ⟨u,hu⟩ := gen_of_good hg;exact absurd hu (hno u)
theorem gen_no (D : Desc) (A : Option Addr) (c : Nat) (w : World) (hr : Rd w w.heap.size A (modL D)) (hg : ¬ Good D.p D.m (modL D)) :
  Calls Tryz.prog 138 #[.agg #[.int .i64 D.p,.int .i64 D.m,.slice A D.mod.length c],.int .i64 D.q] w fun e w' => e = .returned (.slice none 0 0) ∧ Below w.heap.size w w' := by
 refine (generator_any D A c w hr).mono ?_;rintro e w' ⟨v,rfl,hb,⟨u,hu,-⟩ | ⟨-,rfl⟩⟩
 ·exact absurd (good_of_gen hu) hg
 ·exact ⟨rfl,hb⟩

set_option maxHeartbeats 2000000 in
theorem fCheck_D (D : Desc) (A : Option Addr) (c : Nat) (w : World) (hr : Rd w w.heap.size A (modL D)) :
  Calls Tryz.prog 157 #[.agg #[.int .i64 D.p,.int .i64 D.m,.slice A D.mod.length c]] w fun e w' => e = .returned (.int .i64 (chk D.p D.m (modL D))) ∧ Below w.heap.size w w' := by
 have hq2 := D.q2; have hq3 := D.q256; have hp1 := D.p256; have hp2 := D.m8;have hml : D.mod.length ≤ 8 := by have := D.hlen; rw [this]; split <;> omega
 obtain ⟨Z,hZ⟩ : ∃ Z,Z = w.alloc (.cells #[.int .i64 D.p,.int .i64 D.m,.slice A D.mod.length c] 24) := ⟨_,rfl⟩;have hB : Below w.heap.size w Z := by rw [hZ]; exact (Below.refl _ _).alloc (Nat.le_refl _) _
 have hZs : w.heap.size < Z.heap.size := by rw [hZ]; simp
 have k0 := Lib.hid (show Z.cell? ⟨w.heap.size,0,none⟩ = some (.int .i64 D.p) ∧ Z.cell? ⟨w.heap.size,1,none⟩ = some (.int .i64 D.m) ∧ Z.cell? ⟨w.heap.size,2,none⟩ = some (.slice A D.mod.length c) from by rw [hZ]; simp [go_sem]);have hS := shape_any D.p D.m (modL D) A c Z.drew (by omega) (by omega) (by rw [modL_length]; simp only [maxLen]; omega) ((hr.below hB).more hB.size).drew;rw [modL_length,validB_true ⟨D,rfl,rfl,rfl⟩] at hS;replace hS := Lib.hid hS;have hO := fun w => order_any D.p D.m w (by omega) (by omega)
 rw [qOf_D] at hO;replace hO := fun w => Lib.hid (hO w)
 have hnil := fun (W : World) (a : Option Addr) (n c : Nat) => Lib.run_eql_slice_nil (P := Tryz.prog) W 22 3 a n c 0 0 Tryz.underlying22
 replace hZ := Lib.hid hZ;by_cases hg : Good D.p D.m (modL D)
 ·have hG := fun W h => Lib.hid (gen_yes D A c W h hg)
  rw [chk_yes hg];clear hg;go_enter Tryz.func157,Tryz.ntmps157;go_wp2_with (fail);rw [← hZ.out];refine wp_region_held_drew (S := fun w' => w'.cell? ⟨w.heap.size,0,none⟩ = some (.int .i64 D.p) ∧ w'.cell? ⟨w.heap.size,1,none⟩ = some (.int .i64 D.m) ∧ w'.cell? ⟨w.heap.size,2,none⟩ = some (.slice A D.mod.length c)) (by kernel_rfl) (by (try dsimp only); exact k0.out) (fun hHeld => ?_);refine tk 0 ?_; try simp only [pS]
  refine rd 1 fun K hK => ?_
  go_simp;go_at_call 136;(with_reducible refine (hS).out.mono ?_);rintro e w1 ⟨rfl,hb1⟩;have k1 := Lib.hid (keep3 hb1 hZs k0.out);have hs1 : w.heap.size < w1.heap.size := Nat.lt_of_lt_of_le hZs hb1.size;have hB1 := hB.drew.trans (hb1.mono hB.size);go_wp2_with (fail);refine hK.out _ _ (by (try dsimp only); exact k1.out) (fun hHeld => ?_);clear hK K;try simp only [pS]
  refine tk 2 ?_; try simp only [pS]
  refine tk 3 ?_; try simp only [pS]
  refine tk 4 ?_; try simp only [pS]
  refine tk 5 ?_; try simp only [pS]
  refine tk 6 ?_; try simp only [pS]
  refine tk 7 ?_; try simp only [pS]
  refine tk 8 ?_; try simp only [pS]
  refine rd 9 fun K hK => ?_
  go_simp;go_at_call 137;(with_reducible refine ((hO _)).out.mono ?_);rintro e w9 ⟨rfl,rfl⟩;go_wp2_with (fail);refine hK.out _ _ (by (try dsimp only); exact k1.out) (fun hHeld => ?_);clear hK K;try simp only [pS]
  refine rd 10 fun K hK => ?_
  go_simp;go_at_call 138;(with_reducible refine ((hG _ ((hr.below hB1).more hB1.size))).out.mono ?_);rintro e w2 ⟨a,n,cv,rfl,hb2⟩;go_wp2_with (fail);refine hK.out _ _ (by (try dsimp only); exact keep3 hb2 hs1 k1.out) (fun hHeld => ?_);clear hK K;try simp only [pS]
  refine tk 11 ?_; try simp only [pS]
  refine tk 12 ?_; try simp only [pS]
  refine wpAnyH_done (by kernel_rfl) ?_ _;go_wp2_with (fail);go_ret;exact ⟨rfl,hB1.trans (hb2.mono hB1.size)⟩
 ·have hG := fun W h => Lib.hid (gen_no D A c W h hg)
  rw [chk_no hg];clear hg;go_enter Tryz.func157,Tryz.ntmps157;go_wp2_with (fail);rw [← hZ.out];refine wp_region_held_drew (S := fun w' => w'.cell? ⟨w.heap.size,0,none⟩ = some (.int .i64 D.p) ∧ w'.cell? ⟨w.heap.size,1,none⟩ = some (.int .i64 D.m) ∧ w'.cell? ⟨w.heap.size,2,none⟩ = some (.slice A D.mod.length c)) (by kernel_rfl) (by (try dsimp only); exact k0.out) (fun hHeld => ?_);refine tk 0 ?_; try simp only [pS]
  refine rd 1 fun K hK => ?_
  go_simp;go_at_call 136;(with_reducible refine (hS).out.mono ?_);rintro e w1 ⟨rfl,hb1⟩;have k1 := Lib.hid (keep3 hb1 hZs k0.out);have hs1 : w.heap.size < w1.heap.size := Nat.lt_of_lt_of_le hZs hb1.size;have hB1 := hB.drew.trans (hb1.mono hB.size);go_wp2_with (fail);refine hK.out _ _ (by (try dsimp only); exact k1.out) (fun hHeld => ?_);clear hK K;try simp only [pS]
  refine tk 2 ?_; try simp only [pS]
  refine tk 3 ?_; try simp only [pS]
  refine tk 4 ?_; try simp only [pS]
  refine tk 5 ?_; try simp only [pS]
  refine tk 6 ?_; try simp only [pS]
  refine tk 7 ?_; try simp only [pS]
  refine tk 8 ?_; try simp only [pS]
  refine rd 9 fun K hK => ?_
  go_simp;go_at_call 137;(with_reducible refine ((hO _)).out.mono ?_);rintro e w9 ⟨rfl,rfl⟩;go_wp2_with (fail);refine hK.out _ _ (by (try dsimp only); exact k1.out) (fun hHeld => ?_);clear hK K;try simp only [pS]
  refine rd 10 fun K hK => ?_
  go_simp;go_at_call 138;(with_reducible refine ((hG _ ((hr.below hB1).more hB1.size))).out.mono ?_);rintro e w2 ⟨rfl,hb2⟩;go_wp2_with (fail);refine hK.out _ _ (by (try dsimp only); exact keep3 hb2 hs1 k1.out) (fun hHeld => ?_);clear hK K;try simp only [pS]
  refine tk 11 ?_; try simp only [pS]
  refine tk 12 ?_; try simp only [pS]
  refine wpAnyH_done (by kernel_rfl) ?_ _;go_wp2_with (fail);go_ret;exact ⟨rfl,hB1.trans (hb2.mono hB1.size)⟩
end
section
open Go.RowKit Cw

theorem step_app1V {w : World} {ops : Array Oper} {o : Oper} {a : Act} {K : Act → World → Prop} {Q : Exit → Act → World → Prop} {E : Prop} (hgd : o.guard = none) (s x : Operand)
  (ho : o.op = .call { callee := .builtin .append,args := #[s,x],argTypes := #[25,25] })
  (B : Nat) (v : Value) (l : List Value) (y : Value) (hy : y.oneCell' = true) (hown : OwnV w B v l) (hs : a.eval s = v) {H : Nat} (hx : a.eval x = .slice (some ⟨H,0,none⟩) 1 1) (hH : w.heap.size = H)
  (hl : l.length ≤ 1000000) (hB : B ≤ w.heap.size)
  (h : ∀ v' w',OwnV w' B v' (l ++ [y]) → Below B w w' → w.grownBy w' v.ownBlock → (v'.ownBlock = v.ownBlock ∨ (∀ k,v'.ownBlock = some k → w.heap.size ≤ k)) → K (a.put o.dst v') w') :
  if Region.wanted o (yielded ops a.tmps) = true then Oper.wp Tryz.prog o a (w.alloc (.cells #[y] 22)) K Q else E := by
 have hw : Region.wanted o (yielded ops a.tmps) = true := by simp [Region.wanted,hgd]
 rw [if_pos hw];subst hH;obtain ⟨i0,hi,hz0,hz1,hz2⟩ := info_parts infoInts;obtain ⟨v',w',hrun,h2,h3,_,h5⟩ := run_append_own_at (P := Tryz.prog) (w.alloc (.cells #[y] 22)) B 25 o.type 22 i0 (.slice none 0 0) 1 24 Tryz.underlying25 hi hz0 hz1 hz2 rfl (by decide) v l.length l (World.ownsRow.alloc hown _)
  ⟨w.heap.size,0,none⟩ 1 1 [y] rfl (cell_one_new _ _ _) (by simp [hy]) (by simp only [maxLen]; omega) (by omega) (by simp; omega)
 unfold Oper.wp execOp;simp only [ho,resolve,invoke,builtin,Sem.run_bind,Sem.run_pure,Result.andThen_ok,List.map_toArray,List.map_cons,List.map_nil,hs,hx,hrun];have hg : w.grownBy w' v.ownBlock := ⟨h3.os,h3.tape,h3.output,Nat.le_trans (by simp) h3.size,fun k hk hne => (h3.block k (by simp; omega) hne).trans (Below.heap_alloc _ _ _ hk)⟩;refine h v' w' (by unfold OwnV; rw [List.length_append]; exact h2) ⟨hg.os,hg.tape,hg.output,hg.size,fun k hk => hg.block k (by omega) (fun e => by have := (World.ownsRow.lt hown k e.symm).1; omega)⟩ hg ?_;rcases h5 with h5 | h5
 ·exact .inl h5
 ·right; intro k hk; rw [h5] at hk; cases hk; simp
end
section
open Go.RowKit Cw
attribute [local go_sem] Oper.semAt_some

theorem OwnM.lt0 {w : World} {B n : Nat} {v : Value} {rows : Nat → List Int} (h : OwnM w B v n rows) : ∀ k,v.ownBlock = some k → k < w.heap.size := fun k e => by
 obtain ⟨hs,-,e2,-⟩ := h;exact (World.ownsRow.lt e2 k e).2
theorem wpList_appRow {w : World} {ops : Array Oper} {rest : List Oper} {o : Oper} {a : Act} {Q : Exit → Act → World → Prop} (hgd : o.guard = none) (s x : Operand)
  (ho : o.op = .call { callee := .builtin .append,args := #[s,x],argTypes := #[25,25] })
  (B : Nat) (v : Value) (n : Nat) (rows : Nat → List Int) (hown : OwnM w B v n rows) (Ak : Option Addr) (L ck : Nat) (hr : Rd w w.heap.size Ak (rows n)) (hL : (rows n).length = L) (hl : L ≤ ck) (hc : ck ≤ maxLen)
  (W0 : Nat) (hv0 : ∀ k,v.ownBlock = some k → k < W0) (hd : ∀ a,Ak = some a → W0 ≤ a.block) (hBW : B ≤ W0)
  (hs : a.eval s = v) {H : Nat} (hx : a.eval x = .slice (some ⟨H,0,none⟩) 1 1) (hH : w.heap.size = H) (hn : n ≤ 1000000) (hB : B ≤ w.heap.size)
  (h : ∀ v' w',OwnM w' B v' (n + 1) rows → Below B w w' → wpList Tryz.prog ops Q rest (a.put o.dst v') w') :
  wpList Tryz.prog ops Q (o :: rest) a (w.alloc (.cells #[.slice Ak L ck] 22)) := by
 obtain ⟨hss,e1,e2,e3⟩ := hown;refine wpList_app1V hgd s x ho B v hss _ rfl e2 hs hx hH (by omega) hB fun v' w' ho' hb hg hv => ?_
 refine h v' w' (OwnM.snoc e1 e3 hr (by omega) hc (fun _ a e => ⟨fun e4 => ?_,Nat.le_trans hBW (hd a e)⟩) (by rw [hL]; exact ho') hg hv) hb;have h1 := hd a e;have h2 := hv0 _ e4;omega
theorem OwnM.rdm {w : World} {B n : Nat} {v : Value} {rows : Nat → List Int} (h : OwnM w B v n rows) : ∃ A c,v = .slice A n c ∧ RdM w w.heap.size A n rows := by
 obtain ⟨A,c,rfl⟩ := h.size;refine ⟨A,c,rfl,?_⟩;by_cases h0 : 0 < n
 ·obtain ⟨g,c',e,hg',-,-,hmb⟩ := h.mb h0;have e2 : A = some ⟨g,0,none⟩ := by injection e
  rw [e2]; exact (hmb.rdmU hg').rdm
 ·obtain rfl : n = 0 := by omega
  exact RdM.zero
end
end Go.Proofs.YtjdoneanohhkmaaGreat

namespace Cw
open Go.Proofs.YtjdoneanohhkmaaGreat (joinF)
open Go.Proofs.YtjdoneanohhkmaaGreat (stackR sumR ploR)
section pl
variable {F : Type} [CField F]
end pl
section wt
variable {F : Type} [CField F] [DecidableEq F]
end wt
end Cw

namespace Go.Proofs.YtjdoneanohhkmaaGreat
section
open Go.RowKit Cw

section rank
variable {F : Type} [CField F]
theorem RR.congr {m r : Nat} {p : Nat → Nat} {A B : Nat → Nat → F} (h : RR m r p A) (e : ∀ i,i < r → ∀ j,j < m → A i j = B i j) : RR m r p B where
 lt := h.lt
 mono := h.mono
 one := fun i hi => by rw [← e i hi _ (h.lt i hi)]; exact h.one i hi
 zero := fun i j hi hj hne => by rw [← e i hi _ (h.lt j hj)]; exact h.zero i j hi hj hne
 low := fun i hi j hj => by rw [← e i hi j (Nat.lt_trans hj (h.lt i hi))]; exact h.low i hi j hj
end rank

theorem canl_RR {F : FD} {n m : Nat} {M : Nat → Nat → R F.toDesc} (h : Canl F n m M) : ∃ p,RR m n p M := by
 have h1 := elS_RR n m M;have hk : (elS n M m).2.length = n := h.1;rw [hk] at h1;exact ⟨_,RR.congr h1 fun i hi j hj => rowL_inj (D := F.toDesc) (h.2 i hi) hj⟩
section words
variable {F : FD} {n m : Nat} {M : Nat → Nat → R F.toDesc}
end words
end
section
open Go.RowKit Cw

theorem vc_res (F : FD) (hgood : Good F.p F.m (modL F.toDesc)) (n m : Nat) (M : Nat → Nat → R F.toDesc) (h1 : 1 ≤ m) (h2 : m ≤ 64) : VC F.p F.m m (modL F.toDesc) (rkS F n m M) (rowsL F.toDesc m (elS n M m).1) F m (elS n M m).1 :=
 ⟨rfl,rfl,rfl,hgood,rfl,h1,h2,fun _ _ => rfl,canl_elS F n m M⟩
end
section
open Go.RowKit Cw

section res
variable {F : FD} {n m : Nat} {M : Nat → Nat → R F.toDesc}
end res
end
section
open Go.RowKit Cw

end
section
open Go.RowKit Cw

noncomputable def spB {D : Type} [CField D] (n m : Nat) (M : Nat → Nat → D) (u : Nat → D) : Bool := @decide (Span n m M u) (Classical.propDecidable _)
theorem spB_iff {D : Type} [CField D] {n m : Nat} {M : Nat → Nat → D} {u : Nat → D} : spB n m M u = true ↔ Span n m M u :=
 @decide_eq_true_iff _ (Classical.propDecidable _)
theorem fnz_RR {F : FD} {n m : Nat} {M : Nat → Nat → R F.toDesc} {p : Nat → Nat} (h : RR m n p M) {i : Nat} (hi : i < n) : fnz (rowsL F.toDesc m M i) = p i := by
 have hlt := h.lt i hi;refine fnz_eq _ _ (by rw [rowsL,rowL_length]; omega) (fun j hj => ?_) (.inr ?_)
 ·rw [rowsL,rowL_get _ _ (by omega),h.low i hi j hj]; exact ci_zero
 ·rw [rowsL,rowL_get _ _ hlt,h.one i hi];intro e;exact one_ne (ci_eq_zero.1 e)
theorem rest_span {F : FD} {n m : Nat} {M : Nat → Nat → R F.toDesc} {p : Nat → Nat} (h : RR m n p M) (u : Nat → R F.toDesc) : all0 (rowL F.toDesc m (restF n (fun i => fnz (rowsL F.toDesc m M i)) M u)) = spB n m M u := by
 rw [Bool.eq_iff_iff,spB_iff];have hall : all0 (rowL F.toDesc m (restF n (fun i => fnz (rowsL F.toDesc m M i)) M u)) = true ↔ ∀ j,j < m → restF n (fun i => fnz (rowsL F.toDesc m M i)) M u j = 0 := by
  unfold all0;rw [decide_eq_true_iff];constructor
  ·intro h j hj;exact ci_eq_zero.1 (h _ (List.mem_map.2 ⟨j,List.mem_range.2 hj,rfl⟩))
  ·intro h x hx;obtain ⟨j,hj,rfl⟩ := List.mem_map.1 hx;exact ci_eq_zero.2 (h j (List.mem_range.1 hj))
 rw [hall];constructor
 ·intro h;refine ⟨fun i => u (fnz (rowsL F.toDesc m M i)),fun j hj => ?_⟩;have h1 := h j hj;unfold restF at h1;dsimp only at h1 ⊢;rw [rsum_congr fun i _ => neg_mul _ _,rsum_neg] at h1;exact sub_eq_zero h1
 ·intro hs j hj;obtain ⟨c,hc⟩ := hs;unfold restF;dsimp only;rw [rsum_congr (g := fun i => -(c i * M i j)) fun i hi => by
   rw [fnz_RR h hi,neg_mul]
   congr 2
   exact h.coef hc hi,rsum_neg,← hc j hj,add_neg]
theorem Has12_vc {P M N : Int} {ml : List Int} {n : Nat} {rows : Nat → List Int} {F : FD} {m : Nat} {B : Nat → Nat → R F.toDesc} (hv : VC P M N ml n rows F m B) (u : Nat → R F.toDesc) (A Ar A1 : Option Addr) (c cr c1 : Nat) (w : World) (hr : Rd w w.heap.size A ml) (hrm : RdM w w.heap.size Ar n rows) (hr1 : Rd w w.heap.size A1 (rowL F.toDesc m u)) :
  Calls Tryz.prog 19 #[.agg #[.int .i64 P,.int .i64 M,.slice A ml.length c,.int .i64 N,.slice Ar n cr],.slice A1 m c1] w fun e w' => e = .returned (.tuple #[.bool (spB n m B u),.int .i64 0]) ∧ Below w.heap.size w w' := by
 have eP := hv.hP; have eM := hv.hM; have eL := hv.hl; have eN := hv.hN;have h1 := hv.le; have h2 := hv.m64; have h3 := hv.m1;have hrm2 := hrm.congr hv.hr;have hgood := hv.good;have hcan := hv.can;obtain ⟨p,hRR⟩ := canl_RR hcan;clear hv hrm;subst eP eM eL eN;rw [modL_length,← rest_span hRR u];exact Has12_yes F hgood n m B hcan A Ar c cr u A1 c1 w hr hrm2 (by omega) h3 h2 hr1 (fun i hi => by rw [fnz_RR hRR hi]; exact hRR.lt i hi)
end
section
open Go.RowKit Cw

theorem vals_of {w : World} {L B n b off : Nat} {rows : Nat → List Int} (h : ∀ i,i < n → ∃ Ai ci,w.cell? ⟨b,off + i,none⟩ = some (.slice Ai (rows i).length ci) ∧ Rd w B Ai (rows i) ∧ (rows i).length ≤ ci ∧ ci ≤ maxLen ∧ (rows i ≠ [] → ∀ a,Ai = some a → L ≤ a.block)) :
  ∃ vs : List Value,vs.length = n ∧ (∀ j v,vs[j]? = some v → w.cell? ((⟨b,off,none⟩ : Addr).add j) = some v) ∧ ∀ i,i < n → ∃ Ai ci,vs[i]? = some (.slice Ai (rows i).length ci) ∧ Rd w B Ai (rows i) ∧ (rows i).length ≤ ci ∧ ci ≤ maxLen ∧ (rows i ≠ [] → ∀ a,Ai = some a → L ≤ a.block) := by
 have hg : ∀ i,i < n → ((List.range n).map fun i => (w.cell? ⟨b,off + i,none⟩).getD undef)[i]? = some ((w.cell? ⟨b,off + i,none⟩).getD undef) := fun i hi => by
  rw [List.getElem?_map,List.getElem?_range hi]; rfl
 refine ⟨(List.range n).map fun i => (w.cell? ⟨b,off + i,none⟩).getD undef,by simp,fun j v e => ?_,fun i hi => ?_⟩
 ·by_cases hj : j < n
  ·obtain ⟨Ai,ci,h1,-⟩ := h j hj;rw [hg j hj,h1] at e;have e2 : v = .slice Ai (rows j).length ci := by simpa using e.symm
   rw [e2,show ((⟨b,off,none⟩ : Addr).add j) = ⟨b,off + j,none⟩ from by simp [Addr.add]];exact h1
  ·rw [List.getElem?_eq_none (by simp; omega)] at e
   cases e
 ·obtain ⟨Ai,ci,h1,h2⟩ := h i hi;exact ⟨Ai,ci,by rw [hg i hi,h1]; rfl,h2⟩
theorem rdM_new {w : World} {L k n : Nat} {rows lines : Nat → List Int} {vs us : List Value} (hL : L ≤ w.heap.size) (z : Array Value) (hv : vs.length = k) (hu : us.length = n)
  (h1 : ∀ i,i < k → ∃ Ai ci,vs[i]? = some (.slice Ai (rows i).length ci) ∧ Rd w w.heap.size Ai (rows i) ∧ (rows i).length ≤ ci ∧ ci ≤ maxLen ∧ (rows i ≠ [] → ∀ a,Ai = some a → L ≤ a.block))
  (h2 : ∀ i,i < n → ∃ Ai ci,us[i]? = some (.slice Ai (lines i).length ci) ∧ Rd w w.heap.size Ai (lines i) ∧ (lines i).length ≤ ci ∧ ci ≤ maxLen ∧ (lines i ≠ [] → ∀ a,Ai = some a → L ≤ a.block)) (t : TypeId) :
  RdMU (w.drew.alloc (.cells (vs.toArray ++ us.toArray ++ z) t)) L (w.drew.alloc (.cells (vs.toArray ++ us.toArray ++ z) t)).heap.size (some ⟨w.heap.size,0,none⟩) (k + n) (stackR k rows lines) := fun _ => by
 obtain ⟨W,hW⟩ : ∃ W,W = w.drew.alloc (.cells (vs.toArray ++ us.toArray ++ z) t) := ⟨_,rfl⟩;have hb : Below w.heap.size w W := by rw [hW]; exact ((Below.refl _ _).drew).alloc (Nat.le_refl _) _
 have hs : W.heap.size = w.heap.size + 1 := by rw [hW,World.size_alloc]; rfl
 have hh : W.heap[w.heap.size]? = some (.cells (vs.toArray ++ us.toArray ++ z) t (0,0)) := by rw [hW]; exact heap_alloc_new w.drew _
 rw [← hW];have hc : ∀ i (v : Value),(vs ++ us)[i]? = some v → W.cell? ⟨w.heap.size,0 + i,none⟩ = some v := fun i v e => by
  unfold World.cell?;rw [hh];have hlt : i < (vs ++ us).length := (List.getElem?_eq_some_iff.1 e).1;have e2 : (vs.toArray ++ us.toArray ++ z)[i]? = some v := by
   rw [Array.getElem?_append_left (by simpa using hlt)]
   simpa using e
  simpa using e2
 refine ⟨w.heap.size,0,rfl,hL,by omega,fun i hi => ?_⟩;by_cases e : i < k
 ·obtain ⟨Ai,ci,g1,g2,g3⟩ := h1 i e;rw [stackR_lo rows lines e];exact ⟨Ai,ci,hc i _ (by rw [List.getElem?_append_left (by omega)]; exact g1),(g2.below hb).more hb.size,g3⟩
 ·obtain ⟨Ai,ci,g1,g2,g3⟩ := h2 (i - k) (by omega);have e2 : stackR k rows lines i = lines (i - k) := if_neg e;rw [e2];exact ⟨Ai,ci,hc i _ (by rw [List.getElem?_append_right (by omega),hv]; exact g1),(g2.below hb).more hb.size,g3⟩
theorem run_appRows {w : World} (ty : TypeId) {L k n c gl : Nat} {rows lines : Nat → List Int} {Al : Option Addr} (hL : L ≤ w.heap.size) (h1 : RdMU w L w.heap.size Al k rows) (h2 : RdMU w L w.heap.size (some ⟨gl,0,none⟩) n lines) (hn : 0 < n) (hsz : k + n ≤ 1000000) :
  ∃ c' w',(Builtin.append_ #[25,25] ty #[.slice Al k k,.slice (some ⟨gl,0,none⟩) n c]).run Tryz.prog w = .ok (.slice (some ⟨w.heap.size,0,none⟩) (k + n) c') w' ∧ RdMU w' L w'.heap.size (some ⟨w.heap.size,0,none⟩) (k + n) (stackR k rows lines) ∧ Below w.heap.size w w' ∧ k + n ≤ c' ∧ c' ≤ maxLen := by
 obtain ⟨i0,hi,hz0,hz1,hz2⟩ := info_parts infoInts;have ht := Tryz.underlying25;obtain ⟨bx,ox,ex,-,-,hx⟩ := h2 hn
 injection ex with ex
 injection ex with e1 e2
 subst e1 e2;obtain ⟨us,hul,huc,huv⟩ := vals_of hx;have hdr : ∀ (vs : List Value) (z : Array Value),Below w.heap.size w (w.drew.alloc (.cells (vs.toArray ++ us.toArray ++ z) 22)) := fun vs z => ((Below.refl _ _).drew).alloc (Nat.le_refl _) _
 cases Al with
 | none =>
  have hk : k = 0 := by
   refine Classical.byContradiction fun hne => ?_
   obtain ⟨b,off,e,-⟩ := h1 (by omega)
   cases e
  subst hk;have hr := run_append_nil (P := Tryz.prog) (w := w) 25 ty 22 i0 (.slice none 0 0) ht hi hz0 ⟨gl,0,none⟩ n c us (by rw [hz1]; omega) huc hn (by omega) (by rw [hz2]; omega);have hr2 : (Builtin.append_ #[25,25] ty #[.slice none 0 0,.slice (some ⟨gl,0,none⟩) n c]).run Tryz.prog w = .ok (.slice (some ⟨w.heap.size,0,none⟩) (0 + n) (grownCap w n 0 22)) (w.drew.alloc (.cells (([] : List Value).toArray ++ us.toArray ++ Builtin.zeroCells (Value.slice none 0 0).cells (grownCap w n 0 22 - n)) 22)) := by
   rw [hr,Nat.zero_add];simp
  exact ⟨_,_,hr2,rdM_new (k := 0) hL _ rfl hul (fun i hi => absurd hi (Nat.not_lt_zero _)) huv _,hdr [] _,by rw [Nat.zero_add]; exact grownCap_ge w n 0 _,grownCap_le_maxLen w n 0 _ (by unfold maxLen; omega)⟩
 | some a =>
  obtain ⟨vs,hvl,hvc,hvv⟩ : ∃ vs : List Value,vs.length = k ∧ (∀ j v,vs[j]? = some v → w.cell? (a.add j) = some v) ∧ ∀ i,i < k → ∃ Ai ci,vs[i]? = some (.slice Ai (rows i).length ci) ∧ Rd w w.heap.size Ai (rows i) ∧ (rows i).length ≤ ci ∧ ci ≤ maxLen ∧ (rows i ≠ [] → ∀ a,Ai = some a → L ≤ a.block) := by
   rcases Nat.eq_zero_or_pos k with h0 | h0
   ·subst h0;exact ⟨[],rfl,fun j v e => by simp at e,fun i hi => absurd hi (Nat.not_lt_zero _)⟩
   ·obtain ⟨b,off,e,-,-,hc⟩ := h1 h0
    injection e with e
    subst e;exact vals_of hc
  have hr := run_append_grow (P := Tryz.prog) (w := w) 25 ty 22 i0 (.slice none 0 0) ht hi hz0 a k k vs (by rw [hz1]; omega) hvc ⟨gl,0,none⟩ n c us (by rw [hz1]; omega) huc (by omega) (by omega) (growslice_fits (by omega) (by rw [hz2]; omega));exact ⟨_,_,hr,rdM_new hL _ hvl hul hvv huv _,hdr vs _,grownCap_ge w (k + n) k _,grownCap_le_maxLen w (k + n) k _ (by unfold maxLen; omega)⟩
theorem wpList_appRows {w : World} {ops : Array Oper} {rest : List Oper} {o : Oper} {a : Act} {Q : Exit → Act → World → Prop} (hgd : o.guard = none) (s x : Operand)
  (ho : o.op = .call { callee := .builtin .append,args := #[s,x],argTypes := #[25,25] })
  {L k n c gl : Nat} {rows lines : Nat → List Int} {Al : Option Addr} (hL : L ≤ w.heap.size) (h1 : RdMU w L w.heap.size Al k rows) (h2 : RdMU w L w.heap.size (some ⟨gl,0,none⟩) n lines) (hn : 0 < n) (hsz : k + n ≤ 1000000)
  (hs : a.eval s = .slice Al k k) (hx : a.eval x = .slice (some ⟨gl,0,none⟩) n c)
  (h : ∀ g c' w',RdMU w' L w'.heap.size (some ⟨g,0,none⟩) (k + n) (stackR k rows lines) → w.heap.size ≤ g → Below w.heap.size w w' → k + n ≤ c' → c' ≤ maxLen → wpList Tryz.prog ops Q rest (a.put o.dst (.slice (some ⟨g,0,none⟩) (k + n) c')) w') :
  wpList Tryz.prog ops Q (o :: rest) a w := by
 refine wpList_plain hgd fun K hK => ?_
 obtain ⟨c',w',hrun,g1,g2,g3,g4⟩ := run_appRows o.type (c := c) hL h1 h2 hn hsz;unfold Oper.wp execOp;simp only [ho,resolve,invoke,builtin,Sem.run_bind,Sem.run_pure,Result.andThen_ok,List.map_toArray,List.map_cons,List.map_nil,hs,hx,hrun];exact hK _ _ (h _ _ _ g1 (Nat.le_refl _) g2 g3 g4)
end
section
open Go.RowKit Cw
attribute [local go_sem] Oper.semAt_some

theorem natL_len (l : List Nat) : (natL l).length = l.length := List.length_map ..
theorem natL_pv (l : List Nat) {i : Nat} (h : i < l.length) : (natL l)[i]?.getD 0 = (pvF l i : Int) := by
 unfold natL pvF;rw [List.getElem?_map,List.getElem?_eq_getElem h];rfl
theorem rsum0 {F : Type} [CField F] (f : Nat → F) : rsum 0 f = 0 := rfl
theorem set_arr (m c : Nat) : (Array.replicate m (Value.int .i64 0)).setIfInBounds c (Value.int .i64 1) = (((List.replicate m (0 : Int)).set c 1).map (Value.int .i64)).toArray := by
 apply Array.ext';simp [List.map_set]
noncomputable def nulL (F : FD) (m : Nat) (p : Nat → Nat) (E : Nat → Nat → R F.toDesc) (c k : Nat) : List Int := lst m fun j => ci (nulK p E c k j)
theorem nulL_zero (F : FD) {m : Nat} (p : Nat → Nat) (E : Nat → Nat → R F.toDesc) {c : Nat} : (List.replicate m (0 : Int)).set c 1 = nulL F m p E c 0 := by
 apply List.ext_getElem
 ·rw [List.length_set,List.length_replicate,nulL,lst_length]
 ·intro j h1 h2;rw [List.getElem_set];simp only [nulL,lst,List.getElem_map,List.getElem_range,List.getElem_replicate,nulK,rsum0,sub_zero];by_cases e : c = j
  ·rw [if_pos e,if_pos e.symm]; exact (ci_one).symm
  ·rw [if_neg e,if_neg (fun h => e h.symm)]; exact (ci_zero).symm
theorem nulL_set (F : FD) {m r : Nat} {p : Nat → Nat} {E : Nat → Nat → R F.toDesc} (h : RR m r p E) {c k : Nat} (hk : k < r) (hc : p k ≠ c) : (nulL F m p E c k).set (p k) (ci (-(E k c))) = nulL F m p E c (k + 1) := by
 apply List.ext_getElem
 ·rw [List.length_set,nulL,lst_length,nulL,lst_length]
 ·intro j h1 h2;rw [List.getElem_set];simp only [nulL,lst,List.getElem_map,List.getElem_range];rw [nulK_step h hk hc];by_cases e : p k = j
  ·rw [if_pos e,if_pos e.symm]
  ·rw [if_neg e,if_neg (fun g => e g.symm)]
theorem nulL_full (F : FD) {m r : Nat} {p : Nat → Nat} {E : Nat → Nat → R F.toDesc} {c t : Nat} (e : (npv p r m)[t]?.getD 0 = c) : nulL F m p E c r = rowsL F.toDesc m (nulM r m p E) t := by
 show nulL F m p E c r = rowL F.toDesc m (nulR r p E ((npv p r m)[t]?.getD 0))
 rw [e];rfl

end
end Go.Proofs.YtjdoneanohhkmaaGreat

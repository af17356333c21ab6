/- One header appended, as a step of a region that draws its order. The program's generator matrix. Layer 18: Encode, Check, the reference's Elements. Layer 18 of the program: Standard. Layer 18 of the program: Dual. Plain law of layer 18: the weights of codewords, the dual description. No Go here. Plain law of layer 18: the dual description and its dual. No Go here. Plain law of layer 18: codewords are orthogonal to those of the dual description. No Go here. The generator's rows are independent: the rank is the dimension. The reference: differences. Layer 18 of the reference: Dual. The reference's rows of a code: Power. The reference's rows of a code. The codewords of the powers are the generator's rows. The reference's code of a description. -/
import Derived.Deep.CutRange
import Derived.IntWalk
import Derived.Maps.Range
import Derived.Maps.RangeWalk
import Derived.Test.YtjdoneanohhkmaaGreatZrU07RP1
import Derived.Test.YtjdoneanohhkmaaGreatZrU07RRF
import Derived.Test.YtjdoneanohhkmaaGreatZrU07RRG
import Derived.Test.YtjdoneanohhkmaaGreatZrU07RGA
import Derived.Test.YtjdoneanohhkmaaGreatZrU07RLA
import Derived.Test.YtjdoneanohhkmaaGreatZrU07RGrsA
import Derived.Test.YtjdoneanohhkmaaGreatZrU07RGrsD
import Derived.Test.YtjdoneanohhkmaaGreatZrU07RHasA
import Derived.Test.YtjdoneanohhkmaaGreatZrU07RBxs
import Derived.Test.YtjdoneanohhkmaaGreatZrU07RTk
namespace Go.Proofs.YtjdoneanohhkmaaGreat
section
open Go.RowKit Cw

theorem step_app1V {w : World} {ops : Array Oper} {o : Oper} {a : Act} {K : Act → World → Prop} {Q : Exit → Act → World → Prop} {E : Prop} (hgd : o.guard = none) (s x : Operand)
  (ho : o.op = .call { callee := .builtin .append,args := #[s,x],argTypes := #[25,25] })
  (B : Nat) (v : Value) (l : List Value) (y : Value) (hy : y.oneCell' = true) (hown : OwnV w B v l) (hs : a.eval s = v) {H : Nat} (hx : a.eval x = .slice (some ⟨H,0,none⟩) 1 1) (hH : w.heap.size = H)
  (hl : l.length ≤ 1000000) (hB : B ≤ w.heap.size)
  (h : ∀ v' w',OwnV w' B v' (l ++ [y]) → Below B w w' → w.grownBy w' v.ownBlock → (v'.ownBlock = v.ownBlock ∨ (∀ k,v'.ownBlock = some k → w.heap.size ≤ k)) → K (a.put o.dst v') w') :
  if Region.wanted o (yielded ops a.tmps) = true then Oper.wp Tryz.prog o a (w.alloc (.cells #[y] 22)) K Q else E := by
 have hw : Region.wanted o (yielded ops a.tmps) = true := by simp [Region.wanted,hgd]
 rw [if_pos hw];subst hH;obtain ⟨i0,hi,hz0,hz1,hz2⟩ := info_parts infoInts;obtain ⟨v',w',hrun,h2,h3,_,h5⟩ := run_append_own_at (P := Tryz.prog) (w.alloc (.cells #[y] 22)) B 25 o.type 22 i0 (.slice none 0 0) 1 24 Tryz.underlying25 hi hz0 hz1 hz2 rfl (by decide) v l.length l (World.ownsRow.alloc hown _)
  ⟨w.heap.size,0,none⟩ 1 1 [y] rfl (cell_one_new _ _ _) (by simp [hy]) (by simp only [maxLen]; omega) (by omega) (by simp; omega)
 unfold Oper.wp execOp;simp only [ho,resolve,invoke,builtin,Sem.run_bind,Sem.run_pure,Result.andThen_ok,List.map_toArray,List.map_cons,List.map_nil,hs,hx,hrun];have hg : w.grownBy w' v.ownBlock := ⟨h3.os,h3.tape,h3.output,Nat.le_trans (by simp) h3.size,fun k hk hne => (h3.block k (by simp; omega) hne).trans (Below.heap_alloc _ _ _ hk)⟩;refine h v' w' (by unfold OwnV; rw [List.length_append]; exact h2) ⟨hg.os,hg.tape,hg.output,hg.size,fun k hk => hg.block k (by omega) (fun e => by have := (World.ownsRow.lt hown k e.symm).1; omega)⟩ hg ?_;rcases h5 with h5 | h5
 ·exact .inl h5
 ·right; intro k hk; rw [h5] at hk; cases hk; simp
end
section
open Go.RowKit Cw
attribute [local go_sem] Oper.semAt_some

def gM (D : Desc) (pts mul : List Int) : Nat → Nat → R D := fun i j => eli D (mul[j]?.getD 0) * pw (eli D (pts[j]?.getD 0)) i
end
section
open Go.RowKit Cw

def encErr (D : Desc) (K : Int) (pts mul msg : List Int) : Int := if gchkD D K pts mul ≠ 0 then gchkD D K pts mul else elErr D msg K 3
theorem gchkD_zero {D : Desc} {K : Int} {pts mul : List Int} (h : gchkD D K pts mul = 0) : 1 ≤ pts.length ∧ pts.length ≤ 64 ∧ mul.length = pts.length ∧ elB D pts = true ∧ elB D mul = true ∧ twB pts = false ∧ ¬ (0 : Int) ∈ mul ∧ 0 ≤ K ∧ K ≤ (pts.length : Int) := by
 unfold gchkD at h;by_cases h1 : pts.length < 1 ∨ 64 < pts.length
 ·rw [if_pos h1] at h; cases h
 rw [if_neg h1] at h;by_cases h2 : mul.length ≠ pts.length
 ·rw [if_pos h2] at h; cases h
 rw [if_neg h2] at h;by_cases h3 : elB D pts = false ∨ elB D mul = false
 ·rw [if_pos h3] at h; cases h
 rw [if_neg h3] at h;by_cases h4 : twB pts = true
 ·rw [if_pos h4] at h; cases h
 rw [if_neg h4] at h;by_cases h5 : (0 : Int) ∈ mul
 ·rw [if_pos h5] at h; cases h
 rw [if_neg h5] at h;by_cases h6 : K < 0 ∨ (pts.length : Int) < K
 ·rw [if_pos h6] at h; cases h
 refine ⟨by omega,by omega,Classical.not_not.1 h2,?_,?_,?_,h5,by omega,by omega⟩
 ·rcases Bool.eq_false_or_eq_true (elB D pts) with e | e
  ·exact e
  ·exact absurd (.inl e) h3
 ·rcases Bool.eq_false_or_eq_true (elB D mul) with e | e
  ·exact e
  ·exact absurd (.inr e) h3
 ·rwa [Bool.not_eq_true] at h4

def EncPost2 (D : Desc) (K : Int) (pts mul msg : List Int) (w : World) (e : Ending) (w' : World) : Prop :=
 Below w.heap.size w w' ∧ ((encErr D K pts mul msg ≠ 0 ∧ e = .returned (.tuple #[.slice none 0 0,.int .i64 (encErr D K pts mul msg)])) ∨
  (encErr D K pts mul msg = 0 ∧ ∃ A',e = .returned (.tuple #[.slice A' (wordL D pts mul msg).length (wordL D pts mul msg).length,.int .i64 0]) ∧ Rd w' w'.heap.size A' (wordL D pts mul msg) ∧ (∀ a,A' = some a → w.heap.size ≤ a.block) ∧ ∃ g,A' = some ⟨g,0,none⟩ ∧ IB w' g (wordL D pts mul msg)))

set_option maxRecDepth 100000 in
set_option maxHeartbeats 2000000 in
theorem gEnc_D2 (D : Desc) (K : Int) (pts mul : List Int) (A A1 A2 : Option Addr) (c c1 c2 : Nat) (msg : List Int) (A3 : Option Addr) (c3 : Nat) (w : World) (hr : Rd w w.heap.size A (modL D)) (hg : Good D.p D.m (modL D)) (hr1 : Rd w w.heap.size A1 pts) (hr2 : Rd w w.heap.size A2 mul) (h1 : pts.length ≤ c1) (h1' : c1 ≤ maxLen) (h2 : mul.length ≤ maxLen)
  (hr3 : Rd w w.heap.size A3 msg) (h3 : msg.length ≤ maxLen) :
  Calls Tryz.prog 231 #[.agg #[.int .i64 D.p,.int .i64 D.m,.slice A D.mod.length c,.int .i64 K,.slice A1 pts.length c1,.slice A2 mul.length c2],.slice A3 msg.length c3] w (EncPost2 D K pts mul msg w) := by
 have hO := fun W a b c' => Lib.hid (gOpen_D D K pts mul A A1 A2 c c1 c2 W a hg b c' h1 h1' h2)
 have k0 := Lib.hid (alloc6 w (.int .i64 D.p) (.int .i64 D.m) (.slice A D.mod.length c) (.int .i64 K) (.slice A1 pts.length c1) (.slice A2 mul.length c2) 72);have hB : Below w.heap.size w (w.alloc (.cells #[.int .i64 D.p,.int .i64 D.m,.slice A D.mod.length c,.int .i64 K,.slice A1 pts.length c1,.slice A2 mul.length c2] 72)) := (Below.refl _ _).alloc (Nat.le_refl _) _;have hO2 := hO _ ((hr.below hB).more hB.size) ((hr1.below hB).more hB.size) ((hr2.below hB).more hB.size);have hm3 := h3;unfold maxLen at hm3;clear hO hg;unfold EncPost2;go_enter Tryz.func231,Tryz.ntmps231;go_wp2_with (fail);(with_reducible refine hO2.out.mono ?_);rintro e w1 ⟨hb1,g,F,rfl,hgf,hgl,⟨hz,rfl⟩ | ⟨hz,rfl⟩⟩;rotate_left
 ·have hv : Hid (encErr F.toDesc K pts mul msg = gchkD F.toDesc K pts mul) := if_pos hz;have hzb : (gchkD F.toDesc K pts mul != 0) = true := by rw [bne_iff_ne]; exact hz
  have hz' := Lib.hid hz;clear hz;go_wp2_with (fail);go_ret2;exact ⟨hB.trans (hb1.mono hB.size),.inl ⟨by rw [hv.out]; exact hz'.out,by rw [hv.out]; rfl⟩⟩
 have hv0 : Hid (encErr F.toDesc K pts mul msg = elErr F.toDesc msg K 3) := if_neg (fun h => h hz);obtain ⟨-,hp64,hlen,-⟩ := gchkD_zero hz;have hB1 := hB.trans (hb1.mono hB.size);have kk1 := Lib.hid (keep6 hb1 (by simp) k0.out);have hr1' := (hr1.below hB1).more hB1.size;have hr2' := (hr2.below hB1).more hB1.size;have hr3' := (hr3.below hB1).more hB1.size;have hE := Lib.hid (gElems_any F msg A3 c3 g w1 hgf hr3' h3);have hW := Lib.hid (gEncode_any F K pts mul msg A A1 A2 A3 c c1 c2 c3 g w1 hgf hr1' hr2' hr3' hlen hp64 h3);obtain ⟨q0,q1,q2,q3,q4,q5⟩ := kk1.out;clear hz hb1 hO2 k0 hlen;by_cases hK : (msg.length : Int) = K;rotate_left
 ·have hv : Hid (encErr F.toDesc K pts mul msg = 3) := hv0.out.trans (if_pos hK);have hKb : ((msg.length : Int) != K) = true := by rw [bne_iff_ne]; exact hK
  clear hK;go_wp2_with (fail);go_ret2;exact ⟨hB1,.inl ⟨by rw [hv.out]; decide,by rw [hv.out]; rfl⟩⟩
 have hKb : ((msg.length : Int) != K) = false := by rw [bne_eq_false_iff_eq]; exact hK
 by_cases he : elB F.toDesc msg = true;rotate_left
 ·rw [Bool.not_eq_true] at he;have hv : Hid (encErr F.toDesc K pts mul msg = 2) := hv0.out.trans ((if_neg (not_not_intro hK)).trans (if_pos he));rw [he] at hE;clear hK he;go_wp2_with (fail);(with_reducible refine hE.out.mono ?_);rintro e w2 ⟨rfl,rfl⟩;go_wp2_with (fail);go_ret2;exact ⟨hB1,.inl ⟨by rw [hv.out]; decide,by rw [hv.out]; rfl⟩⟩
 have hv : Hid (encErr F.toDesc K pts mul msg = 0) := hv0.out.trans ((if_neg (not_not_intro hK)).trans (if_neg (by rw [he]; simp)));rw [he] at hE;clear hK he;go_wp2_with (fail);(with_reducible refine hE.out.mono ?_);rintro e w2 ⟨rfl,rfl⟩;go_wp2_with (fail);(with_reducible refine hW.out.mono ?_);rintro e w3 ⟨g3,rfl,hg3,hib,hb3⟩;go_wp2_with (fail);go_ret2;exact ⟨hB1.trans (hb3.mono hB1.size),.inr ⟨hv.out,_,rfl,hib.rd,fun a e => by cases e; exact Nat.le_trans hB1.size hg3,g3,rfl,hib⟩⟩

set_option maxHeartbeats 1000000 in
theorem gCheck_bad (P M K : Int) (ml pts mul : List Int) (A A1 A2 : Option Addr) (c c1 c2 : Nat) (w : World) (hP : I64 P) (hM : I64 M) (hl : ml.length ≤ maxLen) (hr : Rd w w.heap.size A ml) (hb : ¬ Good P M ml) :
  Calls Tryz.prog 184 #[.agg #[.int .i64 P,.int .i64 M,.slice A ml.length c,.int .i64 K,.slice A1 pts.length c1,.slice A2 mul.length c2]] w fun e w' => e = .returned (.int .i64 1) ∧ Below w.heap.size w w' := by
 have hN := fun W h => Lib.hid (gOpen_bad P M K ml pts mul A A1 A2 c c1 c2 W hP hM hl h hb)
 have hB : Below w.heap.size w (w.alloc (.cells #[.int .i64 P,.int .i64 M,.slice A ml.length c,.int .i64 K,.slice A1 pts.length c1,.slice A2 mul.length c2] 72)) := (Below.refl _ _).alloc (Nat.le_refl _) _;have hN2 := hN _ ((hr.below hB).more hB.size);clear hP hM hl hb hN;go_enter Tryz.func184,Tryz.ntmps184;go_wp2_with (fail);(with_reducible refine hN2.out.mono ?_);rintro e w1 ⟨rfl,hb1⟩;go_wp2_with (fail);go_ret;exact ⟨rfl,hB.trans (hb1.mono hB.size)⟩
set_option maxHeartbeats 1000000 in
theorem gCheck_D (D : Desc) (K : Int) (pts mul : List Int) (A A1 A2 : Option Addr) (c c1 c2 : Nat) (w : World) (hr : Rd w w.heap.size A (modL D)) (hg : Good D.p D.m (modL D)) (hr1 : Rd w w.heap.size A1 pts) (hr2 : Rd w w.heap.size A2 mul) (h1 : pts.length ≤ c1) (h1' : c1 ≤ maxLen) (h2 : mul.length ≤ maxLen) :
  Calls Tryz.prog 184 #[.agg #[.int .i64 D.p,.int .i64 D.m,.slice A D.mod.length c,.int .i64 K,.slice A1 pts.length c1,.slice A2 mul.length c2]] w fun e w' => e = .returned (.int .i64 (gchkD D K pts mul)) ∧ Below w.heap.size w w' := by
 have hO := fun W a b c' => Lib.hid (gOpen_D D K pts mul A A1 A2 c c1 c2 W a hg b c' h1 h1' h2)
 have hB : Below w.heap.size w (w.alloc (.cells #[.int .i64 D.p,.int .i64 D.m,.slice A D.mod.length c,.int .i64 K,.slice A1 pts.length c1,.slice A2 mul.length c2] 72)) := (Below.refl _ _).alloc (Nat.le_refl _) _;have hO2 := hO _ ((hr.below hB).more hB.size) ((hr1.below hB).more hB.size) ((hr2.below hB).more hB.size);clear hO hg;go_enter Tryz.func184,Tryz.ntmps184;go_wp2_with (fail);(with_reducible refine hO2.out.mono ?_);rintro e w1 ⟨hb1,g,F,rfl,hgf,hgl,⟨hz,rfl⟩ | ⟨hz,rfl⟩⟩
 ·replace hz := Lib.hid hz;go_wp2_with (fail);go_ret;exact ⟨by rw [hz.out]; rfl,hB.trans (hb1.mono hB.size)⟩
 ·clear hz;go_wp2_with (fail);go_ret;exact ⟨rfl,hB.trans (hb1.mono hB.size)⟩

end
section
open Go.RowKit Cw

def Six (w : World) (b : Nat) (v0 v1 v2 v3 v4 v5 : Value) : Prop :=
 w.cell? ⟨b,0,none⟩ = some v0 ∧ w.cell? ⟨b,1,none⟩ = some v1 ∧ w.cell? ⟨b,2,none⟩ = some v2 ∧ w.cell? ⟨b,3,none⟩ = some v3 ∧ w.cell? ⟨b,4,none⟩ = some v4 ∧ w.cell? ⟨b,5,none⟩ = some v5 ∧
 w.frozen? ⟨b,0,none⟩ = false ∧ w.frozen? ⟨b,1,none⟩ = false ∧ w.frozen? ⟨b,2,none⟩ = false ∧ w.frozen? ⟨b,3,none⟩ = false ∧ w.frozen? ⟨b,4,none⟩ = false ∧ w.frozen? ⟨b,5,none⟩ = false
theorem Six.keep {B b : Nat} {w w1 : World} {v0 v1 v2 v3 v4 v5 : Value} (h : Six w b v0 v1 v2 v3 v4 v5) (hb : Below B w w1) (hlt : b < B) : Six w1 b v0 v1 v2 v3 v4 v5 := by
 obtain ⟨a0,a1,a2,a3,a4,a5,f0,f1,f2,f3,f4,f5⟩ := h;exact ⟨(hb.cell (p := ⟨b,0,none⟩) hlt).trans a0,(hb.cell (p := ⟨b,1,none⟩) hlt).trans a1,(hb.cell (p := ⟨b,2,none⟩) hlt).trans a2,(hb.cell (p := ⟨b,3,none⟩) hlt).trans a3,(hb.cell (p := ⟨b,4,none⟩) hlt).trans a4,(hb.cell (p := ⟨b,5,none⟩) hlt).trans a5,
  (hb.frozen (p := ⟨b,0,none⟩) hlt).trans f0,(hb.frozen (p := ⟨b,1,none⟩) hlt).trans f1,(hb.frozen (p := ⟨b,2,none⟩) hlt).trans f2,(hb.frozen (p := ⟨b,3,none⟩) hlt).trans f3,(hb.frozen (p := ⟨b,4,none⟩) hlt).trans f4,(hb.frozen (p := ⟨b,5,none⟩) hlt).trans f5⟩
theorem Six.new (w : World) (v0 v1 v2 v3 v4 v5 : Value) (t : TypeId) : Six (w.alloc (.cells #[v0,v1,v2,v3,v4,v5] t)) w.heap.size v0 v1 v2 v3 v4 v5 := by
 obtain ⟨a0,a1,a2,a3,a4,a5⟩ := alloc6 w v0 v1 v2 v3 v4 v5 t;exact ⟨a0,a1,a2,a3,a4,a5,World.frozen?_alloc_at _ _ _ _ rfl,World.frozen?_alloc_at _ _ _ _ rfl,World.frozen?_alloc_at _ _ _ _ rfl,World.frozen?_alloc_at _ _ _ _ rfl,World.frozen?_alloc_at _ _ _ _ rfl,World.frozen?_alloc_at _ _ _ _ rfl⟩
theorem set6 {w3 : World} {b : Nat} (u0 u1 u2 u3 u4 u5 : Value) : Below b w3 ((((((w3.setCell ⟨b,0,none⟩ u0).setCell ⟨b,1,none⟩ u1).setCell ⟨b,2,none⟩ u2).setCell ⟨b,3,none⟩ u3).setCell ⟨b,4,none⟩ u4).setCell ⟨b,5,none⟩ u5) :=
 ((((((Below.refl _ _).setCell (p := ⟨b,0,none⟩) (Nat.le_refl _) _).setCell (p := ⟨b,1,none⟩) (Nat.le_refl _) _).setCell (p := ⟨b,2,none⟩) (Nat.le_refl _) _).setCell (p := ⟨b,3,none⟩) (Nat.le_refl _) _).setCell (p := ⟨b,4,none⟩) (Nat.le_refl _) _).setCell (p := ⟨b,5,none⟩) (Nat.le_refl _) _

theorem Rd.set6 {w : World} {B b : Nat} {A : Option Addr} {l : List Int} (h : Rd w B A l) (hA : ∀ a,A = some a → a.block ≠ b) (u0 u1 u2 u3 u4 u5 : Value) : Rd ((((((w.setCell ⟨b,0,none⟩ u0).setCell ⟨b,1,none⟩ u1).setCell ⟨b,2,none⟩ u2).setCell ⟨b,3,none⟩ u3).setCell ⟨b,4,none⟩ u4).setCell ⟨b,5,none⟩ u5) B A l :=
 (((((h.far hA 0 u0).far hA 1 u1).far hA 2 u2).far hA 3 u3).far hA 4 u4).far hA 5 u5

end
section
open Go.RowKit Cw
open Cw.CField (inv)

def dprod (D : Desc) (pts : List Int) (i : Nat) (u : R D) : Nat → R D
 | 0 => u
 | k + 1 => if k = i then dprod D pts i u k else dprod D pts i u k * (eli D (pts[i]?.getD 0) - eli D (pts[k]?.getD 0))
noncomputable def dualV (F : FD) (pts mul : List Int) (i : Nat) : Int := ci (inv (dprod F.toDesc pts i (eli F.toDesc (mul[i]?.getD 0)) pts.length))
noncomputable def dualL (F : FD) (pts mul : List Int) : List Int := lst pts.length (dualV F pts mul)
def mixL (l : List Int) (k : Nat) (f : Nat → Int) : List Int := lst l.length fun i => if i < k then f i else l[i]?.getD 0
theorem mixL_length (l : List Int) (k : Nat) (f : Nat → Int) : (mixL l k f).length = l.length := lst_length _ _
theorem mixL_zero (l : List Int) (f : Nat → Int) : mixL l 0 f = l := by
 apply List.ext_getElem
 ·exact mixL_length _ _ _
 ·intro i h1 h2;simp [mixL,lst,h2]
theorem mixL_set (l : List Int) (k : Nat) (f : Nat → Int) : (mixL l k f).set k (f k) = mixL l (k + 1) f := by
 unfold mixL;rw [lst_set];exact lst_congr fun i _ => by
  by_cases h : i = k
  ·subst h; simp
  ·by_cases h2 : i < k
   ·simp [h,h2,show i < k + 1 by omega]
   ·simp [h,h2,show ¬ i < k + 1 by omega]
theorem mixL_full (l : List Int) (f : Nat → Int) : mixL l l.length f = lst l.length f := lst_congr fun i h => by simp [h]
theorem dprod_self (D : Desc) (pts : List Int) (i : Nat) (u : R D) : dprod D pts i u (i + 1) = dprod D pts i u i := if_pos rfl
theorem dprod_other (D : Desc) (pts : List Int) {i k : Nat} (u : R D) (h : k ≠ i) : dprod D pts i u (k + 1) = dprod D pts i u k * (eli D (pts[i]?.getD 0) - eli D (pts[k]?.getD 0)) := if_neg h
end
section
open Cw
open Cw.CField (inv)

def wgt (l : List Int) : Nat := (l.filter fun x => x != 0).length
theorem wgt_zero {l : List Int} (h : ∀ x ∈ l,x = 0) : wgt l = 0 := by
 unfold wgt;rw [List.filter_eq_nil_iff.2 (fun x hx => by simp [h x hx])]; rfl
theorem eli_inj {D : Desc} {x y : Int} (hx : 0 ≤ x ∧ x < D.q) (hy : 0 ≤ y ∧ y < D.q) (h : eli D x = eli D y) : x = y := by rw [← ci_eli_in hx,← ci_eli_in hy,h]
theorem eli_ne {D : Desc} {x : Int} (hx : 0 ≤ x ∧ x < D.q) (h : x ≠ 0) : eli D x ≠ 0 := fun e => h (by rw [← ci_eli_in hx,e,ci_zero])
theorem nodup_get {l : List Int} (h : twB l = false) {i j : Nat} (hi : i < l.length) (hj : j < l.length) (e : l[i]?.getD 0 = l[j]?.getD 0) : i = j := by
 rcases Nat.lt_trichotomy i j with h1 | h1 | h1
 ·rw [twB_yes h1 hj e.symm] at h; cases h
 ·exact h1
 ·rw [twB_yes h1 hi e] at h; cases h
theorem mem_get {l : List Int} {i : Nat} (hi : i < l.length) : l[i]?.getD 0 ∈ l := by rw [List.getElem?_eq_getElem hi]; exact List.getElem_mem _

section
variable {F : FD}
theorem pevI_pev (l : List Int) (u : R F.toDesc) : pevI F.toDesc l u = pev (l.map (eli F.toDesc)) u := by
 have e : l.map (eli F.toDesc) = (List.range l.length).map (fun i => eli F.toDesc (l[i]?.getD 0)) := by
  apply List.ext_getElem
  ·simp
  ·intro i h1 h2;have : i < l.length := by simpa using h1
   simp [this]
 rw [e,pev_map];rfl

end
end
section
open Cw
open Cw.CField (inv)

theorem dualL_length (F : FD) (pts mul : List Int) : (dualL F pts mul).length = pts.length := lst_length _ _
theorem dprod_mul (D : Desc) (pts : List Int) (i : Nat) (u : R D) : ∀ k,dprod D pts i u k = u * dprod D pts i 1 k
 | 0 => (mul_one u).symm
 | k + 1 => by
  by_cases h : k = i
  ·rw [show dprod D pts i u (k + 1) = dprod D pts i u k from if_pos h,show dprod D pts i 1 (k + 1) = dprod D pts i 1 k from if_pos h,dprod_mul D pts i u k]
  ·rw [dprod_other _ _ _ h,dprod_other _ _ _ h,dprod_mul D pts i u k,mul_a]
section
variable {F : FD}
theorem dualL_get {pts mul : List Int} {i : Nat} (hi : i < pts.length) : (dualL F pts mul)[i]?.getD 0 = dualV F pts mul i := lst_get _ hi
end
end
section
open Cw
open Cw.CField (inv)
section
variable {F : FD}
theorem dprod_lval (pts : List Int) (i : Nat) : ∀ k,dprod F.toDesc pts i 1 k = lval (fun j => eli F.toDesc (pts[j]?.getD 0)) i (eli F.toDesc (pts[i]?.getD 0)) k
 | 0 => rfl
 | k + 1 => by
  by_cases h : k = i
  ·rw [show dprod F.toDesc pts i 1 (k + 1) = dprod F.toDesc pts i 1 k from if_pos h,show lval (fun j => eli F.toDesc (pts[j]?.getD 0)) i (eli F.toDesc (pts[i]?.getD 0)) (k + 1) = lval (fun j => eli F.toDesc (pts[j]?.getD 0)) i (eli F.toDesc (pts[i]?.getD 0)) k from if_pos h];exact dprod_lval pts i k
  ·rw [dprod_other _ _ _ h,lval_other _ _ h,dprod_lval pts i k]
theorem pts_inj {pts : List Int} (hp : elB F.toDesc pts = true) (ht : twB pts = false) : ∀ i j,i < pts.length → j < pts.length → eli F.toDesc (pts[i]?.getD 0) = eli F.toDesc (pts[j]?.getD 0) → i = j :=
 fun i j hi hj e => nodup_get ht hi hj (eli_inj (elB_iff.1 hp i hi) (elB_iff.1 hp j hj) e)
end
end
section
open Go.RowKit Cw

theorem gM_indep {F : FD} {K : Int} {pts mul : List Int} (hz : gchkD F.toDesc K pts mul = 0) : Indep K.toNat pts.length (gM F.toDesc pts mul) := fun c hc => by
 obtain ⟨-,-,hlen,hp,hm,ht,h0,hk0,hkn⟩ := gchkD_zero hz;have key := pev_roots ((List.range pts.length).map fun i => eli F.toDesc (pts[i]?.getD 0)) ((List.range K.toNat).map c) (by simp; omega) ?_ ?_
 ·intro i hi;exact key (c i) (List.mem_map.2 ⟨i,List.mem_range.2 hi,rfl⟩)
 ·refine List.pairwise_map.2 (List.Pairwise.imp_of_mem ?_ (List.nodup_range (n := pts.length)));intro x y hx hy hne e;have hx' : x < pts.length := List.mem_range.1 hx;have hy' : y < pts.length := List.mem_range.1 hy;exact hne (nodup_get ht hx' hy' (eli_inj (elB_iff.1 hp x hx') (elB_iff.1 hp y hy') e))
 ·intro x hx;obtain ⟨j,hj,rfl⟩ := List.mem_map.1 hx;have hj' : j < pts.length := List.mem_range.1 hj;have h1 := elB_iff.1 hm j (by omega);have h2 : mul[j]?.getD 0 ≠ 0 := fun e => h0 (e ▸ mem_get (by omega))
  have h3 := hc j hj';rw [pev_map];have h4 : rsum K.toNat (fun i => c i * gM F.toDesc pts mul i j) = eli F.toDesc (mul[j]?.getD 0) * rsum K.toNat (fun i => c i * pw (eli F.toDesc (pts[j]?.getD 0)) i) := by
   rw [← rsum_mul_left];exact rsum_congr fun i _ => by unfold gM; exact mul_lc _ _ _
  rw [h4] at h3;exact (mul_eq_zero h3).resolve_left (eli_ne h1 h2)
theorem gM_rank {F : FD} {K : Int} {pts mul : List Int} (hz : gchkD F.toDesc K pts mul = 0) : rkS F K.toNat pts.length (gM F.toDesc pts mul) = K.toNat := elS_rank (gM_indep hz)
end
section
open Go.RowKit Cw

set_option maxHeartbeats 800000 in
theorem Sub_any (D : Desc) (x y : Int) (A : Option Addr) (n c : Nat) (w : World) :
  Calls Tryz.prog 183 #[.agg #[.int .i64 D.p,.int .i64 D.m,.slice A n c],.int .i64 x,.int .i64 y] w fun e w' =>
   e = .returned (.int .i64 (ci (eli D x - eli D y))) ∧ Below w.heap.size w w' := by
 have hN := fun w => Lib.hid (Neg_any D y A n c w)
 generalize hz : -(eli D y) = z;rw [hz] at hN;have hA := fun w => Lib.hid (Add_any D x (ci z) A n c w)
 have hfin : Hid (ci (eli D x + eli D (ci z)) = ci (eli D x - eli D y)) := by
  show ci (eli D x + eli D (ci z)) = _
  rw [eli_ci,← hz]; rfl
 clear hz;have k0 := Lib.hid (alloc3 w (.int .i64 D.p) (.int .i64 D.m) (.slice A n c) 24);go_enter Tryz.func183,Tryz.ntmps183;go_wp2;go_region_held3 (fun w' => w'.cell? ⟨w.heap.size,0,none⟩ = some (.int .i64 D.p) ∧ w'.cell? ⟨w.heap.size,1,none⟩ = some (.int .i64 D.m) ∧ w'.cell? ⟨w.heap.size,2,none⟩ = some (.slice A n c)) (first | exact k0.out | exact k2.out | exact k1.out)
  (first
   | (go_at_call 150; refine (hN _).out.mono ?_; rintro e w1 ⟨rfl,hb1⟩; have k1 := Lib.hid (keep3 (b := w.heap.size) hb1 (by simp) k0.out); have hs1 := hb1.size; simp only [World.drew,World.size_alloc] at hs1)
   | (go_at_call 96; refine (hA _).out.mono ?_; rintro e w2 ⟨rfl,hb2⟩; have k2 := Lib.hid (keep3 (b := w.heap.size) hb2 (by omega) k1.out)))
 go_wp2;go_ret;exact ⟨ret_int hfin.out,((((Below.refl _ _).alloc (Nat.le_refl _) _).drew).trans (hb1.mono (by simp))).trans (hb2.mono (by omega))⟩
end
section
open Go.RowKit Cw
open Cw.CField (inv)

set_option maxRecDepth 100000 in
set_option maxHeartbeats 4000000 in
theorem Dual18_low (F : FD) (K : Int) (pts mul : List Int) (A A1 A2 : Option Addr) (c c1 c2 : Nat) (w : World) (hr : Rd w w.heap.size A (modL F.toDesc)) (hr1 : Rd w w.heap.size A1 pts) (hr2 : Rd w w.heap.size A2 mul)
  (hlen : mul.length = pts.length) (hl : pts.length ≤ 64) (hK0 : 0 ≤ K) (hKn : K ≤ (pts.length : Int)) :
  Calls Tryz.prog 111 #[.agg #[.int .i64 F.p,.int .i64 F.m,.slice A F.mod.length c,.int .i64 K,.slice A1 pts.length c1,.slice A2 mul.length c2]] w fun e w' => ∃ g,e = .returned (.agg #[.int .i64 F.p,.int .i64 F.m,.slice A F.mod.length c,.int .i64 ((pts.length : Int) - K),.slice A1 pts.length c1,.slice (some ⟨g,0,none⟩) pts.length pts.length]) ∧
   Rd w' w'.heap.size (some ⟨g,0,none⟩) (dualL F pts mul) ∧ w.heap.size ≤ g ∧ Below w.heap.size w w' := by
 have hM := fun y z W hr => Lib.hid (Mul_any F.toDesc y z A c W hr)
 have hSb := fun y z W => Lib.hid (Sub_any F.toDesc y z A F.mod.length c W)
 have hIv := fun y W hr => Lib.hid (Inv_any F y A c W hr)
 have hmk := mk_ints pts.length (by omega);obtain ⟨Z,hZ⟩ : ∃ Z,Z = (w.alloc (.cells #[.int .i64 F.p,.int .i64 F.m,.slice A F.mod.length c,.int .i64 K,.slice A1 pts.length c1,.slice A2 mul.length c2] 72)).alloc (.cells #[.int .i64 0,.int .i64 0,.slice none 0 0,.int .i64 0,.slice none 0 0,.slice none 0 0] 72) := ⟨_,rfl⟩;have hB : Below w.heap.size w Z := by rw [hZ]; exact ((Below.refl _ _).alloc (Nat.le_refl _) _).alloc (by simp) _
 have hZs : Z.heap.size = w.heap.size + 2 := by rw [hZ]; simp
 have kz : Z.cell? ⟨w.heap.size,0,none⟩ = some (.int .i64 F.p) ∧ Z.cell? ⟨w.heap.size,1,none⟩ = some (.int .i64 F.m) ∧ Z.cell? ⟨w.heap.size,2,none⟩ = some (.slice A F.mod.length c) ∧ Z.cell? ⟨w.heap.size,3,none⟩ = some (.int .i64 K) ∧ Z.cell? ⟨w.heap.size,4,none⟩ = some (.slice A1 pts.length c1) ∧ Z.cell? ⟨w.heap.size,5,none⟩ = some (.slice A2 mul.length c2) := by rw [hZ]; simp [go_sem]
 have sz : Six Z (w.heap.size + 1) (.int .i64 0) (.int .i64 0) (.slice none 0 0) (.int .i64 0) (.slice none 0 0) (.slice none 0 0) := by
  rw [hZ]; have := Six.new (w.alloc (.cells #[.int .i64 F.p,.int .i64 F.m,.slice A F.mod.length c,.int .i64 K,.slice A1 pts.length c1,.slice A2 mul.length c2] 72)) (.int .i64 0) (.int .i64 0) (.slice none 0 0) (.int .i64 0) (.slice none 0 0) (.slice none 0 0) 72; rw [World.size_alloc] at this; exact this
 obtain ⟨Y,hY⟩ : ∃ Y,Y = Z.alloc (.cells (Array.replicate pts.length (Value.int .i64 0)) 3) := ⟨_,rfl⟩;obtain ⟨gW,hgW⟩ : ∃ gW,gW = w.heap.size + 1 + 1 := ⟨_,rfl⟩;have hib : IB Y gW (upd pts.length 0 (dualV F pts mul)) := by
  rw [upd_zero,hY,hgW,show w.heap.size + 1 + 1 = Z.heap.size by omega]; exact IB.newz Z pts.length
 have hbY : Below Z.heap.size Z Y := by rw [hY]; exact (Below.refl _ _).alloc (Nat.le_refl _) _
 have hYs : gW < Y.heap.size := by rw [hY,World.size_alloc]; omega
 have kY := Lib.hid (keep6 hbY (by omega) kz);have sY := Lib.hid (sz.keep hbY (by omega));have hBY := hB.trans (hbY.mono hB.size);have hlenH := Lib.hid hlen;rw [hZ] at hY;replace hY := Lib.hid hY;have hgW1 : w.heap.size + 1 < gW := by omega
 replace hib := Lib.hid hib;clear hlen kz sz hbY hB hZs hZ;go_enter Tryz.func111,Tryz.ntmps111;go_wp2_with (fail);rw [← hY.out];simp only [← hgW];replace hgW := Lib.hid hgW;go_loopw [5,6,7] (fun i _ _ wr => ∃ k : Nat,k ≤ pts.length ∧ i = .int .i64 k ∧ Hid (wr.cell? ⟨w.heap.size,0,none⟩ = some (.int .i64 F.p) ∧ wr.cell? ⟨w.heap.size,1,none⟩ = some (.int .i64 F.m) ∧ wr.cell? ⟨w.heap.size,2,none⟩ = some (.slice A F.mod.length c) ∧ wr.cell? ⟨w.heap.size,3,none⟩ = some (.int .i64 K) ∧ wr.cell? ⟨w.heap.size,4,none⟩ = some (.slice A1 pts.length c1) ∧ wr.cell? ⟨w.heap.size,5,none⟩ = some (.slice A2 mul.length c2)) ∧ Hid (Six wr (w.heap.size + 1) (.int .i64 0) (.int .i64 0) (.slice none 0 0) (.int .i64 0) (.slice none 0 0) (.slice none 0 0)) ∧ Hid (IB wr gW (upd pts.length k (dualV F pts mul))) ∧ Below w.heap.size w wr ∧ gW < wr.heap.size) (fun i _ _ _ => pts.length - (intOf i).toNat)
 case atStart => exact ⟨0,by omega,rfl,kY,sY,hib,hBY,hYs⟩
 case round =>
  clear kY sY hib hBY hYs;obtain ⟨wo,rfl⟩ : ∃ wo : World,wo = wr := ⟨_,rfl⟩;obtain ⟨k,hk,rfl,kk,sx,hib,hBw,hgo⟩ := hrel;have hlto : w.heap.size < wo.heap.size := by omega
  by_cases hkn : k < pts.length
  ·obtain ⟨b1,o1,rfl,hbb1,hc1⟩ := hr1.at_ hkn;obtain ⟨b2,o2,rfl,hbb2,hc2⟩ := hr2.at_ (by rw [hlenH.out]; exact hkn : k < mul.length);have hd1 := (hBw.cell (p := ⟨b1,o1 + k,none⟩) hbb1).trans hc1;have hd2 := (hBw.cell (p := ⟨b2,o2 + k,none⟩) hbb2).trans hc2;obtain ⟨x,hx⟩ : ∃ x,x = pts[k]?.getD 0 := ⟨_,rfl⟩;obtain ⟨y,hy⟩ : ∃ y,y = mul[k]?.getD 0 := ⟨_,rfl⟩;rw [← hx] at hd1;rw [← hy] at hd2;replace hx := Lib.hid hx;replace hy := Lib.hid hy;have hk0 : (0 : Int) ≤ (k : Int) := by omega
   have hk1 : (k : Int) < (pts.length : Int) := by omega
   have hk2 : (k : Int) < (mul.length : Int) := by rw [hlenH.out]; exact hk1
   replace hd1 := Lib.hid hd1;clear hc1 hc2;obtain ⟨q0,q1,q2,q3,q4,q5⟩ := kk.out;go_wp2_with (fail);clear q0 q1 q2 q3 q4 q5 hd2;go_loopw [7,6] (fun j' y' wr => ∃ (j : Nat) (z : Int),j ≤ pts.length ∧ j' = .int .i64 j ∧ y' = .int .i64 z ∧ Hid (eli F.toDesc z = dprod F.toDesc pts k (eli F.toDesc y) j) ∧ Below wo.heap.size wo wr) (fun j' _ _ => pts.length - (intOf j').toNat)
   case atStart => exact ⟨0,y,by omega,rfl,rfl,rfl,Below.refl _ _⟩
   case round =>
    obtain ⟨wi,rfl⟩ : ∃ wi : World,wi = wr := ⟨_,rfl⟩;obtain ⟨j,z,hj,rfl,rfl,hz,hbi⟩ := hrel;have hbi1 := hBw.trans (hbi.mono hBw.size);have hri := (hr.below hbi1).more hbi1.size;have kki := keep6 hbi hlto kk.out;have hlti : w.heap.size < wi.heap.size := Nat.lt_of_lt_of_le hlto hbi.size;by_cases hjn : j < pts.length
    ·obtain ⟨b1',o1',ee,hbb1',hc1⟩ := hr1.at_ hjn
     cases ee
     have hd3 := (hbi1.cell (p := ⟨b1,o1 + j,none⟩) hbb1').trans hc1;have hd1i := (hbi.cell (p := ⟨b1,o1 + k,none⟩) (Nat.lt_of_lt_of_le hbb1 hBw.size)).trans hd1.out;obtain ⟨xj,hxj⟩ : ∃ xj,xj = pts[j]?.getD 0 := ⟨_,rfl⟩;rw [← hxj] at hd3;replace hxj := Lib.hid hxj;have hj0 : (0 : Int) ≤ (j : Int) := by omega
     have hj1 : (j : Int) < (pts.length : Int) := by omega
     clear hc1;by_cases hjk : j = k
     ·have hjb : ((j : Int) != (k : Int)) = false := by rw [bne_eq_false_iff_eq]; omega
      have hz2 : Hid (eli F.toDesc z = dprod F.toDesc pts k (eli F.toDesc y) (j + 1)) := by unfold Hid; rw [hz.out,hjk,dprod_self]
      clear hjk hz;go_wp2_with (fail);go_roundw
      case rel => exact ⟨j + 1,z,by omega,by go_num,rfl,hz2,hbi⟩
      case measure => simp [intOf]; omega
     ·have hjb : ((j : Int) != (k : Int)) = true := by rw [bne_iff_ne]; omega
      have hS := hSb x xj;have hM1 := fun W h => (hM z (ci (eli F.toDesc x - eli F.toDesc xj)) W h).out
      rw [eli_ci] at hM1;have hz2 : Hid (eli F.toDesc z * (eli F.toDesc x - eli F.toDesc xj) = dprod F.toDesc pts k (eli F.toDesc y) (j + 1)) := by unfold Hid; rw [hz.out,dprod_other _ _ _ hjk,hx.out,hxj.out]
      rw [hz2.out] at hM1;replace hM1 := fun W h => Lib.hid (hM1 W h)
      have kk8 := Lib.hid (show _ ∧ _ ∧ _ ∧ _ ∧ _ ∧ _ ∧ _ ∧ _ from ⟨kki.1,kki.2.1,kki.2.2.1,kki.2.2.2.1,kki.2.2.2.2.1,kki.2.2.2.2.2,hd1i,hd3⟩);have hb1' := Nat.lt_of_lt_of_le hbb1 hbi1.size;clear hjk hz kki hd1i hd3;go_wp2_with (fail);go_region_held3 (fun w' => w'.cell? ⟨w.heap.size,0,none⟩ = some (.int .i64 F.p) ∧ w'.cell? ⟨w.heap.size,1,none⟩ = some (.int .i64 F.m) ∧ w'.cell? ⟨w.heap.size,2,none⟩ = some (.slice A F.mod.length c) ∧ w'.cell? ⟨w.heap.size,3,none⟩ = some (.int .i64 K) ∧ w'.cell? ⟨w.heap.size,4,none⟩ = some (.slice (some ⟨b1,o1,none⟩) pts.length c1) ∧ w'.cell? ⟨w.heap.size,5,none⟩ = some (.slice (some ⟨b2,o2,none⟩) mul.length c2) ∧ w'.cell? ⟨b1,o1 + k,none⟩ = some (.int .i64 x) ∧ w'.cell? ⟨b1,o1 + j,none⟩ = some (.int .i64 xj)) (first | exact kk8.out | exact kk9.out | exact kk10.out)
       (first
        | (go_at_call 183; (with_reducible refine (hS _).out.mono ?_); rintro e w5 ⟨rfl,hb5⟩; have kk9 := Lib.hid (keep8 hb5 hlti hb1' hb1' kk8.out); have hs5 : wi.heap.size ≤ w5.heap.size := hb5.size; have hB5 := hbi1.drew.trans (hb5.mono hbi1.size); have hM2 := hM1 w5 ((hr.below hB5).more hB5.size))
        | (go_at_call 29; (with_reducible refine hM2.out.mono ?_); rintro e w6 ⟨rfl,hb6⟩; have kk10 := Lib.hid (keep8 hb6 (Nat.lt_of_lt_of_le hlti hs5) (Nat.lt_of_lt_of_le hb1' hs5) (Nat.lt_of_lt_of_le hb1' hs5) kk9.out)))
      go_wp2_with (fail);go_roundw
      case rel => exact ⟨j + 1,_,by omega,by go_num,rfl,by unfold Hid; exact eli_ci _,(hbi.drew.trans (hb5.mono hbi.size)).trans (hb6.mono (Nat.le_trans hbi.size hs5))⟩
      case measure => simp [intOf]; omega
    ·obtain rfl : j = pts.length := by omega
     have hval : ci (inv (eli F.toDesc z)) = dualV F pts mul k := by unfold dualV; rw [hz.out,hy.out]
     have hI := fun W h => (hIv z W h).out
     rw [hval] at hI;have hI2 := Lib.hid (hI wi hri);obtain ⟨dv,hdv⟩ : ∃ dv,dv = dualV F pts mul k := ⟨_,rfl⟩;rw [← hdv] at hI2;have hibi := hib.out.below hbi hgo;have hgi : gW < wi.heap.size := Nat.lt_of_lt_of_le hgo hbi.size;have sxi := sx.out.keep hbi (by omega);replace hibi := Lib.hid hibi;replace hdv := Lib.hid hdv;replace sxi := Lib.hid sxi;clear hval hz hI;have kkiH := Lib.hid kki;obtain ⟨q0,q1,q2,q3,q4,q5⟩ := kki;go_wp2_with (fail);(with_reducible refine hI2.out.mono ?_);rintro e w5 ⟨rfl,hb5⟩;have hib5 := hibi.out.below hb5 hgi;have hcW := hib5.cell (i := k) (by rw [upd_length]; exact hkn);have hfW := hib5.frozen k;have hset := hib5.set_ k dv;rw [hdv.out,upd_set,← hdv.out] at hset;have hb56 : Below gW w5 (w5.setCell ⟨gW,k,none⟩ (.int .i64 dv)) := (Below.refl _ _).setCell (p := ⟨gW,k,none⟩) (Nat.le_refl _) _;have hg5 : gW < w5.heap.size := Nat.lt_of_lt_of_le hgi hb5.size;have kk6 := Lib.hid (keep6 hb56 (by omega) (keep6 hb5 hlti kkiH.out));have sx6 := Lib.hid ((sxi.out.keep hb5 (by omega)).keep hb56 hgW1);have hB6 := (hbi1.trans (hb5.mono hbi1.size)).trans (hb56.mono (by omega));have hs6 : gW < (w5.setCell ⟨gW,k,none⟩ (.int .i64 dv)).heap.size := Nat.lt_of_lt_of_le hg5 (grown_set _ _ _).size;replace hset := Lib.hid hset;clear q0 q1 q2 q3 q4 q5;go_wp2_with (fail);go_roundw
     case rel => exact ⟨k + 1,by omega,by go_num,kk6,sx6,hset,hB6,hs6⟩
     case measure => simp [intOf]; omega
  ·obtain rfl : k = pts.length := by omega
   obtain ⟨q0,q1,q2,q3,q4,q5⟩ := kk.out;obtain ⟨p0,p1,p2,p3,p4,p5,e0,e1,e2,e3,e4,e5⟩ := sx.out;have hwr := (IntWalk.i64_in ((pts.length : Int) - K) (by omega));have hib2 := hib.out;rw [upd_full] at hib2;replace hib2 := Lib.hid hib2;go_wp2_with (fail);refine bodyPost_ret (v := .agg #[.int .i64 F.p,.int .i64 F.m,.slice A F.mod.length c,.int .i64 ((pts.length : Int) - K),.slice A1 pts.length c1,.slice (some ⟨gW,0,none⟩) pts.length pts.length]) (by simp [results,Tryz.results111,go_sem,p0,p1,p2,p3,p4,p5]) rfl ⟨gW,rfl,?_,by omega,hBw.trans ((set6 _ _ _ _ _ _).mono (Nat.le_succ _))⟩;have hrd : Rd wo wo.heap.size (some ⟨gW,0,none⟩) (dualL F pts mul) := hib2.out.rd;exact (hrd.set6 (fun a e => by cases e; show gW ≠ _; omega) _ _ _ _ _ _).more (by simp [World.setCell])
theorem Dual18_any (F : FD) (K : Int) (pts mul : List Int) (A A1 A2 : Option Addr) (c c1 c2 : Nat) (w : World) (hr : Rd w w.heap.size A (modL F.toDesc)) (hr1 : Rd w w.heap.size A1 pts) (hr2 : Rd w w.heap.size A2 mul)
  (hlen : mul.length = pts.length) (hl : pts.length ≤ 64) (hK0 : 0 ≤ K) (hKn : K ≤ (pts.length : Int)) :
  Calls Tryz.prog 111 #[.agg #[.int .i64 F.p,.int .i64 F.m,.slice A F.mod.length c,.int .i64 K,.slice A1 pts.length c1,.slice A2 mul.length c2]] w fun e w' => ∃ g,e = .returned (.agg #[.int .i64 F.p,.int .i64 F.m,.slice A F.mod.length c,.int .i64 ((pts.length : Int) - K),.slice A1 pts.length c1,.slice (some ⟨g,0,none⟩) pts.length pts.length]) ∧
   Rd w' w'.heap.size (some ⟨g,0,none⟩) (dualL F pts mul) ∧ Below w.heap.size w w' :=
 (Dual18_low F K pts mul A A1 A2 c c1 c2 w hr hr1 hr2 hlen hl hK0 hKn).mono fun _ _ ⟨g,e,h,_,hb⟩ => ⟨g,e,h,hb⟩
end
section
open Go.RowKit Cw
attribute [local go_sem] Oper.semAt_some

set_option maxHeartbeats 1000000 in
theorem Power5_any (i : Nat) (w : World) (hi : i ≤ 1000) :
  Calls Tryz.prog 189 #[.int .i64 i] w (Gives w.heap.size ((List.replicate (i + 1) (0 : Int)).set i 1) w) := by
 have hmk := fun W => mk_ints (i + 1) (by omega) W
 push_cast at hmk
 have hwr : IntKind.i64.wrap ((i : Int) + 1) = (i : Int) + 1 := IntWalk.i64_in _ (by omega);have hi0 : (0 : Int) ≤ (i : Int) := by omega
 have hi1 : (i : Int) < (i : Int) + 1 := by omega
 have hib := IB.newz w (i + 1);have hfz := hib.frozen i;have hcl := hib.cell (i := i) (by simp);have hw2 : (w.alloc (.cells (Array.replicate (i + 1) (Value.int .i64 0)) 3)).setCell ⟨w.heap.size,i,none⟩ (.int .i64 1) = w.alloc (.cells ((Array.replicate (i + 1) (Value.int .i64 0)).setIfInBounds i (.int .i64 1)) 3) := by simp [go_sem]
 have hset := (hib.set_ i 1);have hB := (((Below.refl w.heap.size w).alloc (Nat.le_refl _) (.cells (Array.replicate (i + 1) (Value.int .i64 0)) 3)).setCell (p := ⟨w.heap.size,i,none⟩) (Nat.le_refl _) (.int .i64 1));rw [hw2] at hset hB;replace hw2 := Lib.hid hw2;replace hset := Lib.hid hset;replace hB := Lib.hid hB;go_enter Tryz.func189,Tryz.ntmps189;go_wp2_with (fail);go_ret;exact ⟨w.heap.size,by simp,Nat.le_refl _,hset.out,hB.out⟩
end
section
open Go.RowKit Cw
attribute [local go_sem] Oper.semAt_some

def powL (i : Nat) : List Int := (List.replicate (i + 1) (0 : Int)).set i 1
theorem powL_length (i : Nat) : (powL i).length = i + 1 := by simp [powL]
theorem OwnM.low {w : World} {B B' n : Nat} {v : Value} {rows : Nat → List Int} (h : OwnM w B v n rows) (hB : B' ≤ B) : OwnM w B' v n rows := by
 obtain ⟨hs,h1,h2,h3⟩ := h;refine ⟨hs,h1,⟨h2.1,?_⟩,fun i hi => ?_⟩
 ·rcases h2.2 with hn | ⟨g,cap,cur,e,hb,rest⟩
  ·exact .inl hn
  ·exact .inr ⟨g,cap,cur,e,Nat.le_trans hB hb,rest⟩
 ·obtain ⟨Ai,c,a1,a2,a3,a4,a5⟩ := h3 i hi;exact ⟨Ai,c,a1,a2,a3,a4,fun hn a e => ⟨(a5 hn a e).1,Nat.le_trans hB (a5 hn a e).2⟩⟩
def rowsW (D : Desc) (pts mul : List Int) : Nat → List Int := fun i => wordL D pts mul (powL i)
set_option maxRecDepth 100000 in
set_option maxHeartbeats 2000000 in
theorem Rows18_any (D : Desc) (kn : Nat) (pts mul : List Int) (A A1 A2 : Option Addr) (c c1 c2 : Nat) (w : World) (hr : Rd w w.heap.size A (modL D)) (hr1 : Rd w w.heap.size A1 pts) (hr2 : Rd w w.heap.size A2 mul)
  (hlen : mul.length = pts.length) (hl : pts.length ≤ 64) (hk : kn ≤ 64) :
  Calls Tryz.prog 125 #[.agg #[.int .i64 D.p,.int .i64 D.m,.slice A D.mod.length c,.int .i64 (kn : Int),.slice A1 pts.length c1,.slice A2 mul.length c2]] w fun e w' => ∃ v,e = .returned v ∧ OwnM w' w.heap.size v kn (rowsW D pts mul) ∧ Below w.heap.size w w' := by
 have hP := fun (i : Nat) (W : World) (h : i ≤ 1000) => Lib.hid (show Calls Tryz.prog 189 #[.int .i64 i] W (Gives W.heap.size (powL i) W) from Power5_any i W h)
 have hW := fun i A3 c3 W a b c' d (hi : i ≤ 64) => Lib.hid (Word18_any D kn pts mul (powL i) A A1 A2 A3 c c1 c2 c3 W a b c' d hlen hl (by rw [powL_length]; unfold maxLen; omega))
 obtain ⟨Z,hZ⟩ : ∃ Z,Z = w.alloc (.cells #[.int .i64 D.p,.int .i64 D.m,.slice A D.mod.length c,.int .i64 (kn : Int),.slice A1 pts.length c1,.slice A2 mul.length c2] 72) := ⟨_,rfl⟩;have hB : Below w.heap.size w Z := by rw [hZ]; exact (Below.refl _ _).alloc (Nat.le_refl _) _
 have hZs : w.heap.size < Z.heap.size := by rw [hZ]; simp
 have k0 := Lib.hid (show Z.cell? ⟨w.heap.size,0,none⟩ = some (.int .i64 D.p) ∧ Z.cell? ⟨w.heap.size,1,none⟩ = some (.int .i64 D.m) ∧ Z.cell? ⟨w.heap.size,2,none⟩ = some (.slice A D.mod.length c) ∧ Z.cell? ⟨w.heap.size,3,none⟩ = some (.int .i64 (kn : Int)) ∧ Z.cell? ⟨w.heap.size,4,none⟩ = some (.slice A1 pts.length c1) ∧ Z.cell? ⟨w.heap.size,5,none⟩ = some (.slice A2 mul.length c2) from by rw [hZ]; simp [go_sem]);have hlenH := Lib.hid hlen;replace hZ := Lib.hid hZ;clear hlen;go_enter Tryz.func125,Tryz.ntmps125;go_wp2_with (fail);rw [← hZ.out];go_loopw [4,3] (fun iS v wr => ∃ k : Nat,k ≤ kn ∧ iS = .int .i64 k ∧ OwnM wr Z.heap.size v k (rowsW D pts mul) ∧ Hid (wr.cell? ⟨w.heap.size,0,none⟩ = some (.int .i64 D.p) ∧ wr.cell? ⟨w.heap.size,1,none⟩ = some (.int .i64 D.m) ∧ wr.cell? ⟨w.heap.size,2,none⟩ = some (.slice A D.mod.length c) ∧ wr.cell? ⟨w.heap.size,3,none⟩ = some (.int .i64 (kn : Int)) ∧ wr.cell? ⟨w.heap.size,4,none⟩ = some (.slice A1 pts.length c1) ∧ wr.cell? ⟨w.heap.size,5,none⟩ = some (.slice A2 mul.length c2)) ∧ Below w.heap.size w wr ∧ Z.heap.size ≤ wr.heap.size) (fun iS _ _ => kn - (intOf iS).toNat)
 case atStart => exact ⟨0,by omega,rfl,OwnM.nil _ _ _,k0,hB,Nat.le_refl _⟩
 case round =>
  clear k0 hB hZ;obtain ⟨w3,rfl⟩ : ∃ w3 : World,w3 = wr := ⟨_,rfl⟩;obtain ⟨k,hkk,rfl,hown,kk,hbw,hs3⟩ := hrel;obtain ⟨Av,cv,rfl⟩ := hown.size;obtain ⟨q0,q1,q2,q3,q4,q5⟩ := kk.out;by_cases hlt : k < kn
  ·have hlt3 : w.heap.size < w3.heap.size := by omega
   have hP3 := hP k w3.drew (by omega);unfold Gives at hP3;clear q0 q1 q2 q4 q5;go_wp2_with (fail);refine wp_region_held_drew (S := fun w' => w'.cell? ⟨w.heap.size,0,none⟩ = some (.int .i64 D.p) ∧ w'.cell? ⟨w.heap.size,1,none⟩ = some (.int .i64 D.m) ∧ w'.cell? ⟨w.heap.size,2,none⟩ = some (.slice A D.mod.length c) ∧ w'.cell? ⟨w.heap.size,3,none⟩ = some (.int .i64 (kn : Int)) ∧ w'.cell? ⟨w.heap.size,4,none⟩ = some (.slice A1 pts.length c1) ∧ w'.cell? ⟨w.heap.size,5,none⟩ = some (.slice A2 mul.length c2)) (by kernel_rfl) (by (try dsimp only); exact kk.out) (fun hHeld => ?_);refine tk 0 ?_; try simp only [pS]
   refine tk 1 ?_; try simp only [pS]
   refine tk 2 ?_; try simp only [pS]
   refine rd 3 fun K hK => ?_
   go_simp;go_at_call 189;(with_reducible refine (hP3).out.mono ?_);rintro e w4 ⟨g4,rfl,hg4,hib4,hb4⟩;have kk4 := Lib.hid (keep6 hb4 hlt3 kk.out);have hB4 := hbw.drew.trans (hb4.mono hbw.size);have hs4 : w3.heap.size ≤ w4.heap.size := hb4.size;have hW4 := hW k (some ⟨g4,0,none⟩) (powL k).length w4 ((hr.below hB4).more hB4.size) ((hr1.below hB4).more hB4.size) ((hr2.below hB4).more hB4.size) hib4.rd (by omega);unfold Gives at hW4;go_wp2_with (fail);refine hK.out _ _ (by (try dsimp only); exact kk4.out) (fun hHeld => ?_);clear hK K;try simp only [pS]
   refine rd 4 fun K hK => ?_
   go_simp;go_at_call 188;(with_reducible refine (hW4).out.mono ?_);rintro e w5 ⟨g5,rfl,hg5,hib5,hb5⟩;have kk5 := Lib.hid (keep6 hb5 (Nat.lt_of_lt_of_le hlt3 hs4) kk4.out);have hb35 : Below w3.heap.size w3 w5 := (Below.refl _ w3).drew.trans (hb4.trans (hb5.mono hb4.size));have hown5 := hown.below hb35 (Nat.le_refl _);have hs5 : w4.heap.size ≤ w5.heap.size := hb5.size;obtain ⟨hds,p1,p2,p3⟩ := hown5;have hlt5 : w.heap.size < w5.heap.size := by omega
   go_wp2_with (fail);refine hK.out _ _ (by (try dsimp only); exact kk5.out) (fun hHeld => ?_);clear hK K;try simp only [pS]
   refine rd 5 fun K hK => ?_
   go_simp;refine hK.out _ _ (by (try dsimp only); exact keep6 ((Below.refl w5.heap.size w5).alloc (Nat.le_refl _) _) hlt5 kk5.out) (fun hHeld => ?_);clear hK K;try simp only [pS]
   refine rd 6 fun K hK => ?_
   refine step_app1V rfl (.tmp 11) (.tmp 16) rfl Z.heap.size _ hds _ rfl p2 (by rfl) (by rfl) rfl (by rw [p1]; omega) (by omega) ?_;intro v6 w6 ho6 hb6 hg6 hv6;have kk6 := Lib.hid (keep6 hb6 hZs kk5.out);refine hK.out _ _ (by (try dsimp only); exact kk6.out) (fun hHeld => ?_);clear hK K;try simp only [pS]
   refine tk 7 ?_; try simp only [pS]
   refine wpAnyH_done (by kernel_rfl) ?_ _;have hwl : (rowsW D pts mul k).length ≤ 64 := by unfold rowsW; rw [wordL_length]; exact hl
   have hsn := OwnM.snoc (rows := rowsW D pts mul) p1 p3 (Ak := some ⟨g5,0,none⟩) (ck := (wordL D pts mul (powL k)).length) hib5.rd (Nat.le_refl _) (by unfold maxLen; exact Nat.le_trans hwl (by omega)) (fun _ a e => by cases e; exact ⟨fun e2 => by have h2 := (World.ownsRow.lt (hown.choose_spec.2.1) _ e2).2; have h3 : w4.heap.size ≤ g5 := hg5; have h4 : g5 < w3.heap.size := h2; omega,show Z.heap.size ≤ g5 by have h3 : w4.heap.size ≤ g5 := hg5; omega⟩) ho6 hg6 hv6;have hBf := Lib.hid (hbw.trans ((hb35.mono hbw.size).trans (hb6.mono (by omega))));have hsf : Hid (Z.heap.size ≤ w6.heap.size) := Nat.le_trans (by omega) hb6.size;go_wp2_with (fail);go_roundw
   case rel => exact ⟨k + 1,by omega,by go_num,hsn,kk6,hBf.out,hsf.out⟩
   case measure => simp [intOf]; omega
  ·obtain rfl : k = kn := by omega
   go_wp2_with (fail);go_ret;exact ⟨_,rfl,hown.low (Nat.le_of_lt hZs),hbw⟩
end
section
open Go.RowKit Cw

theorem powL_get (i j : Nat) (h : j < i + 1) : (powL i)[j]?.getD 0 = if j = i then 1 else 0 := by
 unfold powL;rw [List.getElem?_set];by_cases e : i = j
 ·subst e; simp
 ·rw [if_neg e,if_neg (fun h => e h.symm)]; simp [List.getElem?_replicate,h]
theorem pevI_powL (D : Desc) (i : Nat) (u : R D) : pevI D (powL i) u = pw u i := by
 unfold pevI;rw [powL_length,rsum_single (k := i) (Nat.lt_succ_self _) fun j hj hne => ?_]
 ·rw [powL_get i i (Nat.lt_succ_self _),if_pos rfl,eli_one,one_mul]
 ·rw [powL_get i j hj,if_neg hne,eli_zero,zero_mul]
theorem rowsW_eq (D : Desc) (pts mul : List Int) : rowsW D pts mul = rowsL D pts.length (gM D pts mul) := funext fun i => by
 unfold rowsW rowsL rowL wordL gM;simp only [pevI_powL]
end
section
open Go.RowKit Cw
attribute [local go_sem] Oper.semAt_some

end
end Go.Proofs.YtjdoneanohhkmaaGreat

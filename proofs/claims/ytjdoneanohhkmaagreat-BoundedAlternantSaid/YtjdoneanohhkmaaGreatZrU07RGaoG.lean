/- Layers 5 and 38 of the program: Mul of two factors, Degree, Sub, euclid. Layer 38 of the program: euclid. Layer 38 of the program: Gao. -/
import Derived.Test.YtjdoneanohhkmaaGreatZrU07RDivP
import Derived.Test.YtjdoneanohhkmaaGreatZrU07RDivW
import Derived.Test.YtjdoneanohhkmaaGreatZrU07RGpoD
import Derived.Test.YtjdoneanohhkmaaGreatZrU07RFrR
import Derived.Test.YtjdoneanohhkmaaGreatZrU07RTk
namespace Go.Proofs.YtjdoneanohhkmaaGreat
section
open Go.RowKit Cw
open Cw.CField (inv)
attribute [local go_sem] Oper.semAt_some

theorem DivI.can {D : Desc} {p q quo rem : List Int} (h : DivI D p q quo rem) : DivI D (canI D p) (canI D q) quo rem :=
 ⟨h.cq,h.cr,fun s => by rw [cfR_canI,cfR_canI]; exact h.eq s,by rw [canI_canI]; exact h.lt⟩

set_option maxHeartbeats 1000000 in
theorem gDegree_any (F : FD) (p : List Int) (A1 : Option Addr) (c1 g : Nat) (w : World) (hg : GF w w.heap.size g F) (hr1 : Rd w w.heap.size A1 p) (hl : p.length ≤ 70000) :
  Calls Tryz.prog 263 #[.pointer (some ⟨g,0,none⟩),.slice A1 p.length c1] w fun e w' => e = .returned (.int .i64 (((canI F.toDesc p).length : Int) - 1)) ∧ Below w.heap.size w w' := by
 have hC := Lib.hid (gCanonP_any F p A1 c1 g w hg hr1 hl);have hle := canI_le F.toDesc p;obtain ⟨n,hn⟩ : ∃ n,n = (canI F.toDesc p).length := ⟨_,rfl⟩;unfold GivesR at hC;rw [← hn] at hC hle;rw [← hn];have hw : IntKind.i64.wrap ((n : Int) - 1) = (n : Int) - 1 := IntWalk.i64_in _ (by omega);replace hn := Lib.hid hn;go_enter Tryz.func263,Tryz.ntmps263;go_wp2_with (fail);(with_reducible refine hC.out.mono ?_);rintro e w1 ⟨A',c',rfl,-,-,-,-,hb1⟩;go_wp2_with (fail);go_ret;exact ⟨rfl,hb1⟩

set_option maxHeartbeats 1000000 in
theorem gSubP_any (F : FD) (p q : List Int) (A1 A2 : Option Addr) (c1 c2 g : Nat) (w : World) (hg : GF w w.heap.size g F) (hr1 : Rd w w.heap.size A1 p) (hr2 : Rd w w.heap.size A2 q) (hl1 : p.length ≤ 70000) (hl2 : q.length ≤ 70000) :
  Calls Tryz.prog 264 #[.pointer (some ⟨g,0,none⟩),.slice A1 p.length c1,.slice A2 q.length c2] w (GivesO (combL F.toDesc p (ci (-(1 : R F.toDesc))) q) w) := by
 have hN := gNeg_any F 1 g w hg;rw [eli_one] at hN;obtain ⟨m,hm⟩ : ∃ m,m = ci (-(1 : R F.toDesc)) := ⟨_,rfl⟩;rw [← hm] at hN;rw [← hm];have hC := fun W a b c => Lib.hid (gComb_any F p q m A1 A2 c1 c2 g W a b c hl1 hl2)
 replace hN := Lib.hid hN;replace hm := Lib.hid hm;unfold GivesO at hC ⊢;go_enter Tryz.func264,Tryz.ntmps264;go_wp2_with (fail);(with_reducible refine hN.out.mono ?_);rintro e w1 ⟨rfl,hb1⟩;have hC1 := hC w1 ((hg.below hb1).more hb1.size) ((hr1.below hb1).more hb1.size) ((hr2.below hb1).more hb1.size);go_wp2_with (fail);(with_reducible refine hC1.out.mono ?_);rintro e w2 ⟨A',c',rfl,ho,hb2⟩;go_wp2_with (fail);go_ret;exact ⟨A',c',rfl,ho.base hb1.size,hb1.trans (hb2.mono hb1.size)⟩

def mulK (D : Desc) (p q : List Int) : Nat → List Int
 | 0 => [1]
 | 1 => prodL D [1] p
 | _ + 2 => prodL D (prodL D [1] p) q
theorem mulK_le (D : Desc) (p q : List Int) (k : Nat) : (mulK D p q k).length ≤ p.length + q.length + 1 := by
 have h1 := prodL_le D [1] p;have h2 := prodL_le D (prodL D [1] p) q
 match k with
 | 0 => simp [mulK]
 | 1 => simp [mulK] at *; omega
 | k + 2 => simp [mulK] at *; omega
set_option maxHeartbeats 2000000 in
theorem gMul2_any (F : FD) (p q : List Int) (A1 A2 : Option Addr) (c1 c2 g b : Nat) (w : World) (hg : GF w w.heap.size g F) (hr1 : Rd w w.heap.size A1 p) (hr2 : Rd w w.heap.size A2 q) (hl1 : p.length ≤ 9000) (hl2 : q.length ≤ 9000) (hb : b < w.heap.size) (hb0 : w.cell? ⟨b,0,none⟩ = some (.slice A1 p.length c1)) (hb1 : w.cell? ⟨b,1,none⟩ = some (.slice A2 q.length c2)) :
  Calls Tryz.prog 101 #[.pointer (some ⟨g,0,none⟩),.slice (some ⟨b,0,none⟩) 2 2] w (GivesR (prodL F.toDesc (prodL F.toDesc [1] p) q) w) := by
 have hP1 := fun A c W a d e f h => gProd_any F (mulK F.toDesc p q 0) p A A1 c c1 g W a d e f h
 have hP2 := fun A c W a d e f h => gProd_any F (mulK F.toDesc p q 1) q A A2 c c2 g W a d e f h
 rw [show prodL F.toDesc (mulK F.toDesc p q 0) p = mulK F.toDesc p q 1 from rfl] at hP1;rw [show prodL F.toDesc (mulK F.toDesc p q 1) q = mulK F.toDesc p q 2 from rfl] at hP2;rw [show prodL F.toDesc (prodL F.toDesc [1] p) q = mulK F.toDesc p q 2 from rfl];have hle := mulK_le F.toDesc p q;obtain ⟨Y,hY⟩ : ∃ Y,Y = w.alloc (.cells #[.int .i64 1] 3) := ⟨_,rfl⟩;have hB : Below w.heap.size w Y := by rw [hY]; exact (Below.refl _ _).alloc (Nat.le_refl _) _
 have hrd : Rd Y Y.heap.size (some ⟨w.heap.size,0,none⟩) (mulK F.toDesc p q 0) := by rw [hY]; exact (IB.new w [1]).rd
 have h01 : (mulK F.toDesc p q 0).length = 1 := rfl;have hmx : (mulK F.toDesc p q 2).length ≤ maxLen := by have := hle 2; unfold maxLen; omega
 generalize mulK F.toDesc p q = X at *;replace hY := Lib.hid hY;unfold GivesR at *;replace hP1 := fun A c W a d e f h => Lib.hid (hP1 A c W a d e f h)
 replace hP2 := fun A c W a d e f h => Lib.hid (hP2 A c W a d e f h)
 go_enter Tryz.func101,Tryz.ntmps101;go_wp2_with (fail);rw [← hY.out];go_loopw [11,5] (fun i v wr => ∃ k : Nat,k ≤ 2 ∧ i = .int .i64 k ∧ (∃ A' c',v = .slice A' (X k).length c' ∧ Rd wr wr.heap.size A' (X k) ∧ (X k).length ≤ c' ∧ c' ≤ maxLen ∧ (∀ a,A' = some a → w.heap.size ≤ a.block)) ∧ Below w.heap.size w wr) (fun i _ _ => 2 - (intOf i).toNat)
 case atStart => exact ⟨0,by omega,rfl,⟨_,_,by rw [h01],hrd,by rw [h01]; exact Nat.le_refl _,by unfold maxLen; omega,fun a e => by cases e; exact Nat.le_refl _⟩,hB⟩
 case round =>
  clear hrd hB hY;obtain ⟨w2,rfl⟩ : ∃ w2 : World,w2 = wr := ⟨_,rfl⟩;obtain ⟨k,hk,rfl,⟨A',c',rfl,hrd,hc1,hc2,hA'⟩,hbw⟩ := hrel;have hg2 := (hg.below hbw).more hbw.size;have hx0 := (hbw.cell (p := ⟨b,0,none⟩) hb).trans hb0;have hx1 := (hbw.cell (p := ⟨b,1,none⟩) hb).trans hb1;have hlk := hle k;rcases (show k = 0 ∨ k = 1 ∨ k = 2 by omega) with rfl | rfl | rfl
  ·have hM := hP1 A' c' w2 hg2 hrd ((hr1.below hbw).more hbw.size) (by omega) (by omega);clear hb0 hb1 h01;go_wp2_with (fail);(with_reducible refine hM.out.mono ?_);rintro e w4 ⟨A4,c4,rfl,hr4,hc4,hc4',hA4,hb4⟩;go_wp2_with (fail);go_roundw
   case rel => exact ⟨1,by omega,by go_num,⟨_,_,rfl,hr4,hc4,hc4',fun a e => Nat.le_trans hbw.size (hA4 a e)⟩,hbw.trans (hb4.mono hbw.size)⟩
   case measure => simp [intOf]
  ·have hM := hP2 A' c' w2 hg2 hrd ((hr2.below hbw).more hbw.size) (by omega) (by omega);clear hb0 hb1 h01;go_wp2_with (fail);(with_reducible refine hM.out.mono ?_);rintro e w4 ⟨A4,c4,rfl,hr4,hc4,hc4',hA4,hb4⟩;go_wp2_with (fail);go_roundw
   case rel => exact ⟨2,by omega,by go_num,⟨_,_,rfl,hr4,hc4,hc4',fun a e => Nat.le_trans hbw.size (hA4 a e)⟩,hbw.trans (hb4.mono hbw.size)⟩
   case measure => simp [intOf]
  ·clear hb0 hb1 h01;go_wp2_with (fail);go_ret;exact ⟨A',c',rfl,hrd,hc1,hc2,hA',hbw⟩
end
section
open Go.RowKit Cw
open Cw.CField (inv)
attribute [local go_sem] Oper.semAt_some

def EuPost (F : FD) (n k : Nat) (X Y : Nat → R F.toDesc) (w : World) (e : Ending) (w' : World) : Prop :=
 ∃ a b old t Ab cb At ct,e = .returned (.tuple #[.slice Ab b.length cb,.slice At t.length ct]) ∧ EI F n k X Y a (canI F.toDesc b) old t ∧ 2 * (canI F.toDesc b).length ≤ n + k + 1 ∧ Rd w' w'.heap.size Ab b ∧ Rd w' w'.heap.size At t ∧ b.length ≤ 1000 ∧ t.length ≤ 1000 ∧ Below w.heap.size w w'

set_option maxRecDepth 100000 in
set_option maxHeartbeats 8000000 in
theorem gEuclid_any (F : FD) (n k : Nat) (X Y : Nat → R F.toDesc) (a b : List Int) (hE : EI F n k X Y (canI F.toDesc a) (canI F.toDesc b) [] [1]) (ha : a.length ≤ 1000) (hbl : b.length ≤ 1000) (hn : n ≤ 64) (hk : k ≤ 64) (A1 A2 : Option Addr) (c1 c2 g : Nat) (w : World) (hg : GF w w.heap.size g F) (hr1 : Rd w w.heap.size A1 a) (hr2 : Rd w w.heap.size A2 b) :
  Calls Tryz.prog 251 #[.pointer (some ⟨g,0,none⟩),.slice A1 a.length c1,.slice A2 b.length c2,.int .i64 ((n : Int) + (k : Int))] w (EuPost F n k X Y w) := by
 obtain ⟨bd,hbd⟩ : ∃ bd : Int,bd = (n : Int) + (k : Int) := ⟨_,rfl⟩;rw [← hbd];obtain ⟨Z,hZ⟩ : ∃ Z,Z = (w.alloc (.cells #[] 3)).alloc (.cells #[.int .i64 1] 3) := ⟨_,rfl⟩;have hB : Below w.heap.size w Z := by rw [hZ]; exact ((Below.refl _ _).alloc (Nat.le_refl _) _).alloc (by simp) _
 have hrt : Rd Z Z.heap.size (some ⟨w.heap.size + 1,0,none⟩) [1] := by
  have h := (IB.new (w.alloc (.cells #[] 3)) [1]).rd;rw [hZ]
  simpa using h
 obtain ⟨s,hs⟩ : ∃ s,s = w.heap.size := ⟨_,rfl⟩;replace hE := Lib.hid hE;replace hZ := Lib.hid hZ;replace hbd := Lib.hid hbd;unfold EuPost;go_enter Tryz.func251,Tryz.ntmps251;go_wp2_with (fail);rw [← hZ.out];simp only [← hs];rw [← hs] at hrt;replace hs := Lib.hid hs;go_loopw [1,2,9,10] (fun v1 v2 v9 v10 wr => ∃ (a b old t : List Int) (Aa Ab Ao At : Option Addr) (ca cb co ct : Nat),v1 = .slice Aa a.length ca ∧ v2 = .slice Ab b.length cb ∧ v9 = .slice At t.length ct ∧ v10 = .slice Ao old.length co ∧ Hid (EI F n k X Y (canI F.toDesc a) (canI F.toDesc b) old t) ∧ a.length ≤ 1000 ∧ b.length ≤ 1000 ∧ Rd wr wr.heap.size Aa a ∧ Rd wr wr.heap.size Ab b ∧ Rd wr wr.heap.size Ao old ∧ Rd wr wr.heap.size At t ∧ Below w.heap.size w wr) (fun _ v _ _ _ => lenV v)
 case atStart => exact ⟨a,b,[],[1],A1,A2,_,_,c1,c2,_,_,rfl,rfl,rfl,rfl,hE,ha,hbl,(hr1.below hB).more hB.size,(hr2.below hB).more hB.size,Rd.nil,hrt,hB⟩
 case round =>
  clear hrt hE hZ hB hr1 hr2 ha hbl;obtain ⟨w2,rfl⟩ : ∃ w2 : World,w2 = wr := ⟨_,rfl⟩;obtain ⟨a,b,old,t,Aa,Ab,Ao,At,ca,cb,co,ct,rfl,rfl,rfl,rfl,hE,ha,hbl,hra,hrb,hro,hrt,hbw⟩ := hrel;have hg2 := (hg.below hbw).more hbw.size;have hD := gDegree_any F b Ab cb g w2 hg2 hrb (by omega);have hcle := canI_le F.toDesc b;have hts : t.length ≤ n + 1 ∧ old.length ≤ n + 1 := by have h1 := hE.out.sum; have h2 := hE.out.lab; have h3 := hE.out.lot; omega
  obtain ⟨N,hN⟩ : ∃ N,N = (canI F.toDesc b).length := ⟨_,rfl⟩;rw [← hN] at hD;have hw : IntKind.i64.wrap (2 * ((N : Int) - 1)) = 2 * ((N : Int) - 1) := IntWalk.i64_in _ (by omega);by_cases hc : n + k + 2 ≤ 2 * N
  ·have hc2 : bd ≤ 2 * ((N : Int) - 1) := by rw [hbd.out]; omega
   obtain ⟨d,hd⟩ : ∃ d,N = d + 1 := ⟨N - 1,by omega⟩;have hDv := fun W x y z => gDivMod_any F a b d (by rw [← hN,hd]) Aa Ab ca cb g W x y z (by omega) (by omega)
   unfold DivPost at hDv;replace hDv := fun W x y z => Lib.hid (hDv W x y z)
   replace hD := Lib.hid hD;replace hd := Lib.hid hd;replace hcle := Lib.hid hcle;replace hts := Lib.hid hts;rw [hN] at hc;replace hc := Lib.hid hc;replace hN := Lib.hid hN;go_wp2_with (fail);(with_reducible refine hD.out.mono ?_);rintro e w3 ⟨rfl,hb3⟩;have hD3 := hDv w3 ((hg2.below hb3).more hb3.size) ((hra.below hb3).more hb3.size) ((hrb.below hb3).more hb3.size);go_wp2_with (fail);(with_reducible refine hD3.out.mono ?_);rintro e w4 ⟨q,r,Aq,cq,Ar,cr,rfl,hoq,hrr,hdv,hb4⟩;have hb24 := hb3.trans (hb4.mono hb3.size);have hrq : Rd w4 w4.heap.size Aq q := by obtain ⟨A',c',e',-,h',-⟩ := hoq.form; cases e'; exact h'
   have hnew := hE.out.step hc.out hdv.can;have hrl : r.length < (canI F.toDesc b).length := by have := hdv.lt; exact this
   have hql : q.length ≤ 1000 := by
    have h1 := hdv.can.deg (canI_canI _ _) (canI_canI _ _) (by have := hc.out; omega) (by have := hE.out.lab; omega);have h2 := canI_le F.toDesc a;omega
   rw [← hdv.cr] at hnew;have hnew2 : Hid (EI F n k X Y (canI F.toDesc b) (canI F.toDesc r) t (nextL F.toDesc old q t)) := by have h := hnew; rw [hdv.cr] at h ⊢; exact h
   clear hnew;have hrb4 := (hrb.below hb24).more hb24.size;have hrt4 := (hrt.below hb24).more hb24.size;have hro4 := (hro.below hb24).more hb24.size;have hg4 := (hg2.below hb24).more hb24.size;have hB4 := hbw.trans (hb24.mono hbw.size);have hrl2 : Hid (r.length < b.length) := Nat.lt_of_lt_of_le hrl hcle.out;replace hrl := Lib.hid hrl;replace hql := Lib.hid hql;obtain ⟨V,hV⟩ : ∃ V,V = w4.alloc (.cells #[.slice Aq q.length cq,.slice At t.length ct] 22) := ⟨_,rfl⟩;have hbV : Below w4.heap.size w4 V := by rw [hV]; exact (Below.refl _ _).alloc (Nat.le_refl _) _
   have hv0 : V.cell? ⟨w4.heap.size,0,none⟩ = some (.slice Aq q.length cq) := by rw [hV]; simp [go_sem]
   have hv1 : V.cell? ⟨w4.heap.size,1,none⟩ = some (.slice At t.length ct) := by rw [hV]; simp [go_sem]
   have hvs : w4.heap.size < V.heap.size := by rw [hV]; simp
   have hM := gMul2_any F q t Aq At cq ct g w4.heap.size V ((hg4.below hbV).more hbV.size) ((hrq.below hbV).more hbV.size) ((hrt4.below hbV).more hbV.size) (by have := hql.out; omega) (by have := hts.out; omega) hvs hv0 hv1;have hpl : (prodL F.toDesc (prodL F.toDesc [1] q) t).length ≤ 70000 := by have := mulK_le F.toDesc q t 2; simp only [mulK] at this; have := hts.out; have := hql.out; omega
   have hS := fun A' c' W x y z => gSubP_any F old (prodL F.toDesc (prodL F.toDesc [1] q) t) Ao A' co c' g W x y z (by have := hts.out; omega) hpl
   rw [show combL F.toDesc old (ci (-(1 : R F.toDesc))) (prodL F.toDesc (prodL F.toDesc [1] q) t) = nextL F.toDesc old q t from rfl] at hS;unfold GivesR at hM;unfold GivesO at hS;replace hM := Lib.hid hM;replace hS := fun A' c' W x y z => Lib.hid (hS A' c' W x y z)
   replace hpl := Lib.hid hpl;replace hV := Lib.hid hV;clear hv0 hv1 hD hD3 hDv hoq;go_wp2_with (fail);rw [← hV.out];(with_reducible refine hM.out.mono ?_);rintro e w5 ⟨A5,c5,rfl,hr5,-,-,-,hb5⟩;have hb45 := hbV.trans (hb5.mono hbV.size);have hS5 := hS A5 c5 w5 ((hg4.below hb45).more hb45.size) ((hro4.below hb45).more hb45.size) hr5;go_wp2_with (fail);(with_reducible refine hS5.out.mono ?_);rintro e w6 ⟨A6,c6,rfl,ho6,hb6⟩;have hr6 : Rd w6 w6.heap.size A6 (nextL F.toDesc old q t) := by obtain ⟨A',c',e',-,h',-⟩ := ho6.form; cases e'; exact h'
   have hb46 := hb45.trans (hb6.mono hb45.size);go_wp2_with (fail);go_roundw
   case rel => exact ⟨b,r,t,nextL F.toDesc old q t,Ab,Ar,At,A6,cb,cr,ct,c6,rfl,rfl,rfl,rfl,hnew2,hbl,by have := hrl2.out; omega,(hrb4.below hb46).more hb46.size,(hrr.below hb46).more hb46.size,(hrt4.below hb46).more hb46.size,hr6,hB4.trans (hb46.mono hB4.size)⟩
   case measure => simp [lenV]; exact hrl2.out
  ·have hc2 : ¬ bd ≤ 2 * ((N : Int) - 1) := by rw [hbd.out]; omega
   replace hD := Lib.hid hD;have hfin : 2 * (canI F.toDesc b).length ≤ n + k + 1 := by omega
   have htl : t.length ≤ 1000 := by omega
   replace hN := Lib.hid hN;replace hcle := Lib.hid hcle;replace hts := Lib.hid hts;replace hc := Lib.hid hc;replace hfin := Lib.hid hfin;go_wp2_with (fail);(with_reducible refine hD.out.mono ?_);rintro e w3 ⟨rfl,hb3⟩;go_wp2_with (fail);go_ret2;exact ⟨canI F.toDesc a,b,old,t,Ab,cb,At,ct,rfl,hE.out,hfin.out,(hrb.below hb3).more hb3.size,(hrt.below hb3).more hb3.size,hbl,htl,hbw.trans (hb3.mono hbw.size)⟩
end
section
open Go.RowKit Cw
open Cw.CField (inv)
attribute [local go_sem] Oper.semAt_some

theorem canI_one (D : Desc) : canI D [1] = [1] := by
 have h : cfI D [1] = fun i => if i = 0 then 1 else 0 := funext fun i => by
  unfold cfI;rw [cfR_one];by_cases e : i = 0
  ·rw [if_pos e,if_pos e,ci_one]
  ·rw [if_neg e,if_neg e,ci_zero]
 unfold canI;rw [h,List.length_singleton,canL_full (by simp)];rfl
theorem EI.start {F : FD} {n k : Nat} {xs l : List Int} {Y : Nat → R F.toDesc} (hn : xs.length = n) (hk : k ≤ n) (hl : LI F.toDesc (fun i => eli F.toDesc (xs[i]?.getD 0)) Y n l) :
  EI F n k (fun i => eli F.toDesc (xs[i]?.getD 0)) Y (canI F.toDesc (frK F xs n)) (canI F.toDesc l) [] [1] := by
 obtain ⟨h1,h2,h3⟩ := hl;have h4 := canI_le F.toDesc l;have h5 : (canI F.toDesc (frK F xs n)).length = n + 1 := canI_len F.toDesc (frK_length F xs n) (by
  rw [cfR_frK F xs (by omega),hn];have h := lcf_top (cfR F.toDesc xs) n n;rw [ldeg_le (Nat.le_refl n)] at h;rw [h]; exact one_ne)
 refine ⟨canI_canI _ _,canI_canI _ _,canI_one _,by omega,by simp,by rw [h5]; simp; omega,by omega,fun i hi => ?_,fun i hi => ?_⟩
 ·rw [pevI_canI,pevI_pev (frK F xs n)];have h6 := pev_frK xs (eli F.toDesc (xs[i]?.getD 0));rw [hn] at h6;rw [h6,(lval_roots (f := cfR F.toDesc xs) (N := n) (x := eli F.toDesc (xs[i]?.getD 0)) n (Nat.le_refl n)).2 ⟨i,hi,rfl⟩]
  show rsum 0 _ * _ = _
  rw [rsum_zero,zero_mul]
 ·rw [pevI_canI,h3 i hi,pevI_one,one_mul]
def GaoPost (F : FD) (n k : Nat) (X Y : Nat → R F.toDesc) (w : World) (e : Ending) (w' : World) : Prop :=
 Below w.heap.size w w' ∧ ((∃ m A c,e = .returned (.tuple #[.slice A m.length c,.int .i64 0]) ∧ GaoOK F.toDesc n k X Y m ∧ Own w' w.heap.size (.slice A m.length c) m) ∨ (e = .returned (.tuple #[.slice none 0 0,.int .i64 12]) ∧ GaoNo F.toDesc n k X Y))
def wrK (D : Desc) (X Y : Nat → R D) (m : List Int) (j : Nat) : Nat := ((List.range j).filter fun i => ci (pevI D m (X i)) != ci (Y i)).length
theorem wrK_yes {D : Desc} {X Y : Nat → R D} {m : List Int} {j : Nat} (h : (ci (pevI D m (X j)) != ci (Y j)) = true) : wrK D X Y m (j + 1) = wrK D X Y m j + 1 := by
 unfold wrK; rw [List.range_succ,List.filter_append,List.length_append]; simp [h]
theorem wrK_no {D : Desc} {X Y : Nat → R D} {m : List Int} {j : Nat} (h : (ci (pevI D m (X j)) != ci (Y j)) = false) : wrK D X Y m (j + 1) = wrK D X Y m j := by
 unfold wrK; rw [List.range_succ,List.filter_append,List.length_append]; simp [h]
theorem wrK_le (D : Desc) (X Y : Nat → R D) (m : List Int) (j : Nat) : wrK D X Y m j ≤ j := by
 unfold wrK; have := List.length_filter_le (fun i => ci (pevI D m (X i)) != ci (Y i)) (List.range j); rwa [List.length_range] at this

set_option maxRecDepth 100000 in
set_option maxHeartbeats 8000000 in
theorem gGao_any (F : FD) (n k : Nat) (xs ys : List Int) (hn1 : xs.length = n) (hn2 : ys.length = n) (hn : n ≤ 64) (hk : k ≤ n) (hd : ∀ i j,i < n → j < n → eli F.toDesc (xs[i]?.getD 0) = eli F.toDesc (xs[j]?.getD 0) → i = j) (A1 A2 : Option Addr) (c1 c2 g : Nat) (w : World) (hg : GF w w.heap.size g F) (hr1 : Rd w w.heap.size A1 xs) (hr2 : Rd w w.heap.size A2 ys) :
  Calls Tryz.prog 230 #[.pointer (some ⟨g,0,none⟩),.slice A1 n c1,.slice A2 n c2,.int .i64 (k : Int)] w (GaoPost F n k (fun i => eli F.toDesc (xs[i]?.getD 0)) (fun i => eli F.toDesc (ys[i]?.getD 0)) w) := by
 have hI := gIntp_any F xs ys n A1 A2 c1 c2 g w hg hr1 hr2 hn1 hn2 hn (fun i j hi hj e => by have := hd i j hi (by omega) e; omega);have hFr := fun W a b => gFromRoots_any F xs A1 c1 g W a b (by omega)
 rw [hn1] at hFr;have hfl := frK_length F xs n;have hst := fun l (h : LI F.toDesc (fun i => eli F.toDesc (xs[i]?.getD 0)) (fun i => eli F.toDesc (ys[i]?.getD 0)) n l) => EI.start (k := k) hn1 hk h
 obtain ⟨X,hX⟩ : ∃ X : Nat → R F.toDesc,X = fun i => eli F.toDesc (xs[i]?.getD 0) := ⟨_,rfl⟩
 obtain ⟨Y,hY⟩ : ∃ Y : Nat → R F.toDesc,Y = fun i => eli F.toDesc (ys[i]?.getD 0) := ⟨_,rfl⟩
 have hxX : Hid (∀ i,eli F.toDesc (xs[i]?.getD 0) = X i) := fun i => by rw [hX]
 have hyY : Hid (∀ i,eli F.toDesc (ys[i]?.getD 0) + eli F.toDesc 0 = Y i) := fun i => by rw [hY,eli_zero,add_zero]
 have hinj : Hid (∀ i j,i < n → j < n → X i = X j → i = j) := by rw [hX]; exact hd
 rw [← hX,← hY] at hI hst;rw [← hX,← hY];have hEu := fun l (h : LI F.toDesc X Y n l) A3 A4 c3 c4 W a b d => gEuclid_any F n k X Y (frK F xs n) l (hst l h) (by rw [hfl]; omega) (by have := h.1; omega) hn (by omega) A3 A4 c3 c4 g W a b d
 unfold EuPost at hEu;have hw1 : IntKind.i64.wrap ((n : Int) + (k : Int)) = (n : Int) + (k : Int) := IntWalk.i64_in _ (by omega);have hw2 : IntKind.i64.wrap ((n : Int) - (k : Int)) = (n : Int) - (k : Int) := IntWalk.i64_in _ (by omega);have hk0 : (0 : Int) ≤ (k : Int) := by omega
 have hk1 : (k : Int) ≤ (n : Int) := by omega
 replace hX := Lib.hid hX;replace hY := Lib.hid hY;replace hn1 := Lib.hid hn1;replace hn2 := Lib.hid hn2;replace hfl := Lib.hid hfl;replace hI := Lib.hid hI;replace hFr := fun W a b => Lib.hid (hFr W a b)
 replace hEu := fun l h A3 A4 c3 c4 W a b d => Lib.hid (hEu l h A3 A4 c3 c4 W a b d)
 clear hst hd;unfold GaoPost;go_enter Tryz.func230,Tryz.ntmps230;go_wp2_with (fail);(with_reducible refine hI.out.mono ?_);rintro e w1 ⟨l,Al,cl,rfl,hrl,hLI,-,hb1⟩;have hg1 := (hg.below hb1).more hb1.size;have hr11 := (hr1.below hb1).more hb1.size;have hF1 := hFr w1 hg1 hr11;replace hLI := Lib.hid hLI;clear hI hFr;go_wp2_with (fail);(with_reducible refine hF1.out.mono ?_);rintro e w2 ⟨A2',c2',rfl,hrf,hb2⟩;have hB2 := hb1.trans (hb2.mono hb1.size);have hg2 := (hg1.below hb2).more hb2.size;have hE2 := hEu l hLI.out A2' Al c2' cl w2 hg2 hrf ((hrl.below hb2).more hb2.size);clear hF1 hEu;go_wp2_with (fail);(with_reducible refine hE2.out.mono ?_);rintro e w3 ⟨a,b,old,t,Ab,cb,At,ct,rfl,hE,hfin,hrb,hrt,hbl,htl,hb3⟩;have hB3 := hB2.trans (hb3.mono hB2.size);have hg3 := (hg2.below hb3).more hb3.size;obtain ⟨dt,hdt⟩ : ∃ dt,t.length = dt + 1 := ⟨t.length - 1,by have := hE.lot; omega⟩;have hD := gDivMod_any F b t dt (by rw [hE.ct]; exact hdt) Ab At cb ct g w3 hg3 hrb hrt (by omega) (by omega);unfold DivPost at hD;replace hD := Lib.hid hD;replace hE := Lib.hid hE;replace hfin := Lib.hid hfin;replace hdt := Lib.hid hdt;clear hE2;go_wp2_with (fail);(with_reducible refine hD.out.mono ?_);rintro e w4 ⟨m,r,Am,cm,Ar,cr,rfl,hom,hrr,hdv,hb4⟩;have hB4 := hB3.trans (hb4.mono hB3.size);have hfind : Hid (∀ P : List Int,P.length ≤ k → 2 * wr F.toDesc n X Y P + k ≤ n → r = [] ∧ m.length ≤ k ∧ ∀ x,pevI F.toDesc m x = pevI F.toDesc P x) := fun P h1 h2 => hE.out.find hinj.out hfin.out (by have h := hdv.can; rw [hE.out.ct] at h; exact h) h1 h2
 have hml : m.length ≤ 1000 := by
  have h := hdv.can;rw [hE.out.ct] at h;have h3 := canI_le F.toDesc b;by_cases h5 : t.length ≤ (canI F.toDesc b).length
  ·have h4 := h.deg hE.out.cb hE.out.ct (by have := hdt.out; omega) h5;have := hdt.out;omega
  ·have h6 := can_short h.cq (n := 0) fun s _ => ?_
   ·omega
   ·exact Classical.byContradiction fun h7 => by
     obtain ⟨c,hc⟩ : ∃ c,m.length = c + 1 := ⟨m.length - 1,by have := Classical.byContradiction (p := 1 ≤ m.length) fun h8 => h7 (cfR_out F.toDesc (by omega)); omega⟩;have hlt := h.lt;rw [hE.out.ct] at hlt;have h9 := h.eq (c + dt);have htd := hdt.out;rw [cfR_out F.toDesc (by omega),conv_lead (hc ▸ cfR_lt F.toDesc m) (htd ▸ cfR_lt F.toDesc t),cfR_out F.toDesc (p := r) (by omega),add_zero] at h9;exact mul_ne_zero (can_lead h.cq hc) (can_lead hE.out.ct htd) h9.symm
 have hcm : Hid (canI F.toDesc m = m) := hdv.cq;have hg4 := (hg3.below hb4).more hb4.size;have hrm : Rd w4 w4.heap.size Am m := by obtain ⟨A',c',e',-,h',-⟩ := hom.form; cases e'; exact h'
 have hno : Hid (0 < r.length ∨ k < m.length → GaoNo F.toDesc n k X Y) := fun h P hP => Classical.byContradiction fun h2 => by
  obtain ⟨e1,e2,-⟩ := hfind.out P hP (by omega);rw [e1] at h;simp at h;omega
 clear hD hdv;by_cases hc1 : 0 < r.length
 ·have hc1' : decide ((0 : Int) < (r.length : Int)) = true := decide_eq_true (by omega);have hN := Lib.hid (hno.out (.inl hc1));go_wp2_with (fail);go_ret2;exact ⟨hB4,.inr ⟨rfl,hN.out⟩⟩
 have hc1' : decide ((0 : Int) < (r.length : Int)) = false := decide_eq_false (by omega);have hr0 : (r.length : Int) = 0 := by omega
 by_cases hc2 : k < m.length
 ·have hc2' : decide ((k : Int) < (m.length : Int)) = true := decide_eq_true (by omega);have hN := Lib.hid (hno.out (.inr hc2));clear hr0;go_wp2_with (fail);go_ret2;exact ⟨hB4,.inr ⟨rfl,hN.out⟩⟩
 have hc2' : decide ((k : Int) < (m.length : Int)) = false := decide_eq_false (by omega);have hmk : m.length ≤ k := by omega
 have hfin2 : Hid (∀ P : List Int,P.length ≤ k → 2 * wr F.toDesc n X Y P + k ≤ n → 2 * wr F.toDesc n X Y m + k ≤ n) := fun P h1 h2 => by
  rw [wr_congr (hfind.out P h1 h2).2.2]; exact h2
 clear hr0 hfind hno;replace hmk := Lib.hid hmk;have hr14 := (hr1.below hB4).more hB4.size;have hr24 := (hr2.below hB4).more hB4.size;have hwr : Hid (wrK F.toDesc X Y m n = wr F.toDesc n X Y m) := rfl;go_wp2_with (fail);go_loopw [74,17] (fun i v wr => ∃ j : Nat,j ≤ n ∧ i = .int .i64 j ∧ v = .int .i64 (wrK F.toDesc X Y m j : Nat) ∧ Below w4.heap.size w4 wr) (fun i _ _ => n - (intOf i).toNat)
 case atStart => exact ⟨0,by omega,rfl,rfl,Below.refl _ _⟩
 case round =>
  obtain ⟨w5,rfl⟩ : ∃ w5 : World,w5 = wr := ⟨_,rfl⟩;obtain ⟨j,hj,rfl,rfl,hbw⟩ := hrel;by_cases hlt : j < n
  ·have hj0 : (0 : Int) ≤ (j : Int) := by omega
   have hj1 : (j : Int) < (n : Int) := by omega
   obtain ⟨b1,o1,rfl,hb1',hc1⟩ := hr14.at_ (by rw [hn1.out]; exact hlt : j < xs.length);obtain ⟨b2,o2,rfl,hb2',hc2⟩ := hr24.at_ (by rw [hn2.out]; exact hlt : j < ys.length);have hd1 := (hbw.cell (p := ⟨b1,o1 + j,none⟩) hb1').trans hc1;have hd2 := (hbw.cell (p := ⟨b2,o2 + j,none⟩) hb2').trans hc2;have hg5 := (hg4.below hbw).more hbw.size;have hEv := pEval_any F m (xs[j]?.getD 0) Am cm g w5.drew hg5.drew ((hrm.below hbw).more hbw.size).drew (by unfold maxLen; omega);have hAd := fun W h => gAdd_any F (ys[j]?.getD 0) 0 g W h
   rw [hxX.out j] at hEv;rw [hyY.out j] at hAd;obtain ⟨x,hx⟩ : ∃ x,x = xs[j]?.getD 0 := ⟨_,rfl⟩;obtain ⟨y,hy⟩ : ∃ y,y = ys[j]?.getD 0 := ⟨_,rfl⟩;rw [← hx] at hd1 hEv;rw [← hy] at hd2 hAd;have hstep : Hid (((ci (pevI F.toDesc m (X j)) != ci (Y j)) = true → wrK F.toDesc X Y m (j + 1) = wrK F.toDesc X Y m j + 1) ∧ ((ci (pevI F.toDesc m (X j)) != ci (Y j)) = false → wrK F.toDesc X Y m (j + 1) = wrK F.toDesc X Y m j)) := ⟨wrK_yes,wrK_no⟩;have hle := wrK_le F.toDesc X Y m j;have hwk : IntKind.i64.wrap ((wrK F.toDesc X Y m j : Nat) + 1 : Int) = ((wrK F.toDesc X Y m j : Nat) : Int) + 1 := IntWalk.i64_in _ (by omega);obtain ⟨u1,hu1⟩ : ∃ u1,u1 = ci (pevI F.toDesc m (X j)) := ⟨_,rfl⟩;obtain ⟨u2,hu2⟩ : ∃ u2,u2 = ci (Y j) := ⟨_,rfl⟩;rw [← hu1] at hEv hstep;rw [← hu2] at hAd hstep;obtain ⟨z,hz⟩ : ∃ z,z = wrK F.toDesc X Y m j := ⟨_,rfl⟩;rw [← hz] at hstep hwk;rw [← hz];have hcc := Lib.hid hd2;have hb25 : b2 < w5.heap.size := Nat.lt_of_lt_of_le hb2' hbw.size;replace hEv := Lib.hid hEv;replace hAd := fun W h => Lib.hid (hAd W h)
   replace hx := Lib.hid hx;replace hy := Lib.hid hy;replace hz := Lib.hid hz;replace hu1 := Lib.hid hu1;replace hu2 := Lib.hid hu2;have hbuB := hbw;clear hc1 hc2 hle hlt;have hcase : Hid ((u1 != u2) = true ∨ (u1 != u2) = false) := by unfold Hid; cases (u1 != u2) <;> simp
   rcases hcase.out with hq | hq
   ·have hz1 := Lib.hid (hstep.out.1 hq);go_wp2_with (fail);clear hd1 hd2;refine wp_region_held_drew (S := fun w' => w'.cell? ⟨b2,o2 + j,none⟩ = some (.int .i64 y)) (by kernel_rfl) (by (try dsimp only); exact hcc.out) (fun hHeld => ?_);refine tk 0 ?_; try simp only [pS]
    refine tk 1 ?_; try simp only [pS]
    refine tk 2 ?_; try simp only [pS]
    refine tk 4 ?_; try simp only [pS]
    refine tk 5 ?_; try simp only [pS]
    refine tk 6 ?_; try simp only [pS]
    refine tk 7 ?_; try simp only [pS]
    refine tk 8 ?_; try simp only [pS]
    refine rd 3 fun K hK => ?_
    go_simp;go_at_call 170;(with_reducible refine (hEv).out.mono ?_);rintro e w6 ⟨rfl,hb6⟩;have hcc6 := Lib.hid ((hb6.cell (p := ⟨b2,o2 + j,none⟩) hb25).trans hcc.out);have hs6 : w5.heap.size ≤ w6.heap.size := hb6.size;have hb56 : Below w5.heap.size w5 w6 := (Below.refl _ w5).drew.trans hb6;have hA6 := hAd w6 ((hg5.below hb56).more hb56.size);go_wp2_with (fail);refine hK.out _ _ (by (try dsimp only); exact hcc6.out) (fun hHeld => ?_);clear hK K;try simp only [pS]
    refine rd 9 fun K hK => ?_
    go_simp;go_at_call 141;(with_reducible refine (hA6).out.mono ?_);rintro e w7 ⟨rfl,hb7⟩;go_wp2_with (fail);refine hK.out _ _ (by (try dsimp only); exact (hb7.cell (p := ⟨b2,o2 + j,none⟩) (Nat.lt_of_lt_of_le hb25 hs6)).trans hcc6.out) (fun hHeld => ?_);clear hK K;try simp only [pS]
    refine tk 10 ?_; try simp only [pS]
    refine wpAnyH_done (by kernel_rfl) ?_ _;have hb57 := hb56.trans (hb7.mono hs6);go_wp2_with (fail);go_roundw
    case rel => exact ⟨j + 1,by omega,by go_num,by rw [hz1.out]; rfl,hbw.trans (hb57.mono hbw.size)⟩
    case measure => simp [intOf]; omega
   ·have hz1 := Lib.hid (hstep.out.2 hq);go_wp2_with (fail);clear hd1 hd2;refine wp_region_held_drew (S := fun w' => w'.cell? ⟨b2,o2 + j,none⟩ = some (.int .i64 y)) (by kernel_rfl) (by (try dsimp only); exact hcc.out) (fun hHeld => ?_);refine tk 0 ?_; try simp only [pS]
    refine tk 1 ?_; try simp only [pS]
    refine tk 2 ?_; try simp only [pS]
    refine tk 4 ?_; try simp only [pS]
    refine tk 5 ?_; try simp only [pS]
    refine tk 6 ?_; try simp only [pS]
    refine tk 7 ?_; try simp only [pS]
    refine tk 8 ?_; try simp only [pS]
    refine rd 3 fun K hK => ?_
    go_simp;go_at_call 170;(with_reducible refine (hEv).out.mono ?_);rintro e w6 ⟨rfl,hb6⟩;have hcc6 := Lib.hid ((hb6.cell (p := ⟨b2,o2 + j,none⟩) hb25).trans hcc.out);have hs6 : w5.heap.size ≤ w6.heap.size := hb6.size;have hb56 : Below w5.heap.size w5 w6 := (Below.refl _ w5).drew.trans hb6;have hA6 := hAd w6 ((hg5.below hb56).more hb56.size);go_wp2_with (fail);refine hK.out _ _ (by (try dsimp only); exact hcc6.out) (fun hHeld => ?_);clear hK K;try simp only [pS]
    refine rd 9 fun K hK => ?_
    go_simp;go_at_call 141;(with_reducible refine (hA6).out.mono ?_);rintro e w7 ⟨rfl,hb7⟩;go_wp2_with (fail);refine hK.out _ _ (by (try dsimp only); exact (hb7.cell (p := ⟨b2,o2 + j,none⟩) (Nat.lt_of_lt_of_le hb25 hs6)).trans hcc6.out) (fun hHeld => ?_);clear hK K;try simp only [pS]
    refine tk 10 ?_; try simp only [pS]
    refine wpAnyH_done (by kernel_rfl) ?_ _;have hb57 := hb56.trans (hb7.mono hs6);go_wp2_with (fail);go_roundw
    case rel => exact ⟨j + 1,by omega,by go_num,by rw [hz1.out,hz.out],hbw.trans (hb57.mono hbw.size)⟩
    case measure => simp [intOf]; omega
  ·obtain rfl : n = j := by omega
   rw [hwr.out];obtain ⟨z,hz⟩ : ∃ z,z = wr F.toDesc n X Y m := ⟨_,rfl⟩;rw [← hz];have hzle : z ≤ n := by rw [hz]; exact wrK_le F.toDesc X Y m n
   have hq1 : IntKind.i64.wrap (((n : Int) - (k : Int)).tdiv 2) = (((n - k) / 2 : Nat) : Int) := by
    rw [Int.tdiv_eq_ediv_of_nonneg (by omega),IntWalk.i64_in _ (by omega)]; omega
   have hq2 : ((n : Int) - (k : Int)).tdiv 2 = (((n - k) / 2 : Nat) : Int) := by
    rw [Int.tdiv_eq_ediv_of_nonneg (by omega)]; omega
   have hown : Own w5 w.heap.size (.slice Am m.length cm) m := (hom.base (hB3.size)).below hbw (Nat.le_refl _);have hB5 := hB4.trans (hbw.mono hB4.size);by_cases hzc : 2 * z + k ≤ n
   ·have hzc1 : ¬ (((n - k) / 2 : Nat) : Int) < (z : Int) := by omega
    have hok : GaoOK F.toDesc n k X Y m := ⟨hcm.out,hmk.out,by rw [← hz]; exact hzc⟩;replace hz := Lib.hid hz;replace hok := Lib.hid hok;clear hzc hzle;go_wp2_with (fail);go_ret2;exact ⟨hB5,.inl ⟨m,Am,cm,rfl,hok.out,hown⟩⟩
   ·have hzc1 : (((n - k) / 2 : Nat) : Int) < (z : Int) := by omega
    have hno : GaoNo F.toDesc n k X Y := fun P hP => Classical.byContradiction fun h2 => hzc (by rw [hz]; exact hfin2.out P hP (by omega))
    replace hz := Lib.hid hz;replace hno := Lib.hid hno;clear hzc hzle;go_wp2_with (fail);go_ret2;exact ⟨hB5,.inr ⟨rfl,hno.out⟩⟩
end
end Go.Proofs.YtjdoneanohhkmaaGreat

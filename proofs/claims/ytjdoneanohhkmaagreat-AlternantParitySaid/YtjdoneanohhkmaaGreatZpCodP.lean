/- The reference's codes: Check, List, Word, Has of a canonical code. The program's canonical rows: canon, open, Canonical. The error of a code, as a number: what both Check functions answer. No Go here. -/
import Derived.Deep.RegionHeld3
import Derived.Test.YtjdoneanohhkmaaGreatZpLA
import Derived.Test.YtjdoneanohhkmaaGreatZpMat
import Derived.Test.YtjdoneanohhkmaaGreatZpMP
import Derived.Test.YtjdoneanohhkmaaGreatZpHasB
import Derived.Test.YtjdoneanohhkmaaGreatZpMatV
import Derived.Test.YtjdoneanohhkmaaGreatZpNewL
import Derived.Test.YtjdoneanohhkmaaGreatZpTk
namespace Go.Proofs.YtjdoneanohhkmaaGreat
section
open Go.RowKit Cw
attribute [local go_sem] Oper.semAt_some

def Canl (F : FD) (n m : Nat) (M : Nat → Nat → R F.toDesc) : Prop := rkS F n m M = n ∧ ∀ i,i < n → rowsL F.toDesc m (elS n M m).1 i = rowsL F.toDesc m M i
theorem elB_rowL (D : Desc) (m : Nat) (f : Nat → R D) : elB D (rowL D m f) = true := elB_iff.2 fun j hj => by
 rw [rowL_length] at hj;rw [rowL_get D f hj];exact ⟨ci_nonneg _,ci_lt _⟩

set_option maxHeartbeats 2000000 in
theorem Check9_ok (F : FD) (hgood : Good F.p F.m (modL F.toDesc)) (n m : Nat) (M : Nat → Nat → R F.toDesc) (A Ar : Option Addr) (c cr : Nat) (w : World) (hr : Rd w w.heap.size A (modL F.toDesc)) (hrm : RdM w w.heap.size Ar n (rowsL F.toDesc m M)) (hn : n ≤ 256) (hm : m ≤ 256) :
  Calls Tryz.prog 175 #[.agg #[.int .i64 F.p,.int .i64 F.m,.slice A F.mod.length c],.agg #[.int .i64 m,.slice Ar n cr]] w fun e w' => e = .returned (.int .i64 0) ∧ Below w.heap.size w w' := by
 have hp1 := F.p256; have hp2 := F.m8;have hml : (modL F.toDesc).length ≤ maxLen := by have := F.hlen; have := F.m8; rw [modL_length,F.hlen]; unfold maxLen; split <;> omega
 have hC := fun W a => Check_any F.p F.m (modL F.toDesc) A c W (by omega) (by omega) hml a
 rw [chk_yes hgood,modL_length] at hC;replace hC := fun W a => Lib.hid (hC W a)
 have hE := fun i A1 c1 W a => Entries9_any F.toDesc (rowsL F.toDesc m M i) A A1 c c1 W a (by rw [rowsL,rowL_length]; omega)
 have hel : ∀ i,elB F.toDesc (rowsL F.toDesc m M i) = true := fun i => elB_rowL _ _ _
 obtain ⟨Z,hZ⟩ : ∃ Z,Z = (w.alloc (.cells #[.int .i64 F.p,.int .i64 F.m,.slice A F.mod.length c] 24)).alloc (.cells #[.int .i64 m,.slice Ar n cr] 48) := ⟨_,rfl⟩;have hB : Below w.heap.size w Z := by rw [hZ]; exact ((Below.refl _ _).alloc (Nat.le_refl _) _).alloc (by simp) _
 have hZs : w.heap.size + 1 < Z.heap.size := by rw [hZ]; simp
 have kz := Lib.hid (show (Z.cell? ⟨w.heap.size,0,none⟩ = some (.int .i64 F.p) ∧ Z.cell? ⟨w.heap.size,1,none⟩ = some (.int .i64 F.m) ∧ Z.cell? ⟨w.heap.size,2,none⟩ = some (.slice A F.mod.length c)) ∧ Z.cell? ⟨w.heap.size + 1,0,none⟩ = some (.int .i64 m) ∧ Z.cell? ⟨w.heap.size + 1,1,none⟩ = some (.slice Ar n cr) from by rw [hZ]; simp [go_sem]);replace hZ := Lib.hid hZ;have kp : ∀ {B : Nat} {W W' : World},Below B W W' → w.heap.size + 1 < B → Hid ((W.cell? ⟨w.heap.size,0,none⟩ = some (.int .i64 F.p) ∧ W.cell? ⟨w.heap.size,1,none⟩ = some (.int .i64 F.m) ∧ W.cell? ⟨w.heap.size,2,none⟩ = some (.slice A F.mod.length c)) ∧ W.cell? ⟨w.heap.size + 1,0,none⟩ = some (.int .i64 m) ∧ W.cell? ⟨w.heap.size + 1,1,none⟩ = some (.slice Ar n cr)) →
   Hid ((W'.cell? ⟨w.heap.size,0,none⟩ = some (.int .i64 F.p) ∧ W'.cell? ⟨w.heap.size,1,none⟩ = some (.int .i64 F.m) ∧ W'.cell? ⟨w.heap.size,2,none⟩ = some (.slice A F.mod.length c)) ∧ W'.cell? ⟨w.heap.size + 1,0,none⟩ = some (.int .i64 m) ∧ W'.cell? ⟨w.heap.size + 1,1,none⟩ = some (.slice Ar n cr)) := fun {B W W'} hb hlt h =>
  ⟨keep3 hb (by omega) h.out.1,(hb.cell (p := ⟨w.heap.size + 1,0,none⟩) hlt).trans h.out.2.1,(hb.cell (p := ⟨w.heap.size + 1,1,none⟩) hlt).trans h.out.2.2⟩
 replace kp := fun {B : Nat} {W W' : World} a b d => Lib.hid (@kp B W W' a b d)
 have hC1 := hC Z ((hr.below hB).more hB.size);go_enter Tryz.func175,Tryz.ntmps175;obtain ⟨⟨q0,q1,q2⟩,q3,q4⟩ := kz.out;go_wp2_with (fail);rw [← hZ.out];(with_reducible refine hC1.out.mono ?_);rintro e w1 ⟨rfl,hb1⟩;have k1 := (kp hb1 hZs kz).out;have hB1 := hB.trans (hb1.mono hB.size);have hs1 : w.heap.size + 1 < w1.heap.size := Nat.lt_of_lt_of_le hZs hb1.size;clear q0 q1 q2 q3 q4;obtain ⟨⟨q0,q1,q2⟩,q3,q4⟩ := k1.out;have hm0 : ¬ (m : Int) < 0 := by omega
 have hm1 : ¬ (256 : Int) < (m : Int) := by omega
 have hn1 : ¬ (256 : Int) < (n : Int) := by omega
 go_wp2_with (fail);clear q0 q1 q2 q3 q4;go_loopw [6] (fun i wr => ∃ k : Nat,k ≤ n ∧ i = .int .i64 k ∧ Below w1.heap.size w1 wr) (fun i _ => n - (intOf i).toNat)
 case atStart => exact ⟨0,by omega,rfl,Below.refl _ _⟩
 case round =>
  obtain ⟨k,hk,rfl,hbw⟩ := hrel;obtain ⟨w3,rfl⟩ : ∃ w3 : World,w3 = wr := ⟨_,rfl⟩;have hB3 := hB1.trans (hbw.mono hB1.size);have k3 := (kp hbw hs1 k1).out;obtain ⟨⟨q0,q1,q2⟩,q3,q4⟩ := k3.out;by_cases hlt : k < n
  ·have hk0 : (0 : Int) ≤ (k : Int) := by omega
   have hk1 : (k : Int) < (n : Int) := by omega
   obtain ⟨b,o,Ak,ck,rfl,hb,hc,-,-,-⟩ := hrm.at_ hlt;have hd := (hB3.cell (p := ⟨b,o + k,none⟩) hb).trans hc;rw [show (rowsL F.toDesc m M k).length = m from rowL_length _ _ _] at hd;have hmb : ((m : Int) != (m : Int)) = false := by simp
   clear hc;go_wp2_with (fail);go_quiet (fail);go_wp2_with (fail);go_roundw
   case rel => exact ⟨k + 1,by omega,by go_num,⟨hbw.os,hbw.tape,hbw.output,hbw.size,hbw.block⟩⟩
   case measure => simp [intOf]; omega
  ·obtain rfl : k = n := by omega
   go_wp2_with (fail);clear q0 q1 q2 q3 q4;go_loopw [7,5] (fun i e wr => ∃ j : Nat,j ≤ k ∧ i = .int .i64 j ∧ (∃ x,e = .int .i64 x) ∧ Below w3.heap.size w3 wr) (fun i _ _ => k - (intOf i).toNat)
   case atStart => exact ⟨0,by omega,rfl,⟨_,rfl⟩,Below.refl _ _⟩
   case round =>
    obtain ⟨j,hj,rfl,⟨x5,rfl⟩,hbx⟩ := hrel;obtain ⟨w5,rfl⟩ : ∃ w5 : World,w5 = wr := ⟨_,rfl⟩;have hB5 := hB3.trans (hbx.mono hB3.size);have k5 := (kp hbx (Nat.lt_of_lt_of_le hs1 hbw.size) k3).out;by_cases hjn : j < k
    ·have hj0 : (0 : Int) ≤ (j : Int) := by omega
     have hj1 : (j : Int) < (k : Int) := by omega
     obtain ⟨b,o,Ak,ck,rfl,hb,hc,hrk,-,-⟩ := hrm.at_ hjn;have hd := (hB5.cell (p := ⟨b,o + j,none⟩) hb).trans hc;have hE5 := hE j Ak ck w5.drew ((hrk.below hB5).more hB5.size).drew;rw [show elE F.toDesc (rowsL F.toDesc m M j) = 0 from if_neg (by rw [hel j]; simp)] at hE5;rw [show (rowsL F.toDesc m M j).length = m from rowL_length _ _ _] at hd hE5;replace hE5 := Lib.hid hE5;have hcc := Lib.hid (show _ ∧ _ from ⟨k5.out,hd⟩);have hb5 : b < w5.heap.size := Nat.lt_of_lt_of_le hb hB5.size;have hs5 : w.heap.size + 1 < w5.heap.size := Nat.lt_of_lt_of_le (Nat.lt_of_lt_of_le hs1 hbw.size) hbx.size;obtain ⟨⟨q0,q1,q2⟩,q3,q4⟩ := k5.out;clear hc hd hrk;go_wp2_with (fail);clear q0 q1 q2 q3 q4;refine wp_region_held_drew (S := fun w' => ((w'.cell? ⟨w.heap.size,0,none⟩ = some (.int .i64 F.p) ∧ w'.cell? ⟨w.heap.size,1,none⟩ = some (.int .i64 F.m) ∧ w'.cell? ⟨w.heap.size,2,none⟩ = some (.slice A F.mod.length c)) ∧ w'.cell? ⟨w.heap.size + 1,0,none⟩ = some (.int .i64 m) ∧ w'.cell? ⟨w.heap.size + 1,1,none⟩ = some (.slice (some ⟨b,o,none⟩) k cr)) ∧ w'.cell? ⟨b,o + j,none⟩ = some (.slice Ak m ck)) (by kernel_rfl) (by (try dsimp only); exact hcc.out) (fun hHeld => ?_);refine tk 0 ?_; try simp only [pS]
     refine tk 1 ?_; try simp only [pS]
     refine tk 2 ?_; try simp only [pS]
     refine tk 3 ?_; try simp only [pS]
     refine tk 4 ?_; try simp only [pS]
     refine tk 5 ?_; try simp only [pS]
     refine rd 6 fun K hK => ?_
     go_simp;go_at_call 207;(with_reducible refine (hE5).out.mono ?_);rintro e w6 ⟨rfl,hb6⟩;go_wp2_with (fail);refine hK.out _ _ (by (try dsimp only); exact ⟨(kp hb6 hs5 (Lib.hid hcc.out.1)).out.out,(hb6.cell (p := ⟨b,o + j,none⟩) hb5).trans hcc.out.2⟩) (fun hHeld => ?_);clear hK K;try simp only [pS]
     refine tk 7 ?_; try simp only [pS]
     refine wpAnyH_done (by kernel_rfl) ?_ _;go_wp2_with (fail);go_roundw
     case rel => exact ⟨j + 1,by omega,by go_num,⟨_,rfl⟩,hbx.drew.trans (hb6.mono hbx.size)⟩
     case measure => simp [intOf]; omega
    ·obtain rfl : j = k := by omega
     obtain ⟨⟨q0,q1,q2⟩,q3,q4⟩ := k5.out;go_wp2_with (fail);go_ret;exact ⟨rfl,hB5⟩

set_option maxHeartbeats 2000000 in
theorem Check10_ok (F : FD) (hgood : Good F.p F.m (modL F.toDesc)) (n m : Nat) (M : Nat → Nat → R F.toDesc) (hcan : Canl F n m M) (A Ar : Option Addr) (c cr : Nat) (w : World) (hr : Rd w w.heap.size A (modL F.toDesc)) (hrm : RdM w w.heap.size Ar n (rowsL F.toDesc m M)) (hn : n ≤ 256) (hm : m ≤ 256) :
  Calls Tryz.prog 100 #[.agg #[.int .i64 F.p,.int .i64 F.m,.slice A F.mod.length c],.agg #[.int .i64 m,.slice Ar n cr]] w fun e w' => e = .returned (.int .i64 0) ∧ Below w.heap.size w w' := by
 have h9 := fun W a b => Lib.hid (Check9_ok F hgood n m M A Ar c cr W a b hn hm)
 have hCa := fun W a b => Canon9_any F n m m M A Ar c cr W a b (by omega) (by omega) (Nat.le_refl _)
 unfold CanonPost at hCa;rw [hcan.1] at hCa;replace hCa := fun W a b => Lib.hid (hCa W a b)
 have hS := fun A1 c1 W a b => Lib.hid (SameRows_eq n (rowsL F.toDesc m M) A1 Ar c1 cr W a b (by omega) (fun i _ => by rw [rowsL,rowL_length]; omega))
 obtain ⟨Z,hZ⟩ : ∃ Z,Z = (w.alloc (.cells #[.int .i64 F.p,.int .i64 F.m,.slice A F.mod.length c] 24)).alloc (.cells #[.int .i64 m,.slice Ar n cr] 48) := ⟨_,rfl⟩;have hB : Below w.heap.size w Z := by rw [hZ]; exact ((Below.refl _ _).alloc (Nat.le_refl _) _).alloc (by simp) _
 have hZs : w.heap.size + 1 < Z.heap.size := by rw [hZ]; simp
 have kz := show (Z.cell? ⟨w.heap.size,0,none⟩ = some (.int .i64 F.p) ∧ Z.cell? ⟨w.heap.size,1,none⟩ = some (.int .i64 F.m) ∧ Z.cell? ⟨w.heap.size,2,none⟩ = some (.slice A F.mod.length c)) ∧ Z.cell? ⟨w.heap.size + 1,0,none⟩ = some (.int .i64 m) ∧ Z.cell? ⟨w.heap.size + 1,1,none⟩ = some (.slice Ar n cr) from by rw [hZ]; simp [go_sem]
 have h9Z := h9 Z ((hr.below hB).more hB.size) ((hrm.below hB).more hB.size);have hkeep : ∀ {B : Nat} {W W' : World},Below B W W' → w.heap.size + 1 < B → ((W.cell? ⟨w.heap.size,0,none⟩ = some (.int .i64 F.p) ∧ W.cell? ⟨w.heap.size,1,none⟩ = some (.int .i64 F.m) ∧ W.cell? ⟨w.heap.size,2,none⟩ = some (.slice A F.mod.length c)) ∧ W.cell? ⟨w.heap.size + 1,0,none⟩ = some (.int .i64 m) ∧ W.cell? ⟨w.heap.size + 1,1,none⟩ = some (.slice Ar n cr)) →
   ((W'.cell? ⟨w.heap.size,0,none⟩ = some (.int .i64 F.p) ∧ W'.cell? ⟨w.heap.size,1,none⟩ = some (.int .i64 F.m) ∧ W'.cell? ⟨w.heap.size,2,none⟩ = some (.slice A F.mod.length c)) ∧ W'.cell? ⟨w.heap.size + 1,0,none⟩ = some (.int .i64 m) ∧ W'.cell? ⟨w.heap.size + 1,1,none⟩ = some (.slice Ar n cr)) := fun {B W W'} hb hlt h =>
  ⟨keep3 hb (by omega) h.1,(hb.cell (p := ⟨w.heap.size + 1,0,none⟩) hlt).trans h.2.1,(hb.cell (p := ⟨w.heap.size + 1,1,none⟩) hlt).trans h.2.2⟩
 have kzH := Lib.hid kz;replace hkeep := fun {B : Nat} {W W' : World} a b d => Lib.hid (@hkeep B W W' a b d)
 rw [hZ] at kz;replace hZ := Lib.hid hZ;have hcan2 := Lib.hid hcan.2;clear hcan h9;go_enter Tryz.func100,Tryz.ntmps100;obtain ⟨⟨q0,q1,q2⟩,q3,q4⟩ := kz;go_wp2_with (fail);rw [← hZ.out];(with_reducible refine h9Z.out.mono ?_);rintro e w1 ⟨rfl,hb1⟩;have hB1 := hB.trans (hb1.mono hB.size);have k1 := (hkeep hb1 hZs kzH.out).out;have k1H := Lib.hid k1;have hs1 : w.heap.size + 1 < w1.heap.size := Nat.lt_of_lt_of_le hZs hb1.size;clear q0 q1 q2 q3 q4;obtain ⟨⟨q0,q1,q2⟩,q3,q4⟩ := k1;go_wp2_with (fail);(with_reducible refine (hCa w1 ((hr.below hB1).more hB1.size) ((hrm.below hB1).more hB1.size)).out.mono ?_);rintro e w2 ⟨Al,cl,Ap,cp,rfl,hb2,hru,-,-,-,-⟩;have hB2 := hB1.trans (hb2.mono hB1.size);have k2 := (hkeep hb2 hs1 k1H.out).out;have hS2 := hS Al cl w2 (hru.rdm.congr hcan2.out) ((hrm.below hB2).more hB2.size);clear q0 q1 q2 q3 q4;obtain ⟨⟨q0,q1,q2⟩,q3,q4⟩ := k2;go_wp2_with (fail);(with_reducible refine hS2.out.mono ?_);rintro e w3 ⟨rfl,hb3⟩;go_wp2_with (fail);go_ret;exact ⟨rfl,hB2.trans (hb3.mono hB2.size)⟩
theorem canl_elS (F : FD) (n0 m : Nat) (M0 : Nat → Nat → R F.toDesc) : Canl F (rkS F n0 m M0) m (elS n0 M0 m).1 := by
 obtain ⟨h1,h2⟩ := elS_uniq (elS_span n0 m M0);refine ⟨h1,fun i hi => ?_⟩;unfold rowsL rowL;exact lst_congr fun j hj => congrArg ci ((h2 i (by unfold rkS at hi; omega)).2 j hj)
theorem list_rowL {D : Desc} {l : List Int} (h : elB D l = true) : l = rowL D l.length (fun j => eli D (l[j]?.getD 0)) := by
 apply List.ext_getElem
 ·rw [rowL_length]
 ·intro j h1 h2;have h3 := rowL_get D (fun j => eli D (l[j]?.getD 0)) (j := j) (m := l.length) h1;rw [List.getElem?_eq_getElem h2,Option.getD_some] at h3;rw [h3];have h4 := elB_iff.1 h j h1;rw [ci_eli_in h4,List.getElem?_eq_getElem h1,Option.getD_some]
end
section
open Go.RowKit Cw
attribute [local go_sem] Oper.semAt_some

theorem MP.less {D : Desc} {w : World} {L g n m r : Nat} {q : Option Nat} {M : Nat → Nat → R D} (h : MP w L g n m q M) (hr : r ≤ n) : MP w L g r m q M := by
 obtain ⟨hgl,b,c,h1,h2⟩ := h;exact ⟨hgl,b,c,fun i hi => h1 i (by omega),fun i k hi hk => h2 i k (by omega) (by omega)⟩
theorem elS_two (F0 F1 : FD) (h : F1.toDesc = F0.toDesc) (M : Nat → Nat → R F0.toDesc) : ∃ M1 : Nat → Nat → R F1.toDesc,(∀ m,rowsL F1.toDesc m M1 = rowsL F0.toDesc m M) ∧
  ∀ n c m,rowsL F1.toDesc m (elS n M1 c).1 = rowsL F0.toDesc m (elS n M c).1 ∧ (elS n M1 c).2 = (elS n M c).2 := by
 obtain ⟨D0,g0,a0,b0,c0⟩ := F0;obtain ⟨D1,g1,a1,b1,c1⟩ := F1;dsimp only at h;subst h;exact ⟨M,fun _ => rfl,fun _ _ _ => ⟨rfl,rfl⟩⟩

set_option maxRecDepth 100000 in
set_option maxHeartbeats 1000000 in
theorem gCanon_any (F : FD) (n m : Nat) (M : Nat → Nat → R F.toDesc) (Ar : Option Addr) (cr gf : Nat) (w : World) (hg : GF w w.heap.size gf F) (hrm : RdM w w.heap.size Ar n (rowsL F.toDesc m M)) (hn : n ≤ 70000) (hm1 : 1 ≤ m) (hm : m ≤ 70000) :
  Calls Tryz.prog 199 #[.pointer (some ⟨gf,0,none⟩),.slice Ar n cr,.int .i64 m] w fun e w' => ∃ g vp,e = .returned (.tuple #[.slice (some ⟨g,0,none⟩) (rkS F n m M) (rkS F n m M),vp]) ∧ Own w' w.heap.size vp (natL (elS n M m).2) ∧
   MP w' w.heap.size g (rkS F n m M) m none (elS n M m).1 ∧ w.heap.size ≤ g ∧ Below w.heap.size w w' := by
 have hC := Lib.hid (gClone_any n m M Ar cr w hrm hn hm1 hm);have hrk := (elS_le n M m).1;go_enter Tryz.func199,Tryz.ntmps199;go_wp2_with (fail);(with_reducible refine hC.out.mono ?_);rintro e w1 ⟨g,rfl,hgl,hmp,hb1⟩;have hE := Lib.hid (gElim_any F n m m M gf g n w.heap.size w1 (hg.below hb1) hmp hb1.size hgl hn hm (Nat.le_refl _));clear hC;go_wp2_with (fail);(with_reducible refine hE.out.mono ?_);rintro e w2 ⟨vp,det,rfl,hown,hmp2,hb2⟩;have hnl : (natL (elS n M m).2).length = rkS F n m M := by unfold natL rkS; rw [List.length_map]
 have hown2 := hown.lowerM hb1.size;obtain ⟨Ap,cp,rfl,hcp,-,-⟩ := hown.form;rw [hnl] at hown2 hcp ⊢;have hi1 : (0 : Int) ≤ ((rkS F n m M : Nat) : Int) := by omega
 have hrk2 : rkS F n m M ≤ n := hrk;have hi2 : ((rkS F n m M : Nat) : Int) ≤ (n : Int) := by omega
 have hfin := hmp2.any.less hrk2;replace hnl := Lib.hid hnl;clear hE hmp hown hmp2;go_wp2_with (fail);go_ret2;exact ⟨g,.slice Ap (rkS F n m M) cp,rfl,hown2,hfin,hgl,hb1.trans hb2⟩

set_option maxRecDepth 100000 in
set_option maxHeartbeats 1000000 in
theorem gOpenM_ok (F : FD) (hgood : Good F.p F.m (modL F.toDesc)) (n m : Nat) (M : Nat → Nat → R F.toDesc) (A Ar : Option Addr) (c cr X : Nat) (w : World) (hr : Rd w w.heap.size A (modL F.toDesc)) (hrm : RdM w w.heap.size Ar n (rowsL F.toDesc m M)) (hn : n ≤ 256) (hm : m ≤ 256)
  (hX : X < w.heap.size) (x0 : w.cell? ⟨X,0,none⟩ = some (.int .i64 m)) (x1 : w.cell? ⟨X,1,none⟩ = some (.slice Ar n cr)) :
  Calls Tryz.prog 198 #[.agg #[.int .i64 F.p,.int .i64 F.m,.slice A F.mod.length c],.slice (some ⟨X,0,none⟩) 1 1] w fun e w' => ∃ g,∃ F1 : FD,F1.toDesc = F.toDesc ∧ e = .returned (.tuple #[.pointer (some ⟨g,0,none⟩),.int .i64 0]) ∧ GF w' w'.heap.size g F1 ∧ Below w.heap.size w w' := by
 have hN := fun W h => Lib.hid (New_good F.toDesc A c W h hgood)
 obtain ⟨Z,hZ⟩ : ∃ Z,Z = w.alloc (.cells #[.int .i64 F.p,.int .i64 F.m,.slice A F.mod.length c] 24) := ⟨_,rfl⟩;have hB : Below w.heap.size w Z := by rw [hZ]; exact (Below.refl _ _).alloc (Nat.le_refl _) _
 have kz := Lib.hid (show Z.cell? ⟨w.heap.size,0,none⟩ = some (.int .i64 F.p) ∧ Z.cell? ⟨w.heap.size,1,none⟩ = some (.int .i64 F.m) ∧ Z.cell? ⟨w.heap.size,2,none⟩ = some (.slice A F.mod.length c) from by rw [hZ]; simp [go_sem]);obtain ⟨z0,z1,z2⟩ := kz.out;have hN2 := hN Z ((hr.below hB).more hB.size);replace hZ := Lib.hid hZ;clear hN;go_enter Tryz.func198,Tryz.ntmps198;go_wp2_with (fail);rw [← hZ.out];(with_reducible refine hN2.out.mono ?_);rintro e w1 ⟨g,F1,h1,rfl,hgl,hgf,hb1⟩;have hB1 := hB.trans (hb1.mono hB.size);obtain ⟨M1,hM1,-⟩ := elS_two F F1 h1 M;have y0 := (hB1.cell (p := ⟨X,0,none⟩) hX).trans x0;have y1 := (hB1.cell (p := ⟨X,1,none⟩) hX).trans x1;have hrm1 := (hrm.below hB1).more hB1.size;rw [← hM1 m] at hrm1;replace h1 := Lib.hid h1;replace hM1 := Lib.hid hM1;clear hN2 z0 z1 z2 kz;go_wp2_with (fail);go_loopw [20,9,10] (fun i _ _ wr => (i = .int .i64 0 ∧ wr = w1) ∨ (i = .int .i64 1 ∧ GF wr wr.heap.size g F1 ∧ Below w.heap.size w wr)) (fun i _ _ _ => 1 - (intOf i).toNat)
 case atStart => exact .inl ⟨rfl,rfl⟩
 case round =>
  rcases hrel with ⟨rfl,rfl⟩ | ⟨rfl,hgf2,hB2⟩
  ·have hB5 : Below wr.heap.size wr (wr.alloc (.cells #[.int .i64 m,.slice Ar n cr] 48)) := (Below.refl _ _).alloc (Nat.le_refl _) _;have hCk := Lib.hid (gCheckM_ok F1 n m M1 Ar cr g _ ((hgf.below hB5).more hB5.size) ((hrm1.below hB5).more hB5.size) hn hm);have hBw := Lib.hid (hB1.trans (hB5.mono hB1.size));have hgf5 := Lib.hid ((hgf.below hB5).more hB5.size);clear hB5;go_wp2_with (fail);(with_reducible refine hCk.out.mono ?_);rintro e w6 ⟨rfl,hb6⟩;have hfin := Lib.hid (hBw.out.trans (hb6.mono hBw.out.size));have hgf6 := Lib.hid ((hgf5.out.below hb6).more hb6.size);go_wp2_with (fail);go_roundw
   case rel => exact .inr ⟨by go_num,hgf6.out,hfin.out⟩
   case measure => simp [intOf]
  ·go_wp2_with (fail);go_ret2;exact ⟨g,F1,h1.out,rfl,hgf2,hB2⟩

theorem set2 {w3 : World} {b : Nat} (u0 u1 : Value) : Below b w3 ((w3.setCell ⟨b,0,none⟩ u0).setCell ⟨b,1,none⟩ u1) :=
 ((Below.refl _ _).setCell (p := ⟨b,0,none⟩) (Nat.le_refl _) _).setCell (p := ⟨b,1,none⟩) (Nat.le_refl _) _
theorem set2_above {w : World} {b L : Nat} (hL : b < L) (u0 u1 : Value) (p : Addr) (hp : L ≤ p.block) : ((w.setCell ⟨b,0,none⟩ u0).setCell ⟨b,1,none⟩ u1).cell? p = w.cell? p := by
 have hne : b ≠ p.block := by omega
 rw [World.cell?_setCell_far _ _ _ _ hne,World.cell?_setCell_far _ _ _ _ hne]
def CanPost (F : FD) (n m : Nat) (M : Nat → Nat → R F.toDesc) (w : World) (e : Ending) (w' : World) : Prop :=
 ∃ Al vp,e = .returned (.tuple #[.agg #[.int .i64 m,.slice Al (rkS F n m M) (rkS F n m M)],vp,.int .i64 0]) ∧ RdMU w' w.heap.size w'.heap.size Al (rkS F n m M) (rowsL F.toDesc m (elS n M m).1) ∧ Own w' w.heap.size vp (natL (elS n M m).2) ∧ Below w.heap.size w w'
set_option maxRecDepth 100000 in
set_option maxHeartbeats 2000000 in
theorem gCanonical_ok (F : FD) (hgood : Good F.p F.m (modL F.toDesc)) (n m : Nat) (M : Nat → Nat → R F.toDesc) (A Ar : Option Addr) (c cr : Nat) (w : World) (hr : Rd w w.heap.size A (modL F.toDesc)) (hrm : RdM w w.heap.size Ar n (rowsL F.toDesc m M)) (hn : n ≤ 256) (hm1 : 1 ≤ m) (hm : m ≤ 256) :
  Calls Tryz.prog 139 #[.agg #[.int .i64 F.p,.int .i64 F.m,.slice A F.mod.length c],.agg #[.int .i64 m,.slice Ar n cr]] w (CanPost F n m M w) := by
 have hO := fun X W h1 h2 h3 h4 h5 => Lib.hid (gOpenM_ok F hgood n m M A Ar c cr X W h1 h2 hn hm h3 h4 h5)
 obtain ⟨Z,hZ⟩ : ∃ Z,Z = ((w.alloc (.cells #[.int .i64 F.p,.int .i64 F.m,.slice A F.mod.length c] 24)).alloc (.cells #[.int .i64 m,.slice Ar n cr] 48)).alloc (.cells #[.int .i64 0,.slice none 0 0] 48) := ⟨_,rfl⟩;have hB : Below w.heap.size w Z := by rw [hZ]; exact (((Below.refl _ _).alloc (Nat.le_refl _) _).alloc (by simp) _).alloc (by simp; omega) _
 have hZs : Z.heap.size = w.heap.size + 1 + 1 + 1 := by rw [hZ]; simp
 have kz : (Z.cell? ⟨w.heap.size,0,none⟩ = some (.int .i64 F.p) ∧ Z.cell? ⟨w.heap.size,1,none⟩ = some (.int .i64 F.m) ∧ Z.cell? ⟨w.heap.size,2,none⟩ = some (.slice A F.mod.length c)) ∧
   (Z.cell? ⟨w.heap.size + 1,0,none⟩ = some (.int .i64 m) ∧ Z.cell? ⟨w.heap.size + 1,1,none⟩ = some (.slice Ar n cr)) ∧ Z.cell? ⟨w.heap.size + 1 + 1,0,none⟩ = some (.int .i64 0) ∧ Z.cell? ⟨w.heap.size + 1 + 1,1,none⟩ = some (.slice none 0 0) ∧
   Z.frozen? ⟨w.heap.size + 1 + 1,0,none⟩ = false ∧ Z.frozen? ⟨w.heap.size + 1 + 1,1,none⟩ = false := by rw [hZ]; simp [go_sem]
 obtain ⟨s,hs⟩ : ∃ s,s = w.heap.size := ⟨_,rfl⟩;rw [← hs] at kz hZs;obtain ⟨⟨z0,z1,z2⟩,⟨y0,y1⟩,x0,x1,f0,f1⟩ := kz;have hb2 : Below Z.heap.size Z (Z.alloc (.cells #[.int .i64 m,.slice Ar n cr] 48)) := (Below.refl _ _).alloc (Nat.le_refl _) _;have hB2 := hB.trans (hb2.mono hB.size);have hO2 := hO (s + 1 + 1 + 1) _ ((hr.below hB2).more hB2.size) ((hrm.below hB2).more hB2.size) (by rw [World.size_alloc]; omega) (by rw [← hZs]; simp [go_sem]) (by rw [← hZs]; simp [go_sem]);replace hZ := Lib.hid hZ;clear hO;unfold CanPost;go_enter Tryz.func139,Tryz.ntmps139;go_wp2_with (fail);rw [← hZ.out];simp only [← hs];have hsw : w.heap.size ≤ s := Nat.le_of_eq hs.symm;replace hs := Lib.hid hs;(with_reducible refine hO2.out.mono ?_);rintro e w1 ⟨g,F1,h1,rfl,hgf,hb1⟩;have hB1 := hB2.trans (hb1.mono hB2.size);have hbz := hb2.trans (hb1.mono hb2.size);obtain ⟨M1,hM1,hM2⟩ := elS_two F F1 h1 M;have hrm1 := (hrm.below hB1).more hB1.size;rw [← hM1 m] at hrm1;have hC := gCanon_any F1 n m M1 Ar cr g w1 hgf hrm1 (by omega) hm1 (by omega);have hrk : rkS F1 n m M1 = rkS F n m M := by unfold rkS; rw [(hM2 n m m).2]
 rw [hrk,(hM2 n m m).2] at hC;replace hC := Lib.hid hC;replace h1 := Lib.hid h1;replace hM1 := Lib.hid hM1;replace hM2 := Lib.hid hM2;replace hrk := Lib.hid hrk;have y0' := (hbz.cell (p := ⟨s + 1,0,none⟩) (show s + 1 < Z.heap.size by omega)).trans y0;have y1' := (hbz.cell (p := ⟨s + 1,1,none⟩) (show s + 1 < Z.heap.size by omega)).trans y1;have hs1 := hbz.size;clear hO2;go_wp2_with (fail);(with_reducible refine hC.out.mono ?_);rintro e w3 ⟨g3,vp,rfl,hown,hmp,hg3,hb3⟩;have hbz3 := hbz.trans (hb3.mono hbz.size);have hB3 := hB1.trans (hb3.mono hB1.size);have hru := hmp.rdmU hg3;rw [(hM2.out n m m).1] at hru;have u0 := (hbz3.cell (p := ⟨s + 1,0,none⟩) (show s + 1 < Z.heap.size by omega)).trans y0;have v0 := (hbz3.cell (p := ⟨s + 1 + 1,0,none⟩) (show s + 1 + 1 < Z.heap.size by omega)).trans x0;have v1 := (hbz3.cell (p := ⟨s + 1 + 1,1,none⟩) (show s + 1 + 1 < Z.heap.size by omega)).trans x1;have e0 := (hbz3.frozen (p := ⟨s + 1 + 1,0,none⟩) (show s + 1 + 1 < Z.heap.size by omega)).trans f0;have e1 := (hbz3.frozen (p := ⟨s + 1 + 1,1,none⟩) (show s + 1 + 1 < Z.heap.size by omega)).trans f1;have hfin : Hid (RdMU ((w3.setCell ⟨s + 1 + 1,0,none⟩ (.int .i64 m)).setCell ⟨s + 1 + 1,1,none⟩ (.slice (some ⟨g3,0,none⟩) (rkS F n m M) (rkS F n m M))) w1.heap.size w3.heap.size (some ⟨g3,0,none⟩) (rkS F n m M) (rowsL F.toDesc m (elS n M m).1)) :=
  hru.keepU fun p hp _ => set2_above (b := s + 1 + 1) (L := w1.heap.size) (by omega) _ _ p hp
 have hof : Hid (Own ((w3.setCell ⟨s + 1 + 1,0,none⟩ (.int .i64 m)).setCell ⟨s + 1 + 1,1,none⟩ (.slice (some ⟨g3,0,none⟩) (rkS F n m M) (rkS F n m M))) w1.heap.size vp (natL (elS n M m).2)) :=
  ((hown.far (p := ⟨s + 1 + 1,0,none⟩) (fun e => by have h2 : w1.heap.size ≤ s + 1 + 1 := (hown.lt _ e).1; omega) _).far (p := ⟨s + 1 + 1,1,none⟩) (fun e => by have h2 : w1.heap.size ≤ s + 1 + 1 := (hown.lt _ e).1; omega) _)
 have hBf := Lib.hid (hB3.trans ((set2 (w3 := w3) (b := s + 1 + 1) (.int .i64 m) (.slice (some ⟨g3,0,none⟩) (rkS F n m M) (rkS F n m M))).mono (by omega)));have hsz : Hid (w3.heap.size ≤ ((w3.setCell ⟨s + 1 + 1,0,none⟩ (.int .i64 m)).setCell ⟨s + 1 + 1,1,none⟩ (.slice (some ⟨g3,0,none⟩) (rkS F n m M) (rkS F n m M))).heap.size) := by unfold Hid; simp [World.setCell]
 have hws := hB1.size;clear hC hown hmp hru;go_wp2_with (fail);refine bodyPost_ret (v := .tuple #[.agg #[.int .i64 m,.slice (some ⟨g3,0,none⟩) (rkS F n m M) (rkS F n m M)],vp,.int .i64 0]) (by simp [results,Tryz.results139,go_sem,v0,v1]) rfl ⟨some ⟨g3,0,none⟩,vp,rfl,?_,hof.out.lowerM hws,hBf.out⟩;exact (hfin.out.low hws).more hsz.out
end
section
open Go.RowKit Cw

theorem good_FD {D : Desc} (h : Good D.p D.m (modL D)) : ∃ F : FD,F.toDesc = D := by
 obtain ⟨u,hu⟩ := gen_of_good h;exact ⟨mkFD D u hu,rfl⟩
theorem rowL_inj {D : Desc} {m : Nat} {f g : Nat → R D} (h : rowL D m f = rowL D m g) {j : Nat} (hj : j < m) : f j = g j := by
 have h1 := rowL_get D f hj;rw [h,rowL_get D g hj] at h1;rw [← eli_ci (f j),← eli_ci (g j),h1]
open Classical in
section
variable {P M N : Int} {ml : List Int} {n : Nat} {rows : Nat → List Int}
structure VC (P M N : Int) (ml : List Int) (n : Nat) (rows : Nat → List Int) (F : FD) (m : Nat) (A : Nat → Nat → R F.toDesc) : Prop where
 hP : P = F.p
 hM : M = F.m
 hl : ml = modL F.toDesc
 good : Good F.p F.m (modL F.toDesc)
 hN : N = m
 m1 : 1 ≤ m
 m64 : m ≤ 64
 hr : ∀ i,i < n → rows i = rowsL F.toDesc m A i
 can : Canl F n m A
theorem VC.le {F : FD} {m : Nat} {A : Nat → Nat → R F.toDesc} (h : VC P M N ml n rows F m A) : n ≤ m := by
 have h1 := (elS_le n A m).2;have h2 := h.can.1;unfold rkS at h2;omega
end
end
end Go.Proofs.YtjdoneanohhkmaaGreat

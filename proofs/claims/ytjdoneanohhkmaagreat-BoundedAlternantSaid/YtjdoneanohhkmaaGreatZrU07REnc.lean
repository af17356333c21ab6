/- The error of a code, as a number: what both Check functions answer. No Go here. The number of words: ref03.Exp, ref12.Size, Count. The reference's Combine, At, Of, Weight. The reference's Of, Weight, Distance. The reference's Distance. The reference's codes: Check, List, Word, Has of a canonical code. Layer 12 of the reference: Encode of a valid message. -/
import Derived.Deep.CutRange
import Derived.Deep.RegionHeld3
import Derived.IntWalk
import Derived.Maps.Range
import Derived.Maps.RangeWalk
import Derived.Test.YtjdoneanohhkmaaGreatZrU07RRG
import Derived.Test.YtjdoneanohhkmaaGreatZrU07RGA
import Derived.Test.YtjdoneanohhkmaaGreatZrU07RHasA
import Derived.Test.YtjdoneanohhkmaaGreatZrU07RHasC
import Derived.Test.YtjdoneanohhkmaaGreatZrU07RBxs
import Derived.Test.YtjdoneanohhkmaaGreatZrU07RTk
namespace Go.Proofs.YtjdoneanohhkmaaGreat
section
open Go.RowKit Cw

theorem good_FD {D : Desc} (h : Good D.p D.m (modL D)) : ∃ F : FD,F.toDesc = D := by
 obtain ⟨u,hu⟩ := gen_of_good h;exact ⟨mkFD D u hu,rfl⟩
theorem rowL_inj {D : Desc} {m : Nat} {f g : Nat → R D} (h : rowL D m f = rowL D m g) {j : Nat} (hj : j < m) : f j = g j := by
 have h1 := rowL_get D f hj;rw [h,rowL_get D g hj] at h1;rw [← eli_ci (f j),← eli_ci (g j),h1]
open Classical in
section
variable {P M N : Int} {ml : List Int} {n : Nat} {rows : Nat → List Int}
structure VC (P M N : Int) (ml : List Int) (n : Nat) (rows : Nat → List Int) (F : FD) (m : Nat) (A : Nat → Nat → R F.toDesc) : Prop where
 hP : P = F.p
 hM : M = F.m
 hl : ml = modL F.toDesc
 good : Good F.p F.m (modL F.toDesc)
 hN : N = m
 m1 : 1 ≤ m
 m64 : m ≤ 64
 hr : ∀ i,i < n → rows i = rowsL F.toDesc m A i
 can : Canl F n m A
theorem VC.le {F : FD} {m : Nat} {A : Nat → Nat → R F.toDesc} (h : VC P M N ml n rows F m A) : n ≤ m := by
 have h1 := (elS_le n A m).2;have h2 := h.can.1;unfold rkS at h2;omega
end
end
section
open Go.RowKit Cw
attribute [local go_sem] Oper.semAt_some

end
section
open Go.RowKit Cw
attribute [local go_sem] Oper.semAt_some

def cmb {D : Desc} (n : Nat) (g : Nat → R D) (M : Nat → Nat → R D) : Nat → R D := fun j => rsum n fun i => g i * M i j
theorem rowL_zero' (D : Desc) (n : Nat) : List.replicate n (0 : Int) = rowL D n (fun _ => 0) := by
 unfold rowL;rw [lst_zero];exact lst_congr fun j _ => ci_zero.symm
set_option maxHeartbeats 2000000 in
theorem Combine9_any (D : Desc) (n m : Nat) (g : Nat → R D) (M : Nat → Nat → R D) (A A1 Ar : Option Addr) (c c1 cr : Nat) (w : World) (hr : Rd w w.heap.size A (modL D)) (hr1 : Rd w w.heap.size A1 (rowL D n g)) (hrm : RdM w w.heap.size Ar n (rowsL D m M)) (hn : n ≤ 1000) (hm : m ≤ 70000) :
  Calls Tryz.prog 75 #[.agg #[.int .i64 D.p,.int .i64 D.m,.slice A D.mod.length c],.slice A1 n c1,.slice Ar n cr,.int .i64 m] w fun e w' => ∃ A2 c2,e = .returned (.slice A2 m c2) ∧ Rd w' w'.heap.size A2 (rowL D m (cmb n g M)) ∧ (∀ a,A2 = some a → w.heap.size ≤ a.block) ∧ m ≤ c2 ∧ c2 ≤ maxLen ∧ Below w.heap.size w w' := by
 have hAT := fun f h a A1 A2 c1 c2 W x y z => AddTo9_any D m f h a A A1 A2 c c1 c2 W x y z hm
 have hmk := mk_ints m hm;obtain ⟨Z,hZ⟩ : ∃ Z,Z = w.alloc (.cells #[.int .i64 D.p,.int .i64 D.m,.slice A D.mod.length c] 24) := ⟨_,rfl⟩;have hB : Below w.heap.size w Z := by rw [hZ]; exact (Below.refl _ _).alloc (Nat.le_refl _) _
 have k0 := Lib.hid (show Z.cell? ⟨w.heap.size,0,none⟩ = some (.int .i64 D.p) ∧ Z.cell? ⟨w.heap.size,1,none⟩ = some (.int .i64 D.m) ∧ Z.cell? ⟨w.heap.size,2,none⟩ = some (.slice A D.mod.length c) from by rw [hZ]; exact alloc3 w _ _ _ _);have hZe : Z.heap.size = w.heap.size + 1 := by rw [hZ]; simp
 obtain ⟨Y,hY⟩ : ∃ Y,Y = Z.alloc (.cells (Array.replicate m (Value.int .i64 0)) 3) := ⟨_,rfl⟩;have hbY : Below Z.heap.size Z Y := by rw [hY]; exact (Below.refl _ _).alloc (Nat.le_refl _) _
 have hBY := hB.trans (hbY.mono hB.size);have hlt0 : w.heap.size < Y.heap.size := by have := hbY.size; omega
 have kY := Lib.hid (keep3 hbY (by omega) k0.out);have hr0 : Rd Y Y.heap.size (some ⟨w.heap.size + 1,0,none⟩) (rowL D m (cmb 0 g M)) := by
  rw [show rowL D m (cmb 0 g M) = List.replicate m 0 from (rowL_zero' D m).symm,hY,← hZe]; exact (IB.newz Z m).rd
 rw [hZ] at hY;replace hZ := Lib.hid hZ;replace hY := Lib.hid hY;replace hZe := Lib.hid hZe;go_enter Tryz.func75,Tryz.ntmps75;go_wp2_with (fail);rw [← hY.out];go_loopw [10,9] (fun iS v wr => ∃ (k : Nat) (Av : Option Addr) (cv : Nat),k ≤ n ∧ iS = .int .i64 k ∧ v = .slice Av m cv ∧ Rd wr wr.heap.size Av (rowL D m (cmb k g M)) ∧ (∀ a,Av = some a → w.heap.size ≤ a.block) ∧ m ≤ cv ∧ cv ≤ maxLen ∧ Below Y.heap.size Y wr) (fun iS _ _ => n - (intOf iS).toNat)
 case atStart => exact ⟨0,some ⟨w.heap.size + 1,0,none⟩,m,by omega,rfl,rfl,hr0,(fun a e => by cases e; exact Nat.le_succ _),Nat.le_refl _,by unfold maxLen; omega,Below.refl _ _⟩
 case round =>
  obtain ⟨k,Av,cv,hk,rfl,rfl,hrv,hAv,hmc,hcv,hbw⟩ := hrel;obtain ⟨w3,rfl⟩ : ∃ w3 : World,w3 = wr := ⟨_,rfl⟩;have hB3 := hBY.trans (hbw.mono hBY.size);by_cases hlt : k < n
  ·have hk0 : (0 : Int) ≤ (k : Int) := by omega
   have hk1 : (k : Int) < (n : Int) := by omega
   obtain ⟨b,o,Ak,ck,rfl,hb,hc,hrk,-,-⟩ := hrm.at_ hlt;obtain ⟨b1,o1,rfl,hb1,hc1⟩ := hr1.at_ (show k < (rowL D n g).length by rw [rowL_length]; exact hlt);rw [rowL_get D g hlt] at hc1;rw [show (rowsL D m M k).length = m from rowL_length _ _ _] at hc;have hd := (hB3.cell (p := ⟨b,o + k,none⟩) hb).trans hc;have hd1 := (hB3.cell (p := ⟨b1,o1 + k,none⟩) hb1).trans hc1;have hgk : eli D (ci (g k)) = g k := eli_ci _;have hst : cmb (k + 1) g M = fun j => cmb k g M j + g k * M k j := funext fun j => rsum_succ _ _
   by_cases hz : ci (g k) = 0
   ·have hzz : (ci (g k) != 0) = false := by rw [bne_eq_false_iff_eq]; exact hz
    have hnx : Hid (rowL D m (cmb (k + 1) g M) = rowL D m (cmb k g M)) := by
     unfold Hid;rw [hst,← hgk,hz,eli_zero]
     congr 1
     exact funext fun j => by rw [zero_mul,add_zero]
    rw [← hnx.out] at hrv;generalize ci (g k) = y at *;clear hgk hst hz hc hc1 hd;go_wp2_with (fail);go_roundw
    case rel => exact ⟨k + 1,Av,cv,by omega,by go_num,rfl,hrv,hAv,hmc,hcv,hbw⟩
    case measure => simp [intOf]; omega
   ·have hzz : (ci (g k) != 0) = true := by rw [bne_iff_ne]; exact hz
    have hA3 := hAT (cmb k g M) (M k) (ci (g k)) Av Ak cv ck w3.drew ((hr.below hB3).more hB3.size).drew hrv.drew ((hrk.below hB3).more hB3.size).drew;rw [hgk,← hst] at hA3;unfold Gives at hA3;replace hA3 := Lib.hid hA3;generalize hy : ci (g k) = y at *;replace hy := Lib.hid hy;have kk := Lib.hid (show (w3.cell? ⟨w.heap.size,0,none⟩ = some (.int .i64 D.p) ∧ w3.cell? ⟨w.heap.size,1,none⟩ = some (.int .i64 D.m) ∧ w3.cell? ⟨w.heap.size,2,none⟩ = some (.slice A D.mod.length c)) ∧ w3.cell? ⟨b,o + k,none⟩ = some (.slice Ak m ck) ∧ w3.cell? ⟨b1,o1 + k,none⟩ = some (.int .i64 y) from ⟨keep3 hbw hlt0 kY.out,hd,hd1⟩);have x1 : w.heap.size < w3.heap.size := Nat.lt_of_lt_of_le hlt0 hbw.size;have x2 : b < w3.heap.size := Nat.lt_of_lt_of_le hb hB3.size;have x3 : b1 < w3.heap.size := Nat.lt_of_lt_of_le hb1 hB3.size;clear hgk hst hz hc hc1;go_wp2_with (fail);clear hd hd1;refine wp_region_held_drew (S := fun w' => (w'.cell? ⟨w.heap.size,0,none⟩ = some (.int .i64 D.p) ∧ w'.cell? ⟨w.heap.size,1,none⟩ = some (.int .i64 D.m) ∧ w'.cell? ⟨w.heap.size,2,none⟩ = some (.slice A D.mod.length c)) ∧ w'.cell? ⟨b,o + k,none⟩ = some (.slice Ak m ck) ∧ w'.cell? ⟨b1,o1 + k,none⟩ = some (.int .i64 y)) (by kernel_rfl) (by (try dsimp only); exact kk.out) (fun hHeld => ?_);refine tk 0 ?_; try simp only [pS]
    refine tk 1 ?_; try simp only [pS]
    refine tk 2 ?_; try simp only [pS]
    refine tk 3 ?_; try simp only [pS]
    refine tk 4 ?_; try simp only [pS]
    refine tk 5 ?_; try simp only [pS]
    refine tk 6 ?_; try simp only [pS]
    refine tk 7 ?_; try simp only [pS]
    refine tk 8 ?_; try simp only [pS]
    refine tk 9 ?_; try simp only [pS]
    refine rd 10 fun K hK => ?_
    go_simp;go_at_call 148;(with_reducible refine (hA3).out.mono ?_);rintro e w4 ⟨g4,rfl,hg4,hib4,hb4⟩;rw [rowL_length];go_wp2_with (fail);refine hK.out _ _ (by (try dsimp only); exact ⟨keep3 hb4 x1 kk.out.1,(hb4.cell (p := ⟨b,o + k,none⟩) x2).trans kk.out.2.1,(hb4.cell (p := ⟨b1,o1 + k,none⟩) x3).trans kk.out.2.2⟩) (fun hHeld => ?_);clear hK K;try simp only [pS]
    refine tk 11 ?_; try simp only [pS]
    refine wpAnyH_done (by kernel_rfl) ?_ _;go_wp2_with (fail);go_roundw
    case rel => exact ⟨k + 1,some ⟨g4,0,none⟩,m,by omega,by go_num,rfl,hib4.rd,(fun a e => by cases e; exact Nat.le_trans (Nat.le_of_lt x1) hg4),Nat.le_refl _,by unfold maxLen; omega,hbw.drew.trans (hb4.mono hbw.size)⟩
    case measure => simp [intOf]; omega
  ·obtain rfl : n = k := by omega
   go_wp2_with (fail);go_ret;exact ⟨Av,cv,rfl,hrv,hAv,hmc,hcv,hB3⟩

end
section
open Go.RowKit Cw
attribute [local go_sem] Oper.semAt_some

end
section
open Go.RowKit Cw
attribute [local go_sem] Oper.semAt_some

end
section
open Go.RowKit Cw
attribute [local go_sem] Oper.semAt_some

set_option maxHeartbeats 1000000 in
theorem Check12_ok (F : FD) (hgood : Good F.p F.m (modL F.toDesc)) (n m : Nat) (M : Nat → Nat → R F.toDesc) (hcan : Canl F n m M) (A Ar : Option Addr) (c cr : Nat) (w : World) (hr : Rd w w.heap.size A (modL F.toDesc)) (hrm : RdM w w.heap.size Ar n (rowsL F.toDesc m M)) (hn : n ≤ 256) (hm1 : 1 ≤ m) (hm : m ≤ 64) :
  Calls Tryz.prog 35 #[.agg #[.int .i64 F.p,.int .i64 F.m,.slice A F.mod.length c,.int .i64 m,.slice Ar n cr]] w fun e w' => e = .returned (.int .i64 0) ∧ Below w.heap.size w w' := by
 have hp1 := F.p256; have hp2 := F.m8;have hml : (modL F.toDesc).length ≤ maxLen := by have := F.hlen; have := F.m8; rw [modL_length,F.hlen]; unfold maxLen; split <;> omega
 have hC := fun W a => Check_any F.p F.m (modL F.toDesc) A c W (by omega) (by omega) hml a
 rw [chk_yes hgood,modL_length] at hC;replace hC := fun W a => Lib.hid (hC W a)
 have h10 := fun W a b => Lib.hid (Check10_ok F hgood n m M hcan A Ar c cr W a b hn (by omega))
 obtain ⟨Z,hZ⟩ : ∃ Z,Z = w.alloc (.cells #[.int .i64 F.p,.int .i64 F.m,.slice A F.mod.length c,.int .i64 m,.slice Ar n cr] 27) := ⟨_,rfl⟩;have hB : Below w.heap.size w Z := by rw [hZ]; exact (Below.refl _ _).alloc (Nat.le_refl _) _
 have hZs : w.heap.size < Z.heap.size := by rw [hZ]; simp
 have f5 := Five.new w (.int .i64 F.p) (.int .i64 F.m) (.slice A F.mod.length c) (.int .i64 m) (.slice Ar n cr) 27;have f5H : Hid (Five Z w.heap.size (.int .i64 F.p) (.int .i64 F.m) (.slice A F.mod.length c) (.int .i64 m) (.slice Ar n cr)) := by rw [hZ]; exact f5
 have hC1 := hC Z ((hr.below hB).more hB.size);replace hZ := Lib.hid hZ;clear hcan hgood;go_enter Tryz.func35,Tryz.ntmps35;obtain ⟨a0,a1,a2,a3,a4,-⟩ := f5;go_wp2_with (fail);rw [← hZ.out];(with_reducible refine hC1.out.mono ?_);rintro e w1 ⟨rfl,hb1⟩;have hB1 := hB.trans (hb1.mono hB.size);clear a0 a1 a2 a3 a4;obtain ⟨a0,a1,a2,a3,a4,-⟩ := f5H.out.keep hb1 hZs;have hm0 : ¬ (m : Int) < 1 := by omega
 have hm2 : ¬ (64 : Int) < (m : Int) := by omega
 go_wp2_with (fail);(with_reducible refine (h10 w1 ((hr.below hB1).more hB1.size) ((hrm.below hB1).more hB1.size)).out.mono ?_);rintro e w2 ⟨rfl,hb2⟩;go_wp2_with (fail);go_ret;exact ⟨rfl,hB1.trans (hb2.mono hB1.size)⟩

set_option maxHeartbeats 1000000 in
theorem List12_any (D : Desc) (l : List Int) (N : Int) (A A1 : Option Addr) (c c1 : Nat) (w : World) (hr1 : Rd w w.heap.size A1 l) (hl : l.length ≤ 1000000) :
  Calls Tryz.prog 154 #[.agg #[.int .i64 D.p,.int .i64 D.m,.slice A D.mod.length c],.slice A1 l.length c1,.int .i64 N] w fun e w' => e = .returned (.int .i64 (elErr D l N 4)) ∧ Below w.heap.size w w' := by
 have hE := fun W a => Lib.hid (Entries9_any D l A A1 c c1 W a hl)
 obtain ⟨Z,hZ⟩ : ∃ Z,Z = w.alloc (.cells #[.int .i64 D.p,.int .i64 D.m,.slice A D.mod.length c] 24) := ⟨_,rfl⟩;have hB : Below w.heap.size w Z := by rw [hZ]; exact (Below.refl _ _).alloc (Nat.le_refl _) _
 obtain ⟨q0,q1,q2⟩ := alloc3 w (.int .i64 D.p) (.int .i64 D.m) (.slice A D.mod.length c) 24;have hE1 := hE Z ((hr1.below hB).more hB.size);replace hZ := Lib.hid hZ;clear hE;by_cases hN : (l.length : Int) ≠ N
 ·rw [show elErr D l N 4 = 4 from if_pos hN];have hb : ((l.length : Int) != N) = true := by rw [bne_iff_ne]; exact hN
  replace hN := Lib.hid hN;go_enter Tryz.func154,Tryz.ntmps154;go_wp2_with (fail);go_ret;rw [← hZ.out];exact ⟨rfl,hB⟩
 ·rw [show elErr D l N 4 = elE D l from if_neg hN];have hb : ((l.length : Int) != N) = false := by rw [bne_eq_false_iff_eq]; exact Classical.not_not.1 hN
  replace hN := Lib.hid hN;go_enter Tryz.func154,Tryz.ntmps154;go_wp2_with (fail);rw [← hZ.out];(with_reducible refine hE1.out.mono ?_);rintro e w1 ⟨rfl,hb1⟩;go_wp2_with (fail);go_ret;exact ⟨rfl,hB.trans (hb1.mono hB.size)⟩

set_option maxHeartbeats 1000000 in
theorem Word12_any (F : FD) (hgood : Good F.p F.m (modL F.toDesc)) (n m : Nat) (M : Nat → Nat → R F.toDesc) (hcan : Canl F n m M) (A Ar : Option Addr) (c cr : Nat) (l : List Int) (A1 : Option Addr) (c1 : Nat) (w : World) (hr : Rd w w.heap.size A (modL F.toDesc)) (hrm : RdM w w.heap.size Ar n (rowsL F.toDesc m M)) (hn : n ≤ 256) (hm1 : 1 ≤ m) (hm : m ≤ 64) (hr1 : Rd w w.heap.size A1 l) (hl : l.length ≤ 1000000) :
  Calls Tryz.prog 81 #[.agg #[.int .i64 F.p,.int .i64 F.m,.slice A F.mod.length c,.int .i64 m,.slice Ar n cr],.slice A1 l.length c1] w fun e w' => e = .returned (.int .i64 (elErr F.toDesc l m 4)) ∧ Below w.heap.size w w' := by
 have hC := fun W a b => Lib.hid (Check12_ok F hgood n m M hcan A Ar c cr W a b hn hm1 hm)
 have hL := fun W a => Lib.hid (List12_any F.toDesc l m A A1 c c1 W a hl)
 obtain ⟨Z,hZ⟩ : ∃ Z,Z = w.alloc (.cells #[.int .i64 F.p,.int .i64 F.m,.slice A F.mod.length c,.int .i64 m,.slice Ar n cr] 27) := ⟨_,rfl⟩;have hB : Below w.heap.size w Z := by rw [hZ]; exact (Below.refl _ _).alloc (Nat.le_refl _) _
 have hZs : w.heap.size < Z.heap.size := by rw [hZ]; simp
 have f5 := Five.new w (.int .i64 F.p) (.int .i64 F.m) (.slice A F.mod.length c) (.int .i64 m) (.slice Ar n cr) 27;have f5H : Hid (Five Z w.heap.size (.int .i64 F.p) (.int .i64 F.m) (.slice A F.mod.length c) (.int .i64 m) (.slice Ar n cr)) := by rw [hZ]; exact f5
 have hC1 := hC Z ((hr.below hB).more hB.size) ((hrm.below hB).more hB.size);replace hZ := Lib.hid hZ;clear hcan hgood hC;go_enter Tryz.func81,Tryz.ntmps81;obtain ⟨a0,a1,a2,a3,a4,-⟩ := f5;go_wp2_with (fail);rw [← hZ.out];(with_reducible refine hC1.out.mono ?_);rintro e w1 ⟨rfl,hb1⟩;have hB1 := hB.trans (hb1.mono hB.size);clear a0 a1 a2 a3 a4;obtain ⟨a0,a1,a2,a3,a4,-⟩ := f5H.out.keep hb1 hZs;go_wp2_with (fail);(with_reducible refine (hL w1 ((hr1.below hB1).more hB1.size)).out.mono ?_);rintro e w2 ⟨rfl,hb2⟩;go_wp2_with (fail);go_ret;exact ⟨rfl,hB1.trans (hb2.mono hB1.size)⟩

theorem Has12_yes (F : FD) (hgood : Good F.p F.m (modL F.toDesc)) (n m : Nat) (M : Nat → Nat → R F.toDesc) (hcan : Canl F n m M) (A Ar : Option Addr) (c cr : Nat) (u : Nat → R F.toDesc) (A1 : Option Addr) (c1 : Nat) (w : World) (hr : Rd w w.heap.size A (modL F.toDesc)) (hrm : RdM w w.heap.size Ar n (rowsL F.toDesc m M)) (hn : n ≤ 256) (hm1 : 1 ≤ m) (hm : m ≤ 64) (hr1 : Rd w w.heap.size A1 (rowL F.toDesc m u)) (hp : ∀ i,i < n → fnz (rowsL F.toDesc m M i) < m) :
  Calls Tryz.prog 19 #[.agg #[.int .i64 F.p,.int .i64 F.m,.slice A F.mod.length c,.int .i64 m,.slice Ar n cr],.slice A1 m c1] w fun e w' => e = .returned (.tuple #[.bool (all0 (rowL F.toDesc m (restF n (fun i => fnz (rowsL F.toDesc m M i)) M u))),.int .i64 0]) ∧ Below w.heap.size w w' := by
 have hW := fun W a b d => Word12_any F hgood n m M hcan A Ar c cr (rowL F.toDesc m u) A1 c1 W a b hn hm1 hm d (by rw [rowL_length]; omega)
 rw [show elErr F.toDesc (rowL F.toDesc m u) m 4 = 0 from by unfold elErr; rw [rowL_length,if_neg (by simp),if_neg (by rw [elB_rowL]; simp)],rowL_length] at hW;replace hW := fun W a b d => Lib.hid (hW W a b d)
 have hI := fun W a b d => Lib.hid (In10_any F.toDesc n m M u A Ar A1 c cr c1 W a b d (by omega) (by omega) hp)
 obtain ⟨Z,hZ⟩ : ∃ Z,Z = w.alloc (.cells #[.int .i64 F.p,.int .i64 F.m,.slice A F.mod.length c,.int .i64 m,.slice Ar n cr] 27) := ⟨_,rfl⟩;have hB : Below w.heap.size w Z := by rw [hZ]; exact (Below.refl _ _).alloc (Nat.le_refl _) _
 have hZs : w.heap.size < Z.heap.size := by rw [hZ]; simp
 have f5 := Five.new w (.int .i64 F.p) (.int .i64 F.m) (.slice A F.mod.length c) (.int .i64 m) (.slice Ar n cr) 27;have f5H : Hid (Five Z w.heap.size (.int .i64 F.p) (.int .i64 F.m) (.slice A F.mod.length c) (.int .i64 m) (.slice Ar n cr)) := by rw [hZ]; exact f5
 have hW1 := hW Z ((hr.below hB).more hB.size) ((hrm.below hB).more hB.size) ((hr1.below hB).more hB.size);replace hZ := Lib.hid hZ;clear hcan hgood hW hp;go_enter Tryz.func19,Tryz.ntmps19;obtain ⟨a0,a1,a2,a3,a4,-⟩ := f5;go_wp2_with (fail);rw [← hZ.out];(with_reducible refine hW1.out.mono ?_);rintro e w1 ⟨rfl,hb1⟩;have hB1 := hB.trans (hb1.mono hB.size);clear a0 a1 a2 a3 a4;obtain ⟨a0,a1,a2,a3,a4,-⟩ := f5H.out.keep hb1 hZs;have hI1 := hI w1 ((hr.below hB1).more hB1.size) ((hrm.below hB1).more hB1.size) ((hr1.below hB1).more hB1.size);go_wp2_with (fail);(with_reducible refine hI1.out.mono ?_);rintro e w2 ⟨rfl,hb2⟩;go_wp2_with (fail);go_ret2;exact ⟨rfl,hB1.trans (hb2.mono hB1.size)⟩
end
section
open Go.RowKit Cw
attribute [local go_sem] Oper.semAt_some

set_option maxHeartbeats 2000000 in
theorem Encode12_ok (F : FD) (hgood : Good F.p F.m (modL F.toDesc)) (n m : Nat) (M : Nat → Nat → R F.toDesc) (hcan : Canl F n m M) (A Ar : Option Addr) (c cr : Nat) (g : Nat → R F.toDesc) (A1 : Option Addr) (c1 : Nat) (w : World) (hr : Rd w w.heap.size A (modL F.toDesc)) (hrm : RdM w w.heap.size Ar n (rowsL F.toDesc m M)) (hn : n ≤ 256) (hm1 : 1 ≤ m) (hm : m ≤ 64) (hr1 : Rd w w.heap.size A1 (rowL F.toDesc n g)) :
  Calls Tryz.prog 123 #[.agg #[.int .i64 F.p,.int .i64 F.m,.slice A F.mod.length c,.int .i64 m,.slice Ar n cr],.slice A1 n c1] w fun e w' => ∃ A2 c2,e = .returned (.tuple #[.slice A2 m c2,.int .i64 0]) ∧ Rd w' w'.heap.size A2 (rowL F.toDesc m (cmb n g M)) ∧ (∀ a,A2 = some a → w.heap.size ≤ a.block) ∧ Below w.heap.size w w' := by
 have hC := fun W a b => Lib.hid (Check12_ok F hgood n m M hcan A Ar c cr W a b hn hm1 hm)
 have hL := fun W a => List12_any F.toDesc (rowL F.toDesc n g) n A A1 c c1 W a (by rw [rowL_length]; omega)
 rw [show elErr F.toDesc (rowL F.toDesc n g) n 4 = 0 from by unfold elErr; rw [rowL_length,if_neg (by simp),if_neg (by rw [elB_rowL]; simp)],rowL_length] at hL;replace hL := fun W a => Lib.hid (hL W a)
 have hCo := fun W a b d => Lib.hid (Combine9_any F.toDesc n m g M A A1 Ar c c1 cr W a b d (by omega) (by omega))
 obtain ⟨Z,hZ⟩ : ∃ Z,Z = w.alloc (.cells #[.int .i64 F.p,.int .i64 F.m,.slice A F.mod.length c,.int .i64 m,.slice Ar n cr] 27) := ⟨_,rfl⟩;have hB : Below w.heap.size w Z := by rw [hZ]; exact (Below.refl _ _).alloc (Nat.le_refl _) _
 have hZs : w.heap.size < Z.heap.size := by rw [hZ]; simp
 have f5 := Five.new w (.int .i64 F.p) (.int .i64 F.m) (.slice A F.mod.length c) (.int .i64 m) (.slice Ar n cr) 27;have f5H : Hid (Five Z w.heap.size (.int .i64 F.p) (.int .i64 F.m) (.slice A F.mod.length c) (.int .i64 m) (.slice Ar n cr)) := by rw [hZ]; exact f5
 have hC1 := hC Z ((hr.below hB).more hB.size) ((hrm.below hB).more hB.size);replace hZ := Lib.hid hZ;clear hcan hgood hC;go_enter Tryz.func123,Tryz.ntmps123;obtain ⟨a0,a1,a2,a3,a4,-⟩ := f5;go_wp2_with (fail);rw [← hZ.out];(with_reducible refine hC1.out.mono ?_);rintro e w1 ⟨rfl,hb1⟩;have hB1 := hB.trans (hb1.mono hB.size);clear a0 a1 a2 a3 a4;obtain ⟨a0,a1,a2,a3,a4,-⟩ := f5H.out.keep hb1 hZs;have hL1 := hL w1 ((hr1.below hB1).more hB1.size);go_wp2_with (fail);(with_reducible refine hL1.out.mono ?_);rintro e w2 ⟨rfl,hb2⟩;have hB2 := hB1.trans (hb2.mono hB1.size);have hbz2 := hb1.trans (hb2.mono hb1.size);clear a0 a1 a2 a3 a4;obtain ⟨a0,a1,a2,a3,a4,-⟩ := f5H.out.keep hbz2 hZs;have hCo2 := hCo w2 ((hr.below hB2).more hB2.size) ((hr1.below hB2).more hB2.size) ((hrm.below hB2).more hB2.size);go_wp2_with (fail);(with_reducible refine hCo2.out.mono ?_);rintro e w3 ⟨A2,c2,rfl,hr2,hA2,-,-,hb3⟩;have hA3 : ∀ a,A2 = some a → w.heap.size ≤ a.block := fun a e => Nat.le_trans hB2.size (hA2 a e)
 clear hA2;go_wp2_with (fail);go_ret2;exact ⟨A2,c2,rfl,hr2,hA3,hB2.trans (hb3.mono hB2.size)⟩
end
end Go.Proofs.YtjdoneanohhkmaaGreat

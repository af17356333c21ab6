/- The program's Parity: the walk. Layer 18: the reference's Elements. Layer 19: Designed of a valid description; the law's elements; the images of a word. The reference's inner product. The reference's Pow for any exponent; plain facts of a Goppa code's parity checks. -/
import Derived.BigQuiet
import Derived.Lib.AppendZerosOnto
import Derived.Test.YtjdoneanohhkmaaGreatZpRF
import Derived.Test.YtjdoneanohhkmaaGreatZpGA
import Derived.Test.YtjdoneanohhkmaaGreatZpLA
import Derived.Test.YtjdoneanohhkmaaGreatZpMat
import Derived.Test.YtjdoneanohhkmaaGreatZpMH
import Derived.Test.YtjdoneanohhkmaaGreatZpCodP
import Derived.Test.YtjdoneanohhkmaaGreatZpPlyQ
import Derived.Test.YtjdoneanohhkmaaGreatZpTowE
import Derived.Test.YtjdoneanohhkmaaGreatZpPoR
import Derived.Test.YtjdoneanohhkmaaGreatZpPol5m
import Derived.Test.YtjdoneanohhkmaaGreatZpApR
import Derived.Test.YtjdoneanohhkmaaGreatZpKer
import Derived.Test.YtjdoneanohhkmaaGreatZpKnl
import Derived.Test.YtjdoneanohhkmaaGreatZpGopC
import Derived.Test.YtjdoneanohhkmaaGreatZpSqaP
import Derived.Test.YtjdoneanohhkmaaGreatZpGopRow
import Derived.Test.YtjdoneanohhkmaaGreatZpEmbR
namespace Go.Proofs.YtjdoneanohhkmaaGreat
section
open Go.RowKit Cw
attribute [local go_sem] Oper.semAt_some

set_option maxRecDepth 100000 in
set_option maxHeartbeats 4000000 in
theorem aPrt_bad (P M Q N : Int) (ml nl poly pts : List Int) (A B A1 A2 : Option Addr) (c b c1 c2 : Nat) (w : World) (E : Int) (hE : E ≠ 0) (hG : ∀ W,Below w.heap.size w W → Calls Tryz.prog 89 #[.agg #[.int .i64 P,.int .i64 M,.slice A ml.length c,.int .i64 Q,.int .i64 N,.slice B nl.length b,.slice A1 poly.length c1,.slice A2 pts.length c2]] W fun e w' => e = .returned (.tuple #[.agg #[.int .i64 0,.int .i64 0,.slice none 0 0,.pointer none,.slice none 0 0,.slice none 0 0,.int .i64 0],.slice none 0 0,.int .i64 E]) ∧ Below W.heap.size W w') :
  Calls Tryz.prog 25 #[.agg #[.int .i64 P,.int .i64 M,.slice A ml.length c,.int .i64 Q,.int .i64 N,.slice B nl.length b,.slice A1 poly.length c1,.slice A2 pts.length c2]] w fun e w' => e = .returned (.tuple #[.agg #[.int .i64 0,.slice none 0 0],.int .i64 E]) ∧ Below w.heap.size w w' := by
 obtain ⟨s,hs⟩ : ∃ s,s = w.heap.size := ⟨_,rfl⟩;obtain ⟨Z,hZ⟩ : ∃ Z,Z = (w.alloc (.cells #[.int .i64 P,.int .i64 M,.slice A ml.length c,.int .i64 Q,.int .i64 N,.slice B nl.length b,.slice A1 poly.length c1,.slice A2 pts.length c2] 44)).alloc (.cells #[.int .i64 0,.slice none 0 0] 48) := ⟨_,rfl⟩;have hB : Below w.heap.size w Z := by rw [hZ]; exact ((Below.refl _ _).alloc (Nat.le_refl _) _).alloc (by simp) _
 have hbG : Hid (Bxs Z s [.int .i64 P,.int .i64 M,.slice A ml.length c,.int .i64 Q,.int .i64 N,.slice B nl.length b,.slice A1 poly.length c1,.slice A2 pts.length c2]) := by rw [hZ,hs]; exact (Bxs.new w _ _).keep ((Below.refl _ _).alloc (Nat.le_refl _) _) (by simp)
 have hbR : Hid (Bxs Z (s + 1) [.int .i64 0,.slice none 0 0]) := by rw [hZ,hs]; have := Bxs.new (w.alloc (.cells #[.int .i64 P,.int .i64 M,.slice A ml.length c,.int .i64 Q,.int .i64 N,.slice B nl.length b,.slice A1 poly.length c1,.slice A2 pts.length c2] 44)) [.int .i64 0,.slice none 0 0] 48; rw [World.size_alloc] at this; exact this
 have hZs : s + 1 < Z.heap.size := by rw [hZ,hs]; simp
 have hq := Lib.hid (hG Z hB);have hEb : (E != 0) = true := by rw [bne_iff_ne]; exact hE
 replace hZ := Lib.hid hZ;replace hE := Lib.hid hE;clear hG;go_enter Tryz.func25,Tryz.ntmps25;obtain ⟨a0,a1,a2,a3,a4,a5,a6,a7⟩ := hbG.out.c8;go_wp2_with (fail);rw [← hZ.out];simp only [← hs];have hsw : w.heap.size ≤ s := Nat.le_of_eq hs.symm;replace hs := Lib.hid hs;go_wp2_with (fail);(with_reducible refine hq.out.mono ?_);rintro e w1 ⟨rfl,hb1⟩;clear hq a0 a1 a2 a3 a4 a5 a6 a7;have hB1 := hB.trans (hb1.mono hB.size);obtain ⟨Y,hY⟩ : ∃ Y,Y = w1.alloc (.cells #[.int .i64 0,.int .i64 0,.slice none 0 0,.pointer none,.slice none 0 0,.slice none 0 0,.int .i64 0] 130) := ⟨_,rfl⟩;have hbY : Below w1.heap.size w1 Y := by rw [hY]; exact (Below.refl _ w1).alloc (Nat.le_refl _) _
 have hbZY := hb1.trans (hbY.mono hb1.size);have hBY := hB.trans (hbZY.mono hB.size);have hbRY := hbR.out.keep hbZY hZs;obtain ⟨u0,u1⟩ := hbRY.c2;obtain ⟨v0,v1⟩ := hbRY.f2;have hfin : Hid (Below w.heap.size w (stAll Y (s + 1) 0 [.int .i64 0,.slice none 0 0])) := stAll_below (by omega) _ _ _ hBY;rw [hY] at u0 u1 v0 v1 hfin;clear hbRY;go_wp2_with (fail);exact bodyPost_ret (v := .tuple #[.agg #[.int .i64 0,.slice none 0 0],.int .i64 E]) (by simp [results,Tryz.results25,go_sem,u0,u1]) rfl ⟨rfl,hfin.out⟩
def PrtPost (D : Desc) (poly pts : List Int) (w : World) (e : Ending) (w' : World) : Prop :=
 ∃ (F : FD) (Al : Option Addr) (cl : Nat),F.toDesc = D ∧ e = .returned (.tuple #[.agg #[.int .i64 pts.length,.slice Al (poly.length - 1) cl],.int .i64 0]) ∧ RdM w' w'.heap.size Al (poly.length - 1) (gopR F poly pts) ∧ Below w.heap.size w w'
set_option maxRecDepth 100000 in
set_option maxHeartbeats 8000000 in
theorem aPrt_ok (S : FD) (D : Desc) (poly pts : List Int) (A B A1 A2 : Option Addr) (c b c1 c2 : Nat) (w : World) (hr : Rd w w.heap.size A (modL S.toDesc)) (hrB : Rd w w.heap.size B (modL D)) (hS : Good S.p S.m (modL S.toDesc)) (hD : Good D.p D.m (modL D)) (hr1 : Rd w w.heap.size A1 poly) (hr2 : Rd w w.heap.size A2 pts) (hz : gopD S.toDesc D poly pts = 0) :
  Calls Tryz.prog 25 #[.agg #[.int .i64 S.p,.int .i64 S.m,.slice A S.mod.length c,.int .i64 D.p,.int .i64 D.m,.slice B D.mod.length b,.slice A1 poly.length c1,.slice A2 pts.length c2]] w (PrtPost D poly pts w) := by
 obtain ⟨hfit,⟨hn1,hn64⟩,hp1,hp2,htw,hl2,hl65,htop,hroot⟩ := gopD_zero hz;have hGo := fun W x1 x2 x3 x4 => Lib.hid (goppa_D S D poly pts A B A1 A2 c b c1 c2 W x1 x2 hS hD x3 x4 (by unfold maxLen; omega) (by unfold maxLen; omega))
 obtain ⟨s,hs⟩ : ∃ s,s = w.heap.size := ⟨_,rfl⟩;obtain ⟨Z,hZ⟩ : ∃ Z,Z = (w.alloc (.cells #[.int .i64 S.p,.int .i64 S.m,.slice A S.mod.length c,.int .i64 D.p,.int .i64 D.m,.slice B D.mod.length b,.slice A1 poly.length c1,.slice A2 pts.length c2] 44)).alloc (.cells #[.int .i64 0,.slice none 0 0] 48) := ⟨_,rfl⟩;have hB : Below w.heap.size w Z := by rw [hZ]; exact ((Below.refl _ _).alloc (Nat.le_refl _) _).alloc (by simp) _
 have hbG : Hid (Bxs Z s [.int .i64 S.p,.int .i64 S.m,.slice A S.mod.length c,.int .i64 D.p,.int .i64 D.m,.slice B D.mod.length b,.slice A1 poly.length c1,.slice A2 pts.length c2]) := by rw [hZ,hs]; exact (Bxs.new w _ _).keep ((Below.refl _ _).alloc (Nat.le_refl _) _) (by simp)
 have hbR : Hid (Bxs Z (s + 1) [.int .i64 0,.slice none 0 0]) := by rw [hZ,hs]; have := Bxs.new (w.alloc (.cells #[.int .i64 S.p,.int .i64 S.m,.slice A S.mod.length c,.int .i64 D.p,.int .i64 D.m,.slice B D.mod.length b,.slice A1 poly.length c1,.slice A2 pts.length c2] 44)) [.int .i64 0,.slice none 0 0] 48; rw [World.size_alloc] at this; exact this
 have hZs : s + 1 < Z.heap.size := by rw [hZ,hs]; simp
 have hq := hGo Z ((hr.below hB).more hB.size) ((hrB.below hB).more hB.size) ((hr1.below hB).more hB.size) ((hr2.below hB).more hB.size);have hzH := Lib.hid hz;have hPm := fun (F : FD) g gb n Ab cb gv W x1 x2 x3 => aParity_any S F n g gb poly pts A B A1 A2 Ab c b c1 c2 cb gv W x1 x2 x3 hl2 hl65 hn64
 replace hZ := Lib.hid hZ;clear hGo hz hfit hp1 hp2 htw htop hroot hr hrB hr1;unfold PrtPost;go_enter Tryz.func25,Tryz.ntmps25;obtain ⟨a0,a1,a2,a3,a4,a5,a6,a7⟩ := hbG.out.c8;go_wp2_with (fail);rw [← hZ.out];simp only [← hs];have hsw : w.heap.size ≤ s := Nat.le_of_eq hs.symm;replace hs := Lib.hid hs;go_wp2_with (fail);(with_reducible refine hq.out.mono ?_);rintro e w1 ⟨hb1,⟨hne,-⟩ | ⟨-,F,rt,k0,n,g,gb,Ab,cb,gv,rfl,-,-,-,rfl,hpr,hrv⟩⟩
 ·exact absurd hzH.out hne
 clear a0 a1 a2 a3 a4 a5 a6 a7 hq;obtain ⟨pb,hpb⟩ : ∃ pb,pb = w1.heap.size := ⟨_,rfl⟩;obtain ⟨Y,hY⟩ : ∃ Y,Y = w1.alloc (.cells #[.int .i64 S.p,.int .i64 S.m,.slice A S.mod.length c,.pointer (some ⟨g,0,none⟩),.slice (some ⟨gb,0,none⟩) F.q F.q,.slice Ab n cb,.int .i64 S.m] 130) := ⟨_,rfl⟩;have hbY : Below w1.heap.size w1 Y := by rw [hY]; exact (Below.refl _ _).alloc (Nat.le_refl _) _
 have hYs : pb < Y.heap.size := by rw [hY,hpb]; simp
 have hbP : Hid (Bxs Y pb [.int .i64 S.p,.int .i64 S.m,.slice A S.mod.length c,.pointer (some ⟨g,0,none⟩),.slice (some ⟨gb,0,none⟩) F.q F.q,.slice Ab n cb,.int .i64 S.m]) := by rw [hY,hpb]; exact Bxs.new w1 _ _
 have hbZY := hb1.trans (hbY.mono hb1.size);have hBY := hB.trans (hbZY.mono hB.size);have hgY : GF Y Y.heap.size g F := ((hpr.below hbY).more hbY.size).gf;have hq := hPm F g gb n Ab cb gv Y hgY ((hr2.below hBY).more hBY.size) ((hrv.below hbY).more hbY.size);unfold ParPost at hq;replace hq := Lib.hid hq;obtain ⟨x0,x1,x2,x3,x4,x5,x6,x7⟩ := (hbG.out.keep hbZY (show s < Z.heap.size by omega)).c8;obtain ⟨y0,y1,y2,y3,y4,y5,y6⟩ := hbP.out.c7;rw [hY] at x0 x1 x2 x3 x4 x5 x6 x7;rw [hY,hpb] at y0 y1 y2 y3 y4 y5 y6;replace hY := Lib.hid hY;replace hpb := Lib.hid hpb;clear hPm hpr;go_wp2_with (fail);rw [← hY.out];(with_reducible refine hq.out.mono ?_);rintro e w2 ⟨Al,cl,rfl,hru,hb2⟩;clear hq x0 x1 x2 x3 x4 x5 x6 x7 y0 y1 y2 y3 y4 y5 y6;have hbZ2 := hbZY.trans (hb2.mono hbZY.size);have hB2 := hB.trans (hbZ2.mono hB.size);obtain ⟨u0,u1⟩ := (hbR.out.keep hbZ2 hZs).c2;obtain ⟨v0,v1⟩ := (hbR.out.keep hbZ2 hZs).f2;have hYs1 : s + 1 < Y.heap.size := Nat.lt_of_lt_of_le hZs hbZY.size;have hrm : Hid (RdM (stAll w2 (s + 1) 0 [.int .i64 pts.length,.slice Al (poly.length - 1) cl]) (stAll w2 (s + 1) 0 [.int .i64 pts.length,.slice Al (poly.length - 1) cl]).heap.size Al (poly.length - 1) (gopR F poly pts)) := by
  have h := hru.keepU (w' := stAll w2 (s + 1) 0 [.int .i64 pts.length,.slice Al (poly.length - 1) cl]) fun p h1 _ => stAll_cell (by omega) _ 0 w2
  have h2 := h.rdm;rw [stAll_size];exact h2
 have hfin : Hid (Below w.heap.size w (stAll w2 (s + 1) 0 [.int .i64 pts.length,.slice Al (poly.length - 1) cl])) := stAll_below (by omega) _ _ _ hB2;clear hru;go_wp2_with (fail);exact bodyPost_ret (v := .tuple #[.agg #[.int .i64 pts.length,.slice Al (poly.length - 1) cl],.int .i64 0]) (by simp [results,Tryz.results25,go_sem,u0,u1]) rfl ⟨F,Al,cl,rfl,rfl,hrm.out,hfin.out⟩
end
section
open Go.RowKit Cw

set_option maxHeartbeats 1000000 in
theorem Elems18_any (D : Desc) (msg : List Int) (K e0 : Int) (A A3 : Option Addr) (c c3 : Nat) (w : World) (hr3 : Rd w w.heap.size A3 msg) (h3 : msg.length ≤ maxLen) :
  Calls Tryz.prog 97 #[.agg #[.int .i64 D.p,.int .i64 D.m,.slice A D.mod.length c],.slice A3 msg.length c3,.int .i64 K,.int .i64 e0] w fun e w' => e = .returned (.int .i64 (elErr D msg K e0)) ∧ Below w.heap.size w w' := by
 have hm3 := h3;unfold maxLen at hm3;have hI := fun x W => Is_any D x A D.mod.length c W
 have hbx0 := Bx.new w D A D.mod.length c 24;have hB0 : Below w.heap.size w (w.alloc (.cells #[.int .i64 D.p,.int .i64 D.m,.slice A D.mod.length c] 24)) := (Below.refl _ _).alloc (Nat.le_refl _) _;by_cases hK : (msg.length : Int) = K;rotate_left
 ·have hv : Hid (elErr D msg K e0 = e0) := if_pos hK;have hKb : ((msg.length : Int) != K) = true := by rw [bne_iff_ne]; exact hK
  clear hK;go_enter Tryz.func97,Tryz.ntmps97;go_wp2_with (fail);go_ret;exact ⟨by rw [hv.out]; rfl,hB0⟩
 have hv0 : Hid (elErr D msg K e0 = if elB D msg = false then 2 else 0) := if_neg (not_not_intro hK);subst hK;go_enter Tryz.func97,Tryz.ntmps97;go_wp2_with (fail);go_loopw [9] (fun i wr => ∃ k : Nat,k ≤ msg.length ∧ i = .int .i64 k ∧ Hid (∀ j,j < k → 0 ≤ msg[j]?.getD 0 ∧ msg[j]?.getD 0 < (D.q : Int)) ∧ Bx wr w.heap.size D A D.mod.length c ∧ Below w.heap.size w wr ∧ w.heap.size < wr.heap.size) (fun i _ => msg.length - (intOf i).toNat)
 case atStart => exact ⟨0,by omega,rfl,fun j hj => absurd hj (by omega),hbx0,hB0,by simp⟩
 case round =>
  clear hbx0 hB0;obtain ⟨w2,rfl⟩ : ∃ w2 : World,w2 = wr := ⟨_,rfl⟩;obtain ⟨k,hk,rfl,hall,hbx,hB2,hns2⟩ := hrel;by_cases hlt : k < msg.length
  ·have hk0 : (0 : Int) ≤ (k : Int) := by omega
   have hk1 : (k : Int) < (msg.length : Int) := by omega
   obtain ⟨b,o,rfl,hb,hc⟩ := hr3.at_ hlt;have hd := (hB2.cell (p := ⟨b,o + k,none⟩) hb).trans hc;have hb' := Nat.lt_of_lt_of_le hb hB2.size;have hI2 := fun W => hI (msg[k]?.getD 0) W
   by_cases hy : 0 ≤ msg[k]?.getD 0 ∧ msg[k]?.getD 0 < (D.q : Int)
   ·have hall2 : Hid (∀ j,j < k + 1 → 0 ≤ msg[j]?.getD 0 ∧ msg[j]?.getD 0 < (D.q : Int)) := fun j hj => by
     by_cases e : j = k
     ·subst e; exact hy
     ·exact hall.out j (by omega)
    rw [decide_eq_true hy] at hI2;replace hI2 := fun W => Lib.hid (hI2 W)
    clear hy hc;generalize msg[k]?.getD 0 = y at *;have hcc := Lib.hid (show _ ∧ _ ∧ _ ∧ _ from ⟨hbx.cells.1,hbx.cells.2.1,hbx.cells.2.2,hd⟩);clear hd;go_wp2_with (fail);go_region_held3 (fun w' => w'.cell? ⟨w.heap.size,0,none⟩ = some (.int .i64 D.p) ∧ w'.cell? ⟨w.heap.size,1,none⟩ = some (.int .i64 D.m) ∧ w'.cell? ⟨w.heap.size,2,none⟩ = some (.slice A D.mod.length c) ∧ w'.cell? ⟨b,o + k,none⟩ = some (.int .i64 y)) (first | exact hcc.out | exact hcc1.out)
     (first
      | (go_at_call 28; (with_reducible refine (hI2 _).out.mono ?_); rintro e w3 ⟨rfl,hb3⟩; have hcc1 := Lib.hid (show _ ∧ _ ∧ _ ∧ _ from ⟨(keep3 hb3 hns2 ⟨hcc.out.1,hcc.out.2.1,hcc.out.2.2.1⟩).1,(keep3 hb3 hns2 ⟨hcc.out.1,hcc.out.2.1,hcc.out.2.2.1⟩).2.1,(keep3 hb3 hns2 ⟨hcc.out.1,hcc.out.2.1,hcc.out.2.2.1⟩).2.2,(hb3.cell (p := ⟨b,o + k,none⟩) hb').trans hcc.out.2.2.2⟩)))
    go_wp2_with (fail);go_roundw
    case rel => exact ⟨k + 1,by omega,by go_num,hall2,⟨hcc1.out.1,hcc1.out.2.1,hcc1.out.2.2.1⟩,hB2.drew.trans (hb3.mono hB2.size),Nat.lt_of_lt_of_le hns2 hb3.size⟩
    case measure => simp [intOf]; omega
   ·have hv : Hid (elErr D msg msg.length e0 = 2) := hv0.out.trans (if_pos (elB_no hlt hy));rw [decide_eq_false hy] at hI2;replace hI2 := fun W => Lib.hid (hI2 W)
    clear hy hc;generalize msg[k]?.getD 0 = y at *;have hcc := Lib.hid (show _ ∧ _ ∧ _ ∧ _ from ⟨hbx.cells.1,hbx.cells.2.1,hbx.cells.2.2,hd⟩);clear hd;go_wp2_with (fail);go_region_held3 (fun w' => w'.cell? ⟨w.heap.size,0,none⟩ = some (.int .i64 D.p) ∧ w'.cell? ⟨w.heap.size,1,none⟩ = some (.int .i64 D.m) ∧ w'.cell? ⟨w.heap.size,2,none⟩ = some (.slice A D.mod.length c) ∧ w'.cell? ⟨b,o + k,none⟩ = some (.int .i64 y)) (first | exact hcc.out | exact hcc1.out)
     (first
      | (go_at_call 28; (with_reducible refine (hI2 _).out.mono ?_); rintro e w3 ⟨rfl,hb3⟩; have hcc1 := Lib.hid (show _ ∧ _ ∧ _ ∧ _ from ⟨(keep3 hb3 hns2 ⟨hcc.out.1,hcc.out.2.1,hcc.out.2.2.1⟩).1,(keep3 hb3 hns2 ⟨hcc.out.1,hcc.out.2.1,hcc.out.2.2.1⟩).2.1,(keep3 hb3 hns2 ⟨hcc.out.1,hcc.out.2.1,hcc.out.2.2.1⟩).2.2,(hb3.cell (p := ⟨b,o + k,none⟩) hb').trans hcc.out.2.2.2⟩)))
    go_wp2_with (fail);go_ret;exact ⟨by rw [hv.out]; rfl,hB2.drew.trans (hb3.mono hB2.size)⟩
  ·obtain rfl : k = msg.length := by omega
   have hv : Hid (elErr D msg msg.length e0 = 0) := hv0.out.trans (if_neg (by rw [elB_iff.2 hall.out]; simp));go_wp2_with (fail);go_ret;exact ⟨by rw [hv.out]; rfl,hB2⟩
end
section
open Go.RowKit Cw
attribute [local go_sem] Oper.semAt_some

set_option maxHeartbeats 1000000 in
theorem elems19_any (D : Desc) (l : List Int) (K : Int) (A A3 : Option Addr) (c c3 : Nat) (w : World) (hr3 : Rd w w.heap.size A3 l) (h3 : l.length ≤ maxLen) :
  Calls Tryz.prog 31 #[.agg #[.int .i64 D.p,.int .i64 D.m,.slice A D.mod.length c],.slice A3 l.length c3,.int .i64 K] w fun e w' => e = .returned (.bool (elErr D l K 4 == 0)) ∧ Below w.heap.size w w' := by
 obtain ⟨Z,hZ⟩ : ∃ Z,Z = w.alloc (.cells #[.int .i64 D.p,.int .i64 D.m,.slice A D.mod.length c] 24) := ⟨_,rfl⟩;have hB : Below w.heap.size w Z := by rw [hZ]; exact (Below.refl _ _).alloc (Nat.le_refl _) _
 obtain ⟨q0,q1,q2⟩ := alloc3 w (.int .i64 D.p) (.int .i64 D.m) (.slice A D.mod.length c) 24;have hq := Lib.hid (Elems18_any D l K 4 A A3 c c3 Z ((hr3.below hB).more hB.size) h3);replace hZ := Lib.hid hZ;generalize elErr D l K 4 = E at *;go_enter Tryz.func31,Tryz.ntmps31;go_wp2_with (fail);rw [← hZ.out];(with_reducible refine hq.out.mono ?_);rintro e w1 ⟨rfl,hb⟩;go_wp2_with (fail);go_ret;exact ⟨rfl,hB.trans (hb.mono hB.size)⟩
theorem elErr4_zero {D : Desc} {l : List Int} {K : Int} (h : elErr D l K 4 = 0) : (l.length : Int) = K ∧ elB D l = true := by
 unfold elErr at h;by_cases h1 : (l.length : Int) ≠ K
 ·rw [if_pos h1] at h; cases h
 ·rw [if_neg h1] at h;refine ⟨Classical.not_not.1 h1,?_⟩
  cases hb : elB D l with
  | true => rfl
  | false => rw [hb,if_pos rfl] at h; cases h
noncomputable def imgL (S F : FD) (rt N : Nat) (u : Nat → R S.toDesc) : List Int := rowL F.toDesc N fun j => phi S F (rel F.toDesc rt) (u j)
set_option maxRecDepth 100000 in
set_option maxHeartbeats 4000000 in
theorem Image19_ok (S F : FD) (rt N : Nat) (u : Nat → R S.toDesc) (A B Aw : Option Addr) (c b cw : Nat) (w : World) (hr : Rd w w.heap.size A (modL S.toDesc)) (hrB : Rd w w.heap.size B (modL F.toDesc)) (hp : S.p = F.p) (hrt : IsRt S F rt) (hrw : Rd w w.heap.size Aw (rowL S.toDesc N u)) (hN : N ≤ 1000) :
  Calls Tryz.prog 32 #[.agg #[.int .i64 S.p,.int .i64 S.m,.slice A S.mod.length c],.agg #[.int .i64 F.p,.int .i64 F.m,.slice B F.mod.length b],.slice Aw N cw] w (Gives w.heap.size (imgL S F rt N u) w) := by
 have hSq := S.toDesc.q256;obtain ⟨s,hs⟩ : ∃ s,s = w.heap.size := ⟨_,rfl⟩;obtain ⟨Z,hZ⟩ : ∃ Z,Z = (w.alloc (.cells #[.int .i64 S.p,.int .i64 S.m,.slice A S.mod.length c] 24)).alloc (.cells #[.int .i64 F.p,.int .i64 F.m,.slice B F.mod.length b] 24) := ⟨_,rfl⟩;have hB : Below w.heap.size w Z := by rw [hZ]; exact ((Below.refl _ _).alloc (Nat.le_refl _) _).alloc (by simp) _
 have hbA : Hid (Bxs Z s [.int .i64 S.p,.int .i64 S.m,.slice A S.mod.length c]) := by rw [hZ,hs]; exact (Bxs.new w _ _).keep ((Below.refl _ _).alloc (Nat.le_refl _) _) (by simp)
 have hbG : Hid (Bxs Z (s + 1) [.int .i64 F.p,.int .i64 F.m,.slice B F.mod.length b]) := by rw [hZ,hs]; have := Bxs.new (w.alloc (.cells #[.int .i64 S.p,.int .i64 S.m,.slice A S.mod.length c] 24)) [.int .i64 F.p,.int .i64 F.m,.slice B F.mod.length b] 24; rw [World.size_alloc] at this; exact this
 have hq := Lib.hid (Embed7_any S F rt A B c b Z ((hr.below hB).more hB.size) ((hrB.below hB).more hB.size) hp hrt);have hmk := mk_ints N (by omega);obtain ⟨f,hf⟩ : ∃ f : Nat → Int,f = fun j => ci (phi S F (rel F.toDesc rt) (u j)) := ⟨_,rfl⟩
 have himg : Hid (lst N f = imgL S F rt N u) := by rw [hf]; exact Lib.hid rfl
 have hlen : Hid ((imgL S F rt N u).length = N) := rowL_length _ _ _;have hfe : Hid (∀ j,(embL S F rt)[rcode (u j)]?.getD 0 = f j) := fun j => by rw [hf,embL_get S F rt (rcode_lt (u j)),rel_rcode]
 have hrwZ := hrw.below hB;unfold Gives;rw [← himg.out,lst_length];replace hZ := Lib.hid hZ;replace hf := Lib.hid hf;clear hp hrt hr hrB hrw;go_enter Tryz.func32,Tryz.ntmps32;obtain ⟨a0,a1,a2⟩ := hbA.out.c3;obtain ⟨d0,d1,d2⟩ := hbG.out.c3;go_wp2_with (fail);rw [← hZ.out];simp only [← hs];have hsw : w.heap.size ≤ s := Nat.le_of_eq hs.symm;replace hs := Lib.hid hs;go_wp2_with (fail);(with_reducible refine hq.out.mono ?_);rintro e w1 ⟨v,rfl,hown,hb1⟩;clear hq a0 a1 a2 d0 d1 d2;obtain ⟨Ae,ce,rfl,hce,hre,hAe⟩ := hown.form;rw [embL_length] at hce ⊢;have hB1 := hB.trans (hb1.mono hB.size);obtain ⟨gd,hgd⟩ : ∃ gd,gd = w1.heap.size := ⟨_,rfl⟩;obtain ⟨Y,hY⟩ : ∃ Y,Y = w1.alloc (.cells (Array.replicate N (Value.int .i64 0)) 3) := ⟨_,rfl⟩;have hib0 : Hid (IB Y gd (upd N 0 f)) := by rw [hY,hgd,upd_zero]; exact Lib.hid (IB.newz w1 N)
 have hbY : Below gd w1 Y := by rw [hY,hgd]; exact (Below.refl _ _).alloc (Nat.le_refl _) _
 have hwd : w.heap.size ≤ gd := by rw [hgd]; exact hB1.size
 have hre1 : Rd w1 gd Ae (embL S F rt) := by rw [hgd]; exact hre
 replace hY := Lib.hid hY;clear hown hre;go_wp2_with (fail);rw [← hY.out];simp only [← hgd];replace hgd := Lib.hid hgd;go_loopw [9] (fun iS wr => ∃ k : Nat,k ≤ N ∧ iS = .int .i64 k ∧ Hid (IB wr gd (upd N k f)) ∧ Below gd w1 wr) (fun iS _ => N - (intOf iS).toNat)
 case atStart => exact ⟨0,by omega,rfl,hib0,hbY⟩
 case round =>
  clear hib0 hbY hmk;obtain ⟨w2,rfl⟩ : ∃ w2 : World,w2 = wr := ⟨_,rfl⟩;obtain ⟨k,hk,rfl,hib,hbw⟩ := hrel;by_cases hkN : k < N
  ·have k0 : (0 : Int) ≤ (k : Int) := by omega
   have k1 : (k : Int) < (N : Int) := by omega
   obtain ⟨bw,ow,rfl,hbw1,hcw⟩ := hrwZ.at_ (k := k) (by rw [rowL_length]; exact hkN);rw [rowL_get _ _ hkN] at hcw;have hcw2 := ((hb1.trans (hbw.mono (by have := hgd.out; have := hb1.size; omega))).cell (p := ⟨bw,ow + k,none⟩) (show bw < Z.heap.size by have := hB.size; omega)).trans hcw;obtain ⟨x,hx⟩ : ∃ x : Nat,x = rcode (u k) := ⟨_,rfl⟩;have hxl : x < S.q := by rw [hx]; exact rcode_lt _
   rw [show ci (u k) = (x : Int) from by rw [hx]; rfl] at hcw2;obtain ⟨be,oe,rfl,hbe,hce2⟩ := hre1.at_ (k := x) (by rw [embL_length]; exact hxl);rw [hx,hfe.out k,← hx] at hce2;have hce3 := (hbw.cell (p := ⟨be,oe + x,none⟩) hbe).trans hce2;obtain ⟨y,hy⟩ : ∃ y,y = f k := ⟨_,rfl⟩;rw [← hy] at hce3;have x0 : (0 : Int) ≤ (x : Int) := by omega
   have x1 : (x : Int) < (S.q : Int) := by omega
   have hcW := hib.out.cell (i := k) (by rw [upd_length]; exact hkN);have hfW := hib.out.frozen k;have hset := hib.out.set_ k y;rw [hy,upd_set,← hy] at hset;replace hset := Lib.hid hset;have hbw2 := Lib.hid (hbw.setCell (p := ⟨gd,k,none⟩) (Nat.le_refl _) (.int .i64 y));replace hx := Lib.hid hx;replace hy := Lib.hid hy;clear hcw hce2 hib;go_wp2_with (fail);go_roundw
   case rel => exact ⟨k + 1,by omega,by go_num,hset,hbw2.out⟩
   case measure => simp [intOf]; omega
  ·obtain rfl : N = k := by omega
   rw [upd_full] at hib;go_wp2_with (fail);go_ret;exact ⟨gd,rfl,hwd,hib.out,hB1.trans (hbw.mono hwd)⟩
end
section
open Go.RowKit Cw
attribute [local go_sem] Oper.semAt_some

set_option maxRecDepth 100000 in
set_option maxHeartbeats 1000000 in
theorem Dot4b_any (D : Desc) (a b : List Int) (n : Nat) (ha : a.length = n) (hb : b.length = n) (A A1 A2 : Option Addr) (c c1 c2 : Nat) (w : World) (hr : Rd w w.heap.size A (modL D)) (hr1 : Rd w w.heap.size A1 a) (hr2 : Rd w w.heap.size A2 b) (hn : n ≤ maxLen) :
  Calls Tryz.prog 33 #[.agg #[.int .i64 D.p,.int .i64 D.m,.slice A D.mod.length c],.slice A1 n c1,.slice A2 n c2] w fun e w' => e = .returned (.int .i64 (ci (rsum n fun i => eli D (a[i]?.getD 0) * eli D (b[i]?.getD 0)))) ∧ Below w.heap.size w w' := by
 unfold maxLen at hn;have hM := fun y z W hr => Lib.hid (Mul_any D y z A c W hr)
 have hA := fun y z W => Lib.hid (Add_any D y z A D.mod.length c W)
 have hbx0 := Bx.new w D A D.mod.length c 24;have hB0 : Below w.heap.size w (w.alloc (.cells #[.int .i64 D.p,.int .i64 D.m,.slice A D.mod.length c] 24)) := (Below.refl _ _).alloc (Nat.le_refl _) _;replace ha := Lib.hid ha;replace hb := Lib.hid hb;go_enter Tryz.func33,Tryz.ntmps33;go_wp2_with (fail);go_loopw [8,7] (fun i o wr => ∃ k : Nat,k ≤ n ∧ i = .int .i64 k ∧ o = .int .i64 (ci (rsum k fun i => eli D (a[i]?.getD 0) * eli D (b[i]?.getD 0))) ∧ Bx wr w.heap.size D A D.mod.length c ∧ Below w.heap.size w wr ∧ w.heap.size < wr.heap.size) (fun i _ _ => n - (intOf i).toNat)
 case atStart => exact ⟨0,by omega,rfl,by rw [rsum_zero,ci_zero],hbx0,hB0,by simp⟩
 case round =>
  obtain ⟨k,hk,rfl,rfl,hbx,hbw,hsz⟩ := hrel;by_cases hlt : k < n
  ·have hk0 : (0 : Int) ≤ (k : Int) := by omega
   have hk1 : (k : Int) < (n : Int) := by omega
   obtain ⟨b1,o1,rfl,hb1,hc1⟩ := hr1.at_ (by rw [ha.out]; exact hlt : k < a.length);obtain ⟨b2,o2,rfl,hb2,hc2⟩ := hr2.at_ (by rw [hb.out]; exact hlt : k < b.length);have hd1 := (hbw.cell (p := ⟨b1,o1 + k,none⟩) hb1).trans hc1;have hd2 := (hbw.cell (p := ⟨b2,o2 + k,none⟩) hb2).trans hc2;obtain ⟨x,hx⟩ : ∃ x,x = a[k]?.getD 0 := ⟨_,rfl⟩;obtain ⟨y,hy⟩ : ∃ y,y = b[k]?.getD 0 := ⟨_,rfl⟩;rw [← hx] at hd1;rw [← hy] at hd2;have hM2 := fun W hr => hM x y W hr
   have hA2 := fun W => (hA (ci (rsum k fun i => eli D (a[i]?.getD 0) * eli D (b[i]?.getD 0))) (ci (eli D x * eli D y)) W).out
   have hs : rsum k (fun i => eli D (a[i]?.getD 0) * eli D (b[i]?.getD 0)) + eli D x * eli D y = rsum (k + 1) (fun i => eli D (a[i]?.getD 0) * eli D (b[i]?.getD 0)) := by rw [rsum_succ,hx,hy]
   rw [eli_ci,eli_ci,hs] at hA2;replace hA2 := fun W => Lib.hid (hA2 W)
   have hrr := (hr.below hbw).more hbw.size;have hbo1 : b1 < wr.heap.size := Nat.lt_of_lt_of_le hb1 hbw.size;have hbo2 : b2 < wr.heap.size := Nat.lt_of_lt_of_le hb2 hbw.size;have hcc := Lib.hid (show _ ∧ _ ∧ _ ∧ _ ∧ _ from ⟨hbx.cells.1,hbx.cells.2.1,hbx.cells.2.2,hd1,hd2⟩);have hk5 : ∀ {W w1 : World} {v0 v1 v2 v3 v4 : Value},Below W.heap.size W w1 → w.heap.size < W.heap.size → b1 < W.heap.size → b2 < W.heap.size → (W.cell? ⟨w.heap.size,0,none⟩ = some v0 ∧ W.cell? ⟨w.heap.size,1,none⟩ = some v1 ∧ W.cell? ⟨w.heap.size,2,none⟩ = some v2 ∧ W.cell? ⟨b1,o1 + k,none⟩ = some v3 ∧ W.cell? ⟨b2,o2 + k,none⟩ = some v4) →
     w1.cell? ⟨w.heap.size,0,none⟩ = some v0 ∧ w1.cell? ⟨w.heap.size,1,none⟩ = some v1 ∧ w1.cell? ⟨w.heap.size,2,none⟩ = some v2 ∧ w1.cell? ⟨b1,o1 + k,none⟩ = some v3 ∧ w1.cell? ⟨b2,o2 + k,none⟩ = some v4 := fun h1 h2 h3 h3' h4 =>
    have := keep3 h1 h2 ⟨h4.1,h4.2.1,h4.2.2.1⟩
    ⟨this.1,this.2.1,this.2.2,(h1.cell (p := ⟨b1,o1 + k,none⟩) h3).trans h4.2.2.2.1,(h1.cell (p := ⟨b2,o2 + k,none⟩) h3').trans h4.2.2.2.2⟩
   replace hk5 := fun {W w1 : World} {v0 v1 v2 v3 v4 : Value} a1 a2 a3 a4 a5 => Lib.hid (@hk5 W w1 v0 v1 v2 v3 v4 a1 a2 a3 a4 a5)
   clear hc1 hc2 hs hy hx hbx hd1 hd2;go_wp2_with (fail);go_region_held3 (fun w' => w'.cell? ⟨w.heap.size,0,none⟩ = some (.int .i64 D.p) ∧ w'.cell? ⟨w.heap.size,1,none⟩ = some (.int .i64 D.m) ∧ w'.cell? ⟨w.heap.size,2,none⟩ = some (.slice A D.mod.length c) ∧ w'.cell? ⟨b1,o1 + k,none⟩ = some (.int .i64 x) ∧ w'.cell? ⟨b2,o2 + k,none⟩ = some (.int .i64 y)) (first | exact hcc.out | exact hcc1.out | exact hcc2.out)
    (first
     | (go_at_call 29; (with_reducible refine (hM2 _ hrr.drew).out.mono ?_); rintro e w1 ⟨rfl,hb1⟩; have hcc1 := hk5 hb1 hsz hbo1 hbo2 hcc.out; have hs1 : wr.heap.size ≤ w1.heap.size := hb1.size; have hbw1 := (hbw.drew).trans (hb1.mono hbw.size))
     | (go_at_call 96; (with_reducible refine (hA2 _).out.mono ?_); rintro e w2 ⟨rfl,hb2⟩; have hcc2 := hk5 hb2 (Nat.lt_of_lt_of_le hsz hs1) (Nat.lt_of_lt_of_le hbo1 hs1) (Nat.lt_of_lt_of_le hbo2 hs1) hcc1.out; have hbw2 := hbw1.trans (hb2.mono hbw1.size)))
   have hs2 : w.heap.size < w2.heap.size := Nat.lt_of_lt_of_le (Nat.lt_of_lt_of_le hsz hs1) hb2.size;have hbx2 : Bx w2 w.heap.size D A D.mod.length c := ⟨hcc2.out.1,hcc2.out.2.1,hcc2.out.2.2.1⟩;go_wp2_with (fail);go_roundw
   case rel => exact ⟨k + 1,by omega,by go_num,rfl,hbx2,hbw2,hs2⟩
   case measure => simp [intOf]; omega
  ·obtain rfl : k = n := by omega
   go_wp2_with (fail);go_ret;exact ⟨rfl,hbw⟩
end
section
open Go.RowKit Cw
open Cw.CField (inv)
attribute [local go_sem] Oper.semAt_some

set_option maxHeartbeats 1000000 in
theorem PowN_any (D : FD) (x : Int) (n : Nat) (A : Option Addr) (c : Nat) (w : World) (hr : Rd w w.heap.size A (modL D.toDesc)) (hn2 : n ≤ 4294967296) :
  Calls Tryz.prog 27 #[.agg #[.int .i64 D.p,.int .i64 D.m,.slice A D.mod.length c],.int .i64 x,.int .i64 n] w fun e w' =>
   e = .returned (.tuple #[.int .i64 (ci (pw (eli D.toDesc x) n)),.int .i64 0]) ∧ Below w.heap.size w w' := by
 by_cases h0 : n = 0
 ·have hv : Hid (ci (pw (eli D.toDesc x) n) = 1) := by rw [Hid,h0,pw_zero,ci_one]
  have hnb : ((n : Int) == 0) = true := by rw [beq_iff_eq]; omega
  obtain ⟨Y,hY⟩ : ∃ Y,Y = w.alloc (.cells #[.int .i64 D.p,.int .i64 D.m,.slice A D.mod.length c] 24) := ⟨_,rfl⟩;have hbx := Lib.hid (Bx.new w D.toDesc A D.mod.length c 24);rw [← hY] at hbx;have hB : Below w.heap.size w Y := by rw [hY]; exact (Below.refl _ _).alloc (Nat.le_refl _) _
  have hI := Lib.hid (In_any D.toDesc x A D.mod.length c Y);rw [hv.out];replace h0 := Lib.hid h0;replace hY := Lib.hid hY;go_enter Tryz.func27,Tryz.ntmps27;obtain ⟨q0,q1,q2⟩ := hbx.out.cells;go_wp2_with (fail);rw [← hY.out];(with_reducible refine hI.out.mono ?_);rintro e w1 ⟨rfl,hb1⟩;go_wp2_with (fail);go_ret2;exact ⟨rfl,hB.trans (hb1.mono hB.size)⟩
 ·exact Pow_any D x n A c w hr (by omega) hn2
theorem gop_entry {S F : FD} {poly pts : List Int} (hz : gopD S.toDesc F.toDesc poly pts = 0) {i j : Nat} (hj : j < pts.length) : gopM F poly pts i j * pevI F.toDesc poly (eli F.toDesc (pts[j]?.getD 0)) = pw (eli F.toDesc (pts[j]?.getD 0)) i := by
 obtain ⟨n,-,-,h3,-⟩ := gop_facts hz;unfold gopM;rw [mul_a,inv_mul (h3 j hj),mul_one]
end
end Go.Proofs.YtjdoneanohhkmaaGreat

/- Layer 18: the reference's Elements. Plain: the code of the words whose images meet checks over the greater field. No Go here. Plain: the words of an alternant code are those whose images are codewords of the Reed-Solomon code; its dimension, its weights. No Go here. Layer 19 of the program: open and Code of a valid description. Layer 19: Designed of a valid description; the law's elements; the images of a word. Plain: tables of images read backwards; the code of the rows of traces; the two descriptions of a Goppa code. No Go here. -/
import Derived.Deep.CutRange
import Derived.IntWalk
import Derived.Maps.Range
import Derived.Maps.RangeWalk
import Derived.Test.YtjdoneanohhkmaaGreatZrU07RRG
import Derived.Test.YtjdoneanohhkmaaGreatZrU07RGA
import Derived.Test.YtjdoneanohhkmaaGreatZrU07RGrsA
import Derived.Test.YtjdoneanohhkmaaGreatZrU07RDivP
import Derived.Test.YtjdoneanohhkmaaGreatZrU07RHasA
import Derived.Test.YtjdoneanohhkmaaGreatZrU07RHasC
import Derived.Test.YtjdoneanohhkmaaGreatZrU07RCodC
import Derived.Test.YtjdoneanohhkmaaGreatZrU07REnc
import Derived.Test.YtjdoneanohhkmaaGreatZrU07RBxs
import Derived.Test.YtjdoneanohhkmaaGreatZrU07RAltP
import Derived.Test.YtjdoneanohhkmaaGreatZrU07RSysW
import Derived.Test.YtjdoneanohhkmaaGreatZrU07RNorW
import Derived.Test.YtjdoneanohhkmaaGreatZrU07RPoR
import Derived.Test.YtjdoneanohhkmaaGreatZrU07REmbT
import Derived.Test.YtjdoneanohhkmaaGreatZrU07RAltF
import Derived.Test.YtjdoneanohhkmaaGreatZrU07RNul
import Derived.Test.YtjdoneanohhkmaaGreatZrU07REmbR
import Derived.Test.YtjdoneanohhkmaaGreatZrU07RAltR
import Derived.Test.YtjdoneanohhkmaaGreatZrU07RGrsU
set_option linter.unusedVariables false
set_option linter.unusedSimpArgs false
namespace Go.Proofs.YtjdoneanohhkmaaGreat
section
open Go.RowKit Cw

set_option maxHeartbeats 1000000 in
theorem Elems18_any (D : Desc) (msg : List Int) (K e0 : Int) (A A3 : Option Addr) (c c3 : Nat) (w : World) (hr3 : Rd w w.heap.size A3 msg) (h3 : msg.length ≤ maxLen) :
  Calls Tryz.prog 97 #[.agg #[.int .i64 D.p,.int .i64 D.m,.slice A D.mod.length c],.slice A3 msg.length c3,.int .i64 K,.int .i64 e0] w fun e w' => e = .returned (.int .i64 (elErr D msg K e0)) ∧ Below w.heap.size w w' := by
 have hm3 := h3;unfold maxLen at hm3;have hI := fun x W => Is_any D x A D.mod.length c W
 have hbx0 := Bx.new w D A D.mod.length c 24;have hB0 : Below w.heap.size w (w.alloc (.cells #[.int .i64 D.p,.int .i64 D.m,.slice A D.mod.length c] 24)) := (Below.refl _ _).alloc (Nat.le_refl _) _;by_cases hK : (msg.length : Int) = K;rotate_left
 ·have hv : Hid (elErr D msg K e0 = e0) := if_pos hK;have hKb : ((msg.length : Int) != K) = true := by rw [bne_iff_ne]; exact hK
  clear hK;go_enter Tryz.func97,Tryz.ntmps97;go_wp2_with (fail);go_ret;exact ⟨by rw [hv.out]; rfl,hB0⟩
 have hv0 : Hid (elErr D msg K e0 = if elB D msg = false then 2 else 0) := if_neg (not_not_intro hK);subst hK;go_enter Tryz.func97,Tryz.ntmps97;go_wp2_with (fail);go_loopw [9] (fun i wr => ∃ k : Nat,k ≤ msg.length ∧ i = .int .i64 k ∧ Hid (∀ j,j < k → 0 ≤ msg[j]?.getD 0 ∧ msg[j]?.getD 0 < (D.q : Int)) ∧ Bx wr w.heap.size D A D.mod.length c ∧ Below w.heap.size w wr ∧ w.heap.size < wr.heap.size) (fun i _ => msg.length - (intOf i).toNat)
 case atStart => exact ⟨0,by omega,rfl,fun j hj => absurd hj (by omega),hbx0,hB0,by simp⟩
 case round =>
  clear hbx0 hB0;obtain ⟨w2,rfl⟩ : ∃ w2 : World,w2 = wr := ⟨_,rfl⟩;obtain ⟨k,hk,rfl,hall,hbx,hB2,hns2⟩ := hrel;by_cases hlt : k < msg.length
  ·have hk0 : (0 : Int) ≤ (k : Int) := by omega
   have hk1 : (k : Int) < (msg.length : Int) := by omega
   obtain ⟨b,o,rfl,hb,hc⟩ := hr3.at_ hlt;have hd := (hB2.cell (p := ⟨b,o + k,none⟩) hb).trans hc;have hb' := Nat.lt_of_lt_of_le hb hB2.size;have hI2 := fun W => hI (msg[k]?.getD 0) W
   by_cases hy : 0 ≤ msg[k]?.getD 0 ∧ msg[k]?.getD 0 < (D.q : Int)
   ·have hall2 : Hid (∀ j,j < k + 1 → 0 ≤ msg[j]?.getD 0 ∧ msg[j]?.getD 0 < (D.q : Int)) := fun j hj => by
     by_cases e : j = k
     ·subst e; exact hy
     ·exact hall.out j (by omega)
    rw [decide_eq_true hy] at hI2;replace hI2 := fun W => Lib.hid (hI2 W)
    clear hy hc;generalize msg[k]?.getD 0 = y at *;have hcc := Lib.hid (show _ ∧ _ ∧ _ ∧ _ from ⟨hbx.cells.1,hbx.cells.2.1,hbx.cells.2.2,hd⟩);clear hd;go_wp2_with (fail);go_region_held3 (fun w' => w'.cell? ⟨w.heap.size,0,none⟩ = some (.int .i64 D.p) ∧ w'.cell? ⟨w.heap.size,1,none⟩ = some (.int .i64 D.m) ∧ w'.cell? ⟨w.heap.size,2,none⟩ = some (.slice A D.mod.length c) ∧ w'.cell? ⟨b,o + k,none⟩ = some (.int .i64 y)) (first | exact hcc.out | exact hcc1.out)
     (first
      | (go_at_call 28; (with_reducible refine (hI2 _).out.mono ?_); rintro e w3 ⟨rfl,hb3⟩; have hcc1 := Lib.hid (show _ ∧ _ ∧ _ ∧ _ from ⟨(keep3 hb3 hns2 ⟨hcc.out.1,hcc.out.2.1,hcc.out.2.2.1⟩).1,(keep3 hb3 hns2 ⟨hcc.out.1,hcc.out.2.1,hcc.out.2.2.1⟩).2.1,(keep3 hb3 hns2 ⟨hcc.out.1,hcc.out.2.1,hcc.out.2.2.1⟩).2.2,(hb3.cell (p := ⟨b,o + k,none⟩) hb').trans hcc.out.2.2.2⟩)))
    go_wp2_with (fail);go_roundw
    case rel => exact ⟨k + 1,by omega,by go_num,hall2,⟨hcc1.out.1,hcc1.out.2.1,hcc1.out.2.2.1⟩,hB2.drew.trans (hb3.mono hB2.size),Nat.lt_of_lt_of_le hns2 hb3.size⟩
    case measure => simp [intOf]; omega
   ·have hv : Hid (elErr D msg msg.length e0 = 2) := hv0.out.trans (if_pos (elB_no hlt hy));rw [decide_eq_false hy] at hI2;replace hI2 := fun W => Lib.hid (hI2 W)
    clear hy hc;generalize msg[k]?.getD 0 = y at *;have hcc := Lib.hid (show _ ∧ _ ∧ _ ∧ _ from ⟨hbx.cells.1,hbx.cells.2.1,hbx.cells.2.2,hd⟩);clear hd;go_wp2_with (fail);go_region_held3 (fun w' => w'.cell? ⟨w.heap.size,0,none⟩ = some (.int .i64 D.p) ∧ w'.cell? ⟨w.heap.size,1,none⟩ = some (.int .i64 D.m) ∧ w'.cell? ⟨w.heap.size,2,none⟩ = some (.slice A D.mod.length c) ∧ w'.cell? ⟨b,o + k,none⟩ = some (.int .i64 y)) (first | exact hcc.out | exact hcc1.out)
     (first
      | (go_at_call 28; (with_reducible refine (hI2 _).out.mono ?_); rintro e w3 ⟨rfl,hb3⟩; have hcc1 := Lib.hid (show _ ∧ _ ∧ _ ∧ _ from ⟨(keep3 hb3 hns2 ⟨hcc.out.1,hcc.out.2.1,hcc.out.2.2.1⟩).1,(keep3 hb3 hns2 ⟨hcc.out.1,hcc.out.2.1,hcc.out.2.2.1⟩).2.1,(keep3 hb3 hns2 ⟨hcc.out.1,hcc.out.2.1,hcc.out.2.2.1⟩).2.2,(hb3.cell (p := ⟨b,o + k,none⟩) hb').trans hcc.out.2.2.2⟩)))
    go_wp2_with (fail);go_ret;exact ⟨by rw [hv.out]; rfl,hB2.drew.trans (hb3.mono hB2.size)⟩
  ·obtain rfl : k = msg.length := by omega
   have hv : Hid (elErr D msg msg.length e0 = 0) := hv0.out.trans (if_neg (by rw [elB_iff.2 hall.out]; simp));go_wp2_with (fail);go_ret;exact ⟨by rw [hv.out]; rfl,hB2⟩
end
section
open Go.RowKit Cw
section
variable {S F : FD} {r : R F.toDesc} {N t k n : Nat} {h : Nat → Nat → R F.toDesc} {E : Nat → Nat → R S.toDesc}
def Meets (S F : FD) (r : R F.toDesc) (N t : Nat) (h : Nat → Nat → R F.toDesc) (u : Nat → R S.toDesc) : Prop := ∀ i,i < t → rsum N (fun j => h i j * phi S F r (u j)) = 0
end
end
section
open Go.RowKit Cw
open Cw.CField (inv)
section
variable {S F : FD} {r : R F.toDesc} {kn k : Nat} {pts mul wl : List Int} {u : Nat → R S.toDesc}
noncomputable def altH (F : FD) (pts mul : List Int) : Nat → Nat → R F.toDesc := gM F.toDesc pts (dualL F pts mul)
theorem meets_in (hz : gchkD F.toDesc kn pts mul = 0) (hw : ∀ j,j < pts.length → eli F.toDesc (wl[j]?.getD 0) = phi S F r (u j)) : Meets S F r pts.length (pts.length - kn) (altH F pts mul) u ↔ inB F kn pts mul wl = true := by
 rw [← syn_has hz,decide_eq_true_iff,wgt_zero_iff];have hL : ((pts.length : Int) - (kn : Int)).toNat = pts.length - kn := by omega
 have hs : ∀ i,rsum pts.length (fun j => eli F.toDesc ((rowsL F.toDesc pts.length (gM F.toDesc pts (dualL F pts mul)) i)[j]?.getD 0) * eli F.toDesc (wl[j]?.getD 0)) = rsum pts.length fun j => altH F pts mul i j * phi S F r (u j) := fun i => rsum_congr fun j hj => by
  rw [rowsL,rowL_get _ _ hj,eli_ci,hw j hj];rfl
 unfold synL;rw [hL];constructor
 ·intro h x hx;obtain ⟨i,hi,rfl⟩ := List.mem_map.1 hx;rw [hs i,h i (List.mem_range.1 hi),ci_zero]
 ·intro h i hi;rw [← hs i];exact ci_eq_zero.1 (h _ (List.mem_map.2 ⟨i,List.mem_range.2 hi,rfl⟩))
end
end
section
open Go.RowKit Cw
attribute [local go_sem] Oper.semAt_some

def AOpPost (S : FD) (D : Desc) (A : Option Addr) (c : Nat) (w : World) (e : Ending) (w' : World) : Prop :=
 ∃ (F : FD) (rt k0 n g gb : Nat) (Ab : Option Addr) (cb : Nat),F.toDesc = D ∧ IsRt S F rt ∧ IsNrm F S.m n k0 ∧ F.m / S.m = n ∧ e = .returned (.tuple #[.agg #[.int .i64 S.p,.int .i64 S.m,.slice A S.mod.length c,.pointer (some ⟨g,0,none⟩),.slice (some ⟨gb,0,none⟩) F.q F.q,.slice Ab n cb,.int .i64 S.m],.int .i64 0]) ∧ PairAt S F rt k0 n w.heap.size g gb Ab w' w'.heap.size ∧ Below w.heap.size w w'
set_option maxRecDepth 100000 in
set_option maxHeartbeats 16000000 in
theorem aOpen_ok (S : FD) (D : Desc) (kn : Nat) (pts mul : List Int) (A B A1 A2 : Option Addr) (c b c1 c2 : Nat) (w : World) (hr : Rd w w.heap.size A (modL S.toDesc)) (hrB : Rd w w.heap.size B (modL D)) (hS : Good S.p S.m (modL S.toDesc)) (hD : Good D.p D.m (modL D)) (hr1 : Rd w w.heap.size A1 pts) (hr2 : Rd w w.heap.size A2 mul) (hz : gchkD D kn pts mul = 0) (hf : fitB S.toDesc D = true) (hc1 : pts.length ≤ c1) (hc1' : c1 ≤ maxLen) :
  Calls Tryz.prog 113 #[.agg #[.int .i64 S.p,.int .i64 S.m,.slice A S.mod.length c],.agg #[.int .i64 D.p,.int .i64 D.m,.slice B D.mod.length b,.int .i64 (kn : Int),.slice A1 pts.length c1,.slice A2 mul.length c2]] w (AOpPost S D A c w) := by
 obtain ⟨hn1,hn64,hlen,-,-,-,-,-,-⟩ := gchkD_zero hz;have hCk := fCheck_D S.toDesc A c;rw [chk_yes hS] at hCk;replace hCk := fun W a => Lib.hid (hCk W a)
 have hNw := fun W a => Lib.hid (New_low D B b W a hD)
 have hGc := fun W x1 x2 x3 => gCheck_D D kn pts mul B A1 A2 b c1 c2 W x1 hD x2 x3 hc1 hc1' (by unfold maxLen; omega)
 rw [hz] at hGc;replace hGc := fun W x1 x2 x3 => Lib.hid (hGc W x1 x2 x3)
 replace hlen := Lib.hid hlen;obtain ⟨s,hs⟩ : ∃ s,s = w.heap.size := ⟨_,rfl⟩;obtain ⟨Z,hZ⟩ : ∃ Z,Z = ((w.alloc (.cells #[.int .i64 S.p,.int .i64 S.m,.slice A S.mod.length c] 24)).alloc (.cells #[.int .i64 D.p,.int .i64 D.m,.slice B D.mod.length b,.int .i64 (kn : Int),.slice A1 pts.length c1,.slice A2 mul.length c2] 72)).alloc (.cells #[.int .i64 0,.int .i64 0,.slice none 0 0,.pointer none,.slice none 0 0,.slice none 0 0,.int .i64 0] 130) := ⟨_,rfl⟩;have hB : Below w.heap.size w Z := by rw [hZ]; exact (((Below.refl _ _).alloc (Nat.le_refl _) _).alloc (by simp) _).alloc (by simp; omega) _
 have hZs : Z.heap.size = s + 1 + 1 + 1 := by rw [hZ,hs]; simp
 have hbA : Hid (Bxs Z s [.int .i64 S.p,.int .i64 S.m,.slice A S.mod.length c]) := by rw [hZ,hs]; exact ((Bxs.new w _ _).keep ((Below.refl _ _).alloc (Nat.le_refl _) _) (by simp)).keep ((Below.refl _ _).alloc (Nat.le_refl _) _) (by simp; omega)
 have hbG : Hid (Bxs Z (s + 1) [.int .i64 D.p,.int .i64 D.m,.slice B D.mod.length b,.int .i64 (kn : Int),.slice A1 pts.length c1,.slice A2 mul.length c2]) := by
  rw [hZ,hs];have h9 := Bxs.new (w.alloc (.cells #[.int .i64 S.p,.int .i64 S.m,.slice A S.mod.length c] 24)) [.int .i64 D.p,.int .i64 D.m,.slice B D.mod.length b,.int .i64 (kn : Int),.slice A1 pts.length c1,.slice A2 mul.length c2] 72;rw [World.size_alloc] at h9;exact h9.keep ((Below.refl _ _).alloc (Nat.le_refl _) _) (by simp)
 have hbR : Hid (Bxs Z (s + 1 + 1) [.int .i64 0,.int .i64 0,.slice none 0 0,.pointer none,.slice none 0 0,.slice none 0 0,.int .i64 0]) := by
  rw [hZ,hs];have h9 := Bxs.new ((w.alloc (.cells #[.int .i64 S.p,.int .i64 S.m,.slice A S.mod.length c] 24)).alloc (.cells #[.int .i64 D.p,.int .i64 D.m,.slice B D.mod.length b,.int .i64 (kn : Int),.slice A1 pts.length c1,.slice A2 mul.length c2] 72)) [.int .i64 0,.int .i64 0,.slice none 0 0,.pointer none,.slice none 0 0,.slice none 0 0,.int .i64 0] 130;rw [World.size_alloc,World.size_alloc] at h9;exact h9
 have hq := hCk Z ((hr.below hB).more hB.size);replace hZ := Lib.hid hZ;replace hZs := Lib.hid hZs;clear hCk;unfold AOpPost;go_enter Tryz.func113,Tryz.ntmps113;obtain ⟨a0,a1,a2⟩ := hbA.out.c3;go_wp2_with (fail);rw [← hZ.out];simp only [← hs];have hsw : w.heap.size ≤ s := Nat.le_of_eq hs.symm;replace hs := Lib.hid hs;go_wp2_with (fail);(with_reducible refine hq.out.mono ?_);rintro e w1 ⟨rfl,hb1⟩;clear hq a0 a1 a2;have hsZ : s + 1 + 1 < Z.heap.size := by have := hZs.out; omega
 have hs1 : s + 1 + 1 < w1.heap.size := Nat.lt_of_lt_of_le hsZ hb1.size;have hB1 := hB.trans (hb1.mono hB.size);have hq := hGc w1 ((hrB.below hB1).more hB1.size) ((hr1.below hB1).more hB1.size) ((hr2.below hB1).more hB1.size);obtain ⟨a0,a1,a2,a3,a4,a5⟩ := (hbG.out.keep hb1 (by omega)).c6;go_wp2_with (fail);(with_reducible refine hq.out.mono ?_);rintro e w2 ⟨rfl,hb2⟩;clear hq a0 a1 a2 a3 a4 a5;have hbz2 := hb1.trans (hb2.mono hb1.size);have hB2 := hB.trans (hbz2.mono hB.size);have hq := hNw w2 ((hrB.below hB2).more hB2.size);obtain ⟨a0,a1,a2,a3,a4,a5⟩ := (hbG.out.keep hbz2 (by omega)).c6;go_wp2_with (fail);(with_reducible refine hq.out.mono ?_);rintro e w3 ⟨g,F,rfl,rfl,hgu,hb3⟩;clear hq a0 a1 a2 a3 a4 a5;have hbz3 := hbz2.trans (hb3.mono hbz2.size);have hB3 := hB.trans (hbz3.mono hB.size);obtain ⟨hp,hd⟩ := fitB_iff.1 hf;have hdv : S.m ∣ F.m := by
  obtain ⟨d,e1,-,-,e2⟩ := divB_nat hd;rw [show S.m = d by omega]; exact e2
 obtain ⟨rt,hrt⟩ := isRt_ex (S := S) (F := F) hp hdv;obtain ⟨k0,hk0⟩ := isNrm_ex F hdv S.m1;obtain ⟨n,hn⟩ : ∃ n,F.m / S.m = n := ⟨_,rfl⟩;rw [hn] at hk0;have hq := fit_yes S F rt k0 n A c g w3 hgu.gf ((hr.below hB3).more hB3.size) hS hp hd hrt hn hk0;unfold FitPost at hq;replace hq := Lib.hid hq;replace hn := Lib.hid hn;replace hp := Lib.hid hp;replace hd := Lib.hid hd;obtain ⟨a0,a1,a2⟩ := (hbA.out.keep hbz3 (by omega)).c3;go_wp2_with (fail);(with_reducible refine hq.out.mono ?_);rintro e w4 ⟨gb,Ab,cb,rfl,hgb,hib,hrb,hAb,hb4⟩;clear hq a0 a1 a2;have hbz4 := hbz3.trans (hb4.mono hbz3.size);have hB4 := hB.trans (hbz4.mono hB.size);have hL3 : w2.heap.size ≤ w3.heap.size := hb3.size;have hL2 : s + 1 + 1 < w2.heap.size := Nat.lt_of_lt_of_le hsZ hbz2.size;have hpr : PairAt S F rt k0 n w2.heap.size g gb Ab w4 w4.heap.size := ⟨(hgu.below hb4).more hb4.size,Nat.le_trans hL3 hgb,hib.lt,hib,RdU.of hrb fun a e => Nat.le_trans hL3 (hAb a e)⟩;have hbR4 := hbR.out.keep hbz4 hsZ;obtain ⟨u0,u1,u2,u3,u4,u5,u6⟩ := hbR4.c7;obtain ⟨v0,v1,v2,v3,v4,v5,v6⟩ := hbR4.f7;have hfin : Hid (AOpPost S F.toDesc A c w (.returned (.tuple #[.agg #[.int .i64 S.p,.int .i64 S.m,.slice A S.mod.length c,.pointer (some ⟨g,0,none⟩),.slice (some ⟨gb,0,none⟩) F.q F.q,.slice Ab n cb,.int .i64 S.m],.int .i64 0])) (stAll w4 (s + 1 + 1) 0 [.int .i64 S.p,.int .i64 S.m,.slice A S.mod.length c,.pointer (some ⟨g,0,none⟩),.slice (some ⟨gb,0,none⟩) F.q F.q,.slice Ab n cb,.int .i64 S.m])) := by
  refine ⟨F,rt,k0,n,g,gb,Ab,cb,rfl,hrt,hk0,hn.out,rfl,?_,stAll_below (by omega) _ _ _ hB4⟩;rw [stAll_size];exact (hpr.farS hL2 _).low (by omega)
 clear hpr hgb hib hrb hgu hbR4;go_wp2_with (fail);exact bodyPost_ret (v := .tuple #[.agg #[.int .i64 S.p,.int .i64 S.m,.slice A S.mod.length c,.pointer (some ⟨g,0,none⟩),.slice (some ⟨gb,0,none⟩) F.q F.q,.slice Ab n cb,.int .i64 S.m],.int .i64 0]) (by simp [results,Tryz.results113,go_sem,u0,u1,u2,u3,u4,u5,u6]) rfl hfin.out
end
section
open Go.RowKit Cw
attribute [local go_sem] Oper.semAt_some

set_option maxRecDepth 100000 in
set_option maxHeartbeats 16000000 in
theorem aDes_ok (S : FD) (D : Desc) (kn : Nat) (pts mul : List Int) (A B A1 A2 : Option Addr) (c b c1 c2 : Nat) (w : World) (hr : Rd w w.heap.size A (modL S.toDesc)) (hrB : Rd w w.heap.size B (modL D)) (hS : Good S.p S.m (modL S.toDesc)) (hD : Good D.p D.m (modL D)) (hr1 : Rd w w.heap.size A1 pts) (hr2 : Rd w w.heap.size A2 mul) (hz : gchkD D kn pts mul = 0) (hf : fitB S.toDesc D = true) (hc1 : pts.length ≤ c1) (hc1' : c1 ≤ maxLen) :
  Calls Tryz.prog 119 #[.agg #[.int .i64 S.p,.int .i64 S.m,.slice A S.mod.length c],.agg #[.int .i64 D.p,.int .i64 D.m,.slice B D.mod.length b,.int .i64 (kn : Int),.slice A1 pts.length c1,.slice A2 mul.length c2]] w fun e w' => e = .returned (.tuple #[.int .i64 ((pts.length : Int) - (kn : Int) + 1),.int .i64 0]) ∧ Below w.heap.size w w' := by
 obtain ⟨hn1,hn64,hlen,-,-,-,-,-,hkn⟩ := gchkD_zero hz;have hOp := fun W x1 x2 x3 x4 => Lib.hid (aOpen_ok S D kn pts mul A B A1 A2 c b c1 c2 W x1 x2 hS hD x3 x4 hz hf hc1 hc1')
 obtain ⟨s,hs⟩ : ∃ s,s = w.heap.size := ⟨_,rfl⟩;obtain ⟨Z,hZ⟩ : ∃ Z,Z = (w.alloc (.cells #[.int .i64 S.p,.int .i64 S.m,.slice A S.mod.length c] 24)).alloc (.cells #[.int .i64 D.p,.int .i64 D.m,.slice B D.mod.length b,.int .i64 (kn : Int),.slice A1 pts.length c1,.slice A2 mul.length c2] 72) := ⟨_,rfl⟩;have hB : Below w.heap.size w Z := by rw [hZ]; exact ((Below.refl _ _).alloc (Nat.le_refl _) _).alloc (by simp) _
 have hbA : Hid (Bxs Z s [.int .i64 S.p,.int .i64 S.m,.slice A S.mod.length c]) := by rw [hZ,hs]; exact (Bxs.new w _ _).keep ((Below.refl _ _).alloc (Nat.le_refl _) _) (by simp)
 have hbG : Hid (Bxs Z (s + 1) [.int .i64 D.p,.int .i64 D.m,.slice B D.mod.length b,.int .i64 (kn : Int),.slice A1 pts.length c1,.slice A2 mul.length c2]) := by rw [hZ,hs]; have := Bxs.new (w.alloc (.cells #[.int .i64 S.p,.int .i64 S.m,.slice A S.mod.length c] 24)) [.int .i64 D.p,.int .i64 D.m,.slice B D.mod.length b,.int .i64 (kn : Int),.slice A1 pts.length c1,.slice A2 mul.length c2] 72; rw [World.size_alloc] at this; exact this
 have hZs : s + 1 < Z.heap.size := by rw [hZ,hs]; simp
 have hq := hOp Z ((hr.below hB).more hB.size) ((hrB.below hB).more hB.size) ((hr1.below hB).more hB.size) ((hr2.below hB).more hB.size);unfold AOpPost at hq;have w1a : IntKind.i64.wrap ((pts.length : Int) - (kn : Int)) = (pts.length : Int) - (kn : Int) := by rw [IntWalk.i64_in _ (by omega)]
 have w1b : IntKind.i64.wrap ((pts.length : Int) - (kn : Int) + 1) = (pts.length : Int) - (kn : Int) + 1 := by rw [IntWalk.i64_in _ (by omega)]
 replace hZ := Lib.hid hZ;replace hlen := Lib.hid hlen;clear hOp;go_enter Tryz.func119,Tryz.ntmps119;obtain ⟨a0,a1,a2⟩ := hbA.out.c3;obtain ⟨d0,d1,d2,d3,d4,d5⟩ := hbG.out.c6;go_wp2_with (fail);rw [← hZ.out];simp only [← hs];replace hs := Lib.hid hs;go_wp2_with (fail);(with_reducible refine hq.out.mono ?_);rintro e w1 ⟨F,rt,k0,n,g,gb,Ab,cb,rfl,-,-,-,rfl,-,hb1⟩;clear hq a0 a1 a2 d0 d1 d2 d3 d4 d5;obtain ⟨Y,hY⟩ : ∃ Y,Y = w1.alloc (.cells #[.int .i64 S.p,.int .i64 S.m,.slice A S.mod.length c,.pointer (some ⟨g,0,none⟩),.slice (some ⟨gb,0,none⟩) F.q F.q,.slice Ab n cb,.int .i64 S.m] 130) := ⟨_,rfl⟩;have hbY : Below w1.heap.size w1 Y := by rw [hY]; exact (Below.refl _ _).alloc (Nat.le_refl _) _
 have hbZY := hb1.trans (hbY.mono hb1.size);obtain ⟨d0,d1,d2,d3,d4,d5⟩ := (hbG.out.keep hbZY hZs).c6;rw [hY] at d3 d4;replace hY := Lib.hid hY;have hfin := Lib.hid (hB.trans (hbZY.mono hB.size));go_wp2_with (fail);rw [← hY.out];go_ret2;exact ⟨rfl,hfin.out⟩
noncomputable def imgL (S F : FD) (rt N : Nat) (u : Nat → R S.toDesc) : List Int := rowL F.toDesc N fun j => phi S F (rel F.toDesc rt) (u j)
end
section
open Go.RowKit Cw
open Cw.CField (inv)

def bkS (l : List Int) (x : Int) : Nat → Nat → Int
 | 0,_ => 0
 | n + 1,i => if l[i]?.getD 0 = x then i else bkS l x n (i + 1)
def bkI (l : List Int) (x : Int) : Int := bkS l x l.length 0
theorem bkS_at {l : List Int} {x : Int} {i : Nat} (h : l[i]?.getD 0 = x) : ∀ n i0,i0 ≤ i → i < i0 + n → (∀ j,i0 ≤ j → j < i → l[j]?.getD 0 ≠ x) → bkS l x n i0 = i
 | 0,i0,h1,h2,_ => absurd h2 (by omega)
 | n + 1,i0,h1,h2,hn => by
  unfold bkS;by_cases e : i0 = i
  ·rw [e,if_pos h]
  ·rw [if_neg (hn i0 (Nat.le_refl _) (by omega))];exact bkS_at h n (i0 + 1) (by omega) (by omega) fun j a b => hn j (by omega) b
theorem bkS_no {l : List Int} {x : Int} : ∀ n i0,(∀ j,i0 ≤ j → j < i0 + n → l[j]?.getD 0 ≠ x) → bkS l x n i0 = 0
 | 0,_,_ => rfl
 | n + 1,i0,hn => by
  unfold bkS;rw [if_neg (hn i0 (Nat.le_refl _) (by omega))];exact bkS_no n (i0 + 1) fun j a b => hn j (by omega) (by omega)
theorem bkI_at {l : List Int} {x : Int} {i : Nat} (hi : i < l.length) (h : l[i]?.getD 0 = x) (hn : ∀ j,j < i → l[j]?.getD 0 ≠ x) : bkI l x = i :=
 bkS_at h l.length 0 (by omega) (by omega) fun j _ b => hn j b
theorem bkI_no {l : List Int} {x : Int} (hn : ∀ j,j < l.length → l[j]?.getD 0 ≠ x) : bkI l x = 0 := bkS_no l.length 0 fun j _ b => hn j (by omega)
section
variable {S F : FD} {rt : Nat}
theorem bkI_emb (hp : S.p = F.p) (h0 : muV S F (rel F.toDesc rt) = 0) (y : R F.toDesc) : bkI (embL S F rt) (ci y) = ci (bk S F (rel F.toDesc rt) y) := by
 by_cases h : ∃ u,phi S F (rel F.toDesc rt) u = y
 ·obtain ⟨u,rfl⟩ := h;rw [bk_phi hp h0 u];refine bkI_at (i := rcode u) (by rw [embL_length]; exact rcode_lt u) (by rw [embL_get S F rt (rcode_lt u),rel_rcode]) fun j hj e => ?_
  have hjq : j < S.q := Nat.lt_trans hj (rcode_lt u);rw [embL_get S F rt hjq] at e;have h1 := phi_inj (char_two hp) h0 (ci_inj e);have h2 : j = rcode u := by rw [← h1,rcode_rel hjq]
  omega
 ·rw [bk_out h,ci_zero];refine bkI_no fun j hj e => h ?_
  rw [embL_length] at hj;rw [embL_get S F rt hj] at e;exact ⟨_,ci_inj e⟩
noncomputable def trM (S F : FD) (rt : Nat) (h : Nat → Nat → R F.toDesc) : Nat → Nat → R S.toDesc := fun r j => bk S F (rel F.toDesc rt) (tr S.m (pw (Xc F.toDesc) (r % F.m) * h (r / F.m) j))
theorem orth_tr (hp : S.p = F.p) (h0 : muV S F (rel F.toDesc rt) = 0) (hd : S.m ∣ F.m) {t N : Nat} {h : Nat → Nat → R F.toDesc} {u : Nat → R S.toDesc} : Orth (t * F.m) N (trM S F rt h) u ↔ Meets S F (rel F.toDesc rt) N t h u := by
 obtain ⟨n,hn⟩ := hd;have hm1 := F.m1;have hn1 : 1 ≤ n := by
  rcases Nat.eq_zero_or_pos n with e | e
  ·rw [e,Nat.mul_zero] at hn; omega
  ·exact e
 constructor
 ·intro H i hi;refine (row_tr hp h0 hn.symm hn1 (h i) u).2 fun k hk => ?_
  have h1 := H (i * F.m + k) (by
   have h2 : (i + 1) * F.m ≤ t * F.m := Nat.mul_le_mul_right _ hi;rw [Nat.succ_mul] at h2;omega)
  rw [← h1];refine rsum_congr fun j _ => ?_
  unfold trM;rw [show (i * F.m + k) % F.m = k from by rw [Nat.mul_comm,Nat.mul_add_mod]; exact Nat.mod_eq_of_lt hk,show (i * F.m + k) / F.m = i from by rw [Nat.mul_comm,Nat.mul_add_div (by omega),Nat.div_eq_of_lt hk,Nat.add_zero]]
 ·intro H r hr;have h1 := (row_tr hp h0 hn.symm hn1 (h (r / F.m)) u).1 (H (r / F.m) ((Nat.div_lt_iff_lt_mul (by omega)).2 hr)) (r % F.m) (Nat.mod_lt _ (by omega));exact h1
noncomputable def nuK (S : FD) (n N : Nat) (M : Nat → Nat → R S.toDesc) : Nat := (npv (pvF (elS n M N).2) (rkS S n N M) N).length
noncomputable def nuM (S : FD) (n N : Nat) (M : Nat → Nat → R S.toDesc) : Nat → Nat → R S.toDesc := (elS (nuK S n N M) (nulM (rkS S n N M) N (pvF (elS n M N).2) (elS n M N).1) N).1
theorem nuK_le (n N : Nat) (M : Nat → Nat → R S.toDesc) : nuK S n N M ≤ N := by
 unfold nuK npv;exact Nat.le_trans (List.length_filter_le _ _) (by rw [List.length_range]; exact Nat.le_refl _)
theorem nu_span {n N : Nat} {M : Nat → Nat → R S.toDesc} (u : Nat → R S.toDesc) : Span (rkS S (nuK S n N M) N (nuM S n N M)) N (elS (nuK S n N M) (nuM S n N M) N).1 u ↔ Orth n N M u := by
 have h1 := elS_span (nuK S n N M) N (nuM S n N M);have h2 := elS_span (nuK S n N M) N (nulM (rkS S n N M) N (pvF (elS n M N).2) (elS n M N).1);have hi := nul_indep (F := R S.toDesc) (m := N) (r := rkS S n N M) (p := pvF (elS n M N).2) (A := (elS n M N).1);rw [show (elS (nuK S n N M) (nulM (rkS S n N M) N (pvF (elS n M N).2) (elS n M N).1) N).2.length = nuK S n N M from rk_full hi] at h2;have h3 := nul_iff (elS_RR n N M) u;have h4 := Orth.same (elS_span n N M) u;rw [← h4,← h3];exact (same_iff h1 u).trans (same_iff h2 u)
end
end
end Go.Proofs.YtjdoneanohhkmaaGreat

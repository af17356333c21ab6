/- Layer 18: the reference's Elements. Layer 19: Designed of a valid description; the law's elements; the images of a word. The reference's Numerator: the walk. -/
import Derived.BigQuiet
import Derived.Lib.AppendZerosOnto
import Derived.Test.YtakonlfojblcmaaGreatZeGA
import Derived.Test.YtakonlfojblcmaaGreatZeLA
import Derived.Test.YtakonlfojblcmaaGreatZeMH
import Derived.Test.YtakonlfojblcmaaGreatZeCodP
import Derived.Test.YtakonlfojblcmaaGreatZeKnlP
import Derived.Test.YtakonlfojblcmaaGreatZeGpoA
import Derived.Test.YtakonlfojblcmaaGreatZePol5m
import Derived.Test.YtakonlfojblcmaaGreatZeApR
import Derived.Test.YtakonlfojblcmaaGreatZeKnl
import Derived.Test.YtakonlfojblcmaaGreatZeDivW
import Derived.Test.YtakonlfojblcmaaGreatZeV05
import Derived.Test.YtakonlfojblcmaaGreatZeGopRow
import Derived.Test.YtakonlfojblcmaaGreatZeOnce
import Derived.Test.YtakonlfojblcmaaGreatZeEmbR
import Derived.Test.YtakonlfojblcmaaGreatZeDiv5
import Derived.Test.YtakonlfojblcmaaGreatZeDiv6
import Derived.Test.YtakonlfojblcmaaGreatZeTk
namespace Go.Proofs.YtakonlfojblcmaaGreat
section
open Go.RowKit Cw

set_option maxHeartbeats 1000000 in
theorem Elems18_any (D : Desc) (msg : List Int) (K e0 : Int) (A A3 : Option Addr) (c c3 : Nat) (w : World) (hr3 : Rd w w.heap.size A3 msg) (h3 : msg.length ≤ maxLen) :
  Calls Tryz.prog 101 #[.agg #[.int .i64 D.p, .int .i64 D.m, .slice A D.mod.length c], .slice A3 msg.length c3, .int .i64 K, .int .i64 e0] w fun e w' => e = .returned (.int .i64 (elErr D msg K e0)) ∧ Below w.heap.size w w' := by
 have hm3 := h3;unfold maxLen at hm3;have hI := fun x W => Is_any D x A D.mod.length c W
 have hbx0 := Bx.new w D A D.mod.length c 24;have hB0 : Below w.heap.size w (w.alloc (.cells #[.int .i64 D.p, .int .i64 D.m, .slice A D.mod.length c] 24)) := (Below.refl _ _).alloc (Nat.le_refl _) _;by_cases hK : (msg.length : Int) = K;rotate_left
 ·have hv : Hid (elErr D msg K e0 = e0) := if_pos hK;have hKb : ((msg.length : Int) != K) = true := by rw [bne_iff_ne]; exact hK
  clear hK;go_enter Tryz.func101, Tryz.ntmps101;go_wp2_with (fail);go_ret;exact ⟨by rw [hv.out]; rfl, hB0⟩
 have hv0 : Hid (elErr D msg K e0 = if elB D msg = false then 2 else 0) := if_neg (not_not_intro hK);subst hK;go_enter Tryz.func101, Tryz.ntmps101;go_wp2_with (fail);go_loopw [9] (fun i wr => ∃ k : Nat, k ≤ msg.length ∧ i = .int .i64 k ∧ Hid (∀ j, j < k → 0 ≤ msg[j]?.getD 0 ∧ msg[j]?.getD 0 < (D.q : Int)) ∧ Bx wr w.heap.size D A D.mod.length c ∧ Below w.heap.size w wr ∧ w.heap.size < wr.heap.size) (fun i _ => msg.length - (intOf i).toNat)
 case atStart => exact ⟨0, by omega, rfl, fun j hj => absurd hj (by omega), hbx0, hB0, by simp⟩
 case round =>
  clear hbx0 hB0;obtain ⟨w2, rfl⟩ : ∃ w2 : World, w2 = wr := ⟨_, rfl⟩;obtain ⟨k, hk, rfl, hall, hbx, hB2, hns2⟩ := hrel;by_cases hlt : k < msg.length
  ·have hk0 : (0 : Int) ≤ (k : Int) := by omega
   have hk1 : (k : Int) < (msg.length : Int) := by omega
   obtain ⟨b, o, rfl, hb, hc⟩ := hr3.at_ hlt;have hd := (hB2.cell (p := ⟨b, o + k, none⟩) hb).trans hc;have hb' := Nat.lt_of_lt_of_le hb hB2.size;have hI2 := fun W => hI (msg[k]?.getD 0) W
   by_cases hy : 0 ≤ msg[k]?.getD 0 ∧ msg[k]?.getD 0 < (D.q : Int)
   ·have hall2 : Hid (∀ j, j < k + 1 → 0 ≤ msg[j]?.getD 0 ∧ msg[j]?.getD 0 < (D.q : Int)) := fun j hj => by
     by_cases e : j = k
     ·subst e; exact hy
     ·exact hall.out j (by omega)
    rw [decide_eq_true hy] at hI2;replace hI2 := fun W => Lib.hid (hI2 W)
    clear hy hc;generalize msg[k]?.getD 0 = y at *;have hcc := Lib.hid (show _ ∧ _ ∧ _ ∧ _ from ⟨hbx.cells.1, hbx.cells.2.1, hbx.cells.2.2, hd⟩);clear hd;go_wp2_with (fail);go_region_held3 (fun w' => w'.cell? ⟨w.heap.size, 0, none⟩ = some (.int .i64 D.p) ∧ w'.cell? ⟨w.heap.size, 1, none⟩ = some (.int .i64 D.m) ∧ w'.cell? ⟨w.heap.size, 2, none⟩ = some (.slice A D.mod.length c) ∧ w'.cell? ⟨b, o + k, none⟩ = some (.int .i64 y)) (first | exact hcc.out | exact hcc1.out)
     (first
      | (go_at_call 51; (with_reducible refine (hI2 _).out.mono ?_); rintro e w3 ⟨rfl, hb3⟩; have hcc1 := Lib.hid (show _ ∧ _ ∧ _ ∧ _ from ⟨(keep3 hb3 hns2 ⟨hcc.out.1, hcc.out.2.1, hcc.out.2.2.1⟩).1, (keep3 hb3 hns2 ⟨hcc.out.1, hcc.out.2.1, hcc.out.2.2.1⟩).2.1, (keep3 hb3 hns2 ⟨hcc.out.1, hcc.out.2.1, hcc.out.2.2.1⟩).2.2, (hb3.cell (p := ⟨b, o + k, none⟩) hb').trans hcc.out.2.2.2⟩)))
    go_wp2_with (fail);go_roundw
    case rel => exact ⟨k + 1, by omega, by go_num, hall2, ⟨hcc1.out.1, hcc1.out.2.1, hcc1.out.2.2.1⟩, hB2.drew.trans (hb3.mono hB2.size), Nat.lt_of_lt_of_le hns2 hb3.size⟩
    case measure => simp [intOf]; omega
   ·have hv : Hid (elErr D msg msg.length e0 = 2) := hv0.out.trans (if_pos (elB_no hlt hy));rw [decide_eq_false hy] at hI2;replace hI2 := fun W => Lib.hid (hI2 W)
    clear hy hc;generalize msg[k]?.getD 0 = y at *;have hcc := Lib.hid (show _ ∧ _ ∧ _ ∧ _ from ⟨hbx.cells.1, hbx.cells.2.1, hbx.cells.2.2, hd⟩);clear hd;go_wp2_with (fail);go_region_held3 (fun w' => w'.cell? ⟨w.heap.size, 0, none⟩ = some (.int .i64 D.p) ∧ w'.cell? ⟨w.heap.size, 1, none⟩ = some (.int .i64 D.m) ∧ w'.cell? ⟨w.heap.size, 2, none⟩ = some (.slice A D.mod.length c) ∧ w'.cell? ⟨b, o + k, none⟩ = some (.int .i64 y)) (first | exact hcc.out | exact hcc1.out)
     (first
      | (go_at_call 51; (with_reducible refine (hI2 _).out.mono ?_); rintro e w3 ⟨rfl, hb3⟩; have hcc1 := Lib.hid (show _ ∧ _ ∧ _ ∧ _ from ⟨(keep3 hb3 hns2 ⟨hcc.out.1, hcc.out.2.1, hcc.out.2.2.1⟩).1, (keep3 hb3 hns2 ⟨hcc.out.1, hcc.out.2.1, hcc.out.2.2.1⟩).2.1, (keep3 hb3 hns2 ⟨hcc.out.1, hcc.out.2.1, hcc.out.2.2.1⟩).2.2, (hb3.cell (p := ⟨b, o + k, none⟩) hb').trans hcc.out.2.2.2⟩)))
    go_wp2_with (fail);go_ret;exact ⟨by rw [hv.out]; rfl, hB2.drew.trans (hb3.mono hB2.size)⟩
  ·obtain rfl : k = msg.length := by omega
   have hv : Hid (elErr D msg msg.length e0 = 0) := hv0.out.trans (if_neg (by rw [elB_iff.2 hall.out]; simp));go_wp2_with (fail);go_ret;exact ⟨by rw [hv.out]; rfl, hB2⟩
end
section
open Go.RowKit Cw
attribute [local go_sem] Oper.semAt_some

set_option maxHeartbeats 1000000 in
theorem elems19_any (D : Desc) (l : List Int) (K : Int) (A A3 : Option Addr) (c c3 : Nat) (w : World) (hr3 : Rd w w.heap.size A3 l) (h3 : l.length ≤ maxLen) :
  Calls Tryz.prog 30 #[.agg #[.int .i64 D.p, .int .i64 D.m, .slice A D.mod.length c], .slice A3 l.length c3, .int .i64 K] w fun e w' => e = .returned (.bool (elErr D l K 4 == 0)) ∧ Below w.heap.size w w' := by
 obtain ⟨Z, hZ⟩ : ∃ Z, Z = w.alloc (.cells #[.int .i64 D.p, .int .i64 D.m, .slice A D.mod.length c] 24) := ⟨_, rfl⟩;have hB : Below w.heap.size w Z := by rw [hZ]; exact (Below.refl _ _).alloc (Nat.le_refl _) _
 obtain ⟨q0, q1, q2⟩ := alloc3 w (.int .i64 D.p) (.int .i64 D.m) (.slice A D.mod.length c) 24;have hq := Lib.hid (Elems18_any D l K 4 A A3 c c3 Z ((hr3.below hB).more hB.size) h3);replace hZ := Lib.hid hZ;generalize elErr D l K 4 = E at *;go_enter Tryz.func30, Tryz.ntmps30;go_wp2_with (fail);rw [← hZ.out];(with_reducible refine hq.out.mono ?_);rintro e w1 ⟨rfl, hb⟩;go_wp2_with (fail);go_ret;exact ⟨rfl, hB.trans (hb.mono hB.size)⟩
theorem elErr4_zero {D : Desc} {l : List Int} {K : Int} (h : elErr D l K 4 = 0) : (l.length : Int) = K ∧ elB D l = true := by
 unfold elErr at h;by_cases h1 : (l.length : Int) ≠ K
 ·rw [if_pos h1] at h; cases h
 ·rw [if_neg h1] at h;refine ⟨Classical.not_not.1 h1, ?_⟩
  cases hb : elB D l with
  | true => rfl
  | false => rw [hb, if_pos rfl] at h; cases h
noncomputable def imgL (S F : FD) (rt N : Nat) (u : Nat → R S.toDesc) : List Int := rowL F.toDesc N fun j => phi S F (rel F.toDesc rt) (u j)
set_option maxRecDepth 100000 in
set_option maxHeartbeats 4000000 in
theorem Image19_ok (S F : FD) (rt N : Nat) (u : Nat → R S.toDesc) (A B Aw : Option Addr) (c b cw : Nat) (w : World) (hr : Rd w w.heap.size A (modL S.toDesc)) (hrB : Rd w w.heap.size B (modL F.toDesc)) (hp : S.p = F.p) (hrt : IsRt S F rt) (hrw : Rd w w.heap.size Aw (rowL S.toDesc N u)) (hN : N ≤ 1000) :
  Calls Tryz.prog 54 #[.agg #[.int .i64 S.p, .int .i64 S.m, .slice A S.mod.length c], .agg #[.int .i64 F.p, .int .i64 F.m, .slice B F.mod.length b], .slice Aw N cw] w (Gives w.heap.size (imgL S F rt N u) w) := by
 have hSq := S.toDesc.q256;obtain ⟨s, hs⟩ : ∃ s, s = w.heap.size := ⟨_, rfl⟩;obtain ⟨Z, hZ⟩ : ∃ Z, Z = (w.alloc (.cells #[.int .i64 S.p, .int .i64 S.m, .slice A S.mod.length c] 24)).alloc (.cells #[.int .i64 F.p, .int .i64 F.m, .slice B F.mod.length b] 24) := ⟨_, rfl⟩;have hB : Below w.heap.size w Z := by rw [hZ]; exact ((Below.refl _ _).alloc (Nat.le_refl _) _).alloc (by simp) _
 have hbA : Hid (Bxs Z s [.int .i64 S.p, .int .i64 S.m, .slice A S.mod.length c]) := by rw [hZ, hs]; exact (Bxs.new w _ _).keep ((Below.refl _ _).alloc (Nat.le_refl _) _) (by simp)
 have hbG : Hid (Bxs Z (s + 1) [.int .i64 F.p, .int .i64 F.m, .slice B F.mod.length b]) := by rw [hZ, hs]; have := Bxs.new (w.alloc (.cells #[.int .i64 S.p, .int .i64 S.m, .slice A S.mod.length c] 24)) [.int .i64 F.p, .int .i64 F.m, .slice B F.mod.length b] 24; rw [World.size_alloc] at this; exact this
 have hq := Lib.hid (Embed7_any S F rt A B c b Z ((hr.below hB).more hB.size) ((hrB.below hB).more hB.size) hp hrt);have hmk := mk_ints N (by omega);obtain ⟨f, hf⟩ : ∃ f : Nat → Int, f = fun j => ci (phi S F (rel F.toDesc rt) (u j)) := ⟨_, rfl⟩
 have himg : Hid (lst N f = imgL S F rt N u) := by rw [hf]; exact Lib.hid rfl
 have hlen : Hid ((imgL S F rt N u).length = N) := rowL_length _ _ _;have hfe : Hid (∀ j, (embL S F rt)[rcode (u j)]?.getD 0 = f j) := fun j => by rw [hf, embL_get S F rt (rcode_lt (u j)), rel_rcode]
 have hrwZ := hrw.below hB;unfold Gives;rw [← himg.out, lst_length];replace hZ := Lib.hid hZ;replace hf := Lib.hid hf;clear hp hrt hr hrB hrw;go_enter Tryz.func54, Tryz.ntmps54;obtain ⟨a0, a1, a2⟩ := hbA.out.c3;obtain ⟨d0, d1, d2⟩ := hbG.out.c3;go_wp2_with (fail);rw [← hZ.out];simp only [← hs];have hsw : w.heap.size ≤ s := Nat.le_of_eq hs.symm;replace hs := Lib.hid hs;go_wp2_with (fail);(with_reducible refine hq.out.mono ?_);rintro e w1 ⟨v, rfl, hown, hb1⟩;clear hq a0 a1 a2 d0 d1 d2;obtain ⟨Ae, ce, rfl, hce, hre, hAe⟩ := hown.form;rw [embL_length] at hce ⊢;have hB1 := hB.trans (hb1.mono hB.size);obtain ⟨gd, hgd⟩ : ∃ gd, gd = w1.heap.size := ⟨_, rfl⟩;obtain ⟨Y, hY⟩ : ∃ Y, Y = w1.alloc (.cells (Array.replicate N (Value.int .i64 0)) 3) := ⟨_, rfl⟩;have hib0 : Hid (IB Y gd (upd N 0 f)) := by rw [hY, hgd, upd_zero]; exact Lib.hid (IB.newz w1 N)
 have hbY : Below gd w1 Y := by rw [hY, hgd]; exact (Below.refl _ _).alloc (Nat.le_refl _) _
 have hwd : w.heap.size ≤ gd := by rw [hgd]; exact hB1.size
 have hre1 : Rd w1 gd Ae (embL S F rt) := by rw [hgd]; exact hre
 replace hY := Lib.hid hY;clear hown hre;go_wp2_with (fail);rw [← hY.out];simp only [← hgd];replace hgd := Lib.hid hgd;go_loopw [9] (fun iS wr => ∃ k : Nat, k ≤ N ∧ iS = .int .i64 k ∧ Hid (IB wr gd (upd N k f)) ∧ Below gd w1 wr) (fun iS _ => N - (intOf iS).toNat)
 case atStart => exact ⟨0, by omega, rfl, hib0, hbY⟩
 case round =>
  clear hib0 hbY hmk;obtain ⟨w2, rfl⟩ : ∃ w2 : World, w2 = wr := ⟨_, rfl⟩;obtain ⟨k, hk, rfl, hib, hbw⟩ := hrel;by_cases hkN : k < N
  ·have k0 : (0 : Int) ≤ (k : Int) := by omega
   have k1 : (k : Int) < (N : Int) := by omega
   obtain ⟨bw, ow, rfl, hbw1, hcw⟩ := hrwZ.at_ (k := k) (by rw [rowL_length]; exact hkN);rw [rowL_get _ _ hkN] at hcw;have hcw2 := ((hb1.trans (hbw.mono (by have := hgd.out; have := hb1.size; omega))).cell (p := ⟨bw, ow + k, none⟩) (show bw < Z.heap.size by have := hB.size; omega)).trans hcw;obtain ⟨x, hx⟩ : ∃ x : Nat, x = rcode (u k) := ⟨_, rfl⟩;have hxl : x < S.q := by rw [hx]; exact rcode_lt _
   rw [show ci (u k) = (x : Int) from by rw [hx]; rfl] at hcw2;obtain ⟨be, oe, rfl, hbe, hce2⟩ := hre1.at_ (k := x) (by rw [embL_length]; exact hxl);rw [hx, hfe.out k, ← hx] at hce2;have hce3 := (hbw.cell (p := ⟨be, oe + x, none⟩) hbe).trans hce2;obtain ⟨y, hy⟩ : ∃ y, y = f k := ⟨_, rfl⟩;rw [← hy] at hce3;have x0 : (0 : Int) ≤ (x : Int) := by omega
   have x1 : (x : Int) < (S.q : Int) := by omega
   have hcW := hib.out.cell (i := k) (by rw [upd_length]; exact hkN);have hfW := hib.out.frozen k;have hset := hib.out.set_ k y;rw [hy, upd_set, ← hy] at hset;replace hset := Lib.hid hset;have hbw2 := Lib.hid (hbw.setCell (p := ⟨gd, k, none⟩) (Nat.le_refl _) (.int .i64 y));replace hx := Lib.hid hx;replace hy := Lib.hid hy;clear hcw hce2 hib;go_wp2_with (fail);go_roundw
   case rel => exact ⟨k + 1, by omega, by go_num, hset, hbw2.out⟩
   case measure => simp [intOf]; omega
  ·obtain rfl : N = k := by omega
   rw [upd_full] at hib;go_wp2_with (fail);go_ret;exact ⟨gd, rfl, hwd, hib.out, hB1.trans (hbw.mono hwd)⟩
end
section
open Go.RowKit Cw
attribute [local go_sem] Oper.semAt_some

theorem num_keep {F : Desc} {B : Option Addr} {s bp op N c2 k b : Nat} {y : Int} {W W' : World} {H : Nat} (hb : Below H W W') (hs : s < H) (hp : bp < H) (h : W.cell? ⟨s, 3, none⟩ = some (.int .i64 F.p) ∧ W.cell? ⟨s, 4, none⟩ = some (.int .i64 F.m) ∧ W.cell? ⟨s, 5, none⟩ = some (.slice B F.mod.length b) ∧ W.cell? ⟨s, 7, none⟩ = some (.slice (some ⟨bp, op, none⟩) N c2) ∧ W.cell? ⟨bp, op + k, none⟩ = some (.int .i64 y)) : W'.cell? ⟨s, 3, none⟩ = some (.int .i64 F.p) ∧ W'.cell? ⟨s, 4, none⟩ = some (.int .i64 F.m) ∧ W'.cell? ⟨s, 5, none⟩ = some (.slice B F.mod.length b) ∧ W'.cell? ⟨s, 7, none⟩ = some (.slice (some ⟨bp, op, none⟩) N c2) ∧ W'.cell? ⟨bp, op + k, none⟩ = some (.int .i64 y) :=
 ⟨(hb.cell (p := ⟨s, 3, none⟩) hs).trans h.1, (hb.cell (p := ⟨s, 4, none⟩) hs).trans h.2.1, (hb.cell (p := ⟨s, 5, none⟩) hs).trans h.2.2.1, (hb.cell (p := ⟨s, 7, none⟩) hs).trans h.2.2.2.1, (hb.cell (p := ⟨bp, op + k, none⟩) hp).trans h.2.2.2.2⟩
noncomputable def numer (S F : FD) (rt : Nat) (pts : List Int) (u : Nat → R S.toDesc) : List Int := sumK F.toDesc (fun j => ci (phi S F (rel F.toDesc rt) (u j))) (fun j => pts[j]?.getD 0) pts.length pts.length
def NumPost (S F : FD) (rt : Nat) (pts : List Int) (u : Nat → R S.toDesc) (w : World) (e : Ending) (w' : World) : Prop :=
 ∃ A' c', e = .returned (.slice A' (numer S F rt pts u).length c') ∧ Rd w' w'.heap.size A' (numer S F rt pts u) ∧ Below w.heap.size w w'
theorem numK_zero (D : Desc) (f x : Nat → Int) (i : Nat) : numK D f x i 0 = [f i] := rfl
theorem sumK_succ (D : Desc) (f x : Nat → Int) (N i : Nat) : sumK D f x N (i + 1) = addI D (sumK D f x N i) (numK D f x i N) := rfl
set_option maxRecDepth 100000 in
set_option maxHeartbeats 4000000 in
theorem Num19_ok (S F : FD) (rt : Nat) (poly pts : List Int) (u : Nat → R S.toDesc) (A B A1 A2 Aw : Option Addr) (c b c1 c2 cw : Nat) (w : World) (hr : Rd w w.heap.size A (modL S.toDesc)) (hrB : Rd w w.heap.size B (modL F.toDesc)) (hp : S.p = F.p) (hrt : IsRt S F rt) (hr2 : Rd w w.heap.size A2 pts) (hrw : Rd w w.heap.size Aw (rowL S.toDesc pts.length u)) (hN1 : pts.length ≤ 400) :
  Calls Tryz.prog 34 #[.agg #[.int .i64 S.p, .int .i64 S.m, .slice A S.mod.length c, .int .i64 F.p, .int .i64 F.m, .slice B F.mod.length b, .slice A1 poly.length c1, .slice A2 pts.length c2], .slice Aw pts.length cw] w (NumPost S F rt pts u w) := by
 obtain ⟨N, hN⟩ : ∃ N, N = pts.length := ⟨_, rfl⟩;obtain ⟨f, hf⟩ : ∃ f : Nat → Int, f = fun j => ci (phi S F (rel F.toDesc rt) (u j)) := ⟨_, rfl⟩
 obtain ⟨x, hx⟩ : ∃ x : Nat → Int, x = fun j => pts[j]?.getD 0 := ⟨_, rfl⟩
 have hnum : numer S F rt pts u = sumK F.toDesc f x N N := by unfold numer; rw [← hf, ← hx, ← hN]
 have hxg : Hid (∀ j, pts[j]?.getD 0 = x j) := fun j => by rw [hx]
 have himg : Hid (imgL S F rt N u = lst N f) := by rw [hf]; exact Lib.hid rfl
 unfold NumPost;rw [hnum];rw [← hN] at hrw hN1 ⊢;obtain ⟨s, hs⟩ : ∃ s, s = w.heap.size := ⟨_, rfl⟩;obtain ⟨Z, hZ⟩ : ∃ Z, Z = w.alloc (.cells #[.int .i64 S.p, .int .i64 S.m, .slice A S.mod.length c, .int .i64 F.p, .int .i64 F.m, .slice B F.mod.length b, .slice A1 poly.length c1, .slice A2 N c2] 44) := ⟨_, rfl⟩;have hB : Below w.heap.size w Z := by rw [hZ]; exact (Below.refl _ _).alloc (Nat.le_refl _) _
 have hbG : Hid (Bxs Z s [.int .i64 S.p, .int .i64 S.m, .slice A S.mod.length c, .int .i64 F.p, .int .i64 F.m, .slice B F.mod.length b, .slice A1 poly.length c1, .slice A2 N c2]) := by rw [hZ, hs]; exact Bxs.new w _ _
 have hZs : s < Z.heap.size := by rw [hZ, hs]; simp
 have hq := Image19_ok S F rt N u A B Aw c b cw Z ((hr.below hB).more hB.size) ((hrB.below hB).more hB.size) hp hrt ((hrw.below hB).more hB.size) (by omega);unfold Gives at hq;rw [himg.out, lst_length] at hq;replace hq := Lib.hid hq;have hNeg := fun y W => Lib.hid (Neg_any F.toDesc y B F.mod.length b W)
 have hMul := fun i k B1 B2 d1 d2 W h0 h1 h2 => Mul5_any F.toDesc (numK F.toDesc f x i k) [ci (-(eli F.toDesc (x k))), 1] B B1 B2 b d1 d2 W h0 h1 h2
 have hAdd := fun i B1 B2 d1 d2 W h1 h2 => Add5_any F.toDesc (sumK F.toDesc f x N i) (numK F.toDesc f x i N) B B1 B2 b d1 d2 W h1 h2 (by have := sumK_le F.toDesc f x N i; omega) (by have := numK_le F.toDesc f x i N; omega)
 have hnle := Lib.hid (numK_le F.toDesc f x);have hrBZ := hrB.below hB;have hr2Z := hr2.below hB;replace hZ := Lib.hid hZ;replace hf := Lib.hid hf;replace hx := Lib.hid hx;replace hN := Lib.hid hN;clear hp hrt hr hrB hr2 hrw hnum himg;go_enter Tryz.func34, Tryz.ntmps34;obtain ⟨d0, d1, d2, d3, d4, d5, d6, d7⟩ := hbG.out.c8;go_wp2_with (fail);rw [← hZ.out];simp only [← hs];have hsw : w.heap.size ≤ s := Nat.le_of_eq hs.symm;replace hs := Lib.hid hs;go_wp2_with (fail);(with_reducible refine hq.out.mono ?_);rintro e w1 ⟨gi, rfl, hgi, hib, hb1⟩;clear hq d0 d1 d2 d3 d4 d5 d6 d7;have hgi1 := hib.lt;go_wp2_with (fail);go_loopw [6, 7, 8, 9] (fun vs vi _ _ wr => ∃ i : Nat, i ≤ N ∧ vi = .int .i64 i ∧ (∃ A' c', vs = .slice A' (sumK F.toDesc f x N i).length c' ∧ Rd wr wr.heap.size A' (sumK F.toDesc f x N i)) ∧ Below w1.heap.size w1 wr) (fun _ vi _ _ _ => N - (intOf vi).toNat)
 case atStart => exact ⟨0, by omega, rfl, ⟨none, 0, rfl, Rd.nil⟩, Below.refl _ _⟩
 case round =>
  obtain ⟨w2, rfl⟩ : ∃ w2 : World, w2 = wr := ⟨_, rfl⟩;obtain ⟨i, hi, rfl, ⟨As, cs, rfl, hrs⟩, hb2⟩ := hrel;by_cases hiN : i < N
  ·have i0 : (0 : Int) ≤ (i : Int) := by omega
   have i1 : (i : Int) < (N : Int) := by omega
   have hci := (hib.below hb2 hgi1).cell (i := i) (by rw [lst_length]; exact hiN);rw [lst_get f hiN] at hci;obtain ⟨V, hV⟩ : ∃ V, V = w2.alloc (.cells #[.int .i64 (f i)] 3) := ⟨_, rfl⟩;have hbV : Below w2.heap.size w2 V := by rw [hV]; exact (Below.refl _ _).alloc (Nat.le_refl _) _
   obtain ⟨gv, hgv⟩ : ∃ gv, gv = w2.heap.size := ⟨_, rfl⟩;have hrv : Rd V V.heap.size (some ⟨gv, 0, none⟩) (numK F.toDesc f x i 0) := by
    rw [hV, hgv];exact fun _ => ⟨w2.heap.size, 0, rfl, by simp, fun j hj => by
     have hj4 : j < 1 := hj;obtain rfl : j = 0 := by omega
     simp [go_sem, numK_zero]⟩
   have hb1V := hb2.trans (hbV.mono hb2.size);replace hV := Lib.hid hV;go_wp2_with (fail);rw [← hV.out];simp only [← hgv];replace hgv := Lib.hid hgv;go_loopw [8, 9] (fun vp vj wr => ∃ k : Nat, k ≤ N ∧ vj = .int .i64 k ∧ (∃ A' c', vp = .slice A' (numK F.toDesc f x i k).length c' ∧ Rd wr wr.heap.size A' (numK F.toDesc f x i k)) ∧ Below V.heap.size V wr) (fun _ vj _ => N - (intOf vj).toNat)
   case atStart => exact ⟨0, by omega, rfl, ⟨some ⟨gv, 0, none⟩, 1, rfl, hrv⟩, Below.refl _ _⟩
   case round =>
    clear hrv hci;obtain ⟨w3, rfl⟩ : ∃ w3 : World, w3 = wr := ⟨_, rfl⟩;obtain ⟨k, hk, rfl, ⟨Ap, cp, rfl, hrp⟩, hb3⟩ := hrel;have hb13 := hb1V.trans (hb3.mono hb1V.size);have hbZ3 := hb1.trans (hb13.mono hb1.size);have hB3 := hB.trans (hbZ3.mono hB.size);have hs3 : s < w3.heap.size := Nat.lt_of_lt_of_le hZs hbZ3.size;by_cases hkN : k < N
    ·have k0 : (0 : Int) ≤ (k : Int) := by omega
     have k1 : (k : Int) < (N : Int) := by omega
     by_cases hki : k = i
     ·have hne : ((k : Int) != (i : Int)) = false := by rw [bne_eq_false_iff_eq]; omega
      have hkk := numK_eq F.toDesc f x hki;go_wp2_with (fail);go_roundw
      case rel => exact ⟨k + 1, by omega, by go_num, ⟨Ap, cp, by rw [hkk], by rw [hkk]; exact hrp⟩, hb3⟩
      case measure => simp [intOf]; omega
     ·have hne : ((k : Int) != (i : Int)) = true := by rw [bne_iff_ne]; omega
      have hkk := numK_ne F.toDesc f x hki;have hM2 := hMul i k;rw [← hkk] at hM2;obtain ⟨bp, op, rfl, hbp, hcp⟩ := hr2Z.at_ (k := k) (by rw [← hN.out]; exact hkN);rw [hxg.out] at hcp;have hbpZ : bp < Z.heap.size := Nat.lt_of_lt_of_le hbp hB.size;have hpx := (hbZ3.cell (p := ⟨bp, op + k, none⟩) hbpZ).trans hcp;have hbp3 := Nat.lt_of_lt_of_le hbpZ hbZ3.size;have hfl := Lib.hid (Nat.le_trans (hnle.out i k) (show 1 + 2 * k ≤ 1000 by omega));obtain ⟨y, hy⟩ : ∃ y, y = x k := ⟨_, rfl⟩;obtain ⟨v, hv⟩ : ∃ v, v = ci (-(eli F.toDesc (x k))) := ⟨_, rfl⟩;have hN3 := hNeg y w3.drew;rw [← hy] at hpx;rw [hy, ← hv, ← hy] at hN3;rw [← hv] at hM2;rw [show [v, (1 : Int)].length = 2 from rfl] at hM2;obtain ⟨p0, p1, p2, p3, p4, p5, p6, p7⟩ := (hbG.out.keep hbZ3 hZs).c8;have hcc : Hid (w3.cell? ⟨s, 3, none⟩ = some (.int .i64 F.p) ∧ w3.cell? ⟨s, 4, none⟩ = some (.int .i64 F.m) ∧ w3.cell? ⟨s, 5, none⟩ = some (.slice B F.mod.length b) ∧ w3.cell? ⟨s, 7, none⟩ = some (.slice (some ⟨bp, op, none⟩) N c2) ∧ w3.cell? ⟨bp, op + k, none⟩ = some (.int .i64 y)) := Lib.hid ⟨p3, p4, p5, p7, hpx⟩;replace hy := Lib.hid hy;replace hv := Lib.hid hv;replace hM2 := fun B1 B2 d1 d2 W a b e f g => Lib.hid (hM2 B1 B2 d1 d2 W a b e f g)
      clear hkk hcp hpx p0 p1 p2 p3 p4 p5 p6 p7;go_wp2_with (fail);refine wp_region_held_drew (S := fun w' => w'.cell? ⟨s, 3, none⟩ = some (.int .i64 F.p) ∧ w'.cell? ⟨s, 4, none⟩ = some (.int .i64 F.m) ∧ w'.cell? ⟨s, 5, none⟩ = some (.slice B F.mod.length b) ∧ w'.cell? ⟨s, 7, none⟩ = some (.slice (some ⟨bp, op, none⟩) N c2) ∧ w'.cell? ⟨bp, op + k, none⟩ = some (.int .i64 y)) (by kernel_rfl) (by (try dsimp only); exact hcc.out) (fun hHeld => ?_);refine tk 0 ?_; try simp only [pS]
      refine tk 1 ?_; try simp only [pS]
      refine tk 2 ?_; try simp only [pS]
      refine tk 3 ?_; try simp only [pS]
      refine tk 4 ?_; try simp only [pS]
      refine tk 5 ?_; try simp only [pS]
      refine tk 6 ?_; try simp only [pS]
      refine tk 7 ?_; try simp only [pS]
      refine tk 8 ?_; try simp only [pS]
      refine tk 9 ?_; try simp only [pS]
      refine rd 10 fun K hK => ?_
      go_simp;go_at_call 107;(with_reducible refine (hN3).out.mono ?_);rintro e w4 ⟨rfl, hb4⟩;have hb34 := (Below.refl w3.heap.size w3).drew.trans hb4;have hcc4 := Lib.hid (num_keep hb34 hs3 hbp3 hcc.out);go_wp2_with (fail);refine hK.out _ _ (by (try dsimp only); exact hcc4.out) (fun hHeld => ?_);clear hK K;try simp only [pS]
      refine rd 11 fun K hK => ?_
      go_simp;have ha4 : Below w4.heap.size w4 (w4.alloc (.cells #[.int .i64 v, .int .i64 1] 3)) := (Below.refl _ _).alloc (Nat.le_refl _) _;refine hK.out _ _ (by (try dsimp only); exact num_keep (hb34.trans (((Below.refl w4.heap.size w4).alloc (Nat.le_refl _) _).mono hb34.size)) hs3 hbp3 hcc.out) (fun hHeld => ?_);clear hK K;try simp only [pS]
      obtain ⟨w5, hw5⟩ : ∃ w5, w5 = w4.alloc (.cells #[.int .i64 v, .int .i64 1] 3) := ⟨_, rfl⟩;rw [← hw5];rw [← hw5] at ha4;have hq5 : Rd w5 w5.heap.size (some ⟨w4.heap.size, 0, none⟩) [v, 1] := by rw [hw5]; exact fun _ => ⟨w4.heap.size, 0, rfl, by simp, fun j hj => by have hj4 : j < 2 := hj; rcases (by omega : j = 0 ∨ j = 1) with rfl | rfl <;> simp [go_sem]⟩
      replace hw5 := Lib.hid hw5;have hb35 := hb34.trans (ha4.mono hb34.size);have hM5 := hM2 Ap (some ⟨w4.heap.size, 0, none⟩) cp 2 w5 ((hrBZ.below ((hbZ3.trans (hb35.mono hbZ3.size)).mono hB.size)).more (Nat.le_trans hB.size (hbZ3.trans (hb35.mono hbZ3.size)).size)) ((hrp.below hb35).more hb35.size) hq5 (Nat.le_trans hfl.out (by decide)) (by show 2 ≤ 20000; decide);refine rd 12 fun K hK => ?_
      go_simp;go_at_call 39;(with_reducible refine (hM5).out.mono ?_);rintro e w6 ⟨g6, rfl, hg6, hib6, hb6⟩;have hb36 := hb35.trans (hb6.mono hb35.size);have hcc6 := Lib.hid (num_keep hb36 hs3 hbp3 hcc.out);go_wp2_with (fail);refine hK.out _ _ (by (try dsimp only); exact hcc6.out) (fun hHeld => ?_);clear hK K;try simp only [pS]
      refine tk 13 ?_; try simp only [pS]
      refine wpAnyH_done (by kernel_rfl) ?_ _;go_wp2_with (fail);go_roundw
      case rel => exact ⟨k + 1, by omega, by go_num, ⟨_, _, rfl, hib6.rd⟩, hb3.trans (hb36.mono hb3.size)⟩
      case measure => simp [intOf]; omega
    ·obtain rfl : N = k := by omega
     obtain ⟨p0, p1, p2, p3, p4, p5, p6, p7⟩ := (hbG.out.keep hbZ3 hZs).c8;have hbV3 := hbV.trans (hb3.mono hbV.size);have hA3 := hAdd i As Ap cs cp w3 ((hrs.below hbV3).more hbV3.size) hrp;rw [← sumK_succ] at hA3;replace hA3 := Lib.hid hA3;go_wp2_with (fail);(with_reducible refine hA3.out.mono ?_);rintro e w4 ⟨g4, rfl, hg4, hib4, hb4⟩;go_wp2_with (fail);go_roundw
     case rel => exact ⟨i + 1, by omega, by go_num, ⟨_, _, rfl, hib4.rd⟩, hb13.trans (hb4.mono hb13.size)⟩
     case measure => simp [intOf]; omega
  ·obtain rfl : N = i := by omega
   have hbf := hB.trans ((hb1.trans (hb2.mono hb1.size)).mono hB.size);go_wp2_with (fail);go_ret;exact ⟨As, cs, rfl, hrs, hbf⟩
end
end Go.Proofs.YtakonlfojblcmaaGreat

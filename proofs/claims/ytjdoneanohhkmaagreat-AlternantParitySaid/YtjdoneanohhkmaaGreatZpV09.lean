/- AlternantParity: the law's walk. -/
import Derived.Test.YtjdoneanohhkmaaGreatZpKer
import Derived.Test.YtjdoneanohhkmaaGreatZpSqaP
import Derived.Test.YtjdoneanohhkmaaGreatZpPrtP
import Derived.Test.YtjdoneanohhkmaaGreatZpTk
namespace Go.Proofs.YtjdoneanohhkmaaGreat
open Go.RowKit Cw
attribute [local go_sem] Oper.semAt_some

theorem prt_keep {F : Desc} {B C : Option Addr} {s bi oi j b ml pl k : Nat} {y : Int} {W W' : World} {H : Nat} (hb : Below H W W') (hs : s < H) (hp : bi < H) (h : W.cell? ⟨s,3,none⟩ = some (.int .i64 F.p) ∧ W.cell? ⟨s,4,none⟩ = some (.int .i64 F.m) ∧ W.cell? ⟨s,5,none⟩ = some (.slice B ml b) ∧ W.cell? ⟨s,6,none⟩ = some (.slice C pl k) ∧ W.cell? ⟨bi,oi + j,none⟩ = some (.int .i64 y)) : W'.cell? ⟨s,3,none⟩ = some (.int .i64 F.p) ∧ W'.cell? ⟨s,4,none⟩ = some (.int .i64 F.m) ∧ W'.cell? ⟨s,5,none⟩ = some (.slice B ml b) ∧ W'.cell? ⟨s,6,none⟩ = some (.slice C pl k) ∧ W'.cell? ⟨bi,oi + j,none⟩ = some (.int .i64 y) :=
 ⟨(hb.cell (p := ⟨s,3,none⟩) hs).trans h.1,(hb.cell (p := ⟨s,4,none⟩) hs).trans h.2.1,(hb.cell (p := ⟨s,5,none⟩) hs).trans h.2.2.1,(hb.cell (p := ⟨s,6,none⟩) hs).trans h.2.2.2.1,(hb.cell (p := ⟨bi,oi + j,none⟩) hp).trans h.2.2.2.2⟩
noncomputable def dotI (S F : FD) (rt : Nat) (poly pts : List Int) (u : Nat → R S.toDesc) (r : Nat) : Int := ci (rsum pts.length fun j => gopM F poly pts r j * phi S F (rel F.toDesc rt) (u j))
def allZ (d : Nat → Int) : Nat → Bool
 | 0 => true
 | n + 1 => allZ d n && d n == 0
theorem allZ_iff (d : Nat → Int) : ∀ n,allZ d n = true ↔ ∀ r,r < n → d r = 0
 | 0 => ⟨fun _ r h => absurd h (Nat.not_lt_zero r),fun _ => rfl⟩
 | n + 1 => by
  show (allZ d n && d n == 0) = true ↔ _
  rw [Bool.and_eq_true,allZ_iff d n,beq_iff_eq];constructor
  ·rintro ⟨h1,h2⟩ r hr;by_cases e : r = n
   ·rw [e]; exact h2
   ·exact h1 r (by omega)
  ·intro h;exact ⟨fun r hr => h r (by omega),h n (by omega)⟩
theorem allZ_meets {S F : FD} {rt : Nat} {poly pts : List Int} {u : Nat → R S.toDesc} {t : Nat} : allZ (dotI S F rt poly pts u) t = true ↔ Meets S F (rel F.toDesc rt) pts.length t (gopM F poly pts) u := by
 rw [allZ_iff];exact ⟨fun h i hi => ci_eq_zero.1 (h i hi),fun h i hi => ci_eq_zero.2 (h i hi)⟩
set_option maxRecDepth 100000 in
set_option maxHeartbeats 16000000 in
theorem altParL (P M Q N : Int) (ml nl poly pts : List Int) (A B C D : Option Addr) (c b k e1 : Nat) (wl : List Int) (Aw : Option Addr) (cw : Nat) (w : World) (hP : I64 P) (hM : I64 M) (hQ : I64 Q) (hN : I64 N) (hl : ml.length ≤ maxLen) (hn : nl.length ≤ maxLen) (hk : poly.length ≤ k ∧ k ≤ maxLen) (he : pts.length ≤ e1 ∧ e1 ≤ maxLen) (_hi : ∀ x ∈ poly,I64 x) (_hj : ∀ x ∈ pts,I64 x)
  (hr : Rd w w.heap.size A ml) (hrB : Rd w w.heap.size B nl) (hr1 : Rd w w.heap.size C poly) (hr2 : Rd w w.heap.size D pts) (hcw : wl.length ≤ cw) (hcm : cw ≤ maxLen) (hrw : Rd w w.heap.size Aw wl) :
  Calls Tryz.prog 7 #[.agg #[.int .i64 P,.int .i64 M,.slice A ml.length c,.int .i64 Q,.int .i64 N,.slice B nl.length b,.slice C poly.length k,.slice D pts.length e1],.slice Aw wl.length cw] w fun e w' => e = .returned (.bool true) ∧ Below w.heap.size w w' := by
 have hpl : poly.length ≤ maxLen := Nat.le_trans hk.1 hk.2;have hql : pts.length ≤ maxLen := Nat.le_trans he.1 he.2;have hwm : wl.length ≤ maxLen := Nat.le_trans hcw hcm;obtain ⟨s,hs⟩ : ∃ s,s = w.heap.size := ⟨_,rfl⟩;obtain ⟨Z,hZ⟩ : ∃ Z,Z = w.alloc (.cells #[.int .i64 P,.int .i64 M,.slice A ml.length c,.int .i64 Q,.int .i64 N,.slice B nl.length b,.slice C poly.length k,.slice D pts.length e1] 44) := ⟨_,rfl⟩;have hB : Below w.heap.size w Z := by rw [hZ]; exact (Below.refl _ _).alloc (Nat.le_refl _) _
 have hbG : Hid (Bxs Z s [.int .i64 P,.int .i64 M,.slice A ml.length c,.int .i64 Q,.int .i64 N,.slice B nl.length b,.slice C poly.length k,.slice D pts.length e1]) := by rw [hZ,hs]; exact Bxs.new w _ _
 have hZs : s < Z.heap.size := by rw [hZ,hs]; simp
 have hq := Lib.hid (alive19_any Z);have hfe := fun W => Lib.hid (few19_any D pts.length e1 W)
 replace hZ := Lib.hid hZ;go_enter Tryz.func7,Tryz.ntmps7;go_wp2_with (fail);rw [← hZ.out];simp only [← hs];have hsw : w.heap.size ≤ s := Nat.le_of_eq hs.symm;replace hs := Lib.hid hs;(with_reducible refine hq.out.mono ?_);rintro e w1 ⟨rfl,hb1⟩;clear hq;have hB1 := hB.trans (hb1.mono hB.size);have hs1 : s < w1.heap.size := Nat.lt_of_lt_of_le hZs hb1.size;have hq1 := hfe w1;clear hfe;obtain ⟨d0,d1,d2,d3,d4,d5,d6,d7⟩ := (hbG.out.keep hb1 hZs).c8;by_cases h20 : (pts.length : Int) ≤ 20;rotate_left
 ·rw [decide_eq_false h20] at hq1;replace h20 := Lib.hid h20;replace hq1 := Lib.hid hq1.out;go_wp2_with (fail);(with_reducible refine hq1.out.mono ?_);rintro e w2 ⟨rfl,rfl⟩;go_wp2_with (fail);go_ret;exact ⟨rfl,hB1⟩
 rw [decide_eq_true h20] at hq1;replace h20 := Lib.hid h20;replace hq1 := Lib.hid hq1.out;by_cases h_poly : (40 : Int) < (poly.length : Int)
 ·have h_b : decide ((40 : Int) < (poly.length : Int)) = true := decide_eq_true h_poly;replace h_poly := Lib.hid h_poly;go_wp2_with (fail);(with_reducible refine hq1.out.mono ?_);rintro e w2 ⟨rfl,rfl⟩;go_wp2_with (fail);go_ret;exact ⟨rfl,hB1⟩
 have hb_poly : decide ((40 : Int) < (poly.length : Int)) = false := decide_eq_false h_poly;have hle_poly : poly.length ≤ 40 := by omega
 replace h_poly := Lib.hid h_poly;obtain ⟨E,hCk,hGp,hE⟩ := Gop_any P M Q N ml nl poly pts A B C D c b k e1 w1 hP hM hQ hN hl hn ((hr.below hB1).more hB1.size) ((hrB.below hB1).more hB1.size) ((hr1.below hB1).more hB1.size) ((hr2.below hB1).more hB1.size) (by omega) hql;replace hCk := fun W hb => Lib.hid (hCk W hb)
 replace hE := Lib.hid hE;go_wp2_with (fail);(with_reducible refine hq1.out.mono ?_);rintro e w2 ⟨rfl,rfl⟩;clear hq1 d0 d1 d2 d3 d4 d5 d6 d7;by_cases h0 : E = 0;rotate_left
 ·have h0b : (E != 0) = true := by rw [bne_iff_ne]; exact h0
  have hEE : (E == E) = true := beq_self_eq_true E;have hq := Lib.hid (aPrt_bad P M Q N ml nl poly pts A B C D c b k e1 w1 E h0 (hGp h0));replace h0 := Lib.hid h0;obtain ⟨d0,d1,d2,d3,d4,d5,d6,d7⟩ := (hbG.out.keep hb1 hZs).c8;go_wp2_with (fail);(with_reducible refine hq.out.mono ?_);rintro e w3 ⟨rfl,hb3⟩;clear hq d0 d1 d2 d3 d4 d5 d6 d7;have hbz3 := hb1.trans (hb3.mono hb1.size);obtain ⟨Y,hY⟩ : ∃ Y,Y = w3.alloc (.cells #[.int .i64 0,.slice none 0 0] 48) := ⟨_,rfl⟩;have hbY : Below w3.heap.size w3 Y := by rw [hY]; exact (Below.refl _ _).alloc (Nat.le_refl _) _
  have hbzY := hbz3.trans (hbY.mono hbz3.size);have hBY := hB.trans (hbzY.mono hB.size);obtain ⟨pq,hpq⟩ : ∃ pq,pq = w3.heap.size := ⟨_,rfl⟩;have hYs : pq < Y.heap.size := by rw [hY,hpq]; simp
  have hbQ : Hid (Bxs Y pq [.int .i64 0,.slice none 0 0]) := by rw [hY,hpq]; exact Bxs.new w3 _ _
  have hq := hCk Y (hb3.trans (hbY.mono hb3.size));obtain ⟨d0,d1,d2,d3,d4,d5,d6,d7⟩ := (hbG.out.keep hbzY hZs).c8;rw [hY] at d0 d1 d2 d3 d4 d5 d6 d7;replace hY := Lib.hid hY;go_wp2_with (fail);rw [← hY.out];simp only [← hpq];replace hpq := Lib.hid hpq;(with_reducible refine hq.out.mono ?_);rintro e w4 ⟨rfl,hb4⟩;clear hq d0 d1 d2 d3 d4 d5 d6 d7;have hfin := Lib.hid (hBY.trans (hb4.mono hBY.size));obtain ⟨d0,d1⟩ := (hbQ.out.keep hb4 hYs).c2;go_wp2_with (fail);go_ret;exact ⟨ret_bool (by simp),hfin.out⟩
 have hCk0 := fun W hb => hCk W hb
 rw [h0] at hCk0;clear hCk hGp;obtain ⟨S',F',rfl,rfl,rfl,rfl,rfl,rfl,hgS,hgF,hz⟩ := hE.out h0;obtain ⟨S,rfl⟩ := good_FD hgS;replace h0 := Lib.hid h0;have hzH := Lib.hid hz;obtain ⟨-,⟨hn1,hn64⟩,-,-,-,hpl2,-⟩ := gopD_zero hz;obtain ⟨t,ht⟩ : ∃ t,poly.length = t + 1 := ⟨poly.length - 1,by omega⟩;have htz : poly.length - 1 = t := by omega
 have ht64 : t ≤ 64 := by omega
 have hw1 : IntKind.i64.wrap ((poly.length : Int) - 1) = (t : Int) := by rw [IntWalk.i64_in _ (by omega)]; omega
 have hq := aPrt_ok S F' poly pts A B C D c b k e1 w1 ((hr.below hB1).more hB1.size) ((hrB.below hB1).more hB1.size) hgS hgF ((hr1.below hB1).more hB1.size) ((hr2.below hB1).more hB1.size) hz;unfold PrtPost at hq;rw [← modL_length S.toDesc,← modL_length F',htz] at hq;replace hq := Lib.hid hq;replace ht := Lib.hid ht;replace htz := Lib.hid htz;obtain ⟨d0,d1,d2,d3,d4,d5,d6,d7⟩ := (hbG.out.keep hb1 hZs).c8;go_wp2_with (fail);(with_reducible refine hq.out.mono ?_);rintro e w3 ⟨F,Al,cl,rfl,rfl,hrm,hb3⟩;clear hq d0 d1 d2 d3 d4 d5 d6 d7;have hbz3 := hb1.trans (hb3.mono hb1.size);obtain ⟨Y,hY⟩ : ∃ Y,Y = w3.alloc (.cells #[.int .i64 pts.length,.slice Al t cl] 48) := ⟨_,rfl⟩;have hbY : Below w3.heap.size w3 Y := by rw [hY]; exact (Below.refl _ _).alloc (Nat.le_refl _) _
 have hbzY := hbz3.trans (hbY.mono hbz3.size);have hBY := hB.trans (hbzY.mono hB.size);obtain ⟨pq,hpq⟩ : ∃ pq,pq = w3.heap.size := ⟨_,rfl⟩;have hYs : pq < Y.heap.size := by rw [hY,hpq]; simp
 have hbQ : Hid (Bxs Y pq [.int .i64 pts.length,.slice Al t cl]) := by rw [hY,hpq]; exact Bxs.new w3 _ _
 have hrmY := (hrm.below hbY).more hbY.size;have hq := hCk0 Y (hb3.trans (hbY.mono hb3.size));obtain ⟨d0,d1,d2,d3,d4,d5,d6,d7⟩ := (hbG.out.keep hbzY hZs).c8;rw [hY] at d0 d1 d2 d3 d4 d5 d6 d7;replace hY := Lib.hid hY;clear hCk0 hrm;go_wp2_with (fail);rw [← hY.out];simp only [← hpq];replace hpq := Lib.hid hpq;(with_reducible refine hq.out.mono ?_);rintro e w4 ⟨rfl,hb4⟩;clear hq d0 d1 d2 d3 d4 d5 d6 d7;have hbz4 := hbzY.trans (hb4.mono hbzY.size);have hB4 := hB.trans (hbz4.mono hB.size);have hrm4 := (hrmY.below hb4).more hb4.size;have hs4 : s < w4.heap.size := Nat.lt_of_lt_of_le hZs hbz4.size;have hbG4 := Lib.hid (hbG.out.keep hbz4 hZs);have hbQ4 := Lib.hid (hbQ.out.keep hb4 hYs);have hq4s : pq < w4.heap.size := Nat.lt_of_lt_of_le hYs hb4.size;have hr4 := (hr.below hB4).more hB4.size;have hrB4 := (hrB.below hB4).more hB4.size;have hr14 := (hr1.below hB4).more hB4.size;have hr24 := (hr2.below hB4).more hB4.size;have hNN : ((pts.length : Int) != (pts.length : Int)) = false := by simp
 have htt : ((t : Int) != (t : Int)) = false := by simp
 have hdQ := hbQ4.out.c2;have hgq := Lib.hid (gop_facts hz);obtain ⟨d0,d1,d2,d3,d4,d5,d6,d7⟩ := hbG4.out.c8;obtain ⟨m0,m1⟩ := hbQ4.out.c2;clear hdQ;go_wp2_with (fail);clear d0 d1 d2 d3 d4 d5 d6 d7 m0 m1;go_loopw [80,8,9,10,11,12,13] (fun vi _ _ _ _ _ _ wr => ∃ i : Nat,i ≤ t ∧ vi = .int .i64 i ∧ Below w4.heap.size w4 wr) (fun vi _ _ _ _ _ _ _ => t - (intOf vi).toNat)
 case atStart => exact ⟨0,by omega,rfl,Below.refl _ _⟩
 case round =>
  obtain ⟨w5,rfl⟩ : ∃ w5 : World,w5 = wr := ⟨_,rfl⟩;obtain ⟨i,hi,rfl,hb5⟩ := hrel;by_cases hit : i < t
  ·have i0 : (0 : Int) ≤ (i : Int) := by omega
   have i1 : (i : Int) < (t : Int) := by omega
   obtain ⟨br,or_,Ai,ci',rfl,hbr,hcr,hri,-⟩ := hrm4.at_ hit;rw [show (gopR F poly pts i).length = pts.length from rowL_length _ _ _] at hcr;have hcr5 := (hb5.cell (p := ⟨br,or_ + i,none⟩) hbr).trans hcr;obtain ⟨d0,d1,d2,d3,d4,d5,d6,d7⟩ := (hbG4.out.keep hb5 hs4).c8;clear hcr;go_wp2_with (fail);clear d0 d1 d2 d3 d4 d5 d6 d7 hcr5;go_loopw [94,10,11,12,13] (fun vj _ _ _ _ wr => ∃ j : Nat,j ≤ pts.length ∧ vj = .int .i64 j ∧ Below w4.heap.size w4 wr) (fun vj _ _ _ _ _ => pts.length - (intOf vj).toNat)
   case atStart => exact ⟨0,by omega,rfl,hb5⟩
   case round =>
    clear hb5;obtain ⟨w6,rfl⟩ : ∃ w6 : World,w6 = wr := ⟨_,rfl⟩;obtain ⟨j,hj,rfl,hb6⟩ := hrel;by_cases hjt : j < pts.length
    ·have j0 : (0 : Int) ≤ (j : Int) := by omega
     have j1 : (j : Int) < (pts.length : Int) := by omega
     obtain ⟨bp,op,rfl,hbp,hcp⟩ := hr24.at_ hjt;have hpx := (hb6.cell (p := ⟨bp,op + j,none⟩) hbp).trans hcp;obtain ⟨bi,oi,rfl,hbi,hci⟩ := hri.at_ (k := j) (by rw [show (gopR F poly pts i).length = pts.length from rowL_length _ _ _]; exact hjt);rw [show (gopR F poly pts i)[j]?.getD 0 = ci (gopM F poly pts i j) from rowL_get _ _ hjt] at hci;have hcy := (hb6.cell (p := ⟨bi,oi + j,none⟩) hbi).trans hci;have hPw := fun W h => PowN_any F (pts[j]?.getD 0) i B b W h (by have := ht.out; omega)
     have hIs := fun W => Is_any F.toDesc (ci (gopM F poly pts i j)) B (modL F.toDesc).length b W
     have hdec : decide (0 ≤ ci (gopM F poly pts i j) ∧ ci (gopM F poly pts i j) < F.q) = true := decide_eq_true ⟨ci_nonneg _,ci_lt _⟩;rw [hdec] at hIs;have hEv := fun W h1 h2 => Eval5_any F.toDesc poly (pts[j]?.getD 0) B C b k W h1 h2 hpl
     have hMu := fun W h => Mul_any F.toDesc (ci (gopM F poly pts i j)) (ci (pevI F.toDesc poly (eli F.toDesc (pts[j]?.getD 0)))) B b W h
     rw [eli_ci,eli_ci,gop_entry hzH.out hjt] at hMu;rw [← modL_length F.toDesc] at hPw hEv hMu;obtain ⟨x,hx⟩ : ∃ x,x = pts[j]?.getD 0 := ⟨_,rfl⟩;obtain ⟨y,hy⟩ : ∃ y,y = ci (gopM F poly pts i j) := ⟨_,rfl⟩;obtain ⟨ev,hev⟩ : ∃ ev,ev = ci (pevI F.toDesc poly (eli F.toDesc (pts[j]?.getD 0))) := ⟨_,rfl⟩;obtain ⟨pv,hpv⟩ : ∃ pv,pv = ci (pw (eli F.toDesc (pts[j]?.getD 0)) i) := ⟨_,rfl⟩;rw [← hpv,← hx] at hPw;rw [← hx] at hpx;rw [← hy] at hcy hIs;rw [← hev,← hx] at hEv;rw [← hy,← hev,← hpv] at hMu;have hpp : (pv != pv) = false := by simp
     have hB6 := hb6.size;have hs6 : s < w6.heap.size := Nat.lt_of_lt_of_le hs4 hb6.size;have hbi6 : bi < w6.heap.size := Nat.lt_of_lt_of_le hbi hb6.size;have hq := Lib.hid (hPw w6 ((hrB4.below hb6).more hb6.size));obtain ⟨d0,d1,d2,d3,d4,d5,d6,d7⟩ := (hbG4.out.keep hb6 hs4).c8;have hcc6 := Lib.hid (show w6.cell? ⟨s,3,none⟩ = some (.int .i64 F.p) ∧ w6.cell? ⟨s,4,none⟩ = some (.int .i64 F.m) ∧ w6.cell? ⟨s,5,none⟩ = some (.slice B (modL F.toDesc).length b) ∧ w6.cell? ⟨s,6,none⟩ = some (.slice C poly.length k) ∧ w6.cell? ⟨bi,oi + j,none⟩ = some (.int .i64 y) from ⟨d3,d4,d5,d6,hcy⟩);replace hx := Lib.hid hx;replace hy := Lib.hid hy;replace hev := Lib.hid hev;replace hpv := Lib.hid hpv;clear hcy hci hcp hdec hPw;go_wp2_with (fail);(with_reducible refine hq.out.mono ?_);rintro e w7 ⟨rfl,hb7⟩;clear hq d0 d1 d2 d3 d4 d5 d6 d7 hpx;have hb47 := hb6.trans (hb7.mono hb6.size);have hs7 : s < w7.heap.size := Nat.lt_of_lt_of_le hs6 hb7.size;have hbi7 : bi < w7.heap.size := Nat.lt_of_lt_of_le hbi6 hb7.size;have hcc7 := Lib.hid (prt_keep hb7 hs6 hbi6 hcc6.out);have hIs7 := Lib.hid (hIs w7.drew);have hrB7 := (hrB4.below hb47).more hb47.size;have hr17 := (hr14.below hb47).more hb47.size;go_wp2_with (fail);refine wp_region_held_drew (S := fun w' => w'.cell? ⟨s,3,none⟩ = some (.int .i64 F.p) ∧ w'.cell? ⟨s,4,none⟩ = some (.int .i64 F.m) ∧ w'.cell? ⟨s,5,none⟩ = some (.slice B (modL F.toDesc).length b) ∧ w'.cell? ⟨s,6,none⟩ = some (.slice C poly.length k) ∧ w'.cell? ⟨bi,oi + j,none⟩ = some (.int .i64 y)) (by kernel_rfl) (by (try dsimp only); exact hcc7.out) (fun hHeld => ?_);refine tk 0 ?_; try simp only [pS]
     refine tk 1 ?_; try simp only [pS]
     refine tk 2 ?_; try simp only [pS]
     refine tk 3 ?_; try simp only [pS]
     refine tk 4 ?_; try simp only [pS]
     refine tk 5 ?_; try simp only [pS]
     refine rd 6 fun K hK => ?_
     go_simp;go_at_call 28;(with_reducible refine (hIs7).out.mono ?_);rintro e w8 ⟨rfl,hb8⟩;have hb78 := (Below.refl w7.heap.size w7).drew.trans hb8;have hcc8 := Lib.hid (prt_keep hb78 hs7 hbi7 hcc7.out);have hEv8 := Lib.hid (hEv w8 ((hrB7.below hb78).more hb78.size) ((hr17.below hb78).more hb78.size));go_wp2_with (fail);refine hK.out _ _ (by (try dsimp only); exact hcc8.out) (fun hHeld => ?_);clear hK K;try simp only [pS]
     refine tk 7 ?_; try simp only [pS]
     refine tk 8 ?_; try simp only [pS]
     refine tk 9 ?_; try simp only [pS]
     refine tk 10 ?_; try simp only [pS]
     refine tk 11 ?_; try simp only [pS]
     refine tk 12 ?_; try simp only [pS]
     refine tk 13 ?_; try simp only [pS]
     refine tk 14 ?_; try simp only [pS]
     refine tk 15 ?_; try simp only [pS]
     refine tk 16 ?_; try simp only [pS]
     refine tk 17 ?_; try simp only [pS]
     refine tk 18 ?_; try simp only [pS]
     refine tk 19 ?_; try simp only [pS]
     refine tk 22 ?_; try simp only [pS]
     refine rd 20 fun K hK => ?_
     go_simp;go_at_call 30;(with_reducible refine (hEv8).out.mono ?_);rintro e w9 ⟨rfl,hb9⟩;have hb79 := hb78.trans (hb9.mono hb78.size);have hcc9 := Lib.hid (prt_keep hb79 hs7 hbi7 hcc7.out);have hMu9 := Lib.hid (hMu w9 ((hrB7.below hb79).more hb79.size));go_wp2_with (fail);refine hK.out _ _ (by (try dsimp only); exact hcc9.out) (fun hHeld => ?_);clear hK K;try simp only [pS]
     refine rd 21 fun K hK => ?_
     go_simp;go_at_call 29;(with_reducible refine (hMu9).out.mono ?_);rintro e wa ⟨rfl,hba⟩;have hb7a := hb79.trans (hba.mono hb79.size);have hcca := Lib.hid (prt_keep hb7a hs7 hbi7 hcc7.out);go_wp2_with (fail);refine hK.out _ _ (by (try dsimp only); exact hcca.out) (fun hHeld => ?_);clear hK K;try simp only [pS]
     refine tk 23 ?_; try simp only [pS]
     refine tk 24 ?_; try simp only [pS]
     refine wpAnyH_done (by kernel_rfl) ?_ _;go_wp2_with (fail);go_roundw
     case rel => exact ⟨j + 1,by omega,by go_num,hb47.trans (hb7a.mono hb47.size)⟩
     case measure => simp [intOf]; omega
    ·have hje : pts.length = j := by omega
     have hjn : ¬ (j : Int) < (pts.length : Int) := by omega
     replace hje := Lib.hid hje;go_wp2_with (fail);go_roundw
     case rel => exact ⟨i + 1,by omega,by go_num,hb6⟩
     case measure => simp [intOf]; omega
  ·obtain rfl : t = i := by omega
   have hbz5 := hbz4.trans (hb5.mono hbz4.size);have hB5 := hB.trans (hbz5.mono hB.size);have hq := elems19_any S.toDesc wl (pts.length : Int) A Aw c cw w5 ((hrw.below hB5).more hB5.size) hwm;rw [← modL_length S.toDesc] at hq;obtain ⟨d0,d1,d2,d3,d4,d5,d6,d7⟩ := (hbG.out.keep hbz5 hZs).c8;by_cases he0 : elErr S.toDesc wl (pts.length : Int) 4 = 0;rotate_left
   ·have heb : (elErr S.toDesc wl (pts.length : Int) 4 == 0) = false := by rw [beq_eq_false_iff_ne]; exact he0
    rw [heb] at hq;replace heb := Lib.hid heb;replace he0 := Lib.hid he0;replace hq := Lib.hid hq;go_wp2_with (fail);(with_reducible refine hq.out.mono ?_);rintro e w6 ⟨rfl,hb6⟩;go_wp2_with (fail);go_ret;exact ⟨rfl,hB5.trans (hb6.mono hB5.size)⟩
   have heb : (elErr S.toDesc wl (pts.length : Int) 4 == 0) = true := by rw [beq_iff_eq]; exact he0
   obtain ⟨hwk,hwe⟩ := elErr4_zero he0;have hwk2 : wl.length = pts.length := by omega
   obtain ⟨u,hu⟩ : ∃ u : Nat → R S.toDesc,u = fun j => eli S.toDesc (wl[j]?.getD 0) := ⟨_,rfl⟩
   have hwl : Hid (wl = rowL S.toDesc pts.length u) := by rw [Hid,hu,← hwk2]; exact list_rowL hwe
   rw [heb,hwk2] at hq;replace heb := Lib.hid heb;replace he0 := Lib.hid he0;replace hwk := Lib.hid hwk;replace hq := Lib.hid hq;replace hu := Lib.hid hu;rw [hwk2];replace hwk2 := Lib.hid hwk2;have hrw2 : Rd w w.heap.size Aw (rowL S.toDesc pts.length u) := by rw [← hwl.out]; exact hrw
   go_wp2_with (fail);(with_reducible refine hq.out.mono ?_);rintro e w6 ⟨rfl,hb6⟩;clear hq d0 d1 d2 d3 d4 d5 d6 d7;have hbz6 := hbz5.trans (hb6.mono hbz5.size);have hB6 := hB.trans (hbz6.mono hB.size);have hfit := Lib.hid (fitB_iff.1 (gopD_zero hz).1);have hdv : S.m ∣ F.m := by
    obtain ⟨kk,e,-,-,h9⟩ := divB_nat hfit.out.2;have e2 : S.m = kk := by omega
    rw [e2]; exact h9
   obtain ⟨rt,hrt⟩ := isRt_ex hfit.out.1 hdv;have hq := Image19_ok S F rt pts.length u A B Aw c b cw w6 ((hr.below hB6).more hB6.size) ((hrB.below hB6).more hB6.size) hfit.out.1 hrt ((hrw2.below hB6).more hB6.size) (by omega);rw [← modL_length S.toDesc,← modL_length F.toDesc] at hq;unfold Gives at hq;rw [show (imgL S F rt pts.length u).length = pts.length from rowL_length _ _ _] at hq;replace hq := Lib.hid hq;have hb46 := hb5.trans (hb6.mono hb5.size);obtain ⟨d0,d1,d2,d3,d4,d5,d6,d7⟩ := (hbG4.out.keep hb46 hs4).c8;go_wp2_with (fail);(with_reducible refine hq.out.mono ?_);rintro e w7 ⟨gi,rfl,hgi,hib,hb7⟩;clear hq d0 d1 d2 d3 d4 d5 d6 d7;have hb47 := hb46.trans (hb7.mono hb46.size);have hgl := hib.lt;have hs7 : s < w7.heap.size := Nat.lt_of_lt_of_le hs4 hb47.size;have hbG7 := Lib.hid (hbG4.out.keep hb47 hs4);obtain ⟨dI,hdI⟩ : ∃ dI,dI = dotI S F rt poly pts u := ⟨_,rfl⟩;have hDt : ∀ r Ai ci' W,Rd W W.heap.size B (modL F.toDesc) → Rd W W.heap.size Ai (gopR F poly pts r) → Rd W W.heap.size (some ⟨gi,0,none⟩) (imgL S F rt pts.length u) → Hid (Calls Tryz.prog 33 #[.agg #[.int .i64 F.p,.int .i64 F.m,.slice B (modL F.toDesc).length b],.slice Ai pts.length ci',.slice (some ⟨gi,0,none⟩) pts.length pts.length] W fun e w' => e = .returned (.int .i64 (dI r)) ∧ Below W.heap.size W w') := fun r Ai ci' W h1 h2 h3 => by
    have h := Dot4b_any F.toDesc (gopR F poly pts r) (imgL S F rt pts.length u) pts.length (rowL_length _ _ _) (rowL_length _ _ _) B Ai (some ⟨gi,0,none⟩) b ci' pts.length W h1 h2 h3 hql;rw [modL_length,hdI];unfold dotI;rw [show (rsum pts.length fun j => gopM F poly pts r j * phi S F (rel F.toDesc rt) (u j)) = rsum pts.length fun j => eli F.toDesc ((gopR F poly pts r)[j]?.getD 0) * eli F.toDesc ((imgL S F rt pts.length u)[j]?.getD 0) from rsum_congr fun j hj => by
     unfold gopR imgL;rw [rowL_get _ _ hj,rowL_get _ _ hj,eli_ci,eli_ci]]
    exact Lib.hid h
   have hmeet : Hid (∀ n,allZ dI n = true ↔ Meets S F (rel F.toDesc rt) pts.length n (gopM F poly pts) u) := fun n => by rw [hdI]; exact allZ_meets
   replace hdI := Lib.hid hdI;obtain ⟨m0,m1⟩ := (hbQ4.out.keep hb47 hq4s).c2;go_wp2_with (fail);clear m0 m1;go_loopw [151,15,17] (fun vi vz _ wr => ∃ i : Nat,i ≤ t ∧ vi = .int .i64 i ∧ vz = .bool (allZ dI i) ∧ Below w7.heap.size w7 wr) (fun vi _ _ _ => t - (intOf vi).toNat)
   case atStart => exact ⟨0,by omega,rfl,rfl,Below.refl _ _⟩
   case round =>
    obtain ⟨w8,rfl⟩ : ∃ w8 : World,w8 = wr := ⟨_,rfl⟩;obtain ⟨i,hi,rfl,rfl,hb8⟩ := hrel;have hb48 := hb47.trans (hb8.mono hb47.size);by_cases hit : i < t
    ·have i0 : (0 : Int) ≤ (i : Int) := by omega
     have i1 : (i : Int) < (t : Int) := by omega
     obtain ⟨br,or_,Ai,ci',rfl,hbr,hcr,hri,-⟩ := hrm4.at_ hit;rw [show (gopR F poly pts i).length = pts.length from rowL_length _ _ _] at hcr;have hcr8 := (hb48.cell (p := ⟨br,or_ + i,none⟩) hbr).trans hcr;obtain ⟨d0,d1,d2,d3,d4,d5,d6,d7⟩ := (hbG7.out.keep hb8 hs7).c8;have hq := hDt i Ai ci' w8 ((hrB4.below hb48).more hb48.size) ((hri.below hb48).more hb48.size) ((hib.rd.below hb8).more hb8.size);have hzs : allZ dI (i + 1) = (allZ dI i && dI i == 0) := rfl;clear hcr
     cases hzv : allZ dI i with
     | true =>
      rw [hzv,Bool.true_and] at hzs;replace hzs := Lib.hid hzs;go_wp2_with (fail);(with_reducible refine hq.out.mono ?_);rintro e w9 ⟨rfl,hb9⟩;go_wp2_with (fail);go_roundw
      case rel => exact ⟨i + 1,by omega,by go_num,by rw [hzs.out],hb8.trans (hb9.mono hb8.size)⟩
      case measure => simp [intOf]; omega
     | false =>
      rw [hzv,Bool.false_and] at hzs;replace hzs := Lib.hid hzs;go_wp2_with (fail);go_roundw
      case rel => exact ⟨i + 1,by omega,by go_num,by rw [hzs.out],hb8⟩
      case measure => simp [intOf]; omega
    ·obtain rfl : t = i := by omega
     have hbz8 := hbz4.trans (hb48.mono hbz4.size);have hB8 := hB.trans (hbz8.mono hB.size);obtain ⟨zz,hzz⟩ : ∃ zz,zz = allZ dI t := ⟨_,rfl⟩;rw [← hzz];have hq := aGopCode_ok S F.toDesc poly pts A B C D c b k e1 w8 ((hr.below hB8).more hB8.size) ((hrB.below hB8).more hB8.size) hgS hgF ((hr1.below hB8).more hB8.size) ((hr2.below hB8).more hB8.size) hz;rw [← modL_length S.toDesc,← modL_length F.toDesc] at hq;replace hq := Lib.hid hq;obtain ⟨d0,d1,d2,d3,d4,d5,d6,d7⟩ := (hbG7.out.keep hb8 hs7).c8;go_wp2_with (fail);(with_reducible refine hq.out.mono ?_);rintro e w9 ⟨F5,rt5,hF5,hrt5,k5,C5,A5,c5,R5,rfl,hvc,hsp,-,hr5,-,hru5,hb9⟩;clear hq d0 d1 d2 d3 d4 d5 d6 d7;have hB9 := hB8.trans (hb9.mono hB8.size);obtain ⟨U,hU⟩ : ∃ U,U = w9.alloc (.cells #[.int .i64 S.p,.int .i64 S.m,.slice A5 S.mod.length c5,.int .i64 pts.length,.slice R5 k5 k5] 27) := ⟨_,rfl⟩;have hbU : Below w9.heap.size w9 U := by rw [hU]; exact (Below.refl _ _).alloc (Nat.le_refl _) _
     have hBU := hB9.trans (hbU.mono hB9.size);obtain ⟨pc,hpc⟩ : ∃ pc,pc = w9.heap.size := ⟨_,rfl⟩;have hUs : pc < U.heap.size := by rw [hU,hpc]; simp
     have hbC : Hid (Bxs U pc [.int .i64 S.p,.int .i64 S.m,.slice A5 S.mod.length c5,.int .i64 pts.length,.slice R5 k5 k5]) := by rw [hU,hpc]; exact Bxs.new w9 _ _
     have hr5U := (hr5.below hbU).more hbU.size;have hruU := (hru5.rdm.below hbU).more hbU.size;have hk5 : k5 ≤ pts.length := hvc.le;have hq := Lib.hid (Check12_ok S hgS k5 pts.length C5 hvc.can A5 R5 c5 k5 U hr5U hruU (by omega) hn1 hn64);clear hr5 hru5;obtain ⟨e0,e1',e2,e3,e4⟩ := hbC.out.c5;rw [hU] at e0 e1' e2 e3 e4;rw [hpc] at e0 e1' e2 e3 e4;replace hU := Lib.hid hU;go_wp2_with (fail);rw [← hU.out];simp only [← hpc];replace hpc := Lib.hid hpc;(with_reducible refine hq.out.mono ?_);rintro e wa ⟨rfl,hba⟩;clear hq e0 e1' e2 e3 e4;have hBa := hBU.trans (hba.mono hBU.size);have hq := Has12_vc hvc u A5 R5 Aw c5 k5 cw wa ((hr5U.below hba).more hba.size) ((hruU.below hba).more hba.size) ((hrw2.below hBa).more hBa.size);rw [modL_length] at hq;have hin : spB k5 pts.length C5 u = zz := by
      rw [hzz,Bool.eq_iff_iff,spB_iff,hsp u,hmeet.out t,htz.out];exact ⟨fun h => meets_two hF5 hrt hrt5 h,fun h => meets_two hF5.symm hrt5 hrt h⟩
     rw [hin] at hq;replace hq := Lib.hid hq;replace hzz := Lib.hid hzz;have hbe : (zz == zz) = true := beq_self_eq_true zz;obtain ⟨e0,e1',e2,e3,e4⟩ := (hbC.out.keep hba hUs).c5;clear hsp hvc hin;go_wp2_with (fail);(with_reducible refine hq.out.mono ?_);rintro e wb ⟨rfl,hbb⟩;have hfin := Lib.hid (hBa.trans (hbb.mono hBa.size));clear e0 e1' e2 e3 e4;go_wp2_with (fail);go_ret;exact ⟨ret_bool (by simp; exact hzz.out),hfin.out⟩
end Go.Proofs.YtjdoneanohhkmaaGreat

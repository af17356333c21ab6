/- The reference's polynomials: DivMod, Rem. -/
import Derived.Test.YtjdoneanohhkmaaGreatZpAlvP
import Derived.Test.YtjdoneanohhkmaaGreatZpDiv6
import Derived.Test.YtjdoneanohhkmaaGreatZpTk
namespace Go.Proofs.YtjdoneanohhkmaaGreat
open Go.RowKit Cw
open CField (inv)
attribute [local go_sem] Oper.semAt_some

def RemPost (F : FD) (p q : List Int) (d : Nat) (w : World) (e : Ending) (w' : World) : Prop :=
 ∃ v r Ar cr,e = .returned (.tuple #[v,.slice Ar r.length cr]) ∧ Rd w' w'.heap.size Ar r ∧ canI F.toDesc r = r ∧ r.length ≤ d ∧ QuoI F.toDesc p q r ∧ Below w.heap.size w w'
def lenOf : Value → Nat
 | .slice _ n _ => n
 | _ => 0
set_option maxRecDepth 100000 in
set_option maxHeartbeats 4000000 in
theorem DivMod5_lt (F : FD) (p q : List Int) (d pl : Nat) (hq : (canI F.toDesc q).length = d + 1) (hp : (canI F.toDesc p).length = pl) (hcond : pl < d) (A A1 A2 : Option Addr) (c c1 c2 : Nat) (w : World) (hr : Rd w w.heap.size A (modL F.toDesc)) (hr1 : Rd w w.heap.size A1 p) (hr2 : Rd w w.heap.size A2 q) (hl1 : p.length ≤ 1000) (hl2 : q.length ≤ 1000) :
  Calls Tryz.prog 177 #[.agg #[.int .i64 F.p,.int .i64 F.m,.slice A F.mod.length c],.slice A1 p.length c1,.slice A2 q.length c2] w (RemPost F p q d w) := by
 have hqle := canI_le F.toDesc q;have hple := canI_le F.toDesc p;have hCq := fun W h => Canon5_any F.toDesc q A A2 c c2 W h (by omega)
 have hCp := fun W h => Canon5_any F.toDesc p A A1 c c1 W h (by omega)
 obtain ⟨N,hN⟩ : ∃ N,N = d + 1 := ⟨_,rfl⟩;obtain ⟨q',hq'⟩ : ∃ q',q' = canI F.toDesc q := ⟨_,rfl⟩;obtain ⟨p',hp'⟩ : ∃ p',p' = canI F.toDesc p := ⟨_,rfl⟩;have hqe : plI F.toDesc q' = plI F.toDesc q := by rw [hq',plI_canI]
 have hpe : plI F.toDesc p' = plI F.toDesc p := by rw [hp',plI_canI]
 have hqc : canI F.toDesc q' = q' := by rw [hq',canI_canI]
 have hpc : canI F.toDesc p' = p' := by rw [hp',canI_canI]
 unfold Gives at hCq hCp;rw [← hq',← hN] at hq;rw [← hp'] at hp;rw [← hq',hq,hN] at hqle;rw [← hq',hq] at hCq;rw [← hp',hp] at hCp;rw [← hp',hp] at hple;have hlead : cfR F.toDesc q' d ≠ 0 := can_lead hqc (by rw [hq,hN]);have hIv := fun W h => Inv_any F (q'[d]?.getD 0) A c W h
 rw [show eli F.toDesc (q'[d]?.getD 0) = cfR F.toDesc q' d from rfl] at hIv;obtain ⟨z,hz⟩ : ∃ z,z = ci (inv (cfR F.toDesc q' d)) := ⟨_,rfl⟩;rw [← hz] at hIv;obtain ⟨lc,hlc⟩ : ∃ lc,lc = q'[d]?.getD 0 := ⟨_,rfl⟩;rw [← hlc] at hIv;have hsub : (N : Int) - 1 = (d : Int) := by omega
 have hdN : (d : Int) < (N : Int) := by omega
 have hd0 : (0 : Int) ≤ (d : Int) := by omega
 have hd1000 : d ≤ 1000 := by omega
 have hB0 : Below w.heap.size w (w.alloc (.cells #[.int .i64 F.p,.int .i64 F.m,.slice A F.mod.length c] 24)) := (Below.refl _ _).alloc (Nat.le_refl _) _;have hbx0 := Lib.hid (Bx.new w F.toDesc A F.mod.length c 24);have hx1 : (pl : Int) - (d : Int) < 0 := by omega
 have hx2 : ¬ (0 : Int) ≤ (pl : Int) - (d : Int) := by omega
 have hx3 : ¬ (0 : Int) < (pl : Int) - (d : Int) := by omega
 have hx4 : ¬ (d : Int) < (pl : Int) := by omega
 have hx5 : (pl : Int) ≤ (d : Int) := by omega
 have hx6 : (pl : Int) < (d : Int) := by omega
 have hR : pl ≤ 1000 := by omega
 replace hq := Lib.hid hq;replace hp := Lib.hid hp;replace hq' := Lib.hid hq';replace hp' := Lib.hid hp';replace hqe := Lib.hid hqe;replace hpe := Lib.hid hpe;replace hqc := Lib.hid hqc;replace hpc := Lib.hid hpc;replace hz := Lib.hid hz;replace hlc := Lib.hid hlc;replace hN := Lib.hid hN;replace hCq := fun W h => Lib.hid (hCq W h)
 replace hCp := fun W h => Lib.hid (hCp W h)
 replace hIv := fun W h => Lib.hid (hIv W h)
 unfold RemPost;go_enter Tryz.func177,Tryz.ntmps177;go_wp2_with (fail);(with_reducible refine (hCq _ ((hr2.below hB0).more hB0.size)).out.mono ?_);rintro e w1 ⟨g1,rfl,hg1,hib1,hb1⟩;have hB1 := hB0.trans (hb1.mono hB0.size);have hs1 : w.heap.size < w1.heap.size := by have := hb1.size; simp only [World.size_alloc] at this; omega
 have hbx1 := Lib.hid (hbx0.out.below hb1 (by simp));obtain ⟨q0,q1,q2⟩ := hbx1.out.cells;go_wp2_with (fail);(with_reducible refine (hCp _ ((hr1.below hB1).more hB1.size)).out.mono ?_);rintro e w2 ⟨g2,rfl,hg2,hib2,hb2⟩;clear q0 q1 q2;have hB2 := hB1.trans (hb2.mono hB1.size);have hs2 := Nat.lt_of_lt_of_le hs1 hb2.size;have hbx2 := Lib.hid (hbx1.out.below hb2 hs1);have hq2 := hib1.below hb2 hib1.lt;have hg1l := hq2.lt;have hcd := hq2.cell (i := d) (by rw [hq.out,hN.out]; omega);rw [← hlc.out] at hcd;have hrd2 : Rd w2.drew w2.drew.heap.size A (modL F.toDesc) := ((hr.below hB2).more hB2.size).drew;have hIv2 := hIv w2.drew hrd2;have hcc := Lib.hid (show _ ∧ _ from ⟨hbx2.out.cells,hcd⟩);clear hcd hCp hCq hIv hb1 hB0 hB1 hib1 hbx0 hbx1;go_wp2_with (fail);refine wp_region_held_drew (S := fun w' => (w'.cell? ⟨w.heap.size,0,none⟩ = some (.int .i64 F.p) ∧ w'.cell? ⟨w.heap.size,1,none⟩ = some (.int .i64 F.m) ∧ w'.cell? ⟨w.heap.size,2,none⟩ = some (.slice A F.mod.length c)) ∧ w'.cell? ⟨g1,d,none⟩ = some (.int .i64 lc)) (by kernel_rfl) (by (try dsimp only); exact hcc.out) (fun hHeld => ?_);refine tk 0 ?_; try simp only [pS]
 refine tk 1 ?_; try simp only [pS]
 refine tk 2 ?_; try simp only [pS]
 refine tk 3 ?_; try simp only [pS]
 refine tk 4 ?_; try simp only [pS]
 refine rd 5 fun K hK => ?_
 go_simp;go_at_call 110;(with_reducible refine (hIv2).out.mono ?_);rintro e w3 ⟨rfl,hx3⟩;have hb3 := (Below.refl w2.heap.size w2).drew.trans hx3;go_wp2_with (fail);refine hK.out _ _ (by (try dsimp only); exact ⟨keep3 hb3 hs2 hcc.out.1,(hb3.cell (p := ⟨g1,d,none⟩) hg1l).trans hcc.out.2⟩) (fun hHeld => ?_);clear hK K;try simp only [pS]
 refine tk 6 ?_; try simp only [pS]
 refine wpAnyH_done (by kernel_rfl) ?_ _;have hB3 := hB2.trans (hb3.mono hB2.size);have hs3 := Nat.lt_of_lt_of_le hs2 hb3.size;have hbx3 := hbx2.out.below hb3 hs2;have hq3 := hq2.below hb3 hg1l;have hp3 := hib2.below hb3 hib2.lt;clear hcc hIv2 hbx2 hq2 hib2 hrd2 hb2;have hmk0 := mk_ints 0 (by omega);rw [show ((0 : Nat) : Int) = 0 from rfl] at hmk0;obtain ⟨gq,hgq⟩ : ∃ gq,gq = w3.heap.size := ⟨_,rfl⟩;obtain ⟨Y,hY⟩ : ∃ Y,Y = w3.alloc (.cells #[] 3) := ⟨_,rfl⟩;have hbY : Below w3.heap.size w3 Y := by rw [hY]; exact (Below.refl _ _).alloc (Nat.le_refl _) _
 have hpY := hp3.below hbY hp3.lt;have hbxY := hbx3.below hbY hs3;have hBY := hB3.trans (hbY.mono hB3.size);have hC0 := Canon5_any F.toDesc [] A (some ⟨gq,0,none⟩) c 0 Y (fun h => absurd h (Nat.lt_irrefl _)) (by simp);rw [show ([] : List Int).length = 0 from rfl] at hC0;replace hC0 := Lib.hid hC0;replace hY := Lib.hid hY;go_wp2_with (fail);rw [← hY.out];simp only [← hgq];replace hgq := Lib.hid hgq;clear hmk0;go_loopw [8] (fun rS wr => rS = .slice (some ⟨g2,0,none⟩) pl pl ∧ wr = Y) (fun _ _ => 0)
 case atStart => exact ⟨rfl,rfl⟩
 case round =>
  obtain ⟨rfl,rfl⟩ := hrel;obtain ⟨q0,q1,q2⟩ := hbxY.cells;go_wp2_with (fail);(with_reducible refine hC0.out.mono ?_);rintro e w5 ⟨g5,rfl,-,-,hb5⟩;have hfin := (hpY.below hb5 hpY.lt).rd;have hp2 := hp.out;go_wp2_with (fail);go_ret2;refine ⟨_,p',some ⟨g2,0,none⟩,pl,by rw [hp.out]; rfl,hfin,hpc.out,by rw [hp.out]; omega,QuoI.zero hpe.out,hBY.trans (hb5.mono hBY.size)⟩

set_option maxRecDepth 100000 in
set_option maxHeartbeats 4000000 in
theorem DivMod5_eq (F : FD) (p q : List Int) (d : Nat) (hq : (canI F.toDesc q).length = d + 1) (hp : (canI F.toDesc p).length = d) (A A1 A2 : Option Addr) (c c1 c2 : Nat) (w : World) (hr : Rd w w.heap.size A (modL F.toDesc)) (hr1 : Rd w w.heap.size A1 p) (hr2 : Rd w w.heap.size A2 q) (hl1 : p.length ≤ 1000) (hl2 : q.length ≤ 1000) :
  Calls Tryz.prog 177 #[.agg #[.int .i64 F.p,.int .i64 F.m,.slice A F.mod.length c],.slice A1 p.length c1,.slice A2 q.length c2] w (RemPost F p q d w) := by
 have hqle := canI_le F.toDesc q;have hple := canI_le F.toDesc p;have hCq := fun W h => Canon5_any F.toDesc q A A2 c c2 W h (by omega)
 have hCp := fun W h => Canon5_any F.toDesc p A A1 c c1 W h (by omega)
 obtain ⟨N,hN⟩ : ∃ N,N = d + 1 := ⟨_,rfl⟩;obtain ⟨q',hq'⟩ : ∃ q',q' = canI F.toDesc q := ⟨_,rfl⟩;obtain ⟨p',hp'⟩ : ∃ p',p' = canI F.toDesc p := ⟨_,rfl⟩;have hqe : plI F.toDesc q' = plI F.toDesc q := by rw [hq',plI_canI]
 have hpe : plI F.toDesc p' = plI F.toDesc p := by rw [hp',plI_canI]
 have hqc : canI F.toDesc q' = q' := by rw [hq',canI_canI]
 have hpc : canI F.toDesc p' = p' := by rw [hp',canI_canI]
 unfold Gives at hCq hCp;rw [← hq',← hN] at hq;rw [← hp'] at hp;rw [← hq',hq,hN] at hqle;rw [← hq',hq] at hCq;rw [← hp',hp] at hCp;rw [← hp',hp] at hple;have hlead : cfR F.toDesc q' d ≠ 0 := can_lead hqc (by rw [hq,hN]);have hIv := fun W h => Inv_any F (q'[d]?.getD 0) A c W h
 rw [show eli F.toDesc (q'[d]?.getD 0) = cfR F.toDesc q' d from rfl] at hIv;obtain ⟨z,hz⟩ : ∃ z,z = ci (inv (cfR F.toDesc q' d)) := ⟨_,rfl⟩;rw [← hz] at hIv;obtain ⟨lc,hlc⟩ : ∃ lc,lc = q'[d]?.getD 0 := ⟨_,rfl⟩;rw [← hlc] at hIv;have hsub : (N : Int) - 1 = (d : Int) := by omega
 have hdN : (d : Int) < (N : Int) := by omega
 have hd0 : (0 : Int) ≤ (d : Int) := by omega
 have hd1000 : d ≤ 1000 := by omega
 have hB0 : Below w.heap.size w (w.alloc (.cells #[.int .i64 F.p,.int .i64 F.m,.slice A F.mod.length c] 24)) := (Below.refl _ _).alloc (Nat.le_refl _) _;have hbx0 := Lib.hid (Bx.new w F.toDesc A F.mod.length c 24);replace hq := Lib.hid hq;replace hp := Lib.hid hp;replace hq' := Lib.hid hq';replace hp' := Lib.hid hp';replace hqe := Lib.hid hqe;replace hpe := Lib.hid hpe;replace hqc := Lib.hid hqc;replace hpc := Lib.hid hpc;replace hz := Lib.hid hz;replace hlc := Lib.hid hlc;replace hN := Lib.hid hN;replace hCq := fun W h => Lib.hid (hCq W h)
 replace hCp := fun W h => Lib.hid (hCp W h)
 replace hIv := fun W h => Lib.hid (hIv W h)
 unfold RemPost;go_enter Tryz.func177,Tryz.ntmps177;go_wp2_with (fail);(with_reducible refine (hCq _ ((hr2.below hB0).more hB0.size)).out.mono ?_);rintro e w1 ⟨g1,rfl,hg1,hib1,hb1⟩;have hB1 := hB0.trans (hb1.mono hB0.size);have hs1 : w.heap.size < w1.heap.size := by have := hb1.size; simp only [World.size_alloc] at this; omega
 have hbx1 := Lib.hid (hbx0.out.below hb1 (by simp));obtain ⟨q0,q1,q2⟩ := hbx1.out.cells;go_wp2_with (fail);(with_reducible refine (hCp _ ((hr1.below hB1).more hB1.size)).out.mono ?_);rintro e w2 ⟨g2,rfl,hg2,hib2,hb2⟩;clear q0 q1 q2;have hB2 := hB1.trans (hb2.mono hB1.size);have hs2 := Nat.lt_of_lt_of_le hs1 hb2.size;have hbx2 := Lib.hid (hbx1.out.below hb2 hs1);have hq2 := hib1.below hb2 hib1.lt;have hg1l := hq2.lt;have hcd := hq2.cell (i := d) (by rw [hq.out,hN.out]; omega);rw [← hlc.out] at hcd;have hrd2 : Rd w2.drew w2.drew.heap.size A (modL F.toDesc) := ((hr.below hB2).more hB2.size).drew;have hIv2 := hIv w2.drew hrd2;have hcc := Lib.hid (show _ ∧ _ from ⟨hbx2.out.cells,hcd⟩);clear hcd hCp hCq hIv hb1 hB0 hB1 hib1 hbx0 hbx1;go_wp2_with (fail);refine wp_region_held_drew (S := fun w' => (w'.cell? ⟨w.heap.size,0,none⟩ = some (.int .i64 F.p) ∧ w'.cell? ⟨w.heap.size,1,none⟩ = some (.int .i64 F.m) ∧ w'.cell? ⟨w.heap.size,2,none⟩ = some (.slice A F.mod.length c)) ∧ w'.cell? ⟨g1,d,none⟩ = some (.int .i64 lc)) (by kernel_rfl) (by (try dsimp only); exact hcc.out) (fun hHeld => ?_);refine tk 0 ?_; try simp only [pS]
 refine tk 1 ?_; try simp only [pS]
 refine tk 2 ?_; try simp only [pS]
 refine tk 3 ?_; try simp only [pS]
 refine tk 4 ?_; try simp only [pS]
 refine rd 5 fun K hK => ?_
 go_simp;go_at_call 110;(with_reducible refine (hIv2).out.mono ?_);rintro e w3 ⟨rfl,hx3⟩;have hb3 := (Below.refl w2.heap.size w2).drew.trans hx3;go_wp2_with (fail);refine hK.out _ _ (by (try dsimp only); exact ⟨keep3 hb3 hs2 hcc.out.1,(hb3.cell (p := ⟨g1,d,none⟩) hg1l).trans hcc.out.2⟩) (fun hHeld => ?_);clear hK K;try simp only [pS]
 refine tk 6 ?_; try simp only [pS]
 refine wpAnyH_done (by kernel_rfl) ?_ _;have hB3 := hB2.trans (hb3.mono hB2.size);have hs3 := Nat.lt_of_lt_of_le hs2 hb3.size;have hbx3 := hbx2.out.below hb3 hs2;have hq3 := hq2.below hb3 hg1l;have hp3 := hib2.below hb3 hib2.lt;clear hcc hIv2 hbx2 hq2 hib2 hrd2 hb2;have hmk0 := mk_ints 0 (by omega);rw [show ((0 : Nat) : Int) = 0 from rfl] at hmk0;obtain ⟨gq,hgq⟩ : ∃ gq,gq = w3.heap.size := ⟨_,rfl⟩;obtain ⟨Y,hY⟩ : ∃ Y,Y = w3.alloc (.cells #[] 3) := ⟨_,rfl⟩;have hbY : Below w3.heap.size w3 Y := by rw [hY]; exact (Below.refl _ _).alloc (Nat.le_refl _) _
 have hpY := hp3.below hbY hp3.lt;have hbxY := hbx3.below hbY hs3;have hBY := hB3.trans (hbY.mono hB3.size);have hC0 := Canon5_any F.toDesc [] A (some ⟨gq,0,none⟩) c 0 Y (fun h => absurd h (Nat.lt_irrefl _)) (by simp);rw [show ([] : List Int).length = 0 from rfl] at hC0;replace hC0 := Lib.hid hC0;replace hY := Lib.hid hY;go_wp2_with (fail);rw [← hY.out];simp only [← hgq];replace hgq := Lib.hid hgq;clear hmk0;go_loopw [8] (fun rS wr => rS = .slice (some ⟨g2,0,none⟩) d d ∧ wr = Y) (fun _ _ => 0)
 case atStart => exact ⟨rfl,rfl⟩
 case round =>
  obtain ⟨rfl,rfl⟩ := hrel;obtain ⟨q0,q1,q2⟩ := hbxY.cells;go_wp2_with (fail);(with_reducible refine hC0.out.mono ?_);rintro e w5 ⟨g5,rfl,-,-,hb5⟩;have hfin := (hpY.below hb5 hpY.lt).rd;have hp2 := hp.out;go_wp2_with (fail);go_ret2;refine ⟨_,p',some ⟨g2,0,none⟩,d,by rw [hp.out]; rfl,hfin,hpc.out,by rw [hp.out]; omega,QuoI.zero hpe.out,hBY.trans (hb5.mono hBY.size)⟩

set_option maxRecDepth 100000 in
set_option maxHeartbeats 4000000 in
theorem DivMod5_gt (F : FD) (p q : List Int) (d k pl : Nat) (hq : (canI F.toDesc q).length = d + 1) (hp : (canI F.toDesc p).length = pl) (hR : pl = d + k) (hk : 1 ≤ k) (A A1 A2 : Option Addr) (c c1 c2 : Nat) (w : World) (hr : Rd w w.heap.size A (modL F.toDesc)) (hr1 : Rd w w.heap.size A1 p) (hr2 : Rd w w.heap.size A2 q) (hl1 : p.length ≤ 1000) (hl2 : q.length ≤ 1000) :
  Calls Tryz.prog 177 #[.agg #[.int .i64 F.p,.int .i64 F.m,.slice A F.mod.length c],.slice A1 p.length c1,.slice A2 q.length c2] w (RemPost F p q d w) := by
 have hqle := canI_le F.toDesc q;have hple := canI_le F.toDesc p;have hCq := fun W h => Canon5_any F.toDesc q A A2 c c2 W h (by omega)
 have hCp := fun W h => Canon5_any F.toDesc p A A1 c c1 W h (by omega)
 obtain ⟨N,hN⟩ : ∃ N,N = d + 1 := ⟨_,rfl⟩;obtain ⟨q',hq'⟩ : ∃ q',q' = canI F.toDesc q := ⟨_,rfl⟩;obtain ⟨p',hp'⟩ : ∃ p',p' = canI F.toDesc p := ⟨_,rfl⟩;have hqe : plI F.toDesc q' = plI F.toDesc q := by rw [hq',plI_canI]
 have hpe : plI F.toDesc p' = plI F.toDesc p := by rw [hp',plI_canI]
 have hqc : canI F.toDesc q' = q' := by rw [hq',canI_canI]
 have hpc : canI F.toDesc p' = p' := by rw [hp',canI_canI]
 unfold Gives at hCq hCp;rw [← hq',← hN] at hq;rw [← hp'] at hp;rw [← hq',hq,hN] at hqle;rw [← hq',hq] at hCq;rw [← hp',hp] at hCp;rw [← hp',hp] at hple;have hlead : cfR F.toDesc q' d ≠ 0 := can_lead hqc (by rw [hq,hN]);have hIv := fun W h => Inv_any F (q'[d]?.getD 0) A c W h
 rw [show eli F.toDesc (q'[d]?.getD 0) = cfR F.toDesc q' d from rfl] at hIv;obtain ⟨z,hz⟩ : ∃ z,z = ci (inv (cfR F.toDesc q' d)) := ⟨_,rfl⟩;rw [← hz] at hIv;obtain ⟨lc,hlc⟩ : ∃ lc,lc = q'[d]?.getD 0 := ⟨_,rfl⟩;rw [← hlc] at hIv;have hsub : (N : Int) - 1 = (d : Int) := by omega
 have hdN : (d : Int) < (N : Int) := by omega
 have hd0 : (0 : Int) ≤ (d : Int) := by omega
 have hd1000 : d ≤ 1000 := by omega
 have hB0 : Below w.heap.size w (w.alloc (.cells #[.int .i64 F.p,.int .i64 F.m,.slice A F.mod.length c] 24)) := (Below.refl _ _).alloc (Nat.le_refl _) _;have hbx0 := Lib.hid (Bx.new w F.toDesc A F.mod.length c 24);have hx1 : (0 : Int) < (pl : Int) - (d : Int) := by omega
 have hx2 : (0 : Int) ≤ (pl : Int) - (d : Int) := by omega
 have hx3 : ¬ (pl : Int) - (d : Int) < 0 := by omega
 have hx4 : ¬ (pl : Int) - (d : Int) ≤ 0 := by omega
 have hx5 : (d : Int) < (pl : Int) := by omega
 have hR1000 : pl ≤ 1000 := by omega
 have hmk := mk_ints k (by omega);rw [show (k : Int) = (pl : Int) - (d : Int) by omega] at hmk;have hqN : N ≤ 1001 := by omega
 have hdk : d + k ≤ 1000 := by omega
 replace hR := Lib.hid hR;replace hq := Lib.hid hq;replace hp := Lib.hid hp;replace hq' := Lib.hid hq';replace hp' := Lib.hid hp';replace hqe := Lib.hid hqe;replace hpe := Lib.hid hpe;replace hqc := Lib.hid hqc;replace hpc := Lib.hid hpc;replace hz := Lib.hid hz;replace hlc := Lib.hid hlc;replace hN := Lib.hid hN;replace hCq := fun W h => Lib.hid (hCq W h)
 replace hCp := fun W h => Lib.hid (hCp W h)
 replace hIv := fun W h => Lib.hid (hIv W h)
 unfold RemPost;go_enter Tryz.func177,Tryz.ntmps177;go_wp2_with (fail);(with_reducible refine (hCq _ ((hr2.below hB0).more hB0.size)).out.mono ?_);rintro e w1 ⟨g1,rfl,hg1,hib1,hb1⟩;have hB1 := hB0.trans (hb1.mono hB0.size);have hs1 : w.heap.size < w1.heap.size := by have := hb1.size; simp only [World.size_alloc] at this; omega
 have hbx1 := Lib.hid (hbx0.out.below hb1 (by simp));obtain ⟨q0,q1,q2⟩ := hbx1.out.cells;go_wp2_with (fail);(with_reducible refine (hCp _ ((hr1.below hB1).more hB1.size)).out.mono ?_);rintro e w2 ⟨g2,rfl,hg2,hib2,hb2⟩;clear q0 q1 q2;have hB2 := hB1.trans (hb2.mono hB1.size);have hs2 := Nat.lt_of_lt_of_le hs1 hb2.size;have hbx2 := Lib.hid (hbx1.out.below hb2 hs1);have hq2 := hib1.below hb2 hib1.lt;have hg1l := hq2.lt;have hcd := hq2.cell (i := d) (by rw [hq.out,hN.out]; omega);rw [← hlc.out] at hcd;have hrd2 : Rd w2.drew w2.drew.heap.size A (modL F.toDesc) := ((hr.below hB2).more hB2.size).drew;have hIv2 := hIv w2.drew hrd2;have hcc := Lib.hid (show _ ∧ _ from ⟨hbx2.out.cells,hcd⟩);clear hcd hCp hCq hIv hb1 hB0 hB1 hib1 hbx0 hbx1;go_wp2_with (fail);refine wp_region_held_drew (S := fun w' => (w'.cell? ⟨w.heap.size,0,none⟩ = some (.int .i64 F.p) ∧ w'.cell? ⟨w.heap.size,1,none⟩ = some (.int .i64 F.m) ∧ w'.cell? ⟨w.heap.size,2,none⟩ = some (.slice A F.mod.length c)) ∧ w'.cell? ⟨g1,d,none⟩ = some (.int .i64 lc)) (by kernel_rfl) (by (try dsimp only); exact hcc.out) (fun hHeld => ?_);refine tk 0 ?_; try simp only [pS]
 refine tk 1 ?_; try simp only [pS]
 refine tk 2 ?_; try simp only [pS]
 refine tk 3 ?_; try simp only [pS]
 refine tk 4 ?_; try simp only [pS]
 refine rd 5 fun K hK => ?_
 go_simp;go_at_call 110;(with_reducible refine (hIv2).out.mono ?_);rintro e w3 ⟨rfl,hx3⟩;have hb3 := (Below.refl w2.heap.size w2).drew.trans hx3;go_wp2_with (fail);refine hK.out _ _ (by (try dsimp only); exact ⟨keep3 hb3 hs2 hcc.out.1,(hb3.cell (p := ⟨g1,d,none⟩) hg1l).trans hcc.out.2⟩) (fun hHeld => ?_);clear hK K;try simp only [pS]
 refine tk 6 ?_; try simp only [pS]
 refine wpAnyH_done (by kernel_rfl) ?_ _;have hB3 := hB2.trans (hb3.mono hB2.size);have hs3 := Nat.lt_of_lt_of_le hs2 hb3.size;have hbx3 := hbx2.out.below hb3 hs2;have hq3 := hq2.below hb3 hg1l;have hp3 := hib2.below hb3 hib2.lt;clear hcc hIv2 hbx2 hq2 hib2 hrd2 hb2;obtain ⟨gq,hgq⟩ : ∃ gq,gq = w3.heap.size := ⟨_,rfl⟩;obtain ⟨Y,hY⟩ : ∃ Y,Y = w3.alloc (.cells (Array.replicate k (Value.int .i64 0)) 3) := ⟨_,rfl⟩;have hib : IB Y gq (List.replicate k 0) := by rw [hY,hgq]; exact IB.newz w3 k
 have hbY : Below w3.heap.size w3 Y := by rw [hY]; exact (Below.refl _ _).alloc (Nat.le_refl _) _
 have hpY := hp3.below hbY hp3.lt;have hqY := hq3.below hbY hq3.lt;have hbxY := hbx3.below hbY hs3;have hBY := hB3.trans (hbY.mono hB3.size);have hsY := Nat.lt_of_lt_of_le hs3 hbY.size;have hwg : w.heap.size < gq := by omega
 have hg1q : g1 < gq := by have := hq3.lt; omega
 have hg2q : g2 < gq := by have := hp3.lt; omega
 replace hY := Lib.hid hY;have hM := fun y W h => Lib.hid (Mul_any F.toDesc y z A c W h)
 have hSc := fun a W h h1 => Scale5_any F.toDesc a q' A (some ⟨g1,0,none⟩) c N W h h1 (by rw [hq.out]; omega)
 rw [hq.out] at hSc;have hPw := fun n W hn => Lib.hid (Pow5_any n W hn)
 have hMu := fun a n B1 B2 d1 d2 W h h1 h2 (hn : n ≤ 1000) => Mul5_any F.toDesc (scaleI F.toDesc a q') (powI n) A B1 B2 c d1 d2 W h h1 h2 (by have := scaleI_le F.toDesc a q'; rw [hq.out] at this; omega) (by rw [powI_length]; omega)
 replace hSc := fun a W h h1 => Lib.hid (hSc a W h h1)
 replace hMu := fun a n B1 B2 d1 d2 W h h1 h2 hn => Lib.hid (hMu a n B1 B2 d1 d2 W h h1 h2 hn)
 go_wp2_with (fail);rw [← hY.out];simp only [← hgq];replace hgq := Lib.hid hgq;clear hmk hx1 hx2 hx3 hx4;go_loopw [8] (fun rS wr => ∃ r Ar cr,rS = .slice Ar r.length cr ∧ Rd wr wr.heap.size Ar r ∧ (∀ b,Ar = some b → b.block ≠ gq) ∧ Hid (canI F.toDesc r = r) ∧ r.length ≤ d + k ∧ Hid (QuoI F.toDesc p q r) ∧ Hid (∃ lq,lq.length = k ∧ IB wr gq lq) ∧ IB wr g1 q' ∧ Bx wr w.heap.size F.toDesc A F.mod.length c ∧ Below w.heap.size w wr) (fun rS _ => lenOf rS)
 case atStart => exact ⟨p',some ⟨g2,0,none⟩,_,by rw [hp.out],hpY.rd,(fun b h => by injection h with h; rw [← h]; show g2 ≠ gq; omega),hpc,by rw [hp.out,hR.out]; omega,QuoI.zero hpe.out,⟨_,by simp,hib⟩,hqY,hbxY,hBY⟩
 case round =>
  clear hib hpY hqY hbxY hBY hsY hY hbY hp3 hq3 hbx3;obtain ⟨w4,rfl⟩ : ∃ w4 : World,w4 = wr := ⟨_,rfl⟩;obtain ⟨r,Ar,cr,rfl,hrr,hrn,hrc,hrl,hrQ,hlq,hq4,hbx,hbw⟩ := hrel;obtain ⟨q0,q1,q2⟩ := hbx.cells;by_cases hlt : d < r.length
  ·obtain ⟨n,hn⟩ : ∃ n,r.length = d + n + 1 := ⟨r.length - d - 1,by omega⟩;obtain ⟨ee,he⟩ : ∃ ee,ee = d + n := ⟨_,rfl⟩;have hnk : n < k := by omega
   have n0 : (0 : Int) ≤ (n : Int) := by omega
   have n1 : (n : Int) < (k : Int) := by omega
   have e0 : (0 : Int) ≤ (ee : Int) := by omega
   have e1 : (ee : Int) < (r.length : Int) := by omega
   have e2 : (d : Int) ≤ (ee : Int) := by omega
   have hlti : (d : Int) < (r.length : Int) := by omega
   have hR1000 : r.length ≤ 2000 := by omega
   have hre : (r.length : Int) - 1 = (ee : Int) := by omega
   have hen : (ee : Int) - (d : Int) = (n : Int) := by omega
   have hwe : IntKind.i64.wrap (ee : Int) = (ee : Int) := IntWalk.i64_in _ (by omega);have hwr : IntKind.i64.wrap ((r.length : Int) - 1) = (ee : Int) := by rw [hre]; exact IntWalk.i64_in _ (by omega)
   obtain ⟨br,or_,rfl,hbr,hcr⟩ := hrr.at_ (k := ee) (by omega);have hbrq : br ≠ gq := hrn _ rfl;have hgl : gq < w4.heap.size := by obtain ⟨lq,-,h⟩ := hlq.out; exact h.lt
   have hg14 := hq4.lt;have hwl : w.heap.size < w4.heap.size := by omega
   have hr4 := (hr.below hbw).more hbw.size;have hrd : Rd w4.drew w4.drew.heap.size A (modL F.toDesc) := hr4.drew;have hM4 := (hM (r[ee]?.getD 0) w4.drew hrd).out;rw [show eli F.toDesc (r[ee]?.getD 0) = cfR F.toDesc r ee from rfl,hz.out,eli_ci] at hM4;obtain ⟨y,hy⟩ : ∃ y,y = r[ee]?.getD 0 := ⟨_,rfl⟩;obtain ⟨a,ha⟩ : ∃ a,a = ci (cfR F.toDesc r ee * inv (cfR F.toDesc q' d)) := ⟨_,rfl⟩;rw [← hy] at hcr hM4;rw [← ha,← hz.out] at hM4;have hae : Hid (eli F.toDesc a * cfR F.toDesc q' d = cfR F.toDesc r (d + n)) := by
    unfold Hid; rw [ha,eli_ci,mul_a,inv_mul hlead,mul_one,he]
   have hst : Hid ((stepI F.toDesc r q' a n).length ≤ d + n) := stepI_short hn (by rw [hq.out,hN.out]) hae.out;have hsQ : Hid (QuoI F.toDesc p q (stepI F.toDesc r q' a n)) := hrQ.out.step hqe.out a n;have hsc : Hid (canI F.toDesc (stepI F.toDesc r q' a n) = stepI F.toDesc r q' a n) := canI_addI _ _ _;obtain ⟨lq,hlql,hibq⟩ := hlq.out;replace hlql := Lib.hid hlql;replace hibq := Lib.hid hibq;have hSb := fun B1 d1 W a1 a2 a3 b1 => Lib.hid (Sub5_any F.toDesc r (mulI F.toDesc (scaleI F.toDesc a q') (powI n)) A (some ⟨br,or_,none⟩) B1 c cr d1 W a1 a2 a3 (by omega) b1)
   have hcc := Lib.hid (show _ ∧ _ from ⟨hbx.cells,hcr⟩);replace hM4 := Lib.hid hM4;replace hy := Lib.hid hy;replace ha := Lib.hid ha;replace he := Lib.hid he;replace hn := Lib.hid hn;clear hcr hlq hrQ hrc hrn;go_wp2_with (fail);refine wp_region_held_drew (S := fun w' => (w'.cell? ⟨w.heap.size,0,none⟩ = some (.int .i64 F.p) ∧ w'.cell? ⟨w.heap.size,1,none⟩ = some (.int .i64 F.m) ∧ w'.cell? ⟨w.heap.size,2,none⟩ = some (.slice A F.mod.length c)) ∧ w'.cell? ⟨br,or_ + ee,none⟩ = some (.int .i64 y)) (by kernel_rfl) (by (try dsimp only); exact hcc.out) (fun hHeld => ?_);refine tk 0 ?_; try simp only [pS]
   refine tk 1 ?_; try simp only [pS]
   refine tk 2 ?_; try simp only [pS]
   refine tk 3 ?_; try simp only [pS]
   refine tk 4 ?_; try simp only [pS]
   refine tk 5 ?_; try simp only [pS]
   refine tk 6 ?_; try simp only [pS]
   refine tk 7 ?_; try simp only [pS]
   refine rd 8 fun K hK => ?_
   go_simp;go_at_call 29;(with_reducible refine (hM4).out.mono ?_);rintro e5 w5 ⟨rfl,hx5⟩;have hb5 := (Below.refl w4.heap.size w4).drew.trans hx5;have hs5 := hb5.size;have hcc5 := Lib.hid (show _ ∧ _ from ⟨keep3 hb5 hwl hcc.out.1,(hb5.cell (p := ⟨br,or_ + ee,none⟩) hbr).trans hcc.out.2⟩);go_wp2_with (fail);refine hK.out _ _ (by (try dsimp only); exact hcc5.out) (fun hHeld => ?_);clear hK K;try simp only [pS]
   refine tk 9 ?_; try simp only [pS]
   refine wpAnyH_done (by kernel_rfl) ?_ _;clear hre hen hwr hwe;have hibq5 := hibq.out.below hb5 hgl;have hcW := hibq5.cell (i := n) (by rw [hlql.out]; exact hnk);have hfW := hibq5.frozen n;have hB5 := hbw.trans (hb5.mono hbw.size);have hb6 : Below gq w5 (w5.setCell ⟨gq,n,none⟩ (.int .i64 a)) := (Below.refl _ _).setCell (p := ⟨gq,n,none⟩) (Nat.le_refl _) _;have hB6 : Below w.heap.size w (w5.setCell ⟨gq,n,none⟩ (.int .i64 a)) := hB5.trans (hb6.mono (Nat.le_of_lt hwg));have hibq6 : IB (w5.setCell ⟨gq,n,none⟩ (.int .i64 a)) gq (lq.set n a) := hibq5.set_ n a;have hq6 := (hq4.below hb5 hg14).far (p := ⟨gq,n,none⟩) (Nat.ne_of_lt hg1q) (.int .i64 a);have hcc6 := Lib.hid (keep3 hb6 hwg hcc5.out.1);have hrr6 : Rd (w5.setCell ⟨gq,n,none⟩ (.int .i64 a)) w5.heap.size (some ⟨br,or_,none⟩) r := ((hrr.below hb5).more hb5.size).far (fun b h => by injection h with h; rw [← h]; exact hbrq) n (.int .i64 a);obtain ⟨w6,hw6⟩ : ∃ w6,w6 = w5.setCell ⟨gq,n,none⟩ (.int .i64 a) := ⟨_,rfl⟩;have hs6 : w6.heap.size = w5.heap.size := by rw [hw6]; simp [World.setCell]
   rw [← hw6] at hB6 hibq6 hq6 hcc6 hrr6;rw [← hs6] at hrr6;have hw6l : w.heap.size < w6.heap.size := by omega
   have hr6 := (hr.below hB6).more hB6.size;have hr6d : Rd w6.drew w6.drew.heap.size A (modL F.toDesc) := hr6.drew;have hq6d : Rd w6.drew w6.drew.heap.size (some ⟨g1,0,none⟩) q' := hq6.rd.drew;have hS6 := hSc a w6.drew hr6d hq6d;have hg16 := hq6.lt;have hgq6 := hibq6.lt;have hn1000 : n ≤ 1000 := by omega
   have hset : Hid (∃ l,l.length = k ∧ IB w6 gq l) := ⟨_,by rw [List.length_set]; exact hlql.out,hibq6⟩;replace hw6 := Lib.hid hw6;replace hs6 := Lib.hid hs6;clear hb6 hibq5 hibq6 hibq hlql hB5;go_wp2_with (fail);rw [← hw6.out];clear hcW hfW;refine wp_region_held_drew (S := fun w' => w'.cell? ⟨w.heap.size,0,none⟩ = some (.int .i64 F.p) ∧ w'.cell? ⟨w.heap.size,1,none⟩ = some (.int .i64 F.m) ∧ w'.cell? ⟨w.heap.size,2,none⟩ = some (.slice A F.mod.length c)) (by kernel_rfl) (by (try dsimp only); exact hcc6.out) (fun hHeld => ?_);refine tk 0 ?_; try simp only [pS]
   refine tk 1 ?_; try simp only [pS]
   refine tk 2 ?_; try simp only [pS]
   refine tk 3 ?_; try simp only [pS]
   refine tk 4 ?_; try simp only [pS]
   refine tk 5 ?_; try simp only [pS]
   refine tk 7 ?_; try simp only [pS]
   refine rd 6 fun K hK => ?_
   go_simp;go_at_call 226;(with_reducible refine (hS6).out.mono ?_);rintro e7 w7 ⟨g7,rfl,hg7,hib7,hx7⟩;have hb7 := (Below.refl w6.heap.size w6).drew.trans hx7;have hs7 := hb7.size;have hcc7 := Lib.hid (keep3 hb7 hw6l hcc6.out);have hP7 := hPw n w7 (by omega);go_wp2_with (fail);refine hK.out _ _ (by (try dsimp only); exact hcc7.out) (fun hHeld => ?_);clear hK K;try simp only [pS]
   refine rd 8 fun K hK => ?_
   go_simp;go_at_call 189;(with_reducible refine (hP7).out.mono ?_);rintro e8 w8 ⟨g8,rfl,hg8,hib8,hb8⟩;have hs8 := hb8.size;have hcc8 := Lib.hid (keep3 hb8 (Nat.lt_of_lt_of_le hw6l hs7) hcc7.out);have hb68 := hb7.trans (hb8.mono hs7);have hM8 := hMu a n (some ⟨g7,0,none⟩) (some ⟨g8,0,none⟩) (scaleI F.toDesc a q').length (powI n).length w8 ((hr6.below hb68).more hb68.size) (hib7.below hb8 hib7.lt).rd hib8.rd hn1000;go_wp2_with (fail);refine hK.out _ _ (by (try dsimp only); exact hcc8.out) (fun hHeld => ?_);clear hK K;try simp only [pS]
   refine rd 9 fun K hK => ?_
   go_simp;go_at_call 38;(with_reducible refine (hM8).out.mono ?_);rintro e9 w9 ⟨g9,rfl,hg9,hib9,hb9⟩;have hs9 := hb9.size;have hcc9 := Lib.hid (keep3 hb9 (Nat.lt_of_lt_of_le hw6l hb68.size) hcc8.out);have hb69 := hb68.trans (hb9.mono hb68.size);have hSb9 := hSb (some ⟨g9,0,none⟩) (mulI F.toDesc (scaleI F.toDesc a q') (powI n)).length w9 ((hr6.below hb69).more hb69.size) ((hrr6.below hb69).more hb69.size) hib9.rd (by have h1 := mulI_le F.toDesc (scaleI F.toDesc a q') (powI n); have h2 := scaleI_le F.toDesc a q'; rw [hq.out] at h2; rw [powI_length] at h1; omega);go_wp2_with (fail);refine hK.out _ _ (by (try dsimp only); exact hcc9.out) (fun hHeld => ?_);clear hK K;try simp only [pS]
   refine rd 10 fun K hK => ?_
   go_simp;go_at_call 225;(with_reducible refine (hSb9).out.mono ?_);rintro e10 w10 ⟨g10,rfl,hg10,hib10,hb10⟩;go_wp2_with (fail);refine hK.out _ _ (by (try dsimp only); exact keep3 hb10 (Nat.lt_of_lt_of_le hw6l hb69.size) hcc9.out) (fun hHeld => ?_);clear hK K;try simp only [pS]
   refine tk 11 ?_; try simp only [pS]
   refine wpAnyH_done (by kernel_rfl) ?_ _;have hb610 := hb69.trans (hb10.mono hb69.size);have hB10 := hB6.trans (hb610.mono hB6.size);have hbx10 : Hid (Bx w10 w.heap.size F.toDesc A F.mod.length c) := keep3 hb610 hw6l hcc6.out;have hq10 := hq6.below hb610 hg16;have hlq10 : Hid (∃ l,l.length = k ∧ IB w10 gq l) := by
    obtain ⟨l,h1,h2⟩ := hset.out;exact ⟨l,h1,h2.below hb610 hgq6⟩
   have hib10' : Hid (Rd w10 w10.heap.size (some ⟨g10,0,none⟩) (stepI F.toDesc r q' a n)) := hib10.rd;have hg10q : Hid (g10 ≠ gq) := by
    have h1 := hb69.size;unfold Hid; omega
   clear hib10 hset;go_wp2_with (fail);go_roundw
   case rel => exact ⟨stepI F.toDesc r q' a n,some ⟨g10,0,none⟩,_,rfl,hib10'.out,(fun b h => by injection h with h; rw [← h]; exact hg10q.out),hsc,by have := hst.out; omega,hsQ,hlq10,hq10,hbx10.out,hB10⟩
   case measure => show (stepI F.toDesc r q' a n).length < r.length; have := hst.out; have := hn.out; omega
  ·obtain ⟨lq,hlql,hibq⟩ := hlq.out;have hC4 := Canon5_any F.toDesc lq A (some ⟨gq,0,none⟩) c k w4 hibq.rd (by omega);rw [hlql] at hC4;replace hC4 := Lib.hid hC4;have hlti : ¬ (d : Int) < (r.length : Int) := by omega
   have hR2 : r.length ≤ 1000 := by omega
   replace hlql := Lib.hid hlql;clear hlq;go_wp2_with (fail);(with_reducible refine hC4.out.mono ?_);rintro e5 w5 ⟨g5,rfl,-,-,hb5⟩;have hfin := (hrr.below hb5).more hb5.size;go_wp2_with (fail);go_ret2;exact ⟨_,r,Ar,cr,rfl,hfin,hrc.out,by omega,hrQ.out,hbw.trans (hb5.mono hbw.size)⟩

theorem DivMod5_any (F : FD) (p q : List Int) (d : Nat) (hq : (canI F.toDesc q).length = d + 1) (A A1 A2 : Option Addr) (c c1 c2 : Nat) (w : World) (hr : Rd w w.heap.size A (modL F.toDesc)) (hr1 : Rd w w.heap.size A1 p) (hr2 : Rd w w.heap.size A2 q) (hl1 : p.length ≤ 1000) (hl2 : q.length ≤ 1000) :
  Calls Tryz.prog 177 #[.agg #[.int .i64 F.p,.int .i64 F.m,.slice A F.mod.length c],.slice A1 p.length c1,.slice A2 q.length c2] w (RemPost F p q d w) := by
 rcases Nat.lt_trichotomy (canI F.toDesc p).length d with h | h | h
 ·exact DivMod5_lt F p q d _ hq rfl h A A1 A2 c c1 c2 w hr hr1 hr2 hl1 hl2
 ·exact DivMod5_eq F p q d hq h A A1 A2 c c1 c2 w hr hr1 hr2 hl1 hl2
 ·exact DivMod5_gt F p q d ((canI F.toDesc p).length - d) _ hq rfl (by omega) (by omega) A A1 A2 c c1 c2 w hr hr1 hr2 hl1 hl2
end Go.Proofs.YtjdoneanohhkmaaGreat

/- The reference's polynomials: Add, Sub, DivMod, Rem. -/
import Derived.Test.YtjdoneanohhkmaaGreatZpPlyQ
import Derived.Test.YtjdoneanohhkmaaGreatZpTk
namespace Go.Proofs.YtjdoneanohhkmaaGreat
open Go.RowKit Cw
open CField (inv)
attribute [local go_sem] Oper.semAt_some

set_option maxRecDepth 100000 in
set_option maxHeartbeats 2000000 in
theorem Add5_lt (D : Desc) (p q : List Int) (lp lq : Nat) (hlp : p.length = lp) (hlq : q.length = lq) (hcond : lp < lq) (A A1 A2 : Option Addr) (c c1 c2 : Nat) (w : World) (hr1 : Rd w w.heap.size A1 p) (hr2 : Rd w w.heap.size A2 q) (hl1 : lp ≤ 20000) (hl2 : lq ≤ 20000) :
  Calls Tryz.prog 249 #[.agg #[.int .i64 D.p,.int .i64 D.m,.slice A D.mod.length c],.slice A1 lp c1,.slice A2 lq c2] w (Gives w.heap.size (addI D p q) w) := by
 have hA := fun y z W => Lib.hid (Add_any D y z A D.mod.length c W)
 have hP1 := fun k W h => Lib.hid (At5_any D p k A A1 c c1 W h (by omega))
 have hP2 := fun k W h => Lib.hid (At5_any D q k A A2 c c2 W h (by omega))
 have hm : lq = max p.length q.length := by omega
 rw [hlp] at hP1;rw [hlq] at hP2;obtain ⟨f,hf⟩ : ∃ f : Nat → R D,f = fun i => cfR D p i + cfR D q i := ⟨_,rfl⟩
 have hfin := canI_lst D f lq;rw [show canL (fun i => ci (f i)) lq = addI D p q from by rw [hf,hm]; rfl] at hfin;have hmk := mk_ints lq (by omega);have hx1 : (lp : Int) < (lq : Int) := by omega
 have hx2 : ¬ (lq : Int) ≤ (lp : Int) := by omega
 have hx3 : ¬ (lq : Int) < (lp : Int) := by omega
 have hx4 : (lp : Int) ≤ (lq : Int) := by omega
 have hC := fun A' c' W h => Canon5_any D (lst lq fun i => ci (f i)) A A' c c' W h (by rw [lst_length]; omega)
 rw [hfin,lst_length] at hC;obtain ⟨X,hX⟩ : ∃ X,X = w.alloc (.cells #[.int .i64 D.p,.int .i64 D.m,.slice A D.mod.length c] 24) := ⟨_,rfl⟩;have hbX : Below w.heap.size w X := by rw [hX]; exact (Below.refl _ _).alloc (Nat.le_refl _) _
 have hXs : X.heap.size = w.heap.size + 1 := by rw [hX]; simp
 have hbxX : Bx X w.heap.size D A D.mod.length c := by rw [hX]; exact Bx.new w D A D.mod.length c _
 obtain ⟨g,hg⟩ : ∃ g,g = w.heap.size + 1 := ⟨_,rfl⟩;obtain ⟨Y,hY⟩ : ∃ Y,Y = X.alloc (.cells (Array.replicate lq (Value.int .i64 0)) 3) := ⟨_,rfl⟩;have hib : IB Y g (upd lq 0 fun i => ci (f i)) := by rw [upd_zero,hY,hg,← hXs]; exact IB.newz X lq
 have hbY : Below X.heap.size X Y := by rw [hY]; exact (Below.refl _ _).alloc (Nat.le_refl _) _
 have hBY := hbX.trans (hbY.mono hbX.size);have hbxY := hbxX.below hbY (by omega);have hwg : w.heap.size < g := by omega
 replace hm := Lib.hid hm;replace hlp := Lib.hid hlp;replace hlq := Lib.hid hlq;replace hf := Lib.hid hf;replace hX := Lib.hid hX;replace hY := Lib.hid hY;clear hbxX hbX hXs hbY;go_enter Tryz.func249,Tryz.ntmps249;go_wp2_with (fail);rw [← hX.out];rw [← hY.out];simp only [← hg];replace hg := Lib.hid hg;go_loopw [8] (fun iS wr => ∃ i : Nat,i ≤ lq ∧ iS = .int .i64 i ∧ Hid (IB wr g (upd lq i fun i => ci (f i))) ∧ Bx wr w.heap.size D A D.mod.length c ∧ Below w.heap.size w wr) (fun iS _ => lq - (intOf iS).toNat)
 case atStart => exact ⟨0,by omega,rfl,hib,hbxY,hBY⟩
 case round =>
  clear hib hbxY hBY hX hY;obtain ⟨w2,rfl⟩ : ∃ w2 : World,w2 = wr := ⟨_,rfl⟩;obtain ⟨i,hi,rfl,hib,hbx,hbw⟩ := hrel;have hgl := hib.out.lt;have hwl : w.heap.size < w2.heap.size := by omega
  by_cases him : i < lq
  ·have i0 : (0 : Int) ≤ (i : Int) := by omega
   have i1 : (i : Int) < (lq : Int) := by omega
   have hrd1 : Rd w2.drew w2.drew.heap.size A1 p := ((hr1.below hbw).more hbw.size).drew;have hQ1 := hP1 i w2.drew hrd1;have hQ2 := fun W h => hP2 i W h
   have hA2 := fun W => (hA (ci (cfR D p i)) (ci (cfR D q i)) W).out
   rw [eli_ci,eli_ci,show cfR D p i + cfR D q i = f i from by rw [hf.out]] at hA2;obtain ⟨y1,hy1⟩ : ∃ y,y = ci (cfR D p i) := ⟨_,rfl⟩;obtain ⟨y2,hy2⟩ : ∃ y,y = ci (cfR D q i) := ⟨_,rfl⟩;obtain ⟨v,hv⟩ : ∃ v,v = ci (f i) := ⟨_,rfl⟩;rw [← hy1] at hQ1;rw [← hy2] at hQ2;rw [← hy1,← hy2,← hv] at hA2;have hcc := Lib.hid hbx.cells;have hkk : Hid (i < (upd lq i fun i => ci (f i)).length) := by unfold Hid; rw [upd_length]; exact him
   have hr22 := (hr2.below hbw).more hbw.size;replace hA2 := fun W => Lib.hid (hA2 W)
   replace hy1 := Lib.hid hy1;replace hy2 := Lib.hid hy2;replace hv := Lib.hid hv;go_wp2_with (fail);refine wp_region_held_drew (S := fun w' => w'.cell? ⟨w.heap.size,0,none⟩ = some (.int .i64 D.p) ∧ w'.cell? ⟨w.heap.size,1,none⟩ = some (.int .i64 D.m) ∧ w'.cell? ⟨w.heap.size,2,none⟩ = some (.slice A D.mod.length c)) (by kernel_rfl) (by (try dsimp only); exact hcc.out) (fun hHeld => ?_);refine tk 0 ?_; try simp only [pS]
   refine tk 1 ?_; try simp only [pS]
   refine tk 2 ?_; try simp only [pS]
   refine tk 3 ?_; try simp only [pS]
   refine tk 4 ?_; try simp only [pS]
   refine tk 5 ?_; try simp only [pS]
   refine tk 7 ?_; try simp only [pS]
   refine tk 8 ?_; try simp only [pS]
   refine tk 9 ?_; try simp only [pS]
   refine rd 6 fun K hK => ?_
   go_simp;go_at_call 261;(with_reducible refine (hQ1).out.mono ?_);rintro e w3 ⟨rfl,hx3⟩;have hb3 := (Below.refl w2.heap.size w2).drew.trans hx3;have hs3 := hb3.size;have hcc3 := Lib.hid (keep3 hb3 hwl hcc.out);have hQ3 := hQ2 w3 ((hr22.below hb3).more hs3);go_wp2_with (fail);refine hK.out _ _ (by (try dsimp only); exact hcc3.out) (fun hHeld => ?_);clear hK K;try simp only [pS]
   refine rd 10 fun K hK => ?_
   go_simp;go_at_call 261;(with_reducible refine (hQ3).out.mono ?_);rintro e w4 ⟨rfl,hb4⟩;have hs4 := hb4.size;have hcc4 := Lib.hid (keep3 hb4 (Nat.lt_of_lt_of_le hwl hs3) hcc3.out);go_wp2_with (fail);refine hK.out _ _ (by (try dsimp only); exact hcc4.out) (fun hHeld => ?_);clear hK K;try simp only [pS]
   refine rd 11 fun K hK => ?_
   go_simp;go_at_call 96;(with_reducible refine (hA2 w4).out.mono ?_);rintro e w5 ⟨rfl,hb5⟩;have hcc5 := Lib.hid (keep3 hb5 (Nat.lt_of_lt_of_le (Nat.lt_of_lt_of_le hwl hs3) hs4) hcc4.out);have hb35 := (hb3.trans (hb4.mono hs3)).trans (hb5.mono (Nat.le_trans hs3 hs4));have hib5 := hib.out.below hb35 hgl;have hcW := hib5.cell hkk.out;have hfW := hib5.frozen i;go_wp2_with (fail);refine hK.out _ _ (by (try dsimp only); exact hcc5.out) (fun hHeld => ?_);clear hK K;try simp only [pS]
   refine tk 12 ?_; try simp only [pS]
   refine rd 13 fun K hK => ?_
   go_simp;refine hK.out _ _ (by (try dsimp only); exact keep3 (B := g) ((Below.refl _ _).setCell (p := ⟨g,i,none⟩) (Nat.le_refl _) _) hwg hcc5.out) (fun hHeld => ?_);clear hK K;try simp only [pS]
   refine wpAnyH_done (by kernel_rfl) ?_ _;have hset := hib5.set_ i v;rw [hv.out,upd_set (f := fun i => ci (f i)),← hv.out] at hset;have hbs : Hid (Below w.heap.size w (w5.setCell ⟨g,i,none⟩ (.int .i64 v))) := (hbw.trans (hb35.mono hbw.size)).setCell (p := ⟨g,i,none⟩) (Nat.le_of_lt hwg) _;have hbx5 : Hid (Bx (w5.setCell ⟨g,i,none⟩ (.int .i64 v)) w.heap.size D A D.mod.length c) := keep3 (B := g) ((Below.refl _ _).setCell (p := ⟨g,i,none⟩) (Nat.le_refl _) _) hwg hcc5.out;replace hset := Lib.hid hset;clear hcW hfW;go_wp2_with (fail);go_roundw
   case rel => exact ⟨i + 1,by omega,by go_num,hset,hbx5.out,hbs.out⟩
   case measure => simp [intOf]; omega
  ·obtain rfl : i = lq := by omega
   rw [upd_full] at hib;obtain ⟨q0,q1,q2⟩ := hbx.cells;have hC2 := Lib.hid (hC (some ⟨g,0,none⟩) i w2 hib.out.rd);go_wp2_with (fail);(with_reducible refine hC2.out.mono ?_);rintro e w3 ⟨g3,rfl,hg3,hib3,hb3⟩;go_wp2_with (fail);go_ret;exact ⟨g3,rfl,Nat.le_trans hbw.size hg3,hib3,hbw.trans (hb3.mono hbw.size)⟩

set_option maxRecDepth 100000 in
set_option maxHeartbeats 2000000 in
theorem Add5_eq (D : Desc) (p q : List Int) (lp : Nat) (hlp : p.length = lp) (hlq : q.length = lp) (A A1 A2 : Option Addr) (c c1 c2 : Nat) (w : World) (hr1 : Rd w w.heap.size A1 p) (hr2 : Rd w w.heap.size A2 q) (hl1 : lp ≤ 20000) :
  Calls Tryz.prog 249 #[.agg #[.int .i64 D.p,.int .i64 D.m,.slice A D.mod.length c],.slice A1 lp c1,.slice A2 lp c2] w (Gives w.heap.size (addI D p q) w) := by
 have hA := fun y z W => Lib.hid (Add_any D y z A D.mod.length c W)
 have hP1 := fun k W h => Lib.hid (At5_any D p k A A1 c c1 W h (by omega))
 have hP2 := fun k W h => Lib.hid (At5_any D q k A A2 c c2 W h (by omega))
 have hm : lp = max p.length q.length := by omega
 rw [hlp] at hP1;rw [hlq] at hP2;obtain ⟨f,hf⟩ : ∃ f : Nat → R D,f = fun i => cfR D p i + cfR D q i := ⟨_,rfl⟩
 have hfin := canI_lst D f lp;rw [show canL (fun i => ci (f i)) lp = addI D p q from by rw [hf,hm]; rfl] at hfin;have hmk := mk_ints lp (by omega);have hC := fun A' c' W h => Canon5_any D (lst lp fun i => ci (f i)) A A' c c' W h (by rw [lst_length]; omega)
 rw [hfin,lst_length] at hC;obtain ⟨X,hX⟩ : ∃ X,X = w.alloc (.cells #[.int .i64 D.p,.int .i64 D.m,.slice A D.mod.length c] 24) := ⟨_,rfl⟩;have hbX : Below w.heap.size w X := by rw [hX]; exact (Below.refl _ _).alloc (Nat.le_refl _) _
 have hXs : X.heap.size = w.heap.size + 1 := by rw [hX]; simp
 have hbxX : Bx X w.heap.size D A D.mod.length c := by rw [hX]; exact Bx.new w D A D.mod.length c _
 obtain ⟨g,hg⟩ : ∃ g,g = w.heap.size + 1 := ⟨_,rfl⟩;obtain ⟨Y,hY⟩ : ∃ Y,Y = X.alloc (.cells (Array.replicate lp (Value.int .i64 0)) 3) := ⟨_,rfl⟩;have hib : IB Y g (upd lp 0 fun i => ci (f i)) := by rw [upd_zero,hY,hg,← hXs]; exact IB.newz X lp
 have hbY : Below X.heap.size X Y := by rw [hY]; exact (Below.refl _ _).alloc (Nat.le_refl _) _
 have hBY := hbX.trans (hbY.mono hbX.size);have hbxY := hbxX.below hbY (by omega);have hwg : w.heap.size < g := by omega
 replace hm := Lib.hid hm;replace hlp := Lib.hid hlp;replace hlq := Lib.hid hlq;replace hf := Lib.hid hf;replace hX := Lib.hid hX;replace hY := Lib.hid hY;clear hbxX hbX hXs hbY;go_enter Tryz.func249,Tryz.ntmps249;go_wp2_with (fail);rw [← hX.out];rw [← hY.out];simp only [← hg];replace hg := Lib.hid hg;go_loopw [8] (fun iS wr => ∃ i : Nat,i ≤ lp ∧ iS = .int .i64 i ∧ Hid (IB wr g (upd lp i fun i => ci (f i))) ∧ Bx wr w.heap.size D A D.mod.length c ∧ Below w.heap.size w wr) (fun iS _ => lp - (intOf iS).toNat)
 case atStart => exact ⟨0,by omega,rfl,hib,hbxY,hBY⟩
 case round =>
  clear hib hbxY hBY hX hY;obtain ⟨w2,rfl⟩ : ∃ w2 : World,w2 = wr := ⟨_,rfl⟩;obtain ⟨i,hi,rfl,hib,hbx,hbw⟩ := hrel;have hgl := hib.out.lt;have hwl : w.heap.size < w2.heap.size := by omega
  by_cases him : i < lp
  ·have i0 : (0 : Int) ≤ (i : Int) := by omega
   have i1 : (i : Int) < (lp : Int) := by omega
   have hrd1 : Rd w2.drew w2.drew.heap.size A1 p := ((hr1.below hbw).more hbw.size).drew;have hQ1 := hP1 i w2.drew hrd1;have hQ2 := fun W h => hP2 i W h
   have hA2 := fun W => (hA (ci (cfR D p i)) (ci (cfR D q i)) W).out
   rw [eli_ci,eli_ci,show cfR D p i + cfR D q i = f i from by rw [hf.out]] at hA2;obtain ⟨y1,hy1⟩ : ∃ y,y = ci (cfR D p i) := ⟨_,rfl⟩;obtain ⟨y2,hy2⟩ : ∃ y,y = ci (cfR D q i) := ⟨_,rfl⟩;obtain ⟨v,hv⟩ : ∃ v,v = ci (f i) := ⟨_,rfl⟩;rw [← hy1] at hQ1;rw [← hy2] at hQ2;rw [← hy1,← hy2,← hv] at hA2;have hcc := Lib.hid hbx.cells;have hkk : Hid (i < (upd lp i fun i => ci (f i)).length) := by unfold Hid; rw [upd_length]; exact him
   have hr22 := (hr2.below hbw).more hbw.size;replace hA2 := fun W => Lib.hid (hA2 W)
   replace hy1 := Lib.hid hy1;replace hy2 := Lib.hid hy2;replace hv := Lib.hid hv;go_wp2_with (fail);refine wp_region_held_drew (S := fun w' => w'.cell? ⟨w.heap.size,0,none⟩ = some (.int .i64 D.p) ∧ w'.cell? ⟨w.heap.size,1,none⟩ = some (.int .i64 D.m) ∧ w'.cell? ⟨w.heap.size,2,none⟩ = some (.slice A D.mod.length c)) (by kernel_rfl) (by (try dsimp only); exact hcc.out) (fun hHeld => ?_);refine tk 0 ?_; try simp only [pS]
   refine tk 1 ?_; try simp only [pS]
   refine tk 2 ?_; try simp only [pS]
   refine tk 3 ?_; try simp only [pS]
   refine tk 4 ?_; try simp only [pS]
   refine tk 5 ?_; try simp only [pS]
   refine tk 7 ?_; try simp only [pS]
   refine tk 8 ?_; try simp only [pS]
   refine tk 9 ?_; try simp only [pS]
   refine rd 6 fun K hK => ?_
   go_simp;go_at_call 261;(with_reducible refine (hQ1).out.mono ?_);rintro e w3 ⟨rfl,hx3⟩;have hb3 := (Below.refl w2.heap.size w2).drew.trans hx3;have hs3 := hb3.size;have hcc3 := Lib.hid (keep3 hb3 hwl hcc.out);have hQ3 := hQ2 w3 ((hr22.below hb3).more hs3);go_wp2_with (fail);refine hK.out _ _ (by (try dsimp only); exact hcc3.out) (fun hHeld => ?_);clear hK K;try simp only [pS]
   refine rd 10 fun K hK => ?_
   go_simp;go_at_call 261;(with_reducible refine (hQ3).out.mono ?_);rintro e w4 ⟨rfl,hb4⟩;have hs4 := hb4.size;have hcc4 := Lib.hid (keep3 hb4 (Nat.lt_of_lt_of_le hwl hs3) hcc3.out);go_wp2_with (fail);refine hK.out _ _ (by (try dsimp only); exact hcc4.out) (fun hHeld => ?_);clear hK K;try simp only [pS]
   refine rd 11 fun K hK => ?_
   go_simp;go_at_call 96;(with_reducible refine (hA2 w4).out.mono ?_);rintro e w5 ⟨rfl,hb5⟩;have hcc5 := Lib.hid (keep3 hb5 (Nat.lt_of_lt_of_le (Nat.lt_of_lt_of_le hwl hs3) hs4) hcc4.out);have hb35 := (hb3.trans (hb4.mono hs3)).trans (hb5.mono (Nat.le_trans hs3 hs4));have hib5 := hib.out.below hb35 hgl;have hcW := hib5.cell hkk.out;have hfW := hib5.frozen i;go_wp2_with (fail);refine hK.out _ _ (by (try dsimp only); exact hcc5.out) (fun hHeld => ?_);clear hK K;try simp only [pS]
   refine tk 12 ?_; try simp only [pS]
   refine rd 13 fun K hK => ?_
   go_simp;refine hK.out _ _ (by (try dsimp only); exact keep3 (B := g) ((Below.refl _ _).setCell (p := ⟨g,i,none⟩) (Nat.le_refl _) _) hwg hcc5.out) (fun hHeld => ?_);clear hK K;try simp only [pS]
   refine wpAnyH_done (by kernel_rfl) ?_ _;have hset := hib5.set_ i v;rw [hv.out,upd_set (f := fun i => ci (f i)),← hv.out] at hset;have hbs : Hid (Below w.heap.size w (w5.setCell ⟨g,i,none⟩ (.int .i64 v))) := (hbw.trans (hb35.mono hbw.size)).setCell (p := ⟨g,i,none⟩) (Nat.le_of_lt hwg) _;have hbx5 : Hid (Bx (w5.setCell ⟨g,i,none⟩ (.int .i64 v)) w.heap.size D A D.mod.length c) := keep3 (B := g) ((Below.refl _ _).setCell (p := ⟨g,i,none⟩) (Nat.le_refl _) _) hwg hcc5.out;replace hset := Lib.hid hset;clear hcW hfW;go_wp2_with (fail);go_roundw
   case rel => exact ⟨i + 1,by omega,by go_num,hset,hbx5.out,hbs.out⟩
   case measure => simp [intOf]; omega
  ·obtain rfl : i = lp := by omega
   rw [upd_full] at hib;obtain ⟨q0,q1,q2⟩ := hbx.cells;have hC2 := Lib.hid (hC (some ⟨g,0,none⟩) i w2 hib.out.rd);go_wp2_with (fail);(with_reducible refine hC2.out.mono ?_);rintro e w3 ⟨g3,rfl,hg3,hib3,hb3⟩;go_wp2_with (fail);go_ret;exact ⟨g3,rfl,Nat.le_trans hbw.size hg3,hib3,hbw.trans (hb3.mono hbw.size)⟩

set_option maxRecDepth 100000 in
set_option maxHeartbeats 2000000 in
theorem Add5_gt (D : Desc) (p q : List Int) (lp lq : Nat) (hlp : p.length = lp) (hlq : q.length = lq) (hcond : lq < lp) (A A1 A2 : Option Addr) (c c1 c2 : Nat) (w : World) (hr1 : Rd w w.heap.size A1 p) (hr2 : Rd w w.heap.size A2 q) (hl1 : lp ≤ 20000) (hl2 : lq ≤ 20000) :
  Calls Tryz.prog 249 #[.agg #[.int .i64 D.p,.int .i64 D.m,.slice A D.mod.length c],.slice A1 lp c1,.slice A2 lq c2] w (Gives w.heap.size (addI D p q) w) := by
 have hA := fun y z W => Lib.hid (Add_any D y z A D.mod.length c W)
 have hP1 := fun k W h => Lib.hid (At5_any D p k A A1 c c1 W h (by omega))
 have hP2 := fun k W h => Lib.hid (At5_any D q k A A2 c c2 W h (by omega))
 have hm : lp = max p.length q.length := by omega
 rw [hlp] at hP1;rw [hlq] at hP2;obtain ⟨f,hf⟩ : ∃ f : Nat → R D,f = fun i => cfR D p i + cfR D q i := ⟨_,rfl⟩
 have hfin := canI_lst D f lp;rw [show canL (fun i => ci (f i)) lp = addI D p q from by rw [hf,hm]; rfl] at hfin;have hmk := mk_ints lp (by omega);have hx1 : (lq : Int) < (lp : Int) := by omega
 have hx2 : ¬ (lp : Int) ≤ (lq : Int) := by omega
 have hx3 : ¬ (lp : Int) < (lq : Int) := by omega
 have hx4 : (lq : Int) ≤ (lp : Int) := by omega
 have hC := fun A' c' W h => Canon5_any D (lst lp fun i => ci (f i)) A A' c c' W h (by rw [lst_length]; omega)
 rw [hfin,lst_length] at hC;obtain ⟨X,hX⟩ : ∃ X,X = w.alloc (.cells #[.int .i64 D.p,.int .i64 D.m,.slice A D.mod.length c] 24) := ⟨_,rfl⟩;have hbX : Below w.heap.size w X := by rw [hX]; exact (Below.refl _ _).alloc (Nat.le_refl _) _
 have hXs : X.heap.size = w.heap.size + 1 := by rw [hX]; simp
 have hbxX : Bx X w.heap.size D A D.mod.length c := by rw [hX]; exact Bx.new w D A D.mod.length c _
 obtain ⟨g,hg⟩ : ∃ g,g = w.heap.size + 1 := ⟨_,rfl⟩;obtain ⟨Y,hY⟩ : ∃ Y,Y = X.alloc (.cells (Array.replicate lp (Value.int .i64 0)) 3) := ⟨_,rfl⟩;have hib : IB Y g (upd lp 0 fun i => ci (f i)) := by rw [upd_zero,hY,hg,← hXs]; exact IB.newz X lp
 have hbY : Below X.heap.size X Y := by rw [hY]; exact (Below.refl _ _).alloc (Nat.le_refl _) _
 have hBY := hbX.trans (hbY.mono hbX.size);have hbxY := hbxX.below hbY (by omega);have hwg : w.heap.size < g := by omega
 replace hm := Lib.hid hm;replace hlp := Lib.hid hlp;replace hlq := Lib.hid hlq;replace hf := Lib.hid hf;replace hX := Lib.hid hX;replace hY := Lib.hid hY;clear hbxX hbX hXs hbY;go_enter Tryz.func249,Tryz.ntmps249;go_wp2_with (fail);rw [← hX.out];rw [← hY.out];simp only [← hg];replace hg := Lib.hid hg;go_loopw [8] (fun iS wr => ∃ i : Nat,i ≤ lp ∧ iS = .int .i64 i ∧ Hid (IB wr g (upd lp i fun i => ci (f i))) ∧ Bx wr w.heap.size D A D.mod.length c ∧ Below w.heap.size w wr) (fun iS _ => lp - (intOf iS).toNat)
 case atStart => exact ⟨0,by omega,rfl,hib,hbxY,hBY⟩
 case round =>
  clear hib hbxY hBY hX hY;obtain ⟨w2,rfl⟩ : ∃ w2 : World,w2 = wr := ⟨_,rfl⟩;obtain ⟨i,hi,rfl,hib,hbx,hbw⟩ := hrel;have hgl := hib.out.lt;have hwl : w.heap.size < w2.heap.size := by omega
  by_cases him : i < lp
  ·have i0 : (0 : Int) ≤ (i : Int) := by omega
   have i1 : (i : Int) < (lp : Int) := by omega
   have hrd1 : Rd w2.drew w2.drew.heap.size A1 p := ((hr1.below hbw).more hbw.size).drew;have hQ1 := hP1 i w2.drew hrd1;have hQ2 := fun W h => hP2 i W h
   have hA2 := fun W => (hA (ci (cfR D p i)) (ci (cfR D q i)) W).out
   rw [eli_ci,eli_ci,show cfR D p i + cfR D q i = f i from by rw [hf.out]] at hA2;obtain ⟨y1,hy1⟩ : ∃ y,y = ci (cfR D p i) := ⟨_,rfl⟩;obtain ⟨y2,hy2⟩ : ∃ y,y = ci (cfR D q i) := ⟨_,rfl⟩;obtain ⟨v,hv⟩ : ∃ v,v = ci (f i) := ⟨_,rfl⟩;rw [← hy1] at hQ1;rw [← hy2] at hQ2;rw [← hy1,← hy2,← hv] at hA2;have hcc := Lib.hid hbx.cells;have hkk : Hid (i < (upd lp i fun i => ci (f i)).length) := by unfold Hid; rw [upd_length]; exact him
   have hr22 := (hr2.below hbw).more hbw.size;replace hA2 := fun W => Lib.hid (hA2 W)
   replace hy1 := Lib.hid hy1;replace hy2 := Lib.hid hy2;replace hv := Lib.hid hv;go_wp2_with (fail);refine wp_region_held_drew (S := fun w' => w'.cell? ⟨w.heap.size,0,none⟩ = some (.int .i64 D.p) ∧ w'.cell? ⟨w.heap.size,1,none⟩ = some (.int .i64 D.m) ∧ w'.cell? ⟨w.heap.size,2,none⟩ = some (.slice A D.mod.length c)) (by kernel_rfl) (by (try dsimp only); exact hcc.out) (fun hHeld => ?_);refine tk 0 ?_; try simp only [pS]
   refine tk 1 ?_; try simp only [pS]
   refine tk 2 ?_; try simp only [pS]
   refine tk 3 ?_; try simp only [pS]
   refine tk 4 ?_; try simp only [pS]
   refine tk 5 ?_; try simp only [pS]
   refine tk 7 ?_; try simp only [pS]
   refine tk 8 ?_; try simp only [pS]
   refine tk 9 ?_; try simp only [pS]
   refine rd 6 fun K hK => ?_
   go_simp;go_at_call 261;(with_reducible refine (hQ1).out.mono ?_);rintro e w3 ⟨rfl,hx3⟩;have hb3 := (Below.refl w2.heap.size w2).drew.trans hx3;have hs3 := hb3.size;have hcc3 := Lib.hid (keep3 hb3 hwl hcc.out);have hQ3 := hQ2 w3 ((hr22.below hb3).more hs3);go_wp2_with (fail);refine hK.out _ _ (by (try dsimp only); exact hcc3.out) (fun hHeld => ?_);clear hK K;try simp only [pS]
   refine rd 10 fun K hK => ?_
   go_simp;go_at_call 261;(with_reducible refine (hQ3).out.mono ?_);rintro e w4 ⟨rfl,hb4⟩;have hs4 := hb4.size;have hcc4 := Lib.hid (keep3 hb4 (Nat.lt_of_lt_of_le hwl hs3) hcc3.out);go_wp2_with (fail);refine hK.out _ _ (by (try dsimp only); exact hcc4.out) (fun hHeld => ?_);clear hK K;try simp only [pS]
   refine rd 11 fun K hK => ?_
   go_simp;go_at_call 96;(with_reducible refine (hA2 w4).out.mono ?_);rintro e w5 ⟨rfl,hb5⟩;have hcc5 := Lib.hid (keep3 hb5 (Nat.lt_of_lt_of_le (Nat.lt_of_lt_of_le hwl hs3) hs4) hcc4.out);have hb35 := (hb3.trans (hb4.mono hs3)).trans (hb5.mono (Nat.le_trans hs3 hs4));have hib5 := hib.out.below hb35 hgl;have hcW := hib5.cell hkk.out;have hfW := hib5.frozen i;go_wp2_with (fail);refine hK.out _ _ (by (try dsimp only); exact hcc5.out) (fun hHeld => ?_);clear hK K;try simp only [pS]
   refine tk 12 ?_; try simp only [pS]
   refine rd 13 fun K hK => ?_
   go_simp;refine hK.out _ _ (by (try dsimp only); exact keep3 (B := g) ((Below.refl _ _).setCell (p := ⟨g,i,none⟩) (Nat.le_refl _) _) hwg hcc5.out) (fun hHeld => ?_);clear hK K;try simp only [pS]
   refine wpAnyH_done (by kernel_rfl) ?_ _;have hset := hib5.set_ i v;rw [hv.out,upd_set (f := fun i => ci (f i)),← hv.out] at hset;have hbs : Hid (Below w.heap.size w (w5.setCell ⟨g,i,none⟩ (.int .i64 v))) := (hbw.trans (hb35.mono hbw.size)).setCell (p := ⟨g,i,none⟩) (Nat.le_of_lt hwg) _;have hbx5 : Hid (Bx (w5.setCell ⟨g,i,none⟩ (.int .i64 v)) w.heap.size D A D.mod.length c) := keep3 (B := g) ((Below.refl _ _).setCell (p := ⟨g,i,none⟩) (Nat.le_refl _) _) hwg hcc5.out;replace hset := Lib.hid hset;clear hcW hfW;go_wp2_with (fail);go_roundw
   case rel => exact ⟨i + 1,by omega,by go_num,hset,hbx5.out,hbs.out⟩
   case measure => simp [intOf]; omega
  ·obtain rfl : i = lp := by omega
   rw [upd_full] at hib;obtain ⟨q0,q1,q2⟩ := hbx.cells;have hC2 := Lib.hid (hC (some ⟨g,0,none⟩) i w2 hib.out.rd);go_wp2_with (fail);(with_reducible refine hC2.out.mono ?_);rintro e w3 ⟨g3,rfl,hg3,hib3,hb3⟩;go_wp2_with (fail);go_ret;exact ⟨g3,rfl,Nat.le_trans hbw.size hg3,hib3,hbw.trans (hb3.mono hbw.size)⟩

theorem Add5_any (D : Desc) (p q : List Int) (A A1 A2 : Option Addr) (c c1 c2 : Nat) (w : World) (hr1 : Rd w w.heap.size A1 p) (hr2 : Rd w w.heap.size A2 q) (hl1 : p.length ≤ 20000) (hl2 : q.length ≤ 20000) :
  Calls Tryz.prog 249 #[.agg #[.int .i64 D.p,.int .i64 D.m,.slice A D.mod.length c],.slice A1 p.length c1,.slice A2 q.length c2] w (Gives w.heap.size (addI D p q) w) := by
 rcases Nat.lt_trichotomy p.length q.length with h | h | h
 ·exact Add5_lt D p q p.length q.length rfl rfl h A A1 A2 c c1 c2 w hr1 hr2 hl1 hl2
 ·rw [← h]; exact Add5_eq D p q p.length rfl h.symm A A1 A2 c c1 c2 w hr1 hr2 hl1
 ·exact Add5_gt D p q p.length q.length rfl rfl h A A1 A2 c c1 c2 w hr1 hr2 hl1 hl2

set_option maxHeartbeats 2000000 in
theorem Sub5_any (D : Desc) (p q : List Int) (A A1 A2 : Option Addr) (c c1 c2 : Nat) (w : World) (hr : Rd w w.heap.size A (modL D)) (hr1 : Rd w w.heap.size A1 p) (hr2 : Rd w w.heap.size A2 q) (hl1 : p.length ≤ 20000) (hl2 : q.length ≤ 20000) :
  Calls Tryz.prog 225 #[.agg #[.int .i64 D.p,.int .i64 D.m,.slice A D.mod.length c],.slice A1 p.length c1,.slice A2 q.length c2] w (Gives w.heap.size (addI D p (scaleI D (ci (-(1 : R D))) q)) w) := by
 obtain ⟨Y,hY⟩ : ∃ Y,Y = w.alloc (.cells #[.int .i64 D.p,.int .i64 D.m,.slice A D.mod.length c] 24) := ⟨_,rfl⟩;have hbx := Bx.new w D A D.mod.length c 24;rw [← hY] at hbx;have hB : Below w.heap.size w Y := by rw [hY]; exact (Below.refl _ _).alloc (Nat.le_refl _) _
 have hYs : w.heap.size < Y.heap.size := by rw [hY]; simp
 have hN := Neg_any D 1 A D.mod.length c Y.drew;rw [eli_one] at hN;obtain ⟨y,hy⟩ : ∃ y,y = ci (-(1 : R D)) := ⟨_,rfl⟩;rw [← hy] at hN ⊢;have hS := fun W a b => Scale5_any D y q A A2 c c2 W a b hl2
 have hA := fun A3 c3 W a b => Add5_any D p (scaleI D y q) A A1 A3 c c1 c3 W a b hl1 (Nat.le_trans (scaleI_le D y q) hl2)
 have hcc := Lib.hid hbx.cells;unfold Gives at hS;replace hN := Lib.hid hN;replace hS := fun W a b => Lib.hid (hS W a b)
 replace hA := fun A3 c3 W a b => Lib.hid (hA A3 c3 W a b)
 replace hy := Lib.hid hy;replace hY := Lib.hid hY;go_enter Tryz.func225,Tryz.ntmps225;go_wp2_with (fail);rw [← hY.out];refine wp_region_held_drew (S := fun w' => w'.cell? ⟨w.heap.size,0,none⟩ = some (.int .i64 D.p) ∧ w'.cell? ⟨w.heap.size,1,none⟩ = some (.int .i64 D.m) ∧ w'.cell? ⟨w.heap.size,2,none⟩ = some (.slice A D.mod.length c)) (by kernel_rfl) (by (try dsimp only); exact hcc.out) (fun hHeld => ?_);refine tk 0 ?_; try simp only [pS]
 refine tk 1 ?_; try simp only [pS]
 refine tk 2 ?_; try simp only [pS]
 refine tk 3 ?_; try simp only [pS]
 refine tk 5 ?_; try simp only [pS]
 refine rd 4 fun K hK => ?_
 go_simp;go_at_call 150;(with_reducible refine (hN).out.mono ?_);rintro e w1 ⟨rfl,hx1⟩;have hb1 := (Below.refl Y.heap.size Y).drew.trans hx1;have hs1 := hb1.size;have hcc1 := Lib.hid (keep3 hb1 hYs hcc.out);have hB1 := hB.trans (hb1.mono hB.size);have hS1 := hS w1 ((hr.below hB1).more hB1.size) ((hr2.below hB1).more hB1.size);go_wp2_with (fail);refine hK.out _ _ (by (try dsimp only); exact hcc1.out) (fun hHeld => ?_);clear hK K;try simp only [pS]
 refine rd 6 fun K hK => ?_
 go_simp;go_at_call 226;(with_reducible refine (hS1).out.mono ?_);rintro e w2 ⟨g2,rfl,hg2,hib2,hb2⟩;have hs2 := hb2.size;have hcc2 := Lib.hid (keep3 hb2 (Nat.lt_of_lt_of_le hYs hs1) hcc1.out);have hB2 := hB1.trans (hb2.mono hB1.size);have hA2 := hA (some ⟨g2,0,none⟩) (scaleI D y q).length w2 ((hr1.below hB2).more hB2.size) hib2.rd;go_wp2_with (fail);refine hK.out _ _ (by (try dsimp only); exact hcc2.out) (fun hHeld => ?_);clear hK K;try simp only [pS]
 refine rd 7 fun K hK => ?_
 go_simp;go_at_call 249;(with_reducible refine (hA2).out.mono ?_);rintro e w3 ⟨g3,rfl,hg3,hib3,hb3⟩;go_wp2_with (fail);refine hK.out _ _ (by (try dsimp only); exact keep3 hb3 (Nat.lt_of_lt_of_le (Nat.lt_of_lt_of_le hYs hs1) hs2) hcc2.out) (fun hHeld => ?_);clear hK K;try simp only [pS]
 refine tk 8 ?_; try simp only [pS]
 refine wpAnyH_done (by kernel_rfl) ?_ _;go_wp2_with (fail);go_ret;exact ⟨g3,rfl,Nat.le_trans hB2.size hg3,hib3,hB2.trans (hb3.mono hB2.size)⟩
end Go.Proofs.YtjdoneanohhkmaaGreat

/- The program's codes: own, of, length, New. The program's field.Check; code.length, code.gen; open and Canonical of a matrix with an error; space.Check and code.Check, for any code. -/
import Derived.Test.YtjdoneanohhkmaaGreatZpCodP
import Derived.Test.YtjdoneanohhkmaaGreatZpTk
namespace Go.Proofs.YtjdoneanohhkmaaGreat
section
open Go.RowKit Cw
attribute [local go_sem] Oper.semAt_some

set_option maxRecDepth 100000 in
set_option maxHeartbeats 1000000 in
theorem Clone_any (l : List Int) (A : Option Addr) (c : Nat) (w : World) (hr : Rd w w.heap.size A l) (hl : l.length ≤ 1000000) :
  Calls Tryz.prog 65 #[.slice A l.length c] w (GivesA w.heap.size l w) := by
 cases A with
 | some a => exact Clone_ints l a c w hr hl
 | none =>
  have h0 : l = [] := by
   cases l with
   | nil => rfl
   | cons a t => obtain ⟨b,o,e,-⟩ := hr (by simp); cases e
  subst h0;have hn := fun W => Lib.run_eql_slice_nil (P := Tryz.prog) W 22 3 none 0 c 0 0 Tryz.underlying22
  unfold GivesA;go_enter Tryz.func65,Tryz.ntmps65;go_wp2_with (fail);go_ret;exact ⟨.slice none 0 0,rfl,Own.nil _ _,Below.refl _ _⟩

set_option maxRecDepth 100000 in
set_option maxHeartbeats 1000000 in
theorem gOwn_any (D : Desc) (A : Option Addr) (c : Nat) (w : World) (hr : Rd w w.heap.size A (modL D)) :
  Calls Tryz.prog 242 #[.agg #[.int .i64 D.p,.int .i64 D.m,.slice A D.mod.length c]] w fun e w' => ∃ A3 c3,e = .returned (.agg #[.int .i64 D.p,.int .i64 D.m,.slice A3 D.mod.length c3]) ∧
   Rd w' w'.heap.size A3 (modL D) ∧ (∀ b,A3 = some b → w.heap.size ≤ b.block) ∧ Below w.heap.size w w' := by
 have hml : D.mod.length ≤ 8 := by have := D.hlen; have := D.m8; rw [D.hlen]; split <;> omega
 obtain ⟨Z,hZ⟩ : ∃ Z,Z = (w.alloc (.cells #[.int .i64 D.p,.int .i64 D.m,.slice A D.mod.length c] 24)).alloc (.cells #[.int .i64 0,.int .i64 0,.slice none 0 0] 24) := ⟨_,rfl⟩;have hB : Below w.heap.size w Z := by rw [hZ]; exact ((Below.refl _ _).alloc (Nat.le_refl _) _).alloc (by simp) _
 obtain ⟨s,hs⟩ : ∃ s,s = w.heap.size := ⟨_,rfl⟩;have hZs : s + 1 < Z.heap.size := by rw [hZ,hs]; simp
 have kz : (Z.cell? ⟨s,0,none⟩ = some (.int .i64 D.p) ∧ Z.cell? ⟨s,1,none⟩ = some (.int .i64 D.m) ∧ Z.cell? ⟨s,2,none⟩ = some (.slice A D.mod.length c)) ∧ Z.frozen? ⟨s,2,none⟩ = false ∧
   (Z.cell? ⟨s + 1,0,none⟩ = some (.int .i64 0) ∧ Z.cell? ⟨s + 1,1,none⟩ = some (.int .i64 0) ∧ Z.cell? ⟨s + 1,2,none⟩ = some (.slice none 0 0)) ∧ Z.frozen? ⟨s + 1,0,none⟩ = false ∧ Z.frozen? ⟨s + 1,1,none⟩ = false ∧ Z.frozen? ⟨s + 1,2,none⟩ = false := by
  rw [hZ,hs]; simp [go_sem]
 obtain ⟨⟨z0,z1,z2⟩,zf,⟨y0,y1,y2⟩,f0,f1,f2⟩ := kz;have hC := Clone_any (modL D) A c Z ((hr.below hB).more hB.size) (by rw [modL_length]; omega);rw [modL_length] at hC;unfold GivesA at hC;replace hC := Lib.hid hC;replace hZ := Lib.hid hZ;go_enter Tryz.func242,Tryz.ntmps242;go_wp2_with (fail);rw [← hZ.out];simp only [← hs];have hsw : w.heap.size ≤ s := Nat.le_of_eq hs.symm;replace hs := Lib.hid hs;(with_reducible refine hC.out.mono ?_);rintro e w1 ⟨v,rfl,ho,hb1⟩;obtain ⟨A3,c3,rfl,-,hr3,hA3⟩ := ho.form;rw [modL_length];have t0 := (hb1.cell (p := ⟨s,0,none⟩) (show s < _ by omega)).trans z0;have t1 := (hb1.cell (p := ⟨s,1,none⟩) (show s < _ by omega)).trans z1;have t2 := (hb1.cell (p := ⟨s,2,none⟩) (show s < _ by omega)).trans z2;have tf := (hb1.frozen (p := ⟨s,2,none⟩) (show s < _ by omega)).trans zf;have u0 := (hb1.cell (p := ⟨s + 1,0,none⟩) (show s + 1 < _ by omega)).trans y0;have u1 := (hb1.cell (p := ⟨s + 1,1,none⟩) (show s + 1 < _ by omega)).trans y1;have u2 := (hb1.cell (p := ⟨s + 1,2,none⟩) (show s + 1 < _ by omega)).trans y2;have g0 := (hb1.frozen (p := ⟨s + 1,0,none⟩) (show s + 1 < _ by omega)).trans f0;have g1 := (hb1.frozen (p := ⟨s + 1,1,none⟩) (show s + 1 < _ by omega)).trans f1;have g2 := (hb1.frozen (p := ⟨s + 1,2,none⟩) (show s + 1 < _ by omega)).trans f2;have hA4 : ∀ b,A3 = some b → Z.heap.size ≤ b.block := fun b hb => (hA3 b hb).1
 have hrf := Lib.hid ((((hr3.farN (g := s) (fun _ b hb => by have := hA4 b hb; omega) 2 (.slice A3 D.mod.length c3)).farN (g := s + 1) (fun _ b hb => by have := hA4 b hb; omega) 0 (.int .i64 D.p)).farN (g := s + 1) (fun _ b hb => by have := hA4 b hb; omega) 1 (.int .i64 D.m)).farN (g := s + 1) (fun _ b hb => by have := hA4 b hb; omega) 2 (.slice A3 D.mod.length c3));have hBf := Lib.hid ((((((hB.trans (hb1.mono hB.size)).setCell (p := ⟨s,2,none⟩) hsw (.slice A3 D.mod.length c3)).setCell (p := ⟨s + 1,0,none⟩) (show w.heap.size ≤ s + 1 by omega) (.int .i64 D.p)).setCell (p := ⟨s + 1,1,none⟩) (show w.heap.size ≤ s + 1 by omega) (.int .i64 D.m)).setCell (p := ⟨s + 1,2,none⟩) (show w.heap.size ≤ s + 1 by omega) (.slice A3 D.mod.length c3)));have hA5 : ∀ b,A3 = some b → w.heap.size ≤ b.block := fun b hb => by have := hA4 b hb; omega
 clear hC ho hb1 hr3 hA3 hA4;go_wp2_with (fail);refine bodyPost_ret (v := .agg #[.int .i64 D.p,.int .i64 D.m,.slice A3 D.mod.length c3]) (by simp [results,Tryz.results242,go_sem,u0,u1,u2]) rfl ⟨A3,c3,rfl,hrf.out.more (by simp [World.setCell]),hA5,hBf.out⟩

theorem gLen_ok (N : Nat) (w : World) (h1 : 1 ≤ N) (h2 : N ≤ 64) :
  Calls Tryz.prog 158 #[.int .i64 N] w fun e w' => e = .returned (.int .i64 0) ∧ w' = w := by
 have b1 : ¬ (N : Int) < 1 := by omega
 have b2 : ¬ (64 : Int) < (N : Int) := by omega
 go_enter Tryz.func158,Tryz.ntmps158;go_wp2_with (fail);go_ret;exact ⟨rfl,rfl⟩

set_option maxRecDepth 100000 in
set_option maxHeartbeats 2000000 in
theorem gOf_ok (D : Desc) (N r : Nat) (A Al : Option Addr) (c cr : Nat) (w : World) (hr : Rd w w.heap.size A (modL D)) :
  Calls Tryz.prog 204 #[.agg #[.int .i64 D.p,.int .i64 D.m,.slice A D.mod.length c],.agg #[.int .i64 N,.slice Al r cr],.int .i64 0] w fun e w' => ∃ A3 c3,e = .returned (.tuple #[.agg #[.int .i64 D.p,.int .i64 D.m,.slice A3 D.mod.length c3,.int .i64 N,.slice Al r cr],.int .i64 0]) ∧
   Rd w' w'.heap.size A3 (modL D) ∧ (∀ b,A3 = some b → w.heap.size ≤ b.block) ∧ Below w.heap.size w w' := by
 obtain ⟨Z,hZ⟩ : ∃ Z,Z = ((w.alloc (.cells #[.int .i64 D.p,.int .i64 D.m,.slice A D.mod.length c] 24)).alloc (.cells #[.int .i64 N,.slice Al r cr] 48)).alloc (.cells #[.int .i64 0,.int .i64 0,.slice none 0 0,.int .i64 0,.slice none 0 0] 27) := ⟨_,rfl⟩;have hB : Below w.heap.size w Z := by rw [hZ]; exact (((Below.refl _ _).alloc (Nat.le_refl _) _).alloc (by simp) _).alloc (by simp; omega) _
 obtain ⟨s,hs⟩ : ∃ s,s = w.heap.size := ⟨_,rfl⟩;have hZs : s + 1 + 1 < Z.heap.size := by rw [hZ,hs]; simp
 have kz := Lib.hid (show Z.cell? ⟨s,0,none⟩ = some (.int .i64 D.p) ∧ Z.cell? ⟨s,1,none⟩ = some (.int .i64 D.m) ∧ Z.cell? ⟨s,2,none⟩ = some (.slice A D.mod.length c) ∧ Z.cell? ⟨s + 1,0,none⟩ = some (.int .i64 N) ∧ Z.cell? ⟨s + 1,1,none⟩ = some (.slice Al r cr) from by rw [hZ,hs]; simp [go_sem]);have f5 : Five Z (s + 1 + 1) (.int .i64 0) (.int .i64 0) (.slice none 0 0) (.int .i64 0) (.slice none 0 0) := by
  rw [hZ,hs]; have := Five.new ((w.alloc (.cells #[.int .i64 D.p,.int .i64 D.m,.slice A D.mod.length c] 24)).alloc (.cells #[.int .i64 N,.slice Al r cr] 48)) (.int .i64 0) (.int .i64 0) (.slice none 0 0) (.int .i64 0) (.slice none 0 0) 27; rw [World.size_alloc,World.size_alloc] at this; exact this
 have hC := Lib.hid (gOwn_any D A c Z.drew ((hr.below hB).more hB.size).drew);replace hZ := Lib.hid hZ;go_enter Tryz.func204,Tryz.ntmps204;go_wp2_with (fail);rw [← hZ.out];simp only [← hs];have hsw : w.heap.size ≤ s := Nat.le_of_eq hs.symm;replace hs := Lib.hid hs;refine wp_region_held_drew (S := fun w' => w'.cell? ⟨s,0,none⟩ = some (.int .i64 D.p) ∧ w'.cell? ⟨s,1,none⟩ = some (.int .i64 D.m) ∧ w'.cell? ⟨s,2,none⟩ = some (.slice A D.mod.length c) ∧ w'.cell? ⟨s + 1,0,none⟩ = some (.int .i64 N) ∧ w'.cell? ⟨s + 1,1,none⟩ = some (.slice Al r cr)) (by kernel_rfl) (by (try dsimp only); exact kz.out) (fun hHeld => ?_);refine tk 0 ?_; try simp only [pS]
 refine tk 2 ?_; try simp only [pS]
 refine tk 3 ?_; try simp only [pS]
 refine tk 4 ?_; try simp only [pS]
 refine tk 5 ?_; try simp only [pS]
 refine rd 1 fun K hK => ?_
 go_simp;go_at_call 242;(with_reducible refine (hC).out.mono ?_);rintro e w1 ⟨A3,c3,rfl,hr3,hA3,hb1⟩;have k1 := Lib.hid (keep5g hb1 (show s < Z.heap.size by omega) (show s < Z.heap.size by omega) (show s < Z.heap.size by omega) (show s + 1 < Z.heap.size by omega) (show s + 1 < Z.heap.size by omega) kz.out);obtain ⟨a0,a1,a2,a3,a4,g0,g1,g2,g3,g4⟩ := (show Five Z.drew _ _ _ _ _ _ from f5).keep hb1 hZs;go_wp2_with (fail);refine hK.out _ _ (by (try dsimp only); exact k1.out) (fun hHeld => ?_);clear hK K;try simp only [pS]
 refine tk 6 ?_; try simp only [pS]
 refine rd 7 fun K hK => ?_
 go_simp;refine hK.out _ _ (by (try dsimp only); exact keep5g (B := s + 1 + 1) (set5 _ _ _ _ _) (show s < s + 1 + 1 by omega) (show s < s + 1 + 1 by omega) (show s < s + 1 + 1 by omega) (show s + 1 < s + 1 + 1 by omega) (show s + 1 < s + 1 + 1 by omega) k1.out) (fun hHeld => ?_);clear hK K;try simp only [pS]
 refine tk 8 ?_; try simp only [pS]
 refine wpAnyH_done (by kernel_rfl) ?_ _;have hA4 : ∀ b,A3 = some b → Z.heap.size ≤ b.block := hA3;have hrf := Lib.hid (hr3.set5 (b := s + 1 + 1) (fun b hb => by have := hA4 b hb; omega) (.int .i64 D.p) (.int .i64 D.m) (.slice A3 D.mod.length c3) (.int .i64 N) (.slice Al r cr));have hBf : Hid (Below w.heap.size w (((((w1.setCell ⟨s + 1 + 1,0,none⟩ (.int .i64 D.p)).setCell ⟨s + 1 + 1,1,none⟩ (.int .i64 D.m)).setCell ⟨s + 1 + 1,2,none⟩ (.slice A3 D.mod.length c3)).setCell ⟨s + 1 + 1,3,none⟩ (.int .i64 N)).setCell ⟨s + 1 + 1,4,none⟩ (.slice Al r cr))) := (hB.drew.trans (hb1.mono hB.size)).trans ((set5 _ _ _ _ _).mono (by omega));have hA5 : ∀ b,A3 = some b → w.heap.size ≤ b.block := fun b hb => by have := hA4 b hb; omega
 replace hr3 := Lib.hid hr3;clear hA3 hA4 hC;go_wp2_with (fail);refine bodyPost_ret (v := .tuple #[.agg #[.int .i64 D.p,.int .i64 D.m,.slice A3 D.mod.length c3,.int .i64 N,.slice Al r cr],.int .i64 0]) (by simp [results,Tryz.results204,go_sem,a0,a1,a2,a3,a4]) rfl ⟨A3,c3,rfl,hrf.out.more (by simp [World.setCell]),hA5,hBf.out⟩

def CodePost (F : FD) (n m : Nat) (M : Nat → Nat → R F.toDesc) (w : World) (e : Ending) (w' : World) : Prop :=
 ∃ A3 c3 Al,e = .returned (.tuple #[.agg #[.int .i64 F.p,.int .i64 F.m,.slice A3 F.mod.length c3,.int .i64 m,.slice Al (rkS F n m M) (rkS F n m M)],.int .i64 0]) ∧ Rd w' w'.heap.size A3 (modL F.toDesc) ∧ (∀ b,A3 = some b → w.heap.size ≤ b.block) ∧ RdMU w' w.heap.size w'.heap.size Al (rkS F n m M) (rowsL F.toDesc m (elS n M m).1) ∧ Below w.heap.size w w'
set_option maxRecDepth 100000 in
set_option maxHeartbeats 2000000 in
theorem gNewC_ok (F : FD) (hgood : Good F.p F.m (modL F.toDesc)) (n m : Nat) (M : Nat → Nat → R F.toDesc) (A Ar : Option Addr) (c cr : Nat) (w : World) (hr : Rd w w.heap.size A (modL F.toDesc)) (hrm : RdM w w.heap.size Ar n (rowsL F.toDesc m M)) (hn : n ≤ 256) (hm1 : 1 ≤ m) (hm : m ≤ 64) :
  Calls Tryz.prog 146 #[.agg #[.int .i64 F.p,.int .i64 F.m,.slice A F.mod.length c],.agg #[.int .i64 m,.slice Ar n cr]] w (CodePost F n m M w) := by
 obtain ⟨Z,hZ⟩ : ∃ Z,Z = ((w.alloc (.cells #[.int .i64 F.p,.int .i64 F.m,.slice A F.mod.length c] 24)).alloc (.cells #[.int .i64 m,.slice Ar n cr] 48)).alloc (.cells #[.int .i64 0,.int .i64 0,.slice none 0 0,.int .i64 0,.slice none 0 0] 27) := ⟨_,rfl⟩;have hB : Below w.heap.size w Z := by rw [hZ]; exact (((Below.refl _ _).alloc (Nat.le_refl _) _).alloc (by simp) _).alloc (by simp; omega) _
 obtain ⟨s,hs⟩ : ∃ s,s = w.heap.size := ⟨_,rfl⟩;have hZs : s + 1 + 1 < Z.heap.size := by rw [hZ,hs]; simp
 have kz : Z.cell? ⟨s,0,none⟩ = some (.int .i64 F.p) ∧ Z.cell? ⟨s,1,none⟩ = some (.int .i64 F.m) ∧ Z.cell? ⟨s,2,none⟩ = some (.slice A F.mod.length c) ∧ Z.cell? ⟨s + 1,0,none⟩ = some (.int .i64 m) ∧ Z.cell? ⟨s + 1,1,none⟩ = some (.slice Ar n cr) := by rw [hZ,hs]; simp [go_sem]
 have f5 : Five Z (s + 1 + 1) (.int .i64 0) (.int .i64 0) (.slice none 0 0) (.int .i64 0) (.slice none 0 0) := by
  rw [hZ,hs]; have := Five.new ((w.alloc (.cells #[.int .i64 F.p,.int .i64 F.m,.slice A F.mod.length c] 24)).alloc (.cells #[.int .i64 m,.slice Ar n cr] 48)) (.int .i64 0) (.int .i64 0) (.slice none 0 0) (.int .i64 0) (.slice none 0 0) 27; rw [World.size_alloc,World.size_alloc] at this; exact this
 have hC := gCanonical_ok F hgood n m M A Ar c cr Z ((hr.below hB).more hB.size) ((hrm.below hB).more hB.size) hn hm1 (by omega);unfold CanPost at hC;replace hC := Lib.hid hC;have hO := fun Al W h => Lib.hid (gOf_ok F.toDesc m (rkS F n m M) A Al c (rkS F n m M) W h)
 have hL := fun W => Lib.hid (gLen_ok m W hm1 hm)
 obtain ⟨z0,z1,z2,y0,y1⟩ := kz;replace hZ := Lib.hid hZ;unfold CodePost;go_enter Tryz.func146,Tryz.ntmps146;go_wp2_with (fail);rw [← hZ.out];simp only [← hs];have hsw : w.heap.size ≤ s := Nat.le_of_eq hs.symm;replace hs := Lib.hid hs;(with_reducible refine hC.out.mono ?_);rintro e w1 ⟨Al,vp,rfl,hru,-,hb1⟩;have t0 := (hb1.cell (p := ⟨s,0,none⟩) (show s < Z.heap.size by omega)).trans z0;have t1 := (hb1.cell (p := ⟨s,1,none⟩) (show s < Z.heap.size by omega)).trans z1;have t2 := (hb1.cell (p := ⟨s,2,none⟩) (show s < Z.heap.size by omega)).trans z2;have u0 := (hb1.cell (p := ⟨s + 1,0,none⟩) (show s + 1 < Z.heap.size by omega)).trans y0;have hs1 := hb1.size;have hs1a : s < w1.heap.size := by omega
 have hs1b : s + 1 < w1.heap.size := by omega
 have f51 := f5.keep hb1 hZs;have hb2 : Below w1.heap.size w1 (w1.alloc (.cells #[.int .i64 m,.slice Al (rkS F n m M) (rkS F n m M)] 48)) := (Below.refl _ _).alloc (Nat.le_refl _) _;have hBz2 := hb1.trans (hb2.mono hb1.size);have hB2 := hB.trans (hBz2.mono hB.size);have hL2 := hL (w1.alloc (.cells #[.int .i64 m,.slice Al (rkS F n m M) (rkS F n m M)] 48));have hO2 := hO Al _ ((hr.below hB2).more hB2.size);replace hb2 := Lib.hid hb2;replace hBz2 := Lib.hid hBz2;replace hB2 := Lib.hid hB2;clear hC hO hL;go_wp2_with (fail);(with_reducible refine hL2.out.mono ?_);rintro e w2 ⟨rfl,rfl⟩;go_wp2_with (fail);(with_reducible refine hO2.out.mono ?_);rintro e w4 ⟨A3,c3,rfl,hr3,hA3,hb4⟩;have hB4 := hb2.out.trans (hb4.mono hb2.out.size);obtain ⟨a0,a1,a2,a3,a4,g0,g1,g2,g3,g4⟩ := f51.keep hB4 (by omega);have hA4 : ∀ b,A3 = some b → s + 1 + 1 < b.block := fun b hb => by have h1 := hA3 b hb; have h2 := hb2.out.size; omega
 have hrf := Lib.hid (hr3.set5 (b := s + 1 + 1) (fun b hb => by have := hA4 b hb; omega) (.int .i64 F.p) (.int .i64 F.m) (.slice A3 F.mod.length c3) (.int .i64 m) (.slice Al (rkS F n m M) (rkS F n m M)));have hru4 : RdMU w4 Z.heap.size w1.heap.size Al (rkS F n m M) (rowsL F.toDesc m (elS n M m).1) := hru.keepU fun p _ hp => hB4.cell hp
 have hruf : Hid (RdMU (((((w4.setCell ⟨s + 1 + 1,0,none⟩ (.int .i64 F.p)).setCell ⟨s + 1 + 1,1,none⟩ (.int .i64 F.m)).setCell ⟨s + 1 + 1,2,none⟩ (.slice A3 F.mod.length c3)).setCell ⟨s + 1 + 1,3,none⟩ (.int .i64 m)).setCell ⟨s + 1 + 1,4,none⟩ (.slice Al (rkS F n m M) (rkS F n m M))) Z.heap.size w1.heap.size Al (rkS F n m M) (rowsL F.toDesc m (elS n M m).1)) := hru4.keepU fun p hp _ => set5_above (b := s + 1 + 1) (L := Z.heap.size) (by omega) _ _ _ _ _ p hp
 have hBf : Hid (Below w.heap.size w (((((w4.setCell ⟨s + 1 + 1,0,none⟩ (.int .i64 F.p)).setCell ⟨s + 1 + 1,1,none⟩ (.int .i64 F.m)).setCell ⟨s + 1 + 1,2,none⟩ (.slice A3 F.mod.length c3)).setCell ⟨s + 1 + 1,3,none⟩ (.int .i64 m)).setCell ⟨s + 1 + 1,4,none⟩ (.slice Al (rkS F n m M) (rkS F n m M)))) := (hB.trans ((hb1.trans (hB4.mono hb1.size)).mono hB.size)).trans ((set5 _ _ _ _ _).mono (by omega));have hsz : Hid (w1.heap.size ≤ (((((w4.setCell ⟨s + 1 + 1,0,none⟩ (.int .i64 F.p)).setCell ⟨s + 1 + 1,1,none⟩ (.int .i64 F.m)).setCell ⟨s + 1 + 1,2,none⟩ (.slice A3 F.mod.length c3)).setCell ⟨s + 1 + 1,3,none⟩ (.int .i64 m)).setCell ⟨s + 1 + 1,4,none⟩ (.slice Al (rkS F n m M) (rkS F n m M))).heap.size) := by unfold Hid; simp [World.setCell]; exact hB4.size
 have hA5 : ∀ b,A3 = some b → w.heap.size ≤ b.block := fun b hb => by have := hA4 b hb; omega
 have hwZ := hB.size;replace hr3 := Lib.hid hr3;clear hA3 hA4 hru hru4 hO2;go_wp2_with (fail);refine bodyPost_ret (v := .tuple #[.agg #[.int .i64 F.p,.int .i64 F.m,.slice A3 F.mod.length c3,.int .i64 m,.slice Al (rkS F n m M) (rkS F n m M)],.int .i64 0]) (by simp [results,Tryz.results146,go_sem,a0,a1,a2,a3,a4]) rfl ⟨A3,c3,Al,rfl,hrf.out.more (by simp [World.setCell]),hA5,(hruf.out.low hwZ).more hsz.out,hBf.out⟩
end
section
open Go.RowKit Cw
attribute [local go_sem] Oper.semAt_some

theorem gen_yes (D : Desc) (A : Option Addr) (c : Nat) (w : World) (hr : Rd w w.heap.size A (modL D)) (hg : Good D.p D.m (modL D)) :
  Calls Tryz.prog 138 #[.agg #[.int .i64 D.p,.int .i64 D.m,.slice A D.mod.length c],.int .i64 D.q] w fun e w' => ∃ a n cv,e = .returned (.slice (some a) n cv) ∧ Below w.heap.size w w' := by
 refine (generator_any D A c w hr).mono ?_;rintro e w' ⟨v,rfl,hb,⟨u,-,ho⟩ | ⟨hno,-⟩⟩
 ·obtain ⟨Av,cv,rfl,-,hrv,-⟩ := ho.form;obtain ⟨b,o,rfl,-⟩ := hrv (by have := D.q2; rw [show (pwl u (D.q - 1)).length = D.q - 1 from lst_length _ _]; omega);exact ⟨_,_,_,rfl,hb⟩
 ·obtain ⟨u,hu⟩ := gen_of_good hg;exact absurd hu (hno u)
theorem gen_no (D : Desc) (A : Option Addr) (c : Nat) (w : World) (hr : Rd w w.heap.size A (modL D)) (hg : ¬ Good D.p D.m (modL D)) :
  Calls Tryz.prog 138 #[.agg #[.int .i64 D.p,.int .i64 D.m,.slice A D.mod.length c],.int .i64 D.q] w fun e w' => e = .returned (.slice none 0 0) ∧ Below w.heap.size w w' := by
 refine (generator_any D A c w hr).mono ?_;rintro e w' ⟨v,rfl,hb,⟨u,hu,-⟩ | ⟨-,rfl⟩⟩
 ·exact absurd (good_of_gen hu) hg
 ·exact ⟨rfl,hb⟩

set_option maxHeartbeats 1000000 in
theorem fCheck_inv (P M : Int) (ml : List Int) (A : Option Addr) (c : Nat) (w : World) (hP : I64 P) (hM : I64 M) (hl : ml.length ≤ maxLen) (hr : Rd w w.heap.size A ml) (hb : ¬ Valid P M ml) :
  Calls Tryz.prog 157 #[.agg #[.int .i64 P,.int .i64 M,.slice A ml.length c]] w fun e w' => e = .returned (.int .i64 1) ∧ Below w.heap.size w w' := by
 obtain ⟨Z,hZ⟩ : ∃ Z,Z = w.alloc (.cells #[.int .i64 P,.int .i64 M,.slice A ml.length c] 24) := ⟨_,rfl⟩;have hB : Below w.heap.size w Z := by rw [hZ]; exact (Below.refl _ _).alloc (Nat.le_refl _) _
 have hZs : w.heap.size < Z.heap.size := by rw [hZ]; simp
 have k0 := Lib.hid (show Z.cell? ⟨w.heap.size,0,none⟩ = some (.int .i64 P) ∧ Z.cell? ⟨w.heap.size,1,none⟩ = some (.int .i64 M) ∧ Z.cell? ⟨w.heap.size,2,none⟩ = some (.slice A ml.length c) from by rw [hZ]; simp [go_sem]);have hS := shape_any P M ml A c Z.drew hP.2 hM.2 hl ((hr.below hB).more hB.size).drew;rw [validB_false hb] at hS;replace hS := Lib.hid hS;replace hZ := Lib.hid hZ;clear hP hM hl hb;go_enter Tryz.func157,Tryz.ntmps157;go_wp2_with (fail);rw [← hZ.out];refine wp_region_held_drew (S := fun w' => w'.cell? ⟨w.heap.size,0,none⟩ = some (.int .i64 P) ∧ w'.cell? ⟨w.heap.size,1,none⟩ = some (.int .i64 M) ∧ w'.cell? ⟨w.heap.size,2,none⟩ = some (.slice A ml.length c)) (by kernel_rfl) (by (try dsimp only); exact k0.out) (fun hHeld => ?_);refine tk 0 ?_; try simp only [pS]
 refine rd 1 fun K hK => ?_
 go_simp;go_at_call 136;(with_reducible refine (hS).out.mono ?_);rintro e w1 ⟨rfl,hb1⟩;go_wp2_with (fail);refine hK.out _ _ (by (try dsimp only); exact keep3 hb1 hZs k0.out) (fun hHeld => ?_);clear hK K;try simp only [pS]
 refine tk 2 ?_; try simp only [pS]
 refine tk 3 ?_; try simp only [pS]
 refine tu 4 ?_;try simp only [pS]
 refine tu 5 ?_;try simp only [pS]
 refine tu 6 ?_;try simp only [pS]
 refine tu 7 ?_;try simp only [pS]
 refine tu 8 ?_;try simp only [pS]
 refine tu 9 ?_;try simp only [pS]
 refine tu 10 ?_;try simp only [pS]
 refine tu 11 ?_;try simp only [pS]
 refine tk 12 ?_; try simp only [pS]
 refine wpAnyH_done (by kernel_rfl) ?_ _;go_wp2_with (fail);go_ret;exact ⟨rfl,hB.drew.trans (hb1.mono hB.size)⟩

set_option maxHeartbeats 2000000 in
theorem fCheck_D (D : Desc) (A : Option Addr) (c : Nat) (w : World) (hr : Rd w w.heap.size A (modL D)) :
  Calls Tryz.prog 157 #[.agg #[.int .i64 D.p,.int .i64 D.m,.slice A D.mod.length c]] w fun e w' => e = .returned (.int .i64 (chk D.p D.m (modL D))) ∧ Below w.heap.size w w' := by
 have hq2 := D.q2; have hq3 := D.q256; have hp1 := D.p256; have hp2 := D.m8;have hml : D.mod.length ≤ 8 := by have := D.hlen; rw [this]; split <;> omega
 obtain ⟨Z,hZ⟩ : ∃ Z,Z = w.alloc (.cells #[.int .i64 D.p,.int .i64 D.m,.slice A D.mod.length c] 24) := ⟨_,rfl⟩;have hB : Below w.heap.size w Z := by rw [hZ]; exact (Below.refl _ _).alloc (Nat.le_refl _) _
 have hZs : w.heap.size < Z.heap.size := by rw [hZ]; simp
 have k0 := Lib.hid (show Z.cell? ⟨w.heap.size,0,none⟩ = some (.int .i64 D.p) ∧ Z.cell? ⟨w.heap.size,1,none⟩ = some (.int .i64 D.m) ∧ Z.cell? ⟨w.heap.size,2,none⟩ = some (.slice A D.mod.length c) from by rw [hZ]; simp [go_sem]);have hS := shape_any D.p D.m (modL D) A c Z.drew (by omega) (by omega) (by rw [modL_length]; simp only [maxLen]; omega) ((hr.below hB).more hB.size).drew;rw [modL_length,validB_true ⟨D,rfl,rfl,rfl⟩] at hS;replace hS := Lib.hid hS;have hO := fun w => order_any D.p D.m w (by omega) (by omega)
 rw [qOf_D] at hO;replace hO := fun w => Lib.hid (hO w)
 have hnil := fun (W : World) (a : Option Addr) (n c : Nat) => Lib.run_eql_slice_nil (P := Tryz.prog) W 22 3 a n c 0 0 Tryz.underlying22
 replace hZ := Lib.hid hZ;by_cases hg : Good D.p D.m (modL D)
 ·have hG := fun W h => Lib.hid (gen_yes D A c W h hg)
  rw [chk_yes hg];clear hg;go_enter Tryz.func157,Tryz.ntmps157;go_wp2_with (fail);rw [← hZ.out];refine wp_region_held_drew (S := fun w' => w'.cell? ⟨w.heap.size,0,none⟩ = some (.int .i64 D.p) ∧ w'.cell? ⟨w.heap.size,1,none⟩ = some (.int .i64 D.m) ∧ w'.cell? ⟨w.heap.size,2,none⟩ = some (.slice A D.mod.length c)) (by kernel_rfl) (by (try dsimp only); exact k0.out) (fun hHeld => ?_);refine tk 0 ?_; try simp only [pS]
  refine rd 1 fun K hK => ?_
  go_simp;go_at_call 136;(with_reducible refine (hS).out.mono ?_);rintro e w1 ⟨rfl,hb1⟩;have k1 := Lib.hid (keep3 hb1 hZs k0.out);have hs1 : w.heap.size < w1.heap.size := Nat.lt_of_lt_of_le hZs hb1.size;have hB1 := hB.drew.trans (hb1.mono hB.size);go_wp2_with (fail);refine hK.out _ _ (by (try dsimp only); exact k1.out) (fun hHeld => ?_);clear hK K;try simp only [pS]
  refine tk 2 ?_; try simp only [pS]
  refine tk 3 ?_; try simp only [pS]
  refine tk 4 ?_; try simp only [pS]
  refine tk 5 ?_; try simp only [pS]
  refine tk 6 ?_; try simp only [pS]
  refine tk 7 ?_; try simp only [pS]
  refine tk 8 ?_; try simp only [pS]
  refine rd 9 fun K hK => ?_
  go_simp;go_at_call 137;(with_reducible refine ((hO _)).out.mono ?_);rintro e w9 ⟨rfl,rfl⟩;go_wp2_with (fail);refine hK.out _ _ (by (try dsimp only); exact k1.out) (fun hHeld => ?_);clear hK K;try simp only [pS]
  refine rd 10 fun K hK => ?_
  go_simp;go_at_call 138;(with_reducible refine ((hG _ ((hr.below hB1).more hB1.size))).out.mono ?_);rintro e w2 ⟨a,n,cv,rfl,hb2⟩;go_wp2_with (fail);refine hK.out _ _ (by (try dsimp only); exact keep3 hb2 hs1 k1.out) (fun hHeld => ?_);clear hK K;try simp only [pS]
  refine tk 11 ?_; try simp only [pS]
  refine tk 12 ?_; try simp only [pS]
  refine wpAnyH_done (by kernel_rfl) ?_ _;go_wp2_with (fail);go_ret;exact ⟨rfl,hB1.trans (hb2.mono hB1.size)⟩
 ·have hG := fun W h => Lib.hid (gen_no D A c W h hg)
  rw [chk_no hg];clear hg;go_enter Tryz.func157,Tryz.ntmps157;go_wp2_with (fail);rw [← hZ.out];refine wp_region_held_drew (S := fun w' => w'.cell? ⟨w.heap.size,0,none⟩ = some (.int .i64 D.p) ∧ w'.cell? ⟨w.heap.size,1,none⟩ = some (.int .i64 D.m) ∧ w'.cell? ⟨w.heap.size,2,none⟩ = some (.slice A D.mod.length c)) (by kernel_rfl) (by (try dsimp only); exact k0.out) (fun hHeld => ?_);refine tk 0 ?_; try simp only [pS]
  refine rd 1 fun K hK => ?_
  go_simp;go_at_call 136;(with_reducible refine (hS).out.mono ?_);rintro e w1 ⟨rfl,hb1⟩;have k1 := Lib.hid (keep3 hb1 hZs k0.out);have hs1 : w.heap.size < w1.heap.size := Nat.lt_of_lt_of_le hZs hb1.size;have hB1 := hB.drew.trans (hb1.mono hB.size);go_wp2_with (fail);refine hK.out _ _ (by (try dsimp only); exact k1.out) (fun hHeld => ?_);clear hK K;try simp only [pS]
  refine tk 2 ?_; try simp only [pS]
  refine tk 3 ?_; try simp only [pS]
  refine tk 4 ?_; try simp only [pS]
  refine tk 5 ?_; try simp only [pS]
  refine tk 6 ?_; try simp only [pS]
  refine tk 7 ?_; try simp only [pS]
  refine tk 8 ?_; try simp only [pS]
  refine rd 9 fun K hK => ?_
  go_simp;go_at_call 137;(with_reducible refine ((hO _)).out.mono ?_);rintro e w9 ⟨rfl,rfl⟩;go_wp2_with (fail);refine hK.out _ _ (by (try dsimp only); exact k1.out) (fun hHeld => ?_);clear hK K;try simp only [pS]
  refine rd 10 fun K hK => ?_
  go_simp;go_at_call 138;(with_reducible refine ((hG _ ((hr.below hB1).more hB1.size))).out.mono ?_);rintro e w2 ⟨rfl,hb2⟩;go_wp2_with (fail);refine hK.out _ _ (by (try dsimp only); exact keep3 hb2 hs1 k1.out) (fun hHeld => ?_);clear hK K;try simp only [pS]
  refine tk 11 ?_; try simp only [pS]
  refine tk 12 ?_; try simp only [pS]
  refine wpAnyH_done (by kernel_rfl) ?_ _;go_wp2_with (fail);go_ret;exact ⟨rfl,hB1.trans (hb2.mono hB1.size)⟩
theorem fCheck_any (P M : Int) (ml : List Int) (A : Option Addr) (c : Nat) (w : World) (hP : I64 P) (hM : I64 M) (hl : ml.length ≤ maxLen) (hr : Rd w w.heap.size A ml) :
  Calls Tryz.prog 157 #[.agg #[.int .i64 P,.int .i64 M,.slice A ml.length c]] w fun e w' => e = .returned (.int .i64 (chk P M ml)) ∧ Below w.heap.size w w' := by
 by_cases hv : Valid P M ml
 ·obtain ⟨D,rfl,rfl,rfl⟩ := hv;rw [modL_length];exact fCheck_D D A c w hr
 ·rw [chk_no (fun h => hv h.valid)];exact fCheck_inv P M ml A c w hP hM hl hr hv

end
end Go.Proofs.YtjdoneanohhkmaaGreat

/- The program's codes: own, of, length, New. -/
import Derived.Test.YtogfekjbpcfgmaaGreatZtXMatW
import Derived.Test.YtogfekjbpcfgmaaGreatZtXTk
namespace Go.Proofs.YtogfekjbpcfgmaaGreat
open Go.RowKit Cw
attribute [local go_sem] Oper.semAt_some

set_option maxRecDepth 100000 in
set_option maxHeartbeats 1000000 in
theorem Clone_any (l:List Int)(A:Option Addr)(c:Nat)(w:World)(hr:Rd w w.heap.size A l)(hl:l.length≤1000000) :
  Calls Tryz.prog 32 #[.slice A l.length c] w (GivesA w.heap.size l w):=by
 cases A with
 | some a=>exact Clone_ints l a c w hr hl
 | none =>
  have h0:l=[]:=by
   cases l with
   | nil=>rfl
   | cons a t=>obtain⟨b,o,e,-⟩:=hr (by simp); cases e
  subst h0;have hn:=fun W=>Lib.run_eql_slice_nil (P:=Tryz.prog) W 22 3 none 0 c 0 0 Tryz.underlying22
  unfold GivesA;go_enter Tryz.func32,Tryz.ntmps32;go_wp2_with (fail);go_ret;exact⟨.slice none 0 0,rfl,Own.nil _ _,Below.refl _ _⟩

set_option maxRecDepth 100000 in
set_option maxHeartbeats 1000000 in
theorem gOwn_any (D:Desc)(A:Option Addr)(c:Nat)(w:World)(hr:Rd w w.heap.size A (modL D)) :
  Calls Tryz.prog 205 #[.agg #[.int .i64 D.p,.int .i64 D.m,.slice A D.mod.length c]] w fun e w'=>∃ A3 c3,e=.returned (.agg #[.int .i64 D.p,.int .i64 D.m,.slice A3 D.mod.length c3]) ∧
   Rd w' w'.heap.size A3 (modL D)∧(∀ b,A3=some b→w.heap.size≤b.block)∧Below w.heap.size w w':=by
 have hml:D.mod.length≤8:=by have:=D.hlen; have:=D.m8; rw[D.hlen]; split <;> omega
 obtain⟨Z,hZ⟩:∃ Z,Z=(w.alloc (.cells #[.int .i64 D.p,.int .i64 D.m,.slice A D.mod.length c] 24)).alloc (.cells #[.int .i64 0,.int .i64 0,.slice none 0 0] 24):=⟨_,rfl⟩;have hB:Below w.heap.size w Z:=by rw[hZ]; exact ((Below.refl _ _).alloc (Nat.le_refl _) _).alloc (by simp) _
 obtain⟨s,hs⟩:∃ s,s=w.heap.size:=⟨_,rfl⟩;have hZs:s+1<Z.heap.size:=by rw[hZ,hs]; simp
 have kz:(Z.cell? ⟨s,0,none⟩=some (.int .i64 D.p)∧Z.cell? ⟨s,1,none⟩=some (.int .i64 D.m)∧Z.cell? ⟨s,2,none⟩=some (.slice A D.mod.length c))∧Z.frozen? ⟨s,2,none⟩=false ∧
   (Z.cell? ⟨s+1,0,none⟩=some (.int .i64 0)∧Z.cell? ⟨s+1,1,none⟩=some (.int .i64 0)∧Z.cell? ⟨s+1,2,none⟩=some (.slice none 0 0))∧Z.frozen? ⟨s+1,0,none⟩=false∧Z.frozen? ⟨s+1,1,none⟩=false∧Z.frozen? ⟨s+1,2,none⟩=false:=by
  rw[hZ,hs]; simp[go_sem]
 obtain⟨⟨z0,z1,z2⟩,zf,⟨y0,y1,y2⟩,f0,f1,f2⟩:=kz;have hC:=Clone_any (modL D) A c Z ((hr.below hB).more hB.size) (by rw[modL_length]; omega);rw[modL_length]at hC;unfold GivesA at hC;replace hC:=Lib.hid hC;replace hZ:=Lib.hid hZ;go_enter Tryz.func205,Tryz.ntmps205;go_wp2_with (fail);rw[←hZ.out];simp only[←hs];have hsw:w.heap.size≤s:=Nat.le_of_eq hs.symm;replace hs:=Lib.hid hs;(with_reducible refine hC.out.mono ?_);rintro e w1 ⟨v,rfl,ho,hb1⟩;obtain⟨A3,c3,rfl,-,hr3,hA3⟩:=ho.form;rw[modL_length];have t0:=(hb1.cell (p:=⟨s,0,none⟩) (show s<_ by omega)).trans z0;have t1:=(hb1.cell (p:=⟨s,1,none⟩) (show s<_ by omega)).trans z1;have t2:=(hb1.cell (p:=⟨s,2,none⟩) (show s<_ by omega)).trans z2;have tf:=(hb1.frozen (p:=⟨s,2,none⟩) (show s<_ by omega)).trans zf;have u0:=(hb1.cell (p:=⟨s+1,0,none⟩) (show s+1<_ by omega)).trans y0;have u1:=(hb1.cell (p:=⟨s+1,1,none⟩) (show s+1<_ by omega)).trans y1;have u2:=(hb1.cell (p:=⟨s+1,2,none⟩) (show s+1<_ by omega)).trans y2;have g0:=(hb1.frozen (p:=⟨s+1,0,none⟩) (show s+1<_ by omega)).trans f0;have g1:=(hb1.frozen (p:=⟨s+1,1,none⟩) (show s+1<_ by omega)).trans f1;have g2:=(hb1.frozen (p:=⟨s+1,2,none⟩) (show s+1<_ by omega)).trans f2;have hA4:∀ b,A3=some b→Z.heap.size≤b.block:=fun b hb=>(hA3 b hb).1
 have hrf:=Lib.hid ((((hr3.farN (g:=s) (fun _ b hb=>by have:=hA4 b hb; omega) 2 (.slice A3 D.mod.length c3)).farN (g:=s+1) (fun _ b hb=>by have:=hA4 b hb; omega) 0 (.int .i64 D.p)).farN (g:=s+1) (fun _ b hb=>by have:=hA4 b hb; omega) 1 (.int .i64 D.m)).farN (g:=s+1) (fun _ b hb=>by have:=hA4 b hb; omega) 2 (.slice A3 D.mod.length c3));have hBf:=Lib.hid ((((((hB.trans (hb1.mono hB.size)).setCell (p:=⟨s,2,none⟩) hsw (.slice A3 D.mod.length c3)).setCell (p:=⟨s+1,0,none⟩) (show w.heap.size≤s+1 by omega) (.int .i64 D.p)).setCell (p:=⟨s+1,1,none⟩) (show w.heap.size≤s+1 by omega) (.int .i64 D.m)).setCell (p:=⟨s+1,2,none⟩) (show w.heap.size≤s+1 by omega) (.slice A3 D.mod.length c3)));have hA5:∀ b,A3=some b→w.heap.size≤b.block:=fun b hb=>by have:=hA4 b hb; omega
 clear hC ho hb1 hr3 hA3 hA4;go_wp2_with (fail);refine bodyPost_ret (v:=.agg #[.int .i64 D.p,.int .i64 D.m,.slice A3 D.mod.length c3]) (by simp[results,Tryz.results205,go_sem,u0,u1,u2]) rfl ⟨A3,c3,rfl,hrf.out.more (by simp[World.setCell]),hA5,hBf.out⟩

theorem gLen_ok (N:Nat)(w:World)(h1:1≤N)(h2:N≤64) :
  Calls Tryz.prog 110 #[.int .i64 N] w fun e w'=>e=.returned (.int .i64 0)∧w'=w:=by
 have b1:¬ (N:Int)<1:=by omega
 have b2:¬ (64:Int)<(N:Int):=by omega
 go_enter Tryz.func110,Tryz.ntmps110;go_wp2_with (fail);go_ret;exact⟨rfl,rfl⟩

set_option maxRecDepth 100000 in
set_option maxHeartbeats 2000000 in
theorem gOf_ok (D:Desc)(N r:Nat)(A Al:Option Addr)(c cr:Nat)(w:World)(hr:Rd w w.heap.size A (modL D)) :
  Calls Tryz.prog 157 #[.agg #[.int .i64 D.p,.int .i64 D.m,.slice A D.mod.length c],.agg #[.int .i64 N,.slice Al r cr],.int .i64 0] w fun e w'=>∃ A3 c3,e=.returned (.tuple #[.agg #[.int .i64 D.p,.int .i64 D.m,.slice A3 D.mod.length c3,.int .i64 N,.slice Al r cr],.int .i64 0]) ∧
   Rd w' w'.heap.size A3 (modL D)∧(∀ b,A3=some b→w.heap.size≤b.block)∧Below w.heap.size w w':=by
 obtain⟨Z,hZ⟩:∃ Z,Z=((w.alloc (.cells #[.int .i64 D.p,.int .i64 D.m,.slice A D.mod.length c] 24)).alloc (.cells #[.int .i64 N,.slice Al r cr] 120)).alloc (.cells #[.int .i64 0,.int .i64 0,.slice none 0 0,.int .i64 0,.slice none 0 0] 27):=⟨_,rfl⟩;have hB:Below w.heap.size w Z:=by rw[hZ]; exact (((Below.refl _ _).alloc (Nat.le_refl _) _).alloc (by simp) _).alloc (by simp; omega) _
 obtain⟨s,hs⟩:∃ s,s=w.heap.size:=⟨_,rfl⟩;have hZs:s+1+1<Z.heap.size:=by rw[hZ,hs]; simp
 have kz:=Lib.hid (show Z.cell? ⟨s,0,none⟩=some (.int .i64 D.p)∧Z.cell? ⟨s,1,none⟩=some (.int .i64 D.m)∧Z.cell? ⟨s,2,none⟩=some (.slice A D.mod.length c)∧Z.cell? ⟨s+1,0,none⟩=some (.int .i64 N)∧Z.cell? ⟨s+1,1,none⟩=some (.slice Al r cr) from by rw[hZ,hs]; simp[go_sem]);have f5:Five Z (s+1+1) (.int .i64 0) (.int .i64 0) (.slice none 0 0) (.int .i64 0) (.slice none 0 0):=by
  rw[hZ,hs]; have:=Five.new ((w.alloc (.cells #[.int .i64 D.p,.int .i64 D.m,.slice A D.mod.length c] 24)).alloc (.cells #[.int .i64 N,.slice Al r cr] 120)) (.int .i64 0) (.int .i64 0) (.slice none 0 0) (.int .i64 0) (.slice none 0 0) 27; rw[World.size_alloc,World.size_alloc]at this; exact this
 have hC:=Lib.hid (gOwn_any D A c Z.drew ((hr.below hB).more hB.size).drew);replace hZ:=Lib.hid hZ;go_enter Tryz.func157,Tryz.ntmps157;go_wp2_with (fail);rw[←hZ.out];simp only[←hs];have hsw:w.heap.size≤s:=Nat.le_of_eq hs.symm;replace hs:=Lib.hid hs;refine wp_region_held_drew (S:=fun w'=>w'.cell? ⟨s,0,none⟩=some (.int .i64 D.p)∧w'.cell? ⟨s,1,none⟩=some (.int .i64 D.m)∧w'.cell? ⟨s,2,none⟩=some (.slice A D.mod.length c)∧w'.cell? ⟨s+1,0,none⟩=some (.int .i64 N)∧w'.cell? ⟨s+1,1,none⟩=some (.slice Al r cr)) (by kernel_rfl) (by (try dsimp only); exact kz.out) (fun hHeld=>?_);refine tk 0 ?_; try simp only[pS]
 refine tk 2 ?_; try simp only[pS]
 refine tk 3 ?_; try simp only[pS]
 refine tk 4 ?_; try simp only[pS]
 refine tk 5 ?_; try simp only[pS]
 refine rd 1 fun K hK=>?_
 go_simp;go_at_call 205;(with_reducible refine (hC).out.mono ?_);rintro e w1 ⟨A3,c3,rfl,hr3,hA3,hb1⟩;have k1:=Lib.hid (keep5g hb1 (show s<Z.heap.size by omega) (show s<Z.heap.size by omega) (show s<Z.heap.size by omega) (show s+1<Z.heap.size by omega) (show s+1<Z.heap.size by omega) kz.out);obtain⟨a0,a1,a2,a3,a4,g0,g1,g2,g3,g4⟩:=(show Five Z.drew _ _ _ _ _ _ from f5).keep hb1 hZs;go_wp2_with (fail);refine hK.out _ _ (by (try dsimp only); exact k1.out) (fun hHeld=>?_);clear hK K;try simp only[pS]
 refine tk 6 ?_; try simp only[pS]
 refine rd 7 fun K hK=>?_
 go_simp;refine hK.out _ _ (by (try dsimp only); exact keep5g (B:=s+1+1) (set5 _ _ _ _ _) (show s<s+1+1 by omega) (show s<s+1+1 by omega) (show s<s+1+1 by omega) (show s+1<s+1+1 by omega) (show s+1<s+1+1 by omega) k1.out) (fun hHeld=>?_);clear hK K;try simp only[pS]
 refine tk 8 ?_; try simp only[pS]
 refine wpAnyH_done (by kernel_rfl) ?_ _;have hA4:∀ b,A3=some b→Z.heap.size≤b.block:=hA3;have hrf:=Lib.hid (hr3.set5 (b:=s+1+1) (fun b hb=>by have:=hA4 b hb; omega) (.int .i64 D.p) (.int .i64 D.m) (.slice A3 D.mod.length c3) (.int .i64 N) (.slice Al r cr));have hBf:Hid (Below w.heap.size w (((((w1.setCell ⟨s+1+1,0,none⟩ (.int .i64 D.p)).setCell ⟨s+1+1,1,none⟩ (.int .i64 D.m)).setCell ⟨s+1+1,2,none⟩ (.slice A3 D.mod.length c3)).setCell ⟨s+1+1,3,none⟩ (.int .i64 N)).setCell ⟨s+1+1,4,none⟩ (.slice Al r cr))):=(hB.drew.trans (hb1.mono hB.size)).trans ((set5 _ _ _ _ _).mono (by omega));have hA5:∀ b,A3=some b→w.heap.size≤b.block:=fun b hb=>by have:=hA4 b hb; omega
 replace hr3:=Lib.hid hr3;clear hA3 hA4 hC;go_wp2_with (fail);refine bodyPost_ret (v:=.tuple #[.agg #[.int .i64 D.p,.int .i64 D.m,.slice A3 D.mod.length c3,.int .i64 N,.slice Al r cr],.int .i64 0]) (by simp[results,Tryz.results157,go_sem,a0,a1,a2,a3,a4]) rfl ⟨A3,c3,rfl,hrf.out.more (by simp[World.setCell]),hA5,hBf.out⟩

def CodePost (F:FD)(n m:Nat)(M:Nat→Nat→R F.toDesc)(w:World)(e:Ending)(w':World):Prop :=
 ∃ A3 c3 Al,e=.returned (.tuple #[.agg #[.int .i64 F.p,.int .i64 F.m,.slice A3 F.mod.length c3,.int .i64 m,.slice Al (rkS F n m M) (rkS F n m M)],.int .i64 0])∧Rd w' w'.heap.size A3 (modL F.toDesc)∧(∀ b,A3=some b→w.heap.size≤b.block)∧RdMU w' w.heap.size w'.heap.size Al (rkS F n m M) (rowsL F.toDesc m (elS n M m).1)∧Below w.heap.size w w'
set_option maxRecDepth 100000 in
set_option maxHeartbeats 2000000 in
theorem gNewC_ok (F:FD)(hgood:Good F.p F.m (modL F.toDesc))(n m:Nat)(M:Nat→Nat→R F.toDesc)(A Ar:Option Addr)(c cr:Nat)(w:World)(hr:Rd w w.heap.size A (modL F.toDesc))(hrm:RdM w w.heap.size Ar n (rowsL F.toDesc m M))(hn:n≤256)(hm1:1≤m)(hm:m≤64) :
  Calls Tryz.prog 96 #[.agg #[.int .i64 F.p,.int .i64 F.m,.slice A F.mod.length c],.agg #[.int .i64 m,.slice Ar n cr]] w (CodePost F n m M w):=by
 obtain⟨Z,hZ⟩:∃ Z,Z=((w.alloc (.cells #[.int .i64 F.p,.int .i64 F.m,.slice A F.mod.length c] 24)).alloc (.cells #[.int .i64 m,.slice Ar n cr] 120)).alloc (.cells #[.int .i64 0,.int .i64 0,.slice none 0 0,.int .i64 0,.slice none 0 0] 27):=⟨_,rfl⟩;have hB:Below w.heap.size w Z:=by rw[hZ]; exact (((Below.refl _ _).alloc (Nat.le_refl _) _).alloc (by simp) _).alloc (by simp; omega) _
 obtain⟨s,hs⟩:∃ s,s=w.heap.size:=⟨_,rfl⟩;have hZs:s+1+1<Z.heap.size:=by rw[hZ,hs]; simp
 have kz:Z.cell? ⟨s,0,none⟩=some (.int .i64 F.p)∧Z.cell? ⟨s,1,none⟩=some (.int .i64 F.m)∧Z.cell? ⟨s,2,none⟩=some (.slice A F.mod.length c)∧Z.cell? ⟨s+1,0,none⟩=some (.int .i64 m)∧Z.cell? ⟨s+1,1,none⟩=some (.slice Ar n cr):=by rw[hZ,hs]; simp[go_sem]
 have f5:Five Z (s+1+1) (.int .i64 0) (.int .i64 0) (.slice none 0 0) (.int .i64 0) (.slice none 0 0):=by
  rw[hZ,hs]; have:=Five.new ((w.alloc (.cells #[.int .i64 F.p,.int .i64 F.m,.slice A F.mod.length c] 24)).alloc (.cells #[.int .i64 m,.slice Ar n cr] 120)) (.int .i64 0) (.int .i64 0) (.slice none 0 0) (.int .i64 0) (.slice none 0 0) 27; rw[World.size_alloc,World.size_alloc]at this; exact this
 have hC:=gCanonical_ok F hgood n m M A Ar c cr Z ((hr.below hB).more hB.size) ((hrm.below hB).more hB.size) hn hm1 (by omega);unfold CanPost at hC;replace hC:=Lib.hid hC;have hO:=fun Al W h=>Lib.hid (gOf_ok F.toDesc m (rkS F n m M) A Al c (rkS F n m M) W h)
 have hL:=fun W=>Lib.hid (gLen_ok m W hm1 hm)
 obtain⟨z0,z1,z2,y0,y1⟩:=kz;replace hZ:=Lib.hid hZ;unfold CodePost;go_enter Tryz.func96,Tryz.ntmps96;go_wp2_with (fail);rw[←hZ.out];simp only[←hs];have hsw:w.heap.size≤s:=Nat.le_of_eq hs.symm;replace hs:=Lib.hid hs;(with_reducible refine hC.out.mono ?_);rintro e w1 ⟨Al,vp,rfl,hru,-,hb1⟩;have t0:=(hb1.cell (p:=⟨s,0,none⟩) (show s<Z.heap.size by omega)).trans z0;have t1:=(hb1.cell (p:=⟨s,1,none⟩) (show s<Z.heap.size by omega)).trans z1;have t2:=(hb1.cell (p:=⟨s,2,none⟩) (show s<Z.heap.size by omega)).trans z2;have u0:=(hb1.cell (p:=⟨s+1,0,none⟩) (show s+1<Z.heap.size by omega)).trans y0;have hs1:=hb1.size;have hs1a:s<w1.heap.size:=by omega
 have hs1b:s+1<w1.heap.size:=by omega
 have f51:=f5.keep hb1 hZs;have hb2:Below w1.heap.size w1 (w1.alloc (.cells #[.int .i64 m,.slice Al (rkS F n m M) (rkS F n m M)] 120)):=(Below.refl _ _).alloc (Nat.le_refl _) _;have hBz2:=hb1.trans (hb2.mono hb1.size);have hB2:=hB.trans (hBz2.mono hB.size);have hL2:=hL (w1.alloc (.cells #[.int .i64 m,.slice Al (rkS F n m M) (rkS F n m M)] 120));have hO2:=hO Al _ ((hr.below hB2).more hB2.size);replace hb2:=Lib.hid hb2;replace hBz2:=Lib.hid hBz2;replace hB2:=Lib.hid hB2;clear hC hO hL;go_wp2_with (fail);(with_reducible refine hL2.out.mono ?_);rintro e w2 ⟨rfl,rfl⟩;go_wp2_with (fail);(with_reducible refine hO2.out.mono ?_);rintro e w4 ⟨A3,c3,rfl,hr3,hA3,hb4⟩;have hB4:=hb2.out.trans (hb4.mono hb2.out.size);obtain⟨a0,a1,a2,a3,a4,g0,g1,g2,g3,g4⟩:=f51.keep hB4 (by omega);have hA4:∀ b,A3=some b→s+1+1<b.block:=fun b hb=>by have h1:=hA3 b hb; have h2:=hb2.out.size; omega
 have hrf:=Lib.hid (hr3.set5 (b:=s+1+1) (fun b hb=>by have:=hA4 b hb; omega) (.int .i64 F.p) (.int .i64 F.m) (.slice A3 F.mod.length c3) (.int .i64 m) (.slice Al (rkS F n m M) (rkS F n m M)));have hru4:RdMU w4 Z.heap.size w1.heap.size Al (rkS F n m M) (rowsL F.toDesc m (elS n M m).1):=hru.keepU fun p _ hp=>hB4.cell hp
 have hruf:Hid (RdMU (((((w4.setCell ⟨s+1+1,0,none⟩ (.int .i64 F.p)).setCell ⟨s+1+1,1,none⟩ (.int .i64 F.m)).setCell ⟨s+1+1,2,none⟩ (.slice A3 F.mod.length c3)).setCell ⟨s+1+1,3,none⟩ (.int .i64 m)).setCell ⟨s+1+1,4,none⟩ (.slice Al (rkS F n m M) (rkS F n m M))) Z.heap.size w1.heap.size Al (rkS F n m M) (rowsL F.toDesc m (elS n M m).1)):=hru4.keepU fun p hp _=>set5_above (b:=s+1+1) (L:=Z.heap.size) (by omega) _ _ _ _ _ p hp
 have hBf:Hid (Below w.heap.size w (((((w4.setCell ⟨s+1+1,0,none⟩ (.int .i64 F.p)).setCell ⟨s+1+1,1,none⟩ (.int .i64 F.m)).setCell ⟨s+1+1,2,none⟩ (.slice A3 F.mod.length c3)).setCell ⟨s+1+1,3,none⟩ (.int .i64 m)).setCell ⟨s+1+1,4,none⟩ (.slice Al (rkS F n m M) (rkS F n m M)))):=(hB.trans ((hb1.trans (hB4.mono hb1.size)).mono hB.size)).trans ((set5 _ _ _ _ _).mono (by omega));have hsz:Hid (w1.heap.size≤(((((w4.setCell ⟨s+1+1,0,none⟩ (.int .i64 F.p)).setCell ⟨s+1+1,1,none⟩ (.int .i64 F.m)).setCell ⟨s+1+1,2,none⟩ (.slice A3 F.mod.length c3)).setCell ⟨s+1+1,3,none⟩ (.int .i64 m)).setCell ⟨s+1+1,4,none⟩ (.slice Al (rkS F n m M) (rkS F n m M))).heap.size):=by unfold Hid; simp[World.setCell]; exact hB4.size
 have hA5:∀ b,A3=some b→w.heap.size≤b.block:=fun b hb=>by have:=hA4 b hb; omega
 have hwZ:=hB.size;replace hr3:=Lib.hid hr3;clear hA3 hA4 hru hru4 hO2;go_wp2_with (fail);refine bodyPost_ret (v:=.tuple #[.agg #[.int .i64 F.p,.int .i64 F.m,.slice A3 F.mod.length c3,.int .i64 m,.slice Al (rkS F n m M) (rkS F n m M)],.int .i64 0]) (by simp[results,Tryz.results96,go_sem,a0,a1,a2,a3,a4]) rfl ⟨A3,c3,Al,rfl,hrf.out.more (by simp[World.setCell]),hA5,(hruf.out.low hwZ).more hsz.out,hBf.out⟩
end Go.Proofs.YtogfekjbpcfgmaaGreat

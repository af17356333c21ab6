/- The program's space.open, space.Check and code.Check, for any code. -/
import Derived.Test.YtogfekjbpcfgmaaGreatZtXCodC
import Derived.Test.YtogfekjbpcfgmaaGreatZtXTk
namespace Go.Proofs.YtogfekjbpcfgmaaGreat
open Go.RowKit Cw
attribute [local go_sem] Oper.semAt_some

theorem set4b {w3:World} {b:Nat} (u0 u1 u2 u3:Value):Below b w3 ((((w3.setCell ⟨b,0,none⟩ u0).setCell ⟨b,1,none⟩ u1).setCell ⟨b,2,none⟩ u2).setCell ⟨b,3,none⟩ u3) :=
 ((((Below.refl _ _).setCell (p:=⟨b,0,none⟩) (Nat.le_refl _) _).setCell (p:=⟨b,1,none⟩) (Nat.le_refl _) _).setCell (p:=⟨b,2,none⟩) (Nat.le_refl _) _).setCell (p:=⟨b,3,none⟩) (Nat.le_refl _) _
def Four (w:World)(b:Nat)(v0 v1 v2 v3:Value):Prop :=
 (w.cell? ⟨b,0,none⟩=some v0∧w.cell? ⟨b,1,none⟩=some v1∧w.cell? ⟨b,2,none⟩=some v2∧w.cell? ⟨b,3,none⟩=some v3) ∧
 w.frozen? ⟨b,0,none⟩=false∧w.frozen? ⟨b,1,none⟩=false∧w.frozen? ⟨b,2,none⟩=false∧w.frozen? ⟨b,3,none⟩=false
theorem Four.keep {B b:Nat} {w w1:World} {v0 v1 v2 v3:Value} (h:Four w b v0 v1 v2 v3)(hb:Below B w w1)(hlt:b<B):Four w1 b v0 v1 v2 v3:=by
 obtain⟨⟨a0,a1,a2,a3⟩,f0,f1,f2,f3⟩:=h;exact⟨⟨(hb.cell (p:=⟨b,0,none⟩) hlt).trans a0,(hb.cell (p:=⟨b,1,none⟩) hlt).trans a1,(hb.cell (p:=⟨b,2,none⟩) hlt).trans a2,(hb.cell (p:=⟨b,3,none⟩) hlt).trans a3⟩,
  (hb.frozen (p:=⟨b,0,none⟩) hlt).trans f0,(hb.frozen (p:=⟨b,1,none⟩) hlt).trans f1,(hb.frozen (p:=⟨b,2,none⟩) hlt).trans f2,(hb.frozen (p:=⟨b,3,none⟩) hlt).trans f3⟩
theorem Four.set_ {w:World} {b:Nat} {v0 v1 v2 v3:Value} (h:Four w b v0 v1 v2 v3)(u0 u1 u2 u3:Value):Four ((((w.setCell ⟨b,0,none⟩ u0).setCell ⟨b,1,none⟩ u1).setCell ⟨b,2,none⟩ u2).setCell ⟨b,3,none⟩ u3) b u0 u1 u2 u3:=by
 obtain⟨⟨a0,a1,a2,a3⟩,f0,f1,f2,f3⟩:=h;unfold Four;simp[go_sem,a0,a1,a2,a3,f0,f1,f2,f3]
def SpPost (E:Int)(w:World)(e:Ending)(w':World):Prop :=
 (∃ (p:Option Addr) (N:Int) (A1:Option Addr) (k1 c1:Nat) (A2:Option Addr) (k2 c2:Nat),e=.returned (.tuple #[.agg #[.pointer p,.int .i64 N,.slice A1 k1 c1,.slice A2 k2 c2],.int .i64 E]))∧Below w.heap.size w w'
set_option maxRecDepth 100000 in
set_option maxHeartbeats 2000000 in
theorem spOpen_err (F:FD)(hgood:Good F.p F.m (modL F.toDesc))(N:Int)(n:Nat)(rows:Nat→List Int)(A Ar:Option Addr)(c cr:Nat)(w:World)(hr:Rd w w.heap.size A (modL F.toDesc))(hrm:RdM w w.heap.size Ar n rows)(hn:n≤1000000)(hl:∀ i,i<n→(rows i).length≤1000000)
  {E:Int} (hE:mErr F.toDesc N n rows=E) (hE0:E≠0) :
  Calls Tryz.prog 163 #[.agg #[.int .i64 F.p,.int .i64 F.m,.slice A F.mod.length c],.agg #[.int .i64 N,.slice Ar n cr]] w (SpPost E w):=by
 have hO:=fun W h1 h2=>Lib.hid (gCanonical_err F hgood N n rows A Ar c cr W h1 h2 hn hl hE hE0)
 (obtain⟨Z,hZ⟩:∃ Z,Z=((w.alloc (.cells #[.int .i64 F.p,.int .i64 F.m,.slice A F.mod.length c] 24)).alloc (.cells #[.int .i64 N,.slice Ar n cr] 120)).alloc (.cells #[.pointer none,.int .i64 0,.slice none 0 0,.slice none 0 0] 170):=⟨_,rfl⟩)
 have hB:Below w.heap.size w Z:=by rw[hZ]; exact (((Below.refl _ _).alloc (Nat.le_refl _) _).alloc (by simp) _).alloc (by simp; omega) _
 obtain⟨s,hs⟩:∃ s,s=w.heap.size:=⟨_,rfl⟩;have hZs:Z.heap.size=s+1+1+1:=by rw[hZ,hs]; simp
 have kz:((Z.cell? ⟨s,0,none⟩=some (.int .i64 F.p)∧Z.cell? ⟨s,1,none⟩=some (.int .i64 F.m)∧Z.cell? ⟨s,2,none⟩=some (.slice A F.mod.length c))∧(Z.cell? ⟨s+1,0,none⟩=some (.int .i64 N)∧Z.cell? ⟨s+1,1,none⟩=some (.slice Ar n cr))∧Four Z (s+1+1) (.pointer none) (.int .i64 0) (.slice none 0 0) (.slice none 0 0)):=by unfold Four; rw[hZ,hs]; simp[go_sem]
 obtain⟨⟨z0,z1,z2⟩,⟨y0,y1⟩,f4⟩:=kz;have hO2:=hO Z ((hr.below hB).more hB.size) ((hrm.below hB).more hB.size);have hEb:(E !=0)=true:=by rw[bne_iff_ne]; exact hE0
 replace hZ:=Lib.hid hZ;replace hE:=Lib.hid hE;replace hE0:=Lib.hid hE0;clear hO;unfold SpPost;go_enter Tryz.func163,Tryz.ntmps163;go_wp2_with (fail);rw[←hZ.out];simp only[←hs];have hsw:w.heap.size≤s:=Nat.le_of_eq hs.symm;replace hs:=Lib.hid hs;(with_reducible refine hO2.out.mono ?_);rintro e w1 ⟨rfl,hb1⟩;have hB1:=hB.trans (hb1.mono hB.size);have hs1:s+1+1<w1.heap.size:=Nat.lt_of_lt_of_le (by omega) hb1.size;obtain⟨⟨a0,a1,a2,a3⟩,e0,e1,e2,e3⟩:=f4.keep hb1 (by omega);have hz4:((((w1.setCell ⟨s+1+1,0,none⟩ (.pointer none)).setCell ⟨s+1+1,1,none⟩ (.int .i64 0)).setCell ⟨s+1+1,2,none⟩ (.slice none 0 0)).setCell ⟨s+1+1,3,none⟩ (.slice none 0 0)).heap.size=w1.heap.size:=by simp[World.setCell]
 have hb4:Below ((((w1.setCell ⟨s+1+1,0,none⟩ (.pointer none)).setCell ⟨s+1+1,1,none⟩ (.int .i64 0)).setCell ⟨s+1+1,2,none⟩ (.slice none 0 0)).setCell ⟨s+1+1,3,none⟩ (.slice none 0 0)).heap.size ((((w1.setCell ⟨s+1+1,0,none⟩ (.pointer none)).setCell ⟨s+1+1,1,none⟩ (.int .i64 0)).setCell ⟨s+1+1,2,none⟩ (.slice none 0 0)).setCell ⟨s+1+1,3,none⟩ (.slice none 0 0)) (((((w1.setCell ⟨s+1+1,0,none⟩ (.pointer none)).setCell ⟨s+1+1,1,none⟩ (.int .i64 0)).setCell ⟨s+1+1,2,none⟩ (.slice none 0 0)).setCell ⟨s+1+1,3,none⟩ (.slice none 0 0)).alloc (.cells #[.int .i64 0,.slice none 0 0] 120)):=(Below.refl _ _).alloc (Nat.le_refl _) _;obtain⟨⟨q0,q1,q2,q3⟩,-⟩:=((f4.keep hb1 (by omega)).set_ (.pointer none) (.int .i64 0) (.slice none 0 0) (.slice none 0 0)).keep hb4 (by rw[hz4]; exact hs1);have hBf:=Lib.hid ((hB1.trans ((set4b (w3:=w1) (b:=s+1+1) (.pointer none) (.int .i64 0) (.slice none 0 0) (.slice none 0 0)).mono (by omega))).trans (hb4.mono (by rw[hz4]; exact hB1.size)));clear hz4 hb4;clear hO2 hb1 hB1 hB;go_wp2_with (fail);exact bodyPost_ret (v:=.tuple #[.agg #[.pointer none,.int .i64 0,.slice none 0 0,.slice none 0 0],.int .i64 E]) (by simp[results,Tryz.results163,go_sem,q0,q1,q2,q3]) rfl ⟨⟨_,_,_,_,_,_,_,_,rfl⟩,hBf.out⟩

set_option maxRecDepth 100000 in
set_option maxHeartbeats 2000000 in
theorem spOpen_form (F:FD)(hgood:Good F.p F.m (modL F.toDesc))(n m:Nat)(M:Nat→Nat→R F.toDesc)(A Ar:Option Addr)(c cr:Nat)(w:World)(hr:Rd w w.heap.size A (modL F.toDesc))(hrm:RdM w w.heap.size Ar n (rowsL F.toDesc m M))(hn:n≤256)(hm1:1≤m)(hm:m≤256)(hc:¬ Canl F n m M) :
  Calls Tryz.prog 163 #[.agg #[.int .i64 F.p,.int .i64 F.m,.slice A F.mod.length c],.agg #[.int .i64 m,.slice Ar n cr]] w (SpPost 5 w):=by
 have hO:=fun W h1 h2=>gCanonical_ok F hgood n m M A Ar c cr W h1 h2 hn hm1 hm
 unfold CanPost at hO;replace hO:=fun W h1 h2=>Lib.hid (hO W h1 h2)
 have hq:eqR (rkS F n m M) n (rowsL F.toDesc m (elS n M m).1) (rowsL F.toDesc m M)=false:=by
  cases h:eqR (rkS F n m M) n (rowsL F.toDesc m (elS n M m).1) (rowsL F.toDesc m M) with
  | false=>rfl
  | true=>exact absurd (canl_iff.2 h) hc
 have hrk:rkS F n m M≤n:=(elS_le n M m).1;have hQ:=fun Al W h1 h2=>slEqF_any (rkS F n m M) n (rowsL F.toDesc m (elS n M m).1) (rowsL F.toDesc m M) Al Ar (rkS F n m M) cr W h1 h2 (by omega) (fun i _=>by rw[rowsL,rowL_length]; omega)
 rw[hq]at hQ;replace hQ:=fun Al W h1 h2=>Lib.hid (hQ Al W h1 h2)
 clear hq hc
 (obtain⟨Z,hZ⟩:∃ Z,Z=((w.alloc (.cells #[.int .i64 F.p,.int .i64 F.m,.slice A F.mod.length c] 24)).alloc (.cells #[.int .i64 m,.slice Ar n cr] 120)).alloc (.cells #[.pointer none,.int .i64 0,.slice none 0 0,.slice none 0 0] 170):=⟨_,rfl⟩)
 have hB:Below w.heap.size w Z:=by rw[hZ]; exact (((Below.refl _ _).alloc (Nat.le_refl _) _).alloc (by simp) _).alloc (by simp; omega) _
 obtain⟨s,hs⟩:∃ s,s=w.heap.size:=⟨_,rfl⟩;have hZs:Z.heap.size=s+1+1+1:=by rw[hZ,hs]; simp
 have kz:((Z.cell? ⟨s,0,none⟩=some (.int .i64 F.p)∧Z.cell? ⟨s,1,none⟩=some (.int .i64 F.m)∧Z.cell? ⟨s,2,none⟩=some (.slice A F.mod.length c))∧(Z.cell? ⟨s+1,0,none⟩=some (.int .i64 m)∧Z.cell? ⟨s+1,1,none⟩=some (.slice Ar n cr))∧Four Z (s+1+1) (.pointer none) (.int .i64 0) (.slice none 0 0) (.slice none 0 0)):=by unfold Four; rw[hZ,hs]; simp[go_sem]
 obtain⟨⟨z0,z1,z2⟩,⟨y0,y1⟩,f4⟩:=kz;have hO2:=hO Z ((hr.below hB).more hB.size) ((hrm.below hB).more hB.size);replace hZ:=Lib.hid hZ;clear hO;unfold SpPost;go_enter Tryz.func163,Tryz.ntmps163;go_wp2_with (fail);rw[←hZ.out];simp only[←hs];have hsw:w.heap.size≤s:=Nat.le_of_eq hs.symm;replace hs:=Lib.hid hs;(with_reducible refine hO2.out.mono ?_);rintro e w1 ⟨Al,vp,rfl,hru,-,hb1⟩;have hB1:=hB.trans (hb1.mono hB.size);have hs1:s+1+1<w1.heap.size:=Nat.lt_of_lt_of_le (by omega) hb1.size;have hs1a:s<w1.heap.size:=by omega
 have hs1b:s+1<w1.heap.size:=by omega
 have hb2:Below w1.heap.size w1 (w1.alloc (.cells #[.int .i64 m,.slice Al (rkS F n m M) (rkS F n m M)] 120)):=(Below.refl _ _).alloc (Nat.le_refl _) _;have hB2:=hB1.trans (hb2.mono hB1.size);have hQ2:=hQ Al (w1.alloc (.cells #[.int .i64 m,.slice Al (rkS F n m M) (rkS F n m M)] 120)) ((hru.rdm.below hb2).more hb2.size) ((hrm.below hB2).more hB2.size);have f41:=f4.keep hb1 (by omega);have y0':=(hb1.cell (p:=⟨s+1,0,none⟩) (show s+1<Z.heap.size by omega)).trans y0;have y1':=(hb1.cell (p:=⟨s+1,1,none⟩) (show s+1<Z.heap.size by omega)).trans y1;replace hb2:=Lib.hid hb2;clear hO2 hQ hB1 hB z0 z1 z2 y0 y1;go_wp2_with (fail);(with_reducible refine hQ2.out.mono ?_);rintro e w3 ⟨rfl,hb3⟩;have hB3:=hB2.trans (hb3.mono hB2.size);have hbz3:=hb2.out.trans (hb3.mono hb2.out.size);have f43:=f41.keep hbz3 hs1;obtain⟨⟨a0,a1,a2,a3⟩,e0,e1,e2,e3⟩:=f43;have hs3:s+1+1<w3.heap.size:=Nat.lt_of_lt_of_le hs1 hbz3.size;have hBf:=Lib.hid (hB3.trans ((set4b (w3:=w3) (b:=s+1+1) (.pointer none) (.int .i64 0) (.slice none 0 0) (.slice none 0 0)).mono (by omega)));clear hQ2 hB3 hB2 hbz3;go_wp2_with (fail);exact bodyPost_ret (v:=.tuple #[.agg #[.pointer none,.int .i64 0,.slice none 0 0,.slice none 0 0],.int .i64 5]) (by simp[results,Tryz.results163,go_sem,a0,a1,a2,a3]) rfl ⟨⟨_,_,_,_,_,_,_,_,rfl⟩,hBf.out⟩

def SpOk (F:FD)(n m:Nat)(M:Nat→Nat→R F.toDesc)(Ar:Option Addr)(cr:Nat)(w:World)(e:Ending)(w':World):Prop :=
 ∃ g,∃ F1:FD,∃ vp,F1.toDesc=F.toDesc∧e=.returned (.tuple #[.agg #[.pointer (some ⟨g,0,none⟩),.int .i64 m,.slice Ar n cr,vp],.int .i64 0])∧Own w' w.heap.size vp (natL (elS n M m).2)∧Below w.heap.size w w'
set_option maxRecDepth 100000 in
set_option maxHeartbeats 2000000 in
theorem spOpen_ok (F:FD)(hgood:Good F.p F.m (modL F.toDesc))(n m:Nat)(M:Nat→Nat→R F.toDesc)(A Ar:Option Addr)(c cr:Nat)(w:World)(hr:Rd w w.heap.size A (modL F.toDesc))(hrm:RdM w w.heap.size Ar n (rowsL F.toDesc m M))(hn:n≤256)(hm1:1≤m)(hm:m≤256)(hc:Canl F n m M) :
  Calls Tryz.prog 163 #[.agg #[.int .i64 F.p,.int .i64 F.m,.slice A F.mod.length c],.agg #[.int .i64 m,.slice Ar n cr]] w (SpOk F n m M Ar cr w):=by
 have hO:=fun W h1 h2=>gCanonical_ok F hgood n m M A Ar c cr W h1 h2 hn hm1 hm
 unfold CanPost at hO;replace hO:=fun W h1 h2=>Lib.hid (hO W h1 h2)
 have hN:=fun W h=>Lib.hid (New_good F.toDesc A c W h hgood)
 have hq:=canl_iff.1 hc;have hrk:rkS F n m M≤n:=(elS_le n M m).1;have hQ:=fun Al W h1 h2=>slEqF_any (rkS F n m M) n (rowsL F.toDesc m (elS n M m).1) (rowsL F.toDesc m M) Al Ar (rkS F n m M) cr W h1 h2 (by omega) (fun i _=>by rw[rowsL,rowL_length]; omega)
 rw[hq]at hQ;replace hQ:=fun Al W h1 h2=>Lib.hid (hQ Al W h1 h2)
 clear hq hc
 (obtain⟨Z,hZ⟩:∃ Z,Z=((w.alloc (.cells #[.int .i64 F.p,.int .i64 F.m,.slice A F.mod.length c] 24)).alloc (.cells #[.int .i64 m,.slice Ar n cr] 120)).alloc (.cells #[.pointer none,.int .i64 0,.slice none 0 0,.slice none 0 0] 170):=⟨_,rfl⟩)
 have hB:Below w.heap.size w Z:=by rw[hZ]; exact (((Below.refl _ _).alloc (Nat.le_refl _) _).alloc (by simp) _).alloc (by simp; omega) _
 obtain⟨s,hs⟩:∃ s,s=w.heap.size:=⟨_,rfl⟩;have hZs:Z.heap.size=s+1+1+1:=by rw[hZ,hs]; simp
 have kz:((Z.cell? ⟨s,0,none⟩=some (.int .i64 F.p)∧Z.cell? ⟨s,1,none⟩=some (.int .i64 F.m)∧Z.cell? ⟨s,2,none⟩=some (.slice A F.mod.length c))∧(Z.cell? ⟨s+1,0,none⟩=some (.int .i64 m)∧Z.cell? ⟨s+1,1,none⟩=some (.slice Ar n cr))∧Four Z (s+1+1) (.pointer none) (.int .i64 0) (.slice none 0 0) (.slice none 0 0)):=by unfold Four; rw[hZ,hs]; simp[go_sem]
 obtain⟨⟨z0,z1,z2⟩,⟨y0,y1⟩,f4⟩:=kz;have hO2:=hO Z ((hr.below hB).more hB.size) ((hrm.below hB).more hB.size);replace hZ:=Lib.hid hZ;clear hO;unfold SpOk;go_enter Tryz.func163,Tryz.ntmps163;go_wp2_with (fail);rw[←hZ.out];simp only[←hs];have hsw:w.heap.size≤s:=Nat.le_of_eq hs.symm;replace hs:=Lib.hid hs;(with_reducible refine hO2.out.mono ?_);rintro e w1 ⟨Al,vp,rfl,hru,hown,hb1⟩;have hB1:=hB.trans (hb1.mono hB.size);have hs1:s+1+1<w1.heap.size:=Nat.lt_of_lt_of_le (by omega) hb1.size;have hs1a:s<w1.heap.size:=by omega
 have hs1b:s+1<w1.heap.size:=by omega
 have hb2:Below w1.heap.size w1 (w1.alloc (.cells #[.int .i64 m,.slice Al (rkS F n m M) (rkS F n m M)] 120)):=(Below.refl _ _).alloc (Nat.le_refl _) _;have hB2:=hB1.trans (hb2.mono hB1.size);have hQ2:=hQ Al (w1.alloc (.cells #[.int .i64 m,.slice Al (rkS F n m M) (rkS F n m M)] 120)) ((hru.rdm.below hb2).more hb2.size) ((hrm.below hB2).more hB2.size);have f41:=f4.keep hb1 (by omega);have y0':=(hb1.cell (p:=⟨s+1,0,none⟩) (show s+1<Z.heap.size by omega)).trans y0;have y1':=(hb1.cell (p:=⟨s+1,1,none⟩) (show s+1<Z.heap.size by omega)).trans y1;have k1:=Lib.hid (keep3 hb1 (show s<Z.heap.size by omega) ⟨z0,z1,z2⟩);replace hb2:=Lib.hid hb2;clear hO2 hQ hB1 hB z0 z1 z2 y0 y1;go_wp2_with (fail);(with_reducible refine hQ2.out.mono ?_);rintro e w3 ⟨rfl,hb3⟩;have hB3:=hB2.trans (hb3.mono hB2.size);have hbz3:=hb2.out.trans (hb3.mono hb2.out.size);have f43:=f41.keep hbz3 hs1;have hs3:s+1+1<w3.heap.size:=Nat.lt_of_lt_of_le hs1 hbz3.size;have k3:=keep3 hbz3 hs1a k1.out;have u0:=(hbz3.cell (p:=⟨s+1,0,none⟩) hs1b).trans y0';have u1:=(hbz3.cell (p:=⟨s+1,1,none⟩) hs1b).trans y1';obtain⟨t0,t1,t2⟩:=k3;have hN3:=hN w3 ((hr.below hB3).more hB3.size);have hown3:=hown.below hbz3 (Nat.le_refl _);clear hQ2 hN hB2 y0' y1' hown;go_wp2_with (fail);(with_reducible refine hN3.out.mono ?_);rintro e w4 ⟨g,F1,h1,rfl,hgl,hgf,hb4⟩;have hB4:=hB3.trans (hb4.mono hB3.size);have hs4:s+1+1<w4.heap.size:=Nat.lt_of_lt_of_le hs3 hb4.size;have f44:=f43.keep hb4 hs3;obtain⟨⟨a0,a1,a2,a3⟩,e0,e1,e2,e3⟩:=f44;have x0:=(hb4.cell (p:=⟨s+1,0,none⟩) (show s+1<w3.heap.size by omega)).trans u0;have x1:=(hb4.cell (p:=⟨s+1,1,none⟩) (show s+1<w3.heap.size by omega)).trans u1;have hown4':=hown3.below hb4 (Nat.le_refl _);obtain⟨Ap,cp,rfl,-⟩:=hown4'.form;have hset:=Lib.hid (set4b (w3:=w4) (b:=s+1+1) (.pointer (some ⟨g,0,none⟩)) (.int .i64 m) (.slice Ar n cr) (.slice Ap (natL (elS n M m).2).length cp));have hBf:=Lib.hid (hB4.trans (hset.out.mono (by omega)));have hown4:=hown3.below hb4 (Nat.le_refl _);have hZw:w.heap.size≤Z.heap.size:=by omega
 have hof:=Lib.hid ((((hown4.far (p:=⟨s+1+1,0,none⟩) (fun e=>by have h2:Z.heap.size≤s+1+1:=(hown4.lt _ e).1; omega) (.pointer (some ⟨g,0,none⟩))).far (p:=⟨s+1+1,1,none⟩) (fun e=>by have h2:Z.heap.size≤s+1+1:=(hown4.lt _ e).1; omega) (.int .i64 m)).far (p:=⟨s+1+1,2,none⟩) (fun e=>by have h2:Z.heap.size≤s+1+1:=(hown4.lt _ e).1; omega) (.slice Ar n cr)).far (p:=⟨s+1+1,3,none⟩) (fun e=>by have h2:Z.heap.size≤s+1+1:=(hown4.lt _ e).1; omega) (.slice Ap (natL (elS n M m).2).length cp));replace h1:=Lib.hid h1;clear hN3 hB4 hB3 hbz3 u0 u1 t0 t1 t2 hown3 hown4 hown4' hgf hgl;go_wp2_with (fail);exact bodyPost_ret (v:=.tuple #[.agg #[.pointer (some ⟨g,0,none⟩),.int .i64 m,.slice Ar n cr,.slice Ap (natL (elS n M m).2).length cp],.int .i64 0]) (by simp[results,Tryz.results163,go_sem,a0,a1,a2,a3]) rfl ⟨g,F1,_,h1.out,rfl,hof.out.lowerM hZw,hBf.out⟩

theorem spOpen_any (F:FD)(hgood:Good F.p F.m (modL F.toDesc))(N:Int)(ml:List Int)(n:Nat)(rows:Nat→List Int)(A Ar:Option Addr)(c cr:Nat)(w:World)(hml:ml=modL F.toDesc)(hr:Rd w w.heap.size A (modL F.toDesc))(hrm:RdM w w.heap.size Ar n rows)(hn:n≤64)(hl:∀ i,i<n→(rows i).length≤4200)(h4:¬ (N<1∨64<N)) :
  Calls Tryz.prog 163 #[.agg #[.int .i64 F.p,.int .i64 F.m,.slice A F.mod.length c],.agg #[.int .i64 N,.slice Ar n cr]] w (SpPost (cErr F.p F.m N ml n rows) w):=by
 have hg2:Good F.p F.m ml:=by rw[hml]; exact hgood
 by_cases hz:mErr F.toDesc N n rows=0
 ·obtain⟨hs,he⟩:=mErr_zero hz;obtain⟨m,rfl⟩:∃ m:Nat,N=m:=⟨N.toNat,by omega⟩;have hrows:=entM_rows hs he;have hrm2:=hrm.congr hrows;have hci:=codeOk_iff (P:=(F.p:Int)) (M:=(F.m:Int)) (N:=(m:Int)) rfl rfl hml rfl hrows;by_cases hc:Canl F n m (entM F.toDesc rows)
  ·rw[cErr_ok hg2 rfl rfl hml h4 hs he (hci.2 hc)];refine (spOpen_ok F hgood n m _ A Ar c cr w hr hrm2 (by omega) (by omega) (by omega) hc).mono ?_;rintro e w' ⟨g,F1,vp,-,rfl,ho,hb⟩;obtain⟨Ap,cp,rfl,-⟩:=ho.form;exact⟨⟨_,_,_,_,_,_,_,_,rfl⟩,hb⟩
  ·rw[cErr_form hg2 rfl rfl hml h4 hs he (fun h=>hc (hci.1 h))];exact spOpen_form F hgood n m _ A Ar c cr w hr hrm2 (by omega) (by omega) (by omega) hc
 ·exact spOpen_err F hgood N n rows A Ar c cr w hr hrm (by omega) (fun i hi=>Nat.le_trans (hl i hi) (by omega)) (cErr_m hg2 rfl rfl hml h4 hz).symm (by rw[cErr_m hg2 rfl rfl hml h4 hz]; exact hz)

set_option maxHeartbeats 1000000 in
theorem spCheck_any (F:FD)(hgood:Good F.p F.m (modL F.toDesc))(N:Int)(ml:List Int)(n:Nat)(rows:Nat→List Int)(A Ar:Option Addr)(c cr:Nat)(w:World)(hml:ml=modL F.toDesc)(hr:Rd w w.heap.size A (modL F.toDesc))(hrm:RdM w w.heap.size Ar n rows)(hn:n≤64)(hl:∀ i,i<n→(rows i).length≤4200)(h4:¬ (N<1∨64<N)) :
  Calls Tryz.prog 111 #[.agg #[.int .i64 F.p,.int .i64 F.m,.slice A F.mod.length c],.agg #[.int .i64 N,.slice Ar n cr]] w fun e w'=>e=.returned (.int .i64 (cErr F.p F.m N ml n rows))∧Below w.heap.size w w':=by
 have hO:=fun W h1 h2=>spOpen_any F hgood N ml n rows A Ar c cr W hml h1 h2 hn hl h4
 unfold SpPost at hO;replace hO:=fun W h1 h2=>Lib.hid (hO W h1 h2)
 generalize cErr F.p F.m N ml n rows=E at *;obtain⟨Z,hZ⟩:∃ Z,Z=(w.alloc (.cells #[.int .i64 F.p,.int .i64 F.m,.slice A F.mod.length c] 24)).alloc (.cells #[.int .i64 N,.slice Ar n cr] 120):=⟨_,rfl⟩;have hB:Below w.heap.size w Z:=by rw[hZ]; exact ((Below.refl _ _).alloc (Nat.le_refl _) _).alloc (by simp) _
 have hO2:=hO Z ((hr.below hB).more hB.size) ((hrm.below hB).more hB.size);replace hZ:=Lib.hid hZ;replace hml:=Lib.hid hml;clear hO hl h4;go_enter Tryz.func111,Tryz.ntmps111;go_wp2_with (fail);rw[←hZ.out];(with_reducible refine hO2.out.mono ?_);rintro e w1 ⟨⟨p,N1,A1,k1,c1,A2,k2,c2,rfl⟩,hb1⟩;have hBf:=Lib.hid ((hB.trans (hb1.mono hB.size)).trans (((Below.refl w1.heap.size w1).alloc (Nat.le_refl _) (.cells #[.pointer p,.int .i64 N1,.slice A1 k1 c1,.slice A2 k2 c2] 170)).mono (hB.trans (hb1.mono hB.size)).size));go_wp2_with (fail);go_ret;exact⟨rfl,hBf.out⟩

set_option maxHeartbeats 2000000 in
theorem cCheck_any (Pa Ma Na:Int)(mla:List Int)(na:Nat)(rowsa:Nat→List Int)(Aa Ra:Option Addr)(ca ka:Nat)(w:World)(hPa:I64 Pa)(hMa:I64 Ma)(hla:mla.length≤maxLen)(hna:na≤64)(hka:∀ i,i<na→(rowsa i).length≤4200)(hra:Rd w w.heap.size Aa mla)(hma:RdM w w.heap.size Ra na rowsa) :
  Calls Tryz.prog 52 #[.agg #[.int .i64 Pa,.int .i64 Ma,.slice Aa mla.length ca,.int .i64 Na,.slice Ra na ka]] w fun e w'=>e=.returned (.int .i64 (cErr Pa Ma Na mla na rowsa))∧Below w.heap.size w w':=by
 have hF:=fun W h=>fCheck_any Pa Ma mla Aa ca W hPa hMa hla h
 obtain⟨Z,hZ⟩:∃ Z,Z=w.alloc (.cells #[.int .i64 Pa,.int .i64 Ma,.slice Aa mla.length ca,.int .i64 Na,.slice Ra na ka] 27):=⟨_,rfl⟩;have hB:Below w.heap.size w Z:=by rw[hZ]; exact (Below.refl _ _).alloc (Nat.le_refl _) _
 have hZs:w.heap.size<Z.heap.size:=by rw[hZ]; simp
 have f5:=Five.new w (.int .i64 Pa) (.int .i64 Ma) (.slice Aa mla.length ca) (.int .i64 Na) (.slice Ra na ka) 27;have f5H:Hid (Five Z w.heap.size (.int .i64 Pa) (.int .i64 Ma) (.slice Aa mla.length ca) (.int .i64 Na) (.slice Ra na ka)):=by rw[hZ]; exact f5
 have hF1:=hF Z ((hra.below hB).more hB.size);replace hZ:=Lib.hid hZ;clear hF;by_cases hg:Good Pa Ma mla
 ·rw[chk_yes hg]at hF1;replace hF1:=Lib.hid hF1;by_cases h4:Na<1∨64<Na
  ·have hL:=fun W=>Lib.hid (gLen_no Na W h4)
   rw[cErr_len hg h4];clear hg h4 hPa hMa hla;go_enter Tryz.func52,Tryz.ntmps52;obtain⟨a0,a1,a2,a3,a4,-⟩:=f5;go_wp2_with (fail);rw[←hZ.out];(with_reducible refine hF1.out.mono ?_);rintro e w1 ⟨rfl,hb1⟩;have hB1:=hB.trans (hb1.mono hB.size);clear a0 a1 a2 a3 a4;obtain⟨a0,a1,a2,a3,a4,-⟩:=f5H.out.keep hb1 hZs;go_wp2_with (fail);(with_reducible refine (hL w1).out.mono ?_);rintro e w2 ⟨rfl,rfl⟩;go_wp2_with (fail);go_ret;exact⟨rfl,hB1⟩
  ·obtain⟨m,rfl⟩:∃ m:Nat,Na=m:=⟨Na.toNat,by omega⟩;have hL:=fun W=>Lib.hid (gLen_ok m W (by omega) (by omega))
   have hgH:=hg;obtain⟨D,rfl,rfl,rfl,-⟩:=hg;obtain⟨F,rfl⟩:=good_FD hgH;have hS:=fun W h1 h2=>spCheck_any F hgH m (modL F.toDesc) na rowsa Aa Ra ca ka W rfl h1 h2 hna hka h4
   generalize cErr F.p F.m m (modL F.toDesc) na rowsa=E at *;replace hS:=fun W h1 h2=>Lib.hid (hS W h1 h2)
   rw[modL_length]at *;have hG:=fun W=>Lib.hid (cGen_any F.p F.m m (modL F.toDesc) na rowsa Aa Ra ca ka W)
   simp only[modL_length]at hG;clear hgH h4 hPa hMa hla;go_enter Tryz.func52,Tryz.ntmps52;obtain⟨a0,a1,a2,a3,a4,-⟩:=f5;go_wp2_with (fail);rw[←hZ.out];(with_reducible refine hF1.out.mono ?_);rintro e w1 ⟨rfl,hb1⟩;have hB1:=hB.trans (hb1.mono hB.size);clear a0 a1 a2 a3 a4;have hs1:w.heap.size<w1.heap.size:=Nat.lt_of_lt_of_le hZs hb1.size;have f51:=f5H.out.keep hb1 hZs;obtain⟨a0,a1,a2,a3,a4,-⟩:=f51;go_wp2_with (fail);(with_reducible refine (hL w1).out.mono ?_);rintro e w2 ⟨rfl,rfl⟩;go_wp2_with (fail);have k2:=Lib.hid (show _∧_∧_∧_∧_ from ⟨a0,a1,a2,a3,a4⟩);clear a0 a1 a2 a3 a4;refine wp_region_held_drew (S:=fun w'=>w'.cell? ⟨w.heap.size,0,none⟩=some (.int .i64 F.p)∧w'.cell? ⟨w.heap.size,1,none⟩=some (.int .i64 F.m)∧w'.cell? ⟨w.heap.size,2,none⟩=some (.slice Aa F.mod.length ca)∧w'.cell? ⟨w.heap.size,3,none⟩=some (.int .i64 m)∧w'.cell? ⟨w.heap.size,4,none⟩=some (.slice Ra na ka)) (by kernel_rfl) (by (try dsimp only); exact k2.out) (fun hHeld=>?_);refine tk 0 ?_; try simp only[pS]
   refine tk 1 ?_; try simp only[pS]
   refine tk 2 ?_; try simp only[pS]
   refine rd 3 fun K hK=>?_
   go_simp;go_at_call 85;(with_reducible refine ((hG _)).out.mono ?_);rintro e w3 ⟨rfl,hb3⟩;have k3:=Lib.hid (show _∧_∧_∧_∧_ from ⟨(hb3.cell (p:=⟨w.heap.size,0,none⟩) hs1).trans k2.out.1,(hb3.cell (p:=⟨w.heap.size,1,none⟩) hs1).trans k2.out.2.1,(hb3.cell (p:=⟨w.heap.size,2,none⟩) hs1).trans k2.out.2.2.1,(hb3.cell (p:=⟨w.heap.size,3,none⟩) hs1).trans k2.out.2.2.2.1,(hb3.cell (p:=⟨w.heap.size,4,none⟩) hs1).trans k2.out.2.2.2.2⟩);have hB3:=hB1.drew.trans (hb3.mono hB1.size);have hs3:w.heap.size<w3.heap.size:=Nat.lt_of_lt_of_le hs1 hb3.size;go_wp2_with (fail);refine hK.out _ _ (by (try dsimp only); exact k3.out) (fun hHeld=>?_);clear hK K;try simp only[pS]
   refine rd 4 fun K hK=>?_
   go_simp;go_at_call 111;(with_reducible refine ((hS _ ((hra.below hB3).more hB3.size) ((hma.below hB3).more hB3.size))).out.mono ?_);rintro e w4 ⟨rfl,hb4⟩;go_wp2_with (fail);refine hK.out _ _ (by (try dsimp only); exact⟨(hb4.cell (p:=⟨w.heap.size,0,none⟩) hs3).trans k3.out.1,(hb4.cell (p:=⟨w.heap.size,1,none⟩) hs3).trans k3.out.2.1,(hb4.cell (p:=⟨w.heap.size,2,none⟩) hs3).trans k3.out.2.2.1,(hb4.cell (p:=⟨w.heap.size,3,none⟩) hs3).trans k3.out.2.2.2.1,(hb4.cell (p:=⟨w.heap.size,4,none⟩) hs3).trans k3.out.2.2.2.2⟩) (fun hHeld=>?_);clear hK K;try simp only[pS]
   refine tk 5 ?_; try simp only[pS]
   refine wpAnyH_done (by kernel_rfl) ?_ _;go_wp2_with (fail);go_ret;exact⟨rfl,hB3.trans (hb4.mono hB3.size)⟩
 ·rw[chk_no hg]at hF1;replace hF1:=Lib.hid hF1;rw[cErr_bad hg];clear hg hPa hMa hla;go_enter Tryz.func52,Tryz.ntmps52;obtain⟨a0,a1,a2,a3,a4,-⟩:=f5;go_wp2_with (fail);rw[←hZ.out];(with_reducible refine hF1.out.mono ?_);rintro e w1 ⟨rfl,hb1⟩;go_wp2_with (fail);go_ret;exact⟨rfl,hB.trans (hb1.mono hB.size)⟩
end Go.Proofs.YtogfekjbpcfgmaaGreat

/- The program's combine.Sum, Plotkin and Juxtapose of two codes without an error. What the walks of the program's constructions need: two codes in memory; the generated code; two valid codes. What the laws of chapter 14 begin with: two codes in their blocks; rows' lengths; the end of a law. combine.Concatenate of two codes one of which is none. combine.Product of two codes without an error. The reference's Sum, Plotkin and Juxtapose of two codes without an error. Sum, Plotkin, Juxtapose: the program and the reference hand back one result. -/
import Derived.IntWalk
import Derived.Test.YtogfekjbpcfgmaaGreatZtCCodJ
namespace Go.Proofs.YtogfekjbpcfgmaaGreat
section
open Go.RowKit Cw
attribute [local go_sem] Oper.semAt_some

theorem VC.rdm {P M N:Int} {ml:List Int} {n:Nat} {rows:Nat→List Int} {F:FD} {m:Nat} {A:Nat→Nat→R F.toDesc} (h:VC P M N ml n rows F m A){w:World} {B:Nat} {Ar:Option Addr} (hr:RdM w B Ar n rows):RdM w B Ar n (rowsL F.toDesc m A):=hr.congr h.hr

end
section
open Go.RowKit Cw

def Pre2 (mla:List Int)(na:Nat)(rowsa:Nat→List Int)(Aa Ra:Option Addr)(mlb:List Int)(nb:Nat)(rowsb:Nat→List Int)(Ab Rb:Option Addr)(W:World):Prop :=
 (Rd W W.heap.size Aa mla∧RdM W W.heap.size Ra na rowsa)∧Rd W W.heap.size Ab mlb∧RdM W W.heap.size Rb nb rowsb
def Pre1 (mla:List Int)(na:Nat)(rowsa:Nat→List Int)(Aa Ra:Option Addr)(W:World):Prop:=Rd W W.heap.size Aa mla∧RdM W W.heap.size Ra na rowsa
end
section
open Go.RowKit Cw
def LawEnd (w:World)(e:Ending)(w':World):Prop:=e=.returned (.bool true)∧Below w.heap.size w w'
theorem rdm_len {w:World} {B n:Nat} {A:Option Addr} {rows:Nat→List Int} (h:RdM w B A n rows):∀ i,i<n→(rows i).length≤maxLen:=fun i hi=>by
 obtain⟨b,o,Ai,ci,-,-,-,-,h1,h2⟩:=h.at_ hi;exact Nat.le_trans h1 h2
theorem two_enter2 (Pa Ma Na:Int)(mla:List Int)(na:Nat)(_rowsa:Nat→List Int)(Aa Ra:Option Addr)(ca ka:Nat)(Pb Mb Nb:Int)(mlb:List Int)(nb:Nat)(_rowsb:Nat→List Int)(Ab Rb:Option Addr)(cb kb:Nat)(w:World){Z:World} (hZ:Z=(w.alloc (.cells #[.int .i64 Pa,.int .i64 Ma,.slice Aa mla.length ca,.int .i64 Na,.slice Ra na ka] 27)).alloc (.cells #[.int .i64 Pb,.int .i64 Mb,.slice Ab mlb.length cb,.int .i64 Nb,.slice Rb nb kb] 27)){s:Nat} (hs:s=w.heap.size):Z.heap.size=s+1+1∧Five Z s (.int .i64 Pa) (.int .i64 Ma) (.slice Aa mla.length ca) (.int .i64 Na) (.slice Ra na ka)∧Five Z (s+1) (.int .i64 Pb) (.int .i64 Mb) (.slice Ab mlb.length cb) (.int .i64 Nb) (.slice Rb nb kb):=by
 subst hs;have k1:=Five.new w (.int .i64 Pa) (.int .i64 Ma) (.slice Aa mla.length ca) (.int .i64 Na) (.slice Ra na ka) 27;have k2:=Five.new (w.alloc (.cells #[.int .i64 Pa,.int .i64 Ma,.slice Aa mla.length ca,.int .i64 Na,.slice Ra na ka] 27)) (.int .i64 Pb) (.int .i64 Mb) (.slice Ab mlb.length cb) (.int .i64 Nb) (.slice Rb nb kb) 27;rw[World.size_alloc]at k2;rw[hZ];exact⟨by simp,k1.keep ((Below.refl _ _).alloc (Nat.le_refl _) _) (by simp),k2⟩
end
section
open Go.RowKit Cw
attribute [local go_sem] Oper.semAt_some

set_option maxRecDepth 100000 in
set_option maxHeartbeats 4000000 in
theorem cConc_e0 (Pa Ma Na:Int)(mla:List Int)(na:Nat)(rowsa:Nat→List Int)(Aa Ra:Option Addr)(ca ka:Nat)(Pb Mb Nb:Int)(mlb:List Int)(nb:Nat)(rowsb:Nat→List Int)(Ab Rb:Option Addr)(cb kb:Nat)(l:List Int)(Al:Option Addr)(cl:Nat)(w:World)(hPa:I64 Pa)(hMa:I64 Ma)(hla:mla.length≤maxLen)(hna:na≤64)(hka:∀ i,i<na→(rowsa i).length≤4200)(hra:Rd w w.heap.size Aa mla)(hma:RdM w w.heap.size Ra na rowsa)(hPb:I64 Pb)(hMb:I64 Mb)(hlb:mlb.length≤maxLen)(hnb:nb≤64)(hkb:∀ i,i<nb→(rowsb i).length≤4200)(hrb:Rd w w.heap.size Ab mlb)(hmb:RdM w w.heap.size Rb nb rowsb){E:Int} (ea:cErr Pa Ma Na mla na rowsa=E)(hE0:E≠0) :
  Calls Tryz.prog 16 #[.agg #[.int .i64 Pa,.int .i64 Ma,.slice Aa mla.length ca,.int .i64 Na,.slice Ra na ka],.agg #[.int .i64 Pb,.int .i64 Mb,.slice Ab mlb.length cb,.int .i64 Nb,.slice Rb nb kb],.slice Al l.length cl] w (ResErr E w):=by
 have hCa:=fun W h1 h2=>cCheck_any Pa Ma Na mla na rowsa Aa Ra ca ka W hPa hMa hla hna hka h1 h2
 rw[ea]at hCa;replace hCa:=fun W h1 h2=>Lib.hid (hCa W h1 h2)
 have hEb:(E !=0)=true:=by rw[bne_iff_ne]; exact hE0
 replace hE0:=Lib.hid hE0;replace ea:=Lib.hid ea;obtain⟨Z,hZ⟩:∃ Z,Z=(((w.alloc (.cells #[.int .i64 Pa,.int .i64 Ma,.slice Aa mla.length ca,.int .i64 Na,.slice Ra na ka] 27)).alloc (.cells #[.int .i64 Pb,.int .i64 Mb,.slice Ab mlb.length cb,.int .i64 Nb,.slice Rb nb kb] 27)).alloc (.cells #[.int .i64 0,.int .i64 0,.slice none 0 0,.int .i64 0,.slice none 0 0] 27)):=⟨_,rfl⟩;have hB:Below w.heap.size w Z:=by rw[hZ]; exact (((Below.refl _ _).alloc (Nat.le_refl _) _).alloc (by simp) _).alloc (by simp; omega) _
 obtain⟨s,hs⟩:∃ s,s=w.heap.size:=⟨_,rfl⟩;obtain⟨hZe,fa,fb,fz⟩:=two_enter Pa Ma Na mla na rowsa Aa Ra ca ka Pb Mb Nb mlb nb rowsb Ab Rb cb kb w hZ hs;have hZs:s+1+1<Z.heap.size:=by omega
 obtain⟨X,hX⟩:∃ X,X=Z.alloc (.cells #[.int .i64 Pa,.int .i64 Ma,.slice Aa mla.length ca,.int .i64 Na,.slice Ra na ka,.int .i64 Pb,.int .i64 Mb,.slice Ab mlb.length cb,.int .i64 Nb,.slice Rb nb kb] 27):=⟨_,rfl⟩;have hbX:Below Z.heap.size Z X:=by rw[hX]; exact (Below.refl _ _).alloc (Nat.le_refl _) _
 have hBX:=hB.trans (hbX.mono hB.size);have hXc:=Lib.hid (show (X.cell? ⟨s+1+1+1,0,none⟩=some (.int .i64 Pa)∧X.cell? ⟨s+1+1+1,1,none⟩=some (.int .i64 Ma)∧X.cell? ⟨s+1+1+1,2,none⟩=some (.slice Aa mla.length ca)∧X.cell? ⟨s+1+1+1,3,none⟩=some (.int .i64 Na)∧X.cell? ⟨s+1+1+1,4,none⟩=some (.slice Ra na ka))∧X.cell? ⟨s+1+1+1,5,none⟩=some (.int .i64 Pb)∧X.cell? ⟨s+1+1+1,6,none⟩=some (.int .i64 Mb)∧X.cell? ⟨s+1+1+1,7,none⟩=some (.slice Ab mlb.length cb)∧X.cell? ⟨s+1+1+1,8,none⟩=some (.int .i64 Nb)∧X.cell? ⟨s+1+1+1,9,none⟩=some (.slice Rb nb kb) from by rw[hX,←hZe]; simp[go_sem]);have hXs:s+1+1+1<X.heap.size:=by rw[hX,World.size_alloc]; omega
 replace hZe:=Lib.hid hZe;replace hZ:=Lib.hid hZ;replace hX:=Lib.hid hX;replace fa:=Lib.hid fa;replace fb:=Lib.hid fb;have hfzH:=Lib.hid fz;clear fz hPb hMb hlb hnb hkb;go_enter Tryz.func16,Tryz.ntmps16;obtain⟨a0,a1,a2,a3,a4,-⟩:=fa.out;obtain⟨c0,c1,c2,c3,c4,-⟩:=fb.out;go_wp2_with (fail);rw[←hZ.out];simp only[←hs];have hsw:w.heap.size≤s:=Nat.le_of_eq hs.symm;replace hs:=Lib.hid hs;go_wp2_with (fail);rw[←hX.out];clear a0 a1 a2 a3 a4 c0 c1 c2 c3 c4;go_loopw [29,9,10] (fun i _ _ wr=>∃ k:Nat,k≤0∧i=.int .i64 k∧Below X.heap.size X wr) (fun i _ _ _=>2 - (intOf i).toNat)
 case atStart=>exact⟨0,by omega,rfl,Below.refl _ _⟩
 case round =>
  obtain⟨k,hk,rfl,hbw⟩:=hrel;obtain⟨w3,rfl⟩:∃ w3:World,w3=wr:=⟨_,rfl⟩;obtain rfl:k=0:=by omega
  ·have hb3:Below w3.heap.size w3 (w3.alloc (.cells #[.int .i64 Pa,.int .i64 Ma,.slice Aa mla.length ca,.int .i64 Na,.slice Ra na ka] 27)):=(Below.refl _ _).alloc (Nat.le_refl _) _;have hb3X:=Lib.hid (hbw.trans (hb3.mono hbw.size));have hB3:=Lib.hid (hBX.trans (hb3X.out.mono hBX.size));have hC:=hCa _ ((hra.below hB3.out).more hB3.out.size) ((hma.below hB3.out).more hB3.out.size);obtain⟨⟨q0,q1,q2,q3,q4⟩,-⟩:=hXc.out;have r0:=(hbw.cell (p:=⟨s+1+1+1,0,none⟩) hXs).trans q0;have r1:=(hbw.cell (p:=⟨s+1+1+1,1,none⟩) hXs).trans q1;have r2:=(hbw.cell (p:=⟨s+1+1+1,2,none⟩) hXs).trans q2;have r3:=(hbw.cell (p:=⟨s+1+1+1,3,none⟩) hXs).trans q3;have r4:=(hbw.cell (p:=⟨s+1+1+1,4,none⟩) hXs).trans q4;clear q0 q1 q2 q3 q4 hb3;go_wp2_with (fail);(with_reducible refine hC.out.mono ?_);rintro e w4 ⟨rfl,hb4⟩;have hb34:=hb3X.out.trans (hb4.mono hb3X.out.size);have hbZ:=hbX.trans (hb34.mono hbX.size);have hB4:=hB.trans (hbZ.mono hB.size);have fz4:=hfzH.out.keep hbZ hZs;have hs4:s+1+1<w4.heap.size:=Nat.lt_of_lt_of_le hZs hbZ.size;have hBf:=Lib.hid (hB4.trans ((set5 (w3:=w4) (b:=s+1+1) (.int .i64 0) (.int .i64 0) (.slice none 0 0) (.int .i64 0) (.slice none 0 0)).mono (by omega)));clear r0 r1 r2 r3 r4;obtain⟨q0,q1,q2,q3,q4,g0,g1,g2,g3,g4⟩:=fz4;go_wp2_with (fail);refine bodyPost_ret (v:=.tuple #[.agg #[.int .i64 0,.int .i64 0,.slice none 0 0,.int .i64 0,.slice none 0 0],.int .i64 E]) (by simp[results,Tryz.results16,go_sem,q0,q1,q2,q3,q4]) rfl (resErr hBf.out)
set_option maxRecDepth 100000 in
set_option maxHeartbeats 4000000 in
theorem cConc_e1 (Pa Ma Na:Int)(mla:List Int)(na:Nat)(rowsa:Nat→List Int)(Aa Ra:Option Addr)(ca ka:Nat)(Pb Mb Nb:Int)(mlb:List Int)(nb:Nat)(rowsb:Nat→List Int)(Ab Rb:Option Addr)(cb kb:Nat)(l:List Int)(Al:Option Addr)(cl:Nat)(w:World)(hPa:I64 Pa)(hMa:I64 Ma)(hla:mla.length≤maxLen)(hna:na≤64)(hka:∀ i,i<na→(rowsa i).length≤4200)(hra:Rd w w.heap.size Aa mla)(hma:RdM w w.heap.size Ra na rowsa)(hPb:I64 Pb)(hMb:I64 Mb)(hlb:mlb.length≤maxLen)(hnb:nb≤64)(hkb:∀ i,i<nb→(rowsb i).length≤4200)(hrb:Rd w w.heap.size Ab mlb)(hmb:RdM w w.heap.size Rb nb rowsb)(ea:cErr Pa Ma Na mla na rowsa=0){E:Int} (eb:cErr Pb Mb Nb mlb nb rowsb=E)(hE0:E≠0) :
  Calls Tryz.prog 16 #[.agg #[.int .i64 Pa,.int .i64 Ma,.slice Aa mla.length ca,.int .i64 Na,.slice Ra na ka],.agg #[.int .i64 Pb,.int .i64 Mb,.slice Ab mlb.length cb,.int .i64 Nb,.slice Rb nb kb],.slice Al l.length cl] w (ResErr E w):=by
 have hCa:=fun W h1 h2=>cCheck_any Pa Ma Na mla na rowsa Aa Ra ca ka W hPa hMa hla hna hka h1 h2
 rw[ea]at hCa;replace hCa:=fun W h1 h2=>Lib.hid (hCa W h1 h2)
 have hCb:=fun W h1 h2=>cCheck_any Pb Mb Nb mlb nb rowsb Ab Rb cb kb W hPb hMb hlb hnb hkb h1 h2
 rw[eb]at hCb;replace hCb:=fun W h1 h2=>Lib.hid (hCb W h1 h2)
 have hEb:(E !=0)=true:=by rw[bne_iff_ne]; exact hE0
 replace hE0:=Lib.hid hE0;replace ea:=Lib.hid ea;replace eb:=Lib.hid eb;obtain⟨Z,hZ⟩:∃ Z,Z=(((w.alloc (.cells #[.int .i64 Pa,.int .i64 Ma,.slice Aa mla.length ca,.int .i64 Na,.slice Ra na ka] 27)).alloc (.cells #[.int .i64 Pb,.int .i64 Mb,.slice Ab mlb.length cb,.int .i64 Nb,.slice Rb nb kb] 27)).alloc (.cells #[.int .i64 0,.int .i64 0,.slice none 0 0,.int .i64 0,.slice none 0 0] 27)):=⟨_,rfl⟩;have hB:Below w.heap.size w Z:=by rw[hZ]; exact (((Below.refl _ _).alloc (Nat.le_refl _) _).alloc (by simp) _).alloc (by simp; omega) _
 obtain⟨s,hs⟩:∃ s,s=w.heap.size:=⟨_,rfl⟩;obtain⟨hZe,fa,fb,fz⟩:=two_enter Pa Ma Na mla na rowsa Aa Ra ca ka Pb Mb Nb mlb nb rowsb Ab Rb cb kb w hZ hs;have hZs:s+1+1<Z.heap.size:=by omega
 obtain⟨X,hX⟩:∃ X,X=Z.alloc (.cells #[.int .i64 Pa,.int .i64 Ma,.slice Aa mla.length ca,.int .i64 Na,.slice Ra na ka,.int .i64 Pb,.int .i64 Mb,.slice Ab mlb.length cb,.int .i64 Nb,.slice Rb nb kb] 27):=⟨_,rfl⟩;have hbX:Below Z.heap.size Z X:=by rw[hX]; exact (Below.refl _ _).alloc (Nat.le_refl _) _
 have hBX:=hB.trans (hbX.mono hB.size);have hXc:=Lib.hid (show (X.cell? ⟨s+1+1+1,0,none⟩=some (.int .i64 Pa)∧X.cell? ⟨s+1+1+1,1,none⟩=some (.int .i64 Ma)∧X.cell? ⟨s+1+1+1,2,none⟩=some (.slice Aa mla.length ca)∧X.cell? ⟨s+1+1+1,3,none⟩=some (.int .i64 Na)∧X.cell? ⟨s+1+1+1,4,none⟩=some (.slice Ra na ka))∧X.cell? ⟨s+1+1+1,5,none⟩=some (.int .i64 Pb)∧X.cell? ⟨s+1+1+1,6,none⟩=some (.int .i64 Mb)∧X.cell? ⟨s+1+1+1,7,none⟩=some (.slice Ab mlb.length cb)∧X.cell? ⟨s+1+1+1,8,none⟩=some (.int .i64 Nb)∧X.cell? ⟨s+1+1+1,9,none⟩=some (.slice Rb nb kb) from by rw[hX,←hZe]; simp[go_sem]);have hXs:s+1+1+1<X.heap.size:=by rw[hX,World.size_alloc]; omega
 replace hZe:=Lib.hid hZe;replace hZ:=Lib.hid hZ;replace hX:=Lib.hid hX;replace fa:=Lib.hid fa;replace fb:=Lib.hid fb;have hfzH:=Lib.hid fz;clear fz;go_enter Tryz.func16,Tryz.ntmps16;obtain⟨a0,a1,a2,a3,a4,-⟩:=fa.out;obtain⟨c0,c1,c2,c3,c4,-⟩:=fb.out;go_wp2_with (fail);rw[←hZ.out];simp only[←hs];have hsw:w.heap.size≤s:=Nat.le_of_eq hs.symm;replace hs:=Lib.hid hs;go_wp2_with (fail);rw[←hX.out];clear a0 a1 a2 a3 a4 c0 c1 c2 c3 c4;go_loopw [29,9,10] (fun i _ _ wr=>∃ k:Nat,k≤1∧i=.int .i64 k∧Below X.heap.size X wr) (fun i _ _ _=>2 - (intOf i).toNat)
 case atStart=>exact⟨0,by omega,rfl,Below.refl _ _⟩
 case round =>
  obtain⟨k,hk,rfl,hbw⟩:=hrel;obtain⟨w3,rfl⟩:∃ w3:World,w3=wr:=⟨_,rfl⟩;rcases (by omega:k=0∨k=1) with rfl | rfl
  ·have hb3:Below w3.heap.size w3 (w3.alloc (.cells #[.int .i64 Pa,.int .i64 Ma,.slice Aa mla.length ca,.int .i64 Na,.slice Ra na ka] 27)):=(Below.refl _ _).alloc (Nat.le_refl _) _;have hb3X:=Lib.hid (hbw.trans (hb3.mono hbw.size));have hB3:=Lib.hid (hBX.trans (hb3X.out.mono hBX.size));have hC:=hCa _ ((hra.below hB3.out).more hB3.out.size) ((hma.below hB3.out).more hB3.out.size);obtain⟨⟨q0,q1,q2,q3,q4⟩,-⟩:=hXc.out;have r0:=(hbw.cell (p:=⟨s+1+1+1,0,none⟩) hXs).trans q0;have r1:=(hbw.cell (p:=⟨s+1+1+1,1,none⟩) hXs).trans q1;have r2:=(hbw.cell (p:=⟨s+1+1+1,2,none⟩) hXs).trans q2;have r3:=(hbw.cell (p:=⟨s+1+1+1,3,none⟩) hXs).trans q3;have r4:=(hbw.cell (p:=⟨s+1+1+1,4,none⟩) hXs).trans q4;clear q0 q1 q2 q3 q4 hb3;go_wp2_with (fail);(with_reducible refine hC.out.mono ?_);rintro e w4 ⟨rfl,hb4⟩;clear r0 r1 r2 r3 r4;go_wp2_with (fail);go_roundw
   case rel=>exact⟨1,by omega,by go_num,hb3X.out.trans (hb4.mono hb3X.out.size)⟩
   case measure=>simp[intOf]
  ·have hb3:Below w3.heap.size w3 (w3.alloc (.cells #[.int .i64 Pb,.int .i64 Mb,.slice Ab mlb.length cb,.int .i64 Nb,.slice Rb nb kb] 27)):=(Below.refl _ _).alloc (Nat.le_refl _) _;have hb3X:=Lib.hid (hbw.trans (hb3.mono hbw.size));have hB3:=Lib.hid (hBX.trans (hb3X.out.mono hBX.size));have hC:=hCb _ ((hrb.below hB3.out).more hB3.out.size) ((hmb.below hB3.out).more hB3.out.size);obtain⟨-,q0,q1,q2,q3,q4⟩:=hXc.out;have r0:=(hbw.cell (p:=⟨s+1+1+1,5,none⟩) hXs).trans q0;have r1:=(hbw.cell (p:=⟨s+1+1+1,6,none⟩) hXs).trans q1;have r2:=(hbw.cell (p:=⟨s+1+1+1,7,none⟩) hXs).trans q2;have r3:=(hbw.cell (p:=⟨s+1+1+1,8,none⟩) hXs).trans q3;have r4:=(hbw.cell (p:=⟨s+1+1+1,9,none⟩) hXs).trans q4;clear q0 q1 q2 q3 q4 hb3;go_wp2_with (fail);(with_reducible refine hC.out.mono ?_);rintro e w4 ⟨rfl,hb4⟩;have hb34:=hb3X.out.trans (hb4.mono hb3X.out.size);have hbZ:=hbX.trans (hb34.mono hbX.size);have hB4:=hB.trans (hbZ.mono hB.size);have fz4:=hfzH.out.keep hbZ hZs;have hs4:s+1+1<w4.heap.size:=Nat.lt_of_lt_of_le hZs hbZ.size;have hBf:=Lib.hid (hB4.trans ((set5 (w3:=w4) (b:=s+1+1) (.int .i64 0) (.int .i64 0) (.slice none 0 0) (.int .i64 0) (.slice none 0 0)).mono (by omega)));clear r0 r1 r2 r3 r4;obtain⟨q0,q1,q2,q3,q4,g0,g1,g2,g3,g4⟩:=fz4;go_wp2_with (fail);refine bodyPost_ret (v:=.tuple #[.agg #[.int .i64 0,.int .i64 0,.slice none 0 0,.int .i64 0,.slice none 0 0],.int .i64 E]) (by simp[results,Tryz.results16,go_sem,q0,q1,q2,q3,q4]) rfl (resErr hBf.out)
end
section
open Go.RowKit Cw
attribute [local go_sem] Oper.semAt_some

theorem rowL_app (D:Desc)(a b:Nat)(f:Nat→R D):rowL D a f ++ rowL D b (fun c=>f (a+c))=rowL D (a+b) f:=by
 rw[rowL_join];unfold rowL;refine lst_congr fun j _=>congrArg ci ?_
 unfold joinF;by_cases h:j<a
 ·rw[if_pos h]
 ·rw[if_neg h]
  show f (a+(j - a))=f j
  rw[Nat.add_sub_cancel' (by omega)]
theorem scale_two (F F1:FD)(h:F1.toDesc=F.toDesc)(m:Nat)(f:Nat→R F.toDesc)(a:Int):∃ f1:Nat→R F1.toDesc,rowL F1.toDesc m f1=rowL F.toDesc m f∧rowL F1.toDesc m (fun j=>eli F1.toDesc a*f1 j)=rowL F.toDesc m (fun j=>eli F.toDesc a*f j):=by
 obtain⟨D0,g0,a0,b0,c0⟩:=F;obtain⟨D1,g1,a1,b1,c1⟩:=F1;dsimp only at h;subst h;exact⟨f,rfl,rfl⟩
theorem gScale_two (F F1:FD)(h:F1.toDesc=F.toDesc)(m:Nat)(f:Nat→R F.toDesc)(a:Int)(A1:Option Addr)(c1 gf:Nat)(w:World)(hg:GF w w.heap.size gf F1)(hr1:Rd w w.heap.size A1 (rowL F.toDesc m f))(hm:m≤70000) :
  Calls Tryz.prog 33 #[.pointer (some ⟨gf,0,none⟩),.int .i64 a,.slice A1 m c1] w (Gives w.heap.size (rowL F.toDesc m fun j=>eli F.toDesc a*f j) w):=by
 obtain⟨f1,e1,e2⟩:=scale_two F F1 h m f a;rw[←e2];rw[←e1]at hr1;exact gScale_any F1 m f1 a A1 c1 gf w hg hr1 hm
end
section
open Go.RowKit Cw
attribute [local go_sem] Oper.semAt_some

def ResM (P M N:Int)(ml:List Int)(n:Nat)(rows:Nat→List Int)(w:World)(e:Ending)(w':World):Prop :=
 ∃ A c Al cl,e=.returned (.agg #[.int .i64 P,.int .i64 M,.slice A ml.length c,.int .i64 N,.slice Al n cl])∧Rd w' w'.heap.size A ml∧(∀ b,A=some b→w.heap.size≤b.block)∧RdMU w' w.heap.size w'.heap.size Al n rows∧Below w.heap.size w w'

end
section
open Go.RowKit Cw

def BothC (fp fr:Nat)(args:Array Value)(Pre:World→Prop):Prop :=
 ∃ (P M N:Int) (ml:List Int) (n:Nat) (rows:Nat→List Int) (E:Int),ml.length≤maxLen∧n≤1000000∧(∀ i,i<n→(rows i).length≤1000000) ∧
  ∀ W,Pre W→Calls Tryz.prog fp args W (ResC P M N ml n rows E W)∧Calls Tryz.prog fr args W (ResC P M N ml n rows E W)
theorem both_err {fp fr:Nat} {args:Array Value} {Pre:World→Prop} (E:Int)(h1:∀ W,Pre W→Calls Tryz.prog fp args W (ResErr E W))(h2:∀ W,Pre W→Calls Tryz.prog fr args W (ResErr E W)):BothC fp fr args Pre :=
 ⟨0,0,0,[],0,fun _=>[],E,Nat.zero_le _,Nat.zero_le _,fun _ hi=>absurd hi (Nat.not_lt_zero _),fun W h=>⟨h1 W h,h2 W h⟩⟩
theorem both_code {fp fr:Nat} {args:Array Value} {Pre:World→Prop} (F:FD)(n m:Nat)(M:Nat→Nat→R F.toDesc)(hn:n≤1000)(hm:m≤1000)(h1:∀ W,Pre W→Calls Tryz.prog fp args W (ResCode F n m M W))(h2:∀ W,Pre W→Calls Tryz.prog fr args W (ResCode F n m M W)):BothC fp fr args Pre :=
 ⟨F.p,F.m,m,modL F.toDesc,rkS F n m M,rowsL F.toDesc m (elS n M m).1,0,by have:=F.hlen; have:=F.m8; rw[modL_length,F.hlen]; unfold maxLen; split <;> omega,Nat.le_trans (elS_le n M m).1 (by omega),fun i _=>by rw[rowsL_length]; omega,fun W h=>⟨h1 W h,h2 W h⟩⟩
theorem make_code (F:FD)(n m:Nat)(N:Int)(hN:N=m)(M:Nat→Nat→R F.toDesc)(A Ar:Option Addr)(c cr:Nat)(w:World)(hr:Rd w w.heap.size A (modL F.toDesc))(hrm:RdM w w.heap.size Ar n (rowsL F.toDesc m M))(hn:n≤1000)(hm:m≤1000) :
  Calls Tryz.prog 45 #[.agg #[.int .i64 F.p,.int .i64 F.m,.slice A (modL F.toDesc).length c],.slice Ar n cr,.int .i64 N] w (ResM F.p F.m m (modL F.toDesc) (rkS F n m M) (rowsL F.toDesc m (elS n M m).1) w):=by
 subst hN;rw[modL_length];refine (Make12_any F n m M A Ar c cr w hr hrm (by omega) (by omega)).mono ?_;rintro e w' ⟨A3,c3,Al,cl,rfl,h1,h2,h3,h4⟩;exact⟨A3,c3,Al,cl,by rw[modL_length],h1,h2,h3,h4⟩
end
end Go.Proofs.YtogfekjbpcfgmaaGreat

/- Equal fields, of the program and of the reference; small enough codes: few. -/
import Derived.Test.YtogfekjbpcfgmaaGreatZtXCodB
import Derived.Test.YtogfekjbpcfgmaaGreatZtXCodF
namespace Go.Proofs.YtogfekjbpcfgmaaGreat
open Go.RowKit Cw
attribute [local go_sem] Oper.semAt_some
def eqF (P M:Int)(ml:List Int)(P' M':Int)(ml':List Int):Bool:=decide (P=P'∧M=M'∧ml=ml')
theorem eqF_iff {P M P' M':Int} {ml ml':List Int}:eqF P M ml P' M' ml'=true↔P=P'∧M=M'∧ml=ml':=decide_eq_true_iff

set_option maxHeartbeats 1000000 in
theorem fSame_no (Pa Ma Pb Mb:Int)(mla mlb:List Int)(Aa Ab:Option Addr)(ca cb:Nat)(w:World)(h:¬ (Pa=Pb∧Ma=Mb∧mla.length=mlb.length)) :
  Calls Tryz.prog 82 #[.agg #[.int .i64 Pa,.int .i64 Ma,.slice Aa mla.length ca],.agg #[.int .i64 Pb,.int .i64 Mb,.slice Ab mlb.length cb]] w fun e w'=>e=.returned (.bool false)∧Below w.heap.size w w':=by
 obtain⟨Z,hZ⟩:∃ Z,Z=(w.alloc (.cells #[.int .i64 Pa,.int .i64 Ma,.slice Aa mla.length ca] 24)).alloc (.cells #[.int .i64 Pb,.int .i64 Mb,.slice Ab mlb.length cb] 24):=⟨_,rfl⟩;have hB:Below w.heap.size w Z:=by rw[hZ]; exact ((Below.refl _ _).alloc (Nat.le_refl _) _).alloc (by simp) _
 replace hZ:=Lib.hid hZ;by_cases h1:Pa=Pb
 ·have b1:(Pa !=Pb)=false:=by rw[bne_eq_false_iff_eq]; exact h1
  by_cases h2:Ma=Mb
  ·have b2:(Ma !=Mb)=false:=by rw[bne_eq_false_iff_eq]; exact h2
   have h3:¬ mla.length=mlb.length:=fun h3=>h ⟨h1,h2,h3⟩
   have b3:((mla.length:Int) !=(mlb.length:Int))=true:=by rw[bne_iff_ne]; omega
   have b3':(mla.length !=mlb.length)=true:=by rw[bne_iff_ne]; exact h3
   clear h h1 h2 h3;go_enter Tryz.func82,Tryz.ntmps82;go_wp2_with (fail);go_ret;rw[←hZ.out];exact⟨rfl,hB⟩
  ·have b2:(Ma !=Mb)=true:=by rw[bne_iff_ne]; exact h2
   clear h h1 h2;go_enter Tryz.func82,Tryz.ntmps82;go_wp2_with (fail);go_ret;rw[←hZ.out];exact⟨rfl,hB⟩
 ·have b1:(Pa !=Pb)=true:=by rw[bne_iff_ne]; exact h1
  clear h h1;go_enter Tryz.func82,Tryz.ntmps82;go_wp2_with (fail);go_ret;rw[←hZ.out];exact⟨rfl,hB⟩
set_option maxHeartbeats 1000000 in
theorem fSame_n (P M:Int)(n:Nat)(mla mlb:List Int)(Aa Ab:Option Addr)(ca cb:Nat)(w:World)(h1:Rd w w.heap.size Aa mla)(h2:Rd w w.heap.size Ab mlb)(hn1:mla.length=n)(hn2:mlb.length=n)(hl:n≤maxLen) :
  Calls Tryz.prog 82 #[.agg #[.int .i64 P,.int .i64 M,.slice Aa n ca],.agg #[.int .i64 P,.int .i64 M,.slice Ab n cb]] w fun e w'=>e=.returned (.bool (eqL mla mlb))∧Below w.heap.size w w':=by
 unfold maxLen at hl;obtain⟨Z,hZ⟩:∃ Z,Z=(w.alloc (.cells #[.int .i64 P,.int .i64 M,.slice Aa n ca] 24)).alloc (.cells #[.int .i64 P,.int .i64 M,.slice Ab n cb] 24):=⟨_,rfl⟩;have hB:Below w.heap.size w Z:=by rw[hZ]; exact ((Below.refl _ _).alloc (Nat.le_refl _) _).alloc (by simp) _
 have hn:w.heap.size+1<Z.heap.size:=by rw[hZ]; simp
 have kz:Z.cell? ⟨w.heap.size,0,none⟩=some (.int .i64 P)∧Z.cell? ⟨w.heap.size,1,none⟩=some (.int .i64 M)∧Z.cell? ⟨w.heap.size,2,none⟩=some (.slice Aa n ca) ∧
   Z.cell? ⟨w.heap.size+1,0,none⟩=some (.int .i64 P)∧Z.cell? ⟨w.heap.size+1,1,none⟩=some (.int .i64 M)∧Z.cell? ⟨w.heap.size+1,2,none⟩=some (.slice Ab n cb):=by rw[hZ]; simp[go_sem]
 have b1:(P !=P)=false:=by simp
 have b2:(M !=M)=false:=by simp
 have b3:((n:Int) !=(n:Int))=false:=by simp
 have b3':(n !=n)=false:=by simp
 replace hZ:=Lib.hid hZ;replace kz:=Lib.hid kz;replace hn1:=Lib.hid hn1;replace hn2:=Lib.hid hn2;go_enter Tryz.func82,Tryz.ntmps82;go_wp2_with (fail);rw[←hZ.out];clear b1 b2 b3 b3';go_loopw [31,5,6] (fun i _ _ wr=>∃ k:Nat,k≤n∧i=.int .i64 k∧(∀ j,j<k→mla[j]?.getD 0=mlb[j]?.getD 0)∧Below Z.heap.size Z wr) (fun i _ _ _=>n - (intOf i).toNat)
 case atStart=>exact⟨0,by omega,rfl,fun j hj=>absurd hj (Nat.not_lt_zero _),Below.refl _ _⟩
 case round =>
  obtain⟨k,hk,rfl,hin,hbw⟩:=hrel;obtain⟨w2,rfl⟩:∃ w2:World,w2=wr:=⟨_,rfl⟩;obtain⟨q0,q1,q2,q3,q4,q5⟩:=keep3x2 hbw (by omega) hn kz.out;have hbb:=hB.trans (hbw.mono hB.size);by_cases hlt:k<n
  ·obtain⟨b1,o1,rfl,hb1,hc1⟩:=h1.at_ (by rw[hn1.out]; exact hlt);obtain⟨b2,o2,rfl,hb2,hc2⟩:=h2.at_ (by rw[hn2.out]; exact hlt);have hd1:=(hbb.cell (p:=⟨b1,o1+k,none⟩) hb1).trans hc1;have hd2:=(hbb.cell (p:=⟨b2,o2+k,none⟩) hb2).trans hc2;obtain⟨y1,hy1⟩:∃ y,y=mla[k]?.getD 0:=⟨_,rfl⟩;obtain⟨y2,hy2⟩:∃ y,y=mlb[k]?.getD 0:=⟨_,rfl⟩;rw[←hy1]at hd1;rw[←hy2]at hd2;by_cases hq:y1=y2
   ·have hz:(y1 !=y2)=false:=by rw[bne_eq_false_iff_eq]; exact hq
    have hz2:(y2 !=y1)=false:=by rw[bne_eq_false_iff_eq]; exact hq.symm
    have hin2:Hid (∀ j,j<k+1→mla[j]?.getD 0=mlb[j]?.getD 0):=fun j hj=>by
     by_cases e:j=k
     ·rw[e,←hy1,←hy2]; exact hq
     ·exact hin j (by omega)
    clear hc1 hc2 hy1 hy2 hin hq;go_wp2_with (fail);go_roundw
    case rel=>exact⟨k+1,by omega,by go_num,hin2.out,hbw⟩
    case measure=>simp[intOf]; omega
   ·have hz:(y1 !=y2)=true:=by rw[bne_iff_ne]; exact hq
    have hz2:(y2 !=y1)=true:=by rw[bne_iff_ne]; exact fun h=>hq h.symm
    have he:Hid (eqL mla mlb=false):=eqL_no (j:=k) (by rw[←hy1,←hy2]; exact hq);clear hc1 hc2 hy1 hy2 hin hq;go_wp2_with (fail);go_ret;exact⟨by rw[he.out]; rfl,hbb⟩
  ·obtain rfl:k=n:=by omega
   have he:Hid (eqL mla mlb=true):=eqL_of hn1.out hn2.out hin;clear hin;go_wp2_with (fail);go_ret;exact⟨by rw[he.out]; rfl,hbb⟩
theorem fSame_any (Pa Ma Pb Mb:Int)(mla mlb:List Int)(Aa Ab:Option Addr)(ca cb:Nat)(w:World)(h1:Rd w w.heap.size Aa mla)(h2:Rd w w.heap.size Ab mlb)(hl:mla.length≤maxLen) :
  Calls Tryz.prog 82 #[.agg #[.int .i64 Pa,.int .i64 Ma,.slice Aa mla.length ca],.agg #[.int .i64 Pb,.int .i64 Mb,.slice Ab mlb.length cb]] w fun e w'=>e=.returned (.bool (eqF Pa Ma mla Pb Mb mlb))∧Below w.heap.size w w':=by
 by_cases h:Pa=Pb∧Ma=Mb∧mla.length=mlb.length
 ·obtain⟨rfl,rfl,h3⟩:=h;have h4:=fSame_n Pa Ma mla.length mla mlb Aa Ab ca cb w h1 h2 rfl h3.symm hl;rw[←h3];rw[show eqF Pa Ma mla Pa Ma mlb=eqL mla mlb from by unfold eqF eqL; simp];exact h4
 ·rw[show eqF Pa Ma mla Pb Mb mlb=false from decide_eq_false fun h2=>h ⟨h2.1,h2.2.1,by rw[h2.2.2]⟩];exact fSame_no Pa Ma Pb Mb mla mlb Aa Ab ca cb w h

set_option maxHeartbeats 1000000 in
theorem Same4_no (Pa Ma Pb Mb:Int)(mla mlb:List Int)(Aa Ab:Option Addr)(ca cb:Nat)(w:World)(h:¬ (Pa=Pb∧Ma=Mb∧mla.length=mlb.length)) :
  Calls Tryz.prog 40 #[.agg #[.int .i64 Pa,.int .i64 Ma,.slice Aa mla.length ca],.agg #[.int .i64 Pb,.int .i64 Mb,.slice Ab mlb.length cb]] w fun e w'=>e=.returned (.bool false)∧Below w.heap.size w w':=by
 obtain⟨Z,hZ⟩:∃ Z,Z=(w.alloc (.cells #[.int .i64 Pa,.int .i64 Ma,.slice Aa mla.length ca] 24)).alloc (.cells #[.int .i64 Pb,.int .i64 Mb,.slice Ab mlb.length cb] 24):=⟨_,rfl⟩;have hB:Below w.heap.size w Z:=by rw[hZ]; exact ((Below.refl _ _).alloc (Nat.le_refl _) _).alloc (by simp) _
 replace hZ:=Lib.hid hZ;by_cases h1:Pa=Pb
 ·have b1:(Pa !=Pb)=false:=by rw[bne_eq_false_iff_eq]; exact h1
  by_cases h2:Ma=Mb
  ·have b2:(Ma !=Mb)=false:=by rw[bne_eq_false_iff_eq]; exact h2
   have h3:¬ mla.length=mlb.length:=fun h3=>h ⟨h1,h2,h3⟩
   have b3:((mla.length:Int) !=(mlb.length:Int))=true:=by rw[bne_iff_ne]; omega
   have b3':(mla.length !=mlb.length)=true:=by rw[bne_iff_ne]; exact h3
   clear h h1 h2 h3;go_enter Tryz.func40,Tryz.ntmps40;go_wp2_with (fail);go_ret;rw[←hZ.out];exact⟨rfl,hB⟩
  ·have b2:(Ma !=Mb)=true:=by rw[bne_iff_ne]; exact h2
   clear h h1 h2;go_enter Tryz.func40,Tryz.ntmps40;go_wp2_with (fail);go_ret;rw[←hZ.out];exact⟨rfl,hB⟩
 ·have b1:(Pa !=Pb)=true:=by rw[bne_iff_ne]; exact h1
  clear h h1;go_enter Tryz.func40,Tryz.ntmps40;go_wp2_with (fail);go_ret;rw[←hZ.out];exact⟨rfl,hB⟩
set_option maxHeartbeats 1000000 in
theorem Same4_n (P M:Int)(n:Nat)(mla mlb:List Int)(Aa Ab:Option Addr)(ca cb:Nat)(w:World)(h1:Rd w w.heap.size Aa mla)(h2:Rd w w.heap.size Ab mlb)(hn1:mla.length=n)(hn2:mlb.length=n)(hl:n≤maxLen) :
  Calls Tryz.prog 40 #[.agg #[.int .i64 P,.int .i64 M,.slice Aa n ca],.agg #[.int .i64 P,.int .i64 M,.slice Ab n cb]] w fun e w'=>e=.returned (.bool (eqL mla mlb))∧Below w.heap.size w w':=by
 unfold maxLen at hl;obtain⟨Z,hZ⟩:∃ Z,Z=(w.alloc (.cells #[.int .i64 P,.int .i64 M,.slice Aa n ca] 24)).alloc (.cells #[.int .i64 P,.int .i64 M,.slice Ab n cb] 24):=⟨_,rfl⟩;have hB:Below w.heap.size w Z:=by rw[hZ]; exact ((Below.refl _ _).alloc (Nat.le_refl _) _).alloc (by simp) _
 have hn:w.heap.size+1<Z.heap.size:=by rw[hZ]; simp
 have kz:Z.cell? ⟨w.heap.size,0,none⟩=some (.int .i64 P)∧Z.cell? ⟨w.heap.size,1,none⟩=some (.int .i64 M)∧Z.cell? ⟨w.heap.size,2,none⟩=some (.slice Aa n ca) ∧
   Z.cell? ⟨w.heap.size+1,0,none⟩=some (.int .i64 P)∧Z.cell? ⟨w.heap.size+1,1,none⟩=some (.int .i64 M)∧Z.cell? ⟨w.heap.size+1,2,none⟩=some (.slice Ab n cb):=by rw[hZ]; simp[go_sem]
 have b1:(P !=P)=false:=by simp
 have b2:(M !=M)=false:=by simp
 have b3:((n:Int) !=(n:Int))=false:=by simp
 have b3':(n !=n)=false:=by simp
 replace hZ:=Lib.hid hZ;replace kz:=Lib.hid kz;replace hn1:=Lib.hid hn1;replace hn2:=Lib.hid hn2;go_enter Tryz.func40,Tryz.ntmps40;go_wp2_with (fail);rw[←hZ.out];clear b1 b2 b3 b3';go_loopw [5] (fun i  wr=>∃ k:Nat,k≤n∧i=.int .i64 k∧(∀ j,j<k→mla[j]?.getD 0=mlb[j]?.getD 0)∧Below Z.heap.size Z wr) (fun i  _=>n - (intOf i).toNat)
 case atStart=>exact⟨0,by omega,rfl,fun j hj=>absurd hj (Nat.not_lt_zero _),Below.refl _ _⟩
 case round =>
  obtain⟨k,hk,rfl,hin,hbw⟩:=hrel;obtain⟨w2,rfl⟩:∃ w2:World,w2=wr:=⟨_,rfl⟩;obtain⟨q0,q1,q2,q3,q4,q5⟩:=keep3x2 hbw (by omega) hn kz.out;have hbb:=hB.trans (hbw.mono hB.size);by_cases hlt:k<n
  ·obtain⟨b1,o1,rfl,hb1,hc1⟩:=h1.at_ (by rw[hn1.out]; exact hlt);obtain⟨b2,o2,rfl,hb2,hc2⟩:=h2.at_ (by rw[hn2.out]; exact hlt);have hd1:=(hbb.cell (p:=⟨b1,o1+k,none⟩) hb1).trans hc1;have hd2:=(hbb.cell (p:=⟨b2,o2+k,none⟩) hb2).trans hc2;obtain⟨y1,hy1⟩:∃ y,y=mla[k]?.getD 0:=⟨_,rfl⟩;obtain⟨y2,hy2⟩:∃ y,y=mlb[k]?.getD 0:=⟨_,rfl⟩;rw[←hy1]at hd1;rw[←hy2]at hd2;by_cases hq:y1=y2
   ·have hz:(y1 !=y2)=false:=by rw[bne_eq_false_iff_eq]; exact hq
    have hz2:(y2 !=y1)=false:=by rw[bne_eq_false_iff_eq]; exact hq.symm
    have hin2:Hid (∀ j,j<k+1→mla[j]?.getD 0=mlb[j]?.getD 0):=fun j hj=>by
     by_cases e:j=k
     ·rw[e,←hy1,←hy2]; exact hq
     ·exact hin j (by omega)
    clear hc1 hc2 hy1 hy2 hin hq;go_wp2_with (fail);go_quiet (fail);go_wp2_with (fail);go_roundw
    case rel=>exact⟨k+1,by omega,by go_num,hin2.out,⟨hbw.os,hbw.tape,hbw.output,hbw.size,hbw.block⟩⟩
    case measure=>simp[intOf]; omega
   ·have hz:(y1 !=y2)=true:=by rw[bne_iff_ne]; exact hq
    have hz2:(y2 !=y1)=true:=by rw[bne_iff_ne]; exact fun h=>hq h.symm
    have he:Hid (eqL mla mlb=false):=eqL_no (j:=k) (by rw[←hy1,←hy2]; exact hq);clear hc1 hc2 hy1 hy2 hin hq;go_wp2_with (fail);go_quiet (fail);go_wp2_with (fail);go_ret;exact⟨by rw[he.out]; rfl,⟨hbb.os,hbb.tape,hbb.output,hbb.size,hbb.block⟩⟩
  ·obtain rfl:k=n:=by omega
   have he:Hid (eqL mla mlb=true):=eqL_of hn1.out hn2.out hin;clear hin;go_wp2_with (fail);go_ret;exact⟨by rw[he.out]; rfl,hbb⟩
theorem Same4_any (Pa Ma Pb Mb:Int)(mla mlb:List Int)(Aa Ab:Option Addr)(ca cb:Nat)(w:World)(h1:Rd w w.heap.size Aa mla)(h2:Rd w w.heap.size Ab mlb)(hl:mla.length≤maxLen) :
  Calls Tryz.prog 40 #[.agg #[.int .i64 Pa,.int .i64 Ma,.slice Aa mla.length ca],.agg #[.int .i64 Pb,.int .i64 Mb,.slice Ab mlb.length cb]] w fun e w'=>e=.returned (.bool (eqF Pa Ma mla Pb Mb mlb))∧Below w.heap.size w w':=by
 by_cases h:Pa=Pb∧Ma=Mb∧mla.length=mlb.length
 ·obtain⟨rfl,rfl,h3⟩:=h;have h4:=Same4_n Pa Ma mla.length mla mlb Aa Ab ca cb w h1 h2 rfl h3.symm hl;rw[←h3];rw[show eqF Pa Ma mla Pa Ma mlb=eqL mla mlb from by unfold eqF eqL; simp];exact h4
 ·rw[show eqF Pa Ma mla Pb Mb mlb=false from decide_eq_false fun h2=>h ⟨h2.1,h2.2.1,by rw[h2.2.2]⟩];exact Same4_no Pa Ma Pb Mb mla mlb Aa Ab ca cb w h

def fewC (n:Nat)(rows:Nat→List Int):Bool:=decide (n≤64)&&fewM n rows
theorem fewC_le {n:Nat} {rows:Nat→List Int} (h:fewC n rows=true):n≤64∧∀ i,i<n→(rows i).length≤4200:=by
 unfold fewC fewM at h;rw[Bool.and_eq_true,decide_eq_true_eq,decide_eq_true_eq]at h;exact⟨h.1,fun i hi=>by have:=sumL_one rows hi; omega⟩
theorem fewC_m {n:Nat} {rows:Nat→List Int} (h:fewC n rows=true):fewM n rows=true:=by
 unfold fewC at h;rw[Bool.and_eq_true]at h;exact h.2
theorem fewC_f {n:Nat} {rows:Nat→List Int} (h:n≤64)(h2:¬ fewC n rows=true):fewM n rows=false:=by
 cases e:fewM n rows with
 | false=>rfl
 | true=>exact absurd (by unfold fewC; rw[decide_eq_true h,e]; rfl) h2
set_option maxHeartbeats 1000000 in
theorem few1_yes (Pa Ma Na:Int)(mla:List Int)(na:Nat)(rowsa:Nat→List Int)(Aa Ra:Option Addr)(ca ka:Nat)(X:Nat)(w:World)(hma:RdM w w.heap.size Ra na rowsa)(hfa:fewC na rowsa=true)(hX:X<w.heap.size)(ha0:(w.cell? ⟨X,0,none⟩=some (.int .i64 Pa)∧w.cell? ⟨X,1,none⟩=some (.int .i64 Ma)∧w.cell? ⟨X,2,none⟩=some (.slice Aa mla.length ca)∧w.cell? ⟨X,3,none⟩=some (.int .i64 Na)∧w.cell? ⟨X,4,none⟩=some (.slice Ra na ka))) :
  Calls Tryz.prog 8 #[.slice (some ⟨X,0,none⟩) 1 1] w fun e w'=>e=.returned (.bool true)∧Below w.heap.size w w':=by
 obtain⟨hna,hka⟩:=fewC_le hfa;have hFa:=fun W h=>Few12_any Pa Ma Na mla na rowsa Aa Ra ca ka W h (by unfold maxLen; omega) (fun i hi=>Nat.le_trans (hka i hi) (by unfold maxLen; omega))
 rw[fewC_m hfa]at hFa;replace hFa:=fun W h=>Lib.hid (hFa W h)
 replace hfa:=Lib.hid hfa;clear hka;have haH:=Lib.hid ha0;clear ha0;go_enter Tryz.func8,Tryz.ntmps8;go_wp2_with (fail);go_loopw [3] (fun i wr=>∃ k:Nat,k≤1∧i=.int .i64 k∧Below w.heap.size w wr) (fun i _=>1 - (intOf i).toNat)
 case atStart=>exact⟨0,by omega,rfl,Below.refl _ _⟩
 case round =>
  obtain⟨k,hk,rfl,hbw⟩:=hrel;obtain⟨w3,rfl⟩:∃ w3:World,w3=wr:=⟨_,rfl⟩;rcases (by omega:k=0∨k=1) with rfl | rfl
  ·obtain⟨q0,q1,q2,q3,q4⟩:=haH.out;have r0:=(hbw.cell (p:=⟨X,0,none⟩) hX).trans q0;have r1:=(hbw.cell (p:=⟨X,1,none⟩) hX).trans q1;have r2:=(hbw.cell (p:=⟨X,2,none⟩) hX).trans q2;have r3:=(hbw.cell (p:=⟨X,3,none⟩) hX).trans q3;have r4:=(hbw.cell (p:=⟨X,4,none⟩) hX).trans q4;clear q0 q1 q2 q3 q4;go_wp2_with (fail);(with_reducible refine (hFa w3 ((hma.below hbw).more hbw.size)).out.mono ?_);rintro e w4 ⟨rfl,hb4⟩;go_wp2_with (fail);go_roundw
   case rel=>exact⟨1,by omega,by go_num,hbw.trans (hb4.mono hbw.size)⟩
   case measure=>simp[intOf]
  ·go_wp2_with (fail);go_ret;exact⟨rfl,hbw⟩
set_option maxHeartbeats 1000000 in
theorem few1_big0 (Pa Ma Na:Int)(mla:List Int)(na:Nat)(rowsa:Nat→List Int)(Aa Ra:Option Addr)(ca ka:Nat)(X:Nat)(w:World)(hma:RdM w w.heap.size Ra na rowsa)(hLa:na≤maxLen∧∀ i,i<na→(rowsa i).length≤maxLen)  (hX:X<w.heap.size)(hg:¬ na≤64)(ha0:(w.cell? ⟨X,0,none⟩=some (.int .i64 Pa)∧w.cell? ⟨X,1,none⟩=some (.int .i64 Ma)∧w.cell? ⟨X,2,none⟩=some (.slice Aa mla.length ca)∧w.cell? ⟨X,3,none⟩=some (.int .i64 Na)∧w.cell? ⟨X,4,none⟩=some (.slice Ra na ka))) :
  Calls Tryz.prog 8 #[.slice (some ⟨X,0,none⟩) 1 1] w fun e w'=>e=.returned (.bool false)∧Below w.heap.size w w':=by
 have _u:=hma;clear _u;have _u:=hLa;clear _u;have hg2:(64:Int)<(na:Int):=by omega
 clear hLa;have haH:=Lib.hid ha0;clear ha0;go_enter Tryz.func8,Tryz.ntmps8;go_wp2_with (fail);go_loopw [3] (fun i wr=>∃ k:Nat,k≤0∧i=.int .i64 k∧Below w.heap.size w wr) (fun i _=>1 - (intOf i).toNat)
 case atStart=>exact⟨0,by omega,rfl,Below.refl _ _⟩
 case round =>
  obtain⟨k,hk,rfl,hbw⟩:=hrel;obtain⟨w3,rfl⟩:∃ w3:World,w3=wr:=⟨_,rfl⟩;obtain rfl:k=0:=by omega
  ·obtain⟨q0,q1,q2,q3,q4⟩:=haH.out;have r0:=(hbw.cell (p:=⟨X,0,none⟩) hX).trans q0;have r1:=(hbw.cell (p:=⟨X,1,none⟩) hX).trans q1;have r2:=(hbw.cell (p:=⟨X,2,none⟩) hX).trans q2;have r3:=(hbw.cell (p:=⟨X,3,none⟩) hX).trans q3;have r4:=(hbw.cell (p:=⟨X,4,none⟩) hX).trans q4;clear q0 q1 q2 q3 q4;go_wp2_with (fail);go_ret;exact⟨rfl,hbw⟩
set_option maxHeartbeats 1000000 in
theorem few2_yes (Pa Ma Na:Int)(mla:List Int)(na:Nat)(rowsa:Nat→List Int)(Aa Ra:Option Addr)(ca ka:Nat)(Pb Mb Nb:Int)(mlb:List Int)(nb:Nat)(rowsb:Nat→List Int)(Ab Rb:Option Addr)(cb kb:Nat)(X:Nat)(w:World)(hma:RdM w w.heap.size Ra na rowsa)(hmb:RdM w w.heap.size Rb nb rowsb)(hfa:fewC na rowsa=true)(hfb:fewC nb rowsb=true)(hX:X<w.heap.size)(ha0:(w.cell? ⟨X,0,none⟩=some (.int .i64 Pa)∧w.cell? ⟨X,1,none⟩=some (.int .i64 Ma)∧w.cell? ⟨X,2,none⟩=some (.slice Aa mla.length ca)∧w.cell? ⟨X,3,none⟩=some (.int .i64 Na)∧w.cell? ⟨X,4,none⟩=some (.slice Ra na ka)))(hb0:(w.cell? ⟨X,5,none⟩=some (.int .i64 Pb)∧w.cell? ⟨X,6,none⟩=some (.int .i64 Mb)∧w.cell? ⟨X,7,none⟩=some (.slice Ab mlb.length cb)∧w.cell? ⟨X,8,none⟩=some (.int .i64 Nb)∧w.cell? ⟨X,9,none⟩=some (.slice Rb nb kb))) :
  Calls Tryz.prog 8 #[.slice (some ⟨X,0,none⟩) 2 2] w fun e w'=>e=.returned (.bool true)∧Below w.heap.size w w':=by
 obtain⟨hna,hka⟩:=fewC_le hfa;have hFa:=fun W h=>Few12_any Pa Ma Na mla na rowsa Aa Ra ca ka W h (by unfold maxLen; omega) (fun i hi=>Nat.le_trans (hka i hi) (by unfold maxLen; omega))
 rw[fewC_m hfa]at hFa;replace hFa:=fun W h=>Lib.hid (hFa W h)
 replace hfa:=Lib.hid hfa;clear hka;obtain⟨hnb,hkb⟩:=fewC_le hfb;have hFb:=fun W h=>Few12_any Pb Mb Nb mlb nb rowsb Ab Rb cb kb W h (by unfold maxLen; omega) (fun i hi=>Nat.le_trans (hkb i hi) (by unfold maxLen; omega))
 rw[fewC_m hfb]at hFb;replace hFb:=fun W h=>Lib.hid (hFb W h)
 replace hfb:=Lib.hid hfb;clear hkb;have haH:=Lib.hid ha0;have hbH:=Lib.hid hb0;clear ha0 hb0;go_enter Tryz.func8,Tryz.ntmps8;go_wp2_with (fail);go_loopw [3] (fun i wr=>∃ k:Nat,k≤2∧i=.int .i64 k∧Below w.heap.size w wr) (fun i _=>2 - (intOf i).toNat)
 case atStart=>exact⟨0,by omega,rfl,Below.refl _ _⟩
 case round =>
  obtain⟨k,hk,rfl,hbw⟩:=hrel;obtain⟨w3,rfl⟩:∃ w3:World,w3=wr:=⟨_,rfl⟩;rcases (by omega:k=0∨k=1∨k=2) with rfl | rfl | rfl
  ·obtain⟨q0,q1,q2,q3,q4⟩:=haH.out;have r0:=(hbw.cell (p:=⟨X,0,none⟩) hX).trans q0;have r1:=(hbw.cell (p:=⟨X,1,none⟩) hX).trans q1;have r2:=(hbw.cell (p:=⟨X,2,none⟩) hX).trans q2;have r3:=(hbw.cell (p:=⟨X,3,none⟩) hX).trans q3;have r4:=(hbw.cell (p:=⟨X,4,none⟩) hX).trans q4;clear q0 q1 q2 q3 q4;go_wp2_with (fail);(with_reducible refine (hFa w3 ((hma.below hbw).more hbw.size)).out.mono ?_);rintro e w4 ⟨rfl,hb4⟩;go_wp2_with (fail);go_roundw
   case rel=>exact⟨1,by omega,by go_num,hbw.trans (hb4.mono hbw.size)⟩
   case measure=>simp[intOf]
  ·obtain⟨q0,q1,q2,q3,q4⟩:=hbH.out;have r0:=(hbw.cell (p:=⟨X,5,none⟩) hX).trans q0;have r1:=(hbw.cell (p:=⟨X,6,none⟩) hX).trans q1;have r2:=(hbw.cell (p:=⟨X,7,none⟩) hX).trans q2;have r3:=(hbw.cell (p:=⟨X,8,none⟩) hX).trans q3;have r4:=(hbw.cell (p:=⟨X,9,none⟩) hX).trans q4;clear q0 q1 q2 q3 q4;go_wp2_with (fail);(with_reducible refine (hFb w3 ((hmb.below hbw).more hbw.size)).out.mono ?_);rintro e w4 ⟨rfl,hb4⟩;go_wp2_with (fail);go_roundw
   case rel=>exact⟨2,by omega,by go_num,hbw.trans (hb4.mono hbw.size)⟩
   case measure=>simp[intOf]
  ·go_wp2_with (fail);go_ret;exact⟨rfl,hbw⟩
set_option maxHeartbeats 1000000 in
theorem few2_big1 (Pa Ma Na:Int)(mla:List Int)(na:Nat)(rowsa:Nat→List Int)(Aa Ra:Option Addr)(ca ka:Nat)(Pb Mb Nb:Int)(mlb:List Int)(nb:Nat)(rowsb:Nat→List Int)(Ab Rb:Option Addr)(cb kb:Nat)(X:Nat)(w:World)(hma:RdM w w.heap.size Ra na rowsa)(hmb:RdM w w.heap.size Rb nb rowsb)(hLa:na≤maxLen∧∀ i,i<na→(rowsa i).length≤maxLen)(hLb:nb≤maxLen∧∀ i,i<nb→(rowsb i).length≤maxLen)(hfa:fewC na rowsa=true)(hX:X<w.heap.size)(hg:¬ nb≤64)(ha0:(w.cell? ⟨X,0,none⟩=some (.int .i64 Pa)∧w.cell? ⟨X,1,none⟩=some (.int .i64 Ma)∧w.cell? ⟨X,2,none⟩=some (.slice Aa mla.length ca)∧w.cell? ⟨X,3,none⟩=some (.int .i64 Na)∧w.cell? ⟨X,4,none⟩=some (.slice Ra na ka)))(hb0:(w.cell? ⟨X,5,none⟩=some (.int .i64 Pb)∧w.cell? ⟨X,6,none⟩=some (.int .i64 Mb)∧w.cell? ⟨X,7,none⟩=some (.slice Ab mlb.length cb)∧w.cell? ⟨X,8,none⟩=some (.int .i64 Nb)∧w.cell? ⟨X,9,none⟩=some (.slice Rb nb kb))) :
  Calls Tryz.prog 8 #[.slice (some ⟨X,0,none⟩) 2 2] w fun e w'=>e=.returned (.bool false)∧Below w.heap.size w w':=by
 have _u:=hma;clear _u;have _u:=hLa;clear _u;have _u:=hmb;clear _u;have _u:=hLb;clear _u;obtain⟨hna,hka⟩:=fewC_le hfa;have hFa:=fun W h=>Few12_any Pa Ma Na mla na rowsa Aa Ra ca ka W h (by unfold maxLen; omega) (fun i hi=>Nat.le_trans (hka i hi) (by unfold maxLen; omega))
 rw[fewC_m hfa]at hFa;replace hFa:=fun W h=>Lib.hid (hFa W h)
 replace hfa:=Lib.hid hfa;clear hka;have hg2:(64:Int)<(nb:Int):=by omega
 clear hLa hLb;have haH:=Lib.hid ha0;have hbH:=Lib.hid hb0;clear ha0 hb0;go_enter Tryz.func8,Tryz.ntmps8;go_wp2_with (fail);go_loopw [3] (fun i wr=>∃ k:Nat,k≤1∧i=.int .i64 k∧Below w.heap.size w wr) (fun i _=>2 - (intOf i).toNat)
 case atStart=>exact⟨0,by omega,rfl,Below.refl _ _⟩
 case round =>
  obtain⟨k,hk,rfl,hbw⟩:=hrel;obtain⟨w3,rfl⟩:∃ w3:World,w3=wr:=⟨_,rfl⟩;rcases (by omega:k=0∨k=1) with rfl | rfl
  ·obtain⟨q0,q1,q2,q3,q4⟩:=haH.out;have r0:=(hbw.cell (p:=⟨X,0,none⟩) hX).trans q0;have r1:=(hbw.cell (p:=⟨X,1,none⟩) hX).trans q1;have r2:=(hbw.cell (p:=⟨X,2,none⟩) hX).trans q2;have r3:=(hbw.cell (p:=⟨X,3,none⟩) hX).trans q3;have r4:=(hbw.cell (p:=⟨X,4,none⟩) hX).trans q4;clear q0 q1 q2 q3 q4;go_wp2_with (fail);(with_reducible refine (hFa w3 ((hma.below hbw).more hbw.size)).out.mono ?_);rintro e w4 ⟨rfl,hb4⟩;go_wp2_with (fail);go_roundw
   case rel=>exact⟨1,by omega,by go_num,hbw.trans (hb4.mono hbw.size)⟩
   case measure=>simp[intOf]
  ·obtain⟨q0,q1,q2,q3,q4⟩:=hbH.out;have r0:=(hbw.cell (p:=⟨X,5,none⟩) hX).trans q0;have r1:=(hbw.cell (p:=⟨X,6,none⟩) hX).trans q1;have r2:=(hbw.cell (p:=⟨X,7,none⟩) hX).trans q2;have r3:=(hbw.cell (p:=⟨X,8,none⟩) hX).trans q3;have r4:=(hbw.cell (p:=⟨X,9,none⟩) hX).trans q4;clear q0 q1 q2 q3 q4;go_wp2_with (fail);go_ret;exact⟨rfl,hbw⟩
def fewAll3 (na:Nat)(rowsa:Nat→List Int)(nb:Nat)(rowsb:Nat→List Int)(nd:Nat)(rowsd:Nat→List Int):Bool:=fewC na rowsa&&fewC nb rowsb&&fewC nd rowsd
set_option maxHeartbeats 1000000 in
theorem few3_yes (Pa Ma Na:Int)(mla:List Int)(na:Nat)(rowsa:Nat→List Int)(Aa Ra:Option Addr)(ca ka:Nat)(Pb Mb Nb:Int)(mlb:List Int)(nb:Nat)(rowsb:Nat→List Int)(Ab Rb:Option Addr)(cb kb:Nat)(Pd Md Nd:Int)(mld:List Int)(nd:Nat)(rowsd:Nat→List Int)(Ad Rd:Option Addr)(cd kd:Nat)(X:Nat)(w:World)(hma:RdM w w.heap.size Ra na rowsa)(hmb:RdM w w.heap.size Rb nb rowsb)(hmd:RdM w w.heap.size Rd nd rowsd)(hfa:fewC na rowsa=true)(hfb:fewC nb rowsb=true)(hfd:fewC nd rowsd=true)(hX:X<w.heap.size)(ha0:(w.cell? ⟨X,0,none⟩=some (.int .i64 Pa)∧w.cell? ⟨X,1,none⟩=some (.int .i64 Ma)∧w.cell? ⟨X,2,none⟩=some (.slice Aa mla.length ca)∧w.cell? ⟨X,3,none⟩=some (.int .i64 Na)∧w.cell? ⟨X,4,none⟩=some (.slice Ra na ka)))(hb0:(w.cell? ⟨X,5,none⟩=some (.int .i64 Pb)∧w.cell? ⟨X,6,none⟩=some (.int .i64 Mb)∧w.cell? ⟨X,7,none⟩=some (.slice Ab mlb.length cb)∧w.cell? ⟨X,8,none⟩=some (.int .i64 Nb)∧w.cell? ⟨X,9,none⟩=some (.slice Rb nb kb)))(hd0:(w.cell? ⟨X,10,none⟩=some (.int .i64 Pd)∧w.cell? ⟨X,11,none⟩=some (.int .i64 Md)∧w.cell? ⟨X,12,none⟩=some (.slice Ad mld.length cd)∧w.cell? ⟨X,13,none⟩=some (.int .i64 Nd)∧w.cell? ⟨X,14,none⟩=some (.slice Rd nd kd))) :
  Calls Tryz.prog 8 #[.slice (some ⟨X,0,none⟩) 3 3] w fun e w'=>e=.returned (.bool true)∧Below w.heap.size w w':=by
 obtain⟨hna,hka⟩:=fewC_le hfa;have hFa:=fun W h=>Few12_any Pa Ma Na mla na rowsa Aa Ra ca ka W h (by unfold maxLen; omega) (fun i hi=>Nat.le_trans (hka i hi) (by unfold maxLen; omega))
 rw[fewC_m hfa]at hFa;replace hFa:=fun W h=>Lib.hid (hFa W h)
 replace hfa:=Lib.hid hfa;clear hka;obtain⟨hnb,hkb⟩:=fewC_le hfb;have hFb:=fun W h=>Few12_any Pb Mb Nb mlb nb rowsb Ab Rb cb kb W h (by unfold maxLen; omega) (fun i hi=>Nat.le_trans (hkb i hi) (by unfold maxLen; omega))
 rw[fewC_m hfb]at hFb;replace hFb:=fun W h=>Lib.hid (hFb W h)
 replace hfb:=Lib.hid hfb;clear hkb;obtain⟨hnd,hkd⟩:=fewC_le hfd;have hFd:=fun W h=>Few12_any Pd Md Nd mld nd rowsd Ad Rd cd kd W h (by unfold maxLen; omega) (fun i hi=>Nat.le_trans (hkd i hi) (by unfold maxLen; omega))
 rw[fewC_m hfd]at hFd;replace hFd:=fun W h=>Lib.hid (hFd W h)
 replace hfd:=Lib.hid hfd;clear hkd;have haH:=Lib.hid ha0;have hbH:=Lib.hid hb0;have hdH:=Lib.hid hd0;clear ha0 hb0 hd0;go_enter Tryz.func8,Tryz.ntmps8;go_wp2_with (fail);go_loopw [3] (fun i wr=>∃ k:Nat,k≤3∧i=.int .i64 k∧Below w.heap.size w wr) (fun i _=>3 - (intOf i).toNat)
 case atStart=>exact⟨0,by omega,rfl,Below.refl _ _⟩
 case round =>
  obtain⟨k,hk,rfl,hbw⟩:=hrel;obtain⟨w3,rfl⟩:∃ w3:World,w3=wr:=⟨_,rfl⟩;rcases (by omega:k=0∨k=1∨k=2∨k=3) with rfl | rfl | rfl | rfl
  ·obtain⟨q0,q1,q2,q3,q4⟩:=haH.out;have r0:=(hbw.cell (p:=⟨X,0,none⟩) hX).trans q0;have r1:=(hbw.cell (p:=⟨X,1,none⟩) hX).trans q1;have r2:=(hbw.cell (p:=⟨X,2,none⟩) hX).trans q2;have r3:=(hbw.cell (p:=⟨X,3,none⟩) hX).trans q3;have r4:=(hbw.cell (p:=⟨X,4,none⟩) hX).trans q4;clear q0 q1 q2 q3 q4;go_wp2_with (fail);(with_reducible refine (hFa w3 ((hma.below hbw).more hbw.size)).out.mono ?_);rintro e w4 ⟨rfl,hb4⟩;go_wp2_with (fail);go_roundw
   case rel=>exact⟨1,by omega,by go_num,hbw.trans (hb4.mono hbw.size)⟩
   case measure=>simp[intOf]
  ·obtain⟨q0,q1,q2,q3,q4⟩:=hbH.out;have r0:=(hbw.cell (p:=⟨X,5,none⟩) hX).trans q0;have r1:=(hbw.cell (p:=⟨X,6,none⟩) hX).trans q1;have r2:=(hbw.cell (p:=⟨X,7,none⟩) hX).trans q2;have r3:=(hbw.cell (p:=⟨X,8,none⟩) hX).trans q3;have r4:=(hbw.cell (p:=⟨X,9,none⟩) hX).trans q4;clear q0 q1 q2 q3 q4;go_wp2_with (fail);(with_reducible refine (hFb w3 ((hmb.below hbw).more hbw.size)).out.mono ?_);rintro e w4 ⟨rfl,hb4⟩;go_wp2_with (fail);go_roundw
   case rel=>exact⟨2,by omega,by go_num,hbw.trans (hb4.mono hbw.size)⟩
   case measure=>simp[intOf]
  ·obtain⟨q0,q1,q2,q3,q4⟩:=hdH.out;have r0:=(hbw.cell (p:=⟨X,10,none⟩) hX).trans q0;have r1:=(hbw.cell (p:=⟨X,11,none⟩) hX).trans q1;have r2:=(hbw.cell (p:=⟨X,12,none⟩) hX).trans q2;have r3:=(hbw.cell (p:=⟨X,13,none⟩) hX).trans q3;have r4:=(hbw.cell (p:=⟨X,14,none⟩) hX).trans q4;clear q0 q1 q2 q3 q4;go_wp2_with (fail);(with_reducible refine (hFd w3 ((hmd.below hbw).more hbw.size)).out.mono ?_);rintro e w4 ⟨rfl,hb4⟩;go_wp2_with (fail);go_roundw
   case rel=>exact⟨3,by omega,by go_num,hbw.trans (hb4.mono hbw.size)⟩
   case measure=>simp[intOf]
  ·go_wp2_with (fail);go_ret;exact⟨rfl,hbw⟩
set_option maxHeartbeats 1000000 in
theorem few3_big0 (Pa Ma Na:Int)(mla:List Int)(na:Nat)(rowsa:Nat→List Int)(Aa Ra:Option Addr)(ca ka:Nat)(Pb Mb Nb:Int)(mlb:List Int)(nb:Nat)(rowsb:Nat→List Int)(Ab Rb:Option Addr)(cb kb:Nat)(Pd Md Nd:Int)(mld:List Int)(nd:Nat)(rowsd:Nat→List Int)(Ad Rd:Option Addr)(cd kd:Nat)(X:Nat)(w:World)(hma:RdM w w.heap.size Ra na rowsa)(hmb:RdM w w.heap.size Rb nb rowsb)(hmd:RdM w w.heap.size Rd nd rowsd)(hLa:na≤maxLen∧∀ i,i<na→(rowsa i).length≤maxLen)(hLb:nb≤maxLen∧∀ i,i<nb→(rowsb i).length≤maxLen)(hLd:nd≤maxLen∧∀ i,i<nd→(rowsd i).length≤maxLen)  (hX:X<w.heap.size)(hg:¬ na≤64)(ha0:(w.cell? ⟨X,0,none⟩=some (.int .i64 Pa)∧w.cell? ⟨X,1,none⟩=some (.int .i64 Ma)∧w.cell? ⟨X,2,none⟩=some (.slice Aa mla.length ca)∧w.cell? ⟨X,3,none⟩=some (.int .i64 Na)∧w.cell? ⟨X,4,none⟩=some (.slice Ra na ka)))(hb0:(w.cell? ⟨X,5,none⟩=some (.int .i64 Pb)∧w.cell? ⟨X,6,none⟩=some (.int .i64 Mb)∧w.cell? ⟨X,7,none⟩=some (.slice Ab mlb.length cb)∧w.cell? ⟨X,8,none⟩=some (.int .i64 Nb)∧w.cell? ⟨X,9,none⟩=some (.slice Rb nb kb)))(hd0:(w.cell? ⟨X,10,none⟩=some (.int .i64 Pd)∧w.cell? ⟨X,11,none⟩=some (.int .i64 Md)∧w.cell? ⟨X,12,none⟩=some (.slice Ad mld.length cd)∧w.cell? ⟨X,13,none⟩=some (.int .i64 Nd)∧w.cell? ⟨X,14,none⟩=some (.slice Rd nd kd))) :
  Calls Tryz.prog 8 #[.slice (some ⟨X,0,none⟩) 3 3] w fun e w'=>e=.returned (.bool false)∧Below w.heap.size w w':=by
 have _u:=hma;clear _u;have _u:=hLa;clear _u;have _u:=hmb;clear _u;have _u:=hLb;clear _u;have _u:=hmd;clear _u;have _u:=hLd;clear _u;have hg2:(64:Int)<(na:Int):=by omega
 clear hLa hLb hLd;have haH:=Lib.hid ha0;have hbH:=Lib.hid hb0;have hdH:=Lib.hid hd0;clear ha0 hb0 hd0;go_enter Tryz.func8,Tryz.ntmps8;go_wp2_with (fail);go_loopw [3] (fun i wr=>∃ k:Nat,k≤0∧i=.int .i64 k∧Below w.heap.size w wr) (fun i _=>3 - (intOf i).toNat)
 case atStart=>exact⟨0,by omega,rfl,Below.refl _ _⟩
 case round =>
  obtain⟨k,hk,rfl,hbw⟩:=hrel;obtain⟨w3,rfl⟩:∃ w3:World,w3=wr:=⟨_,rfl⟩;obtain rfl:k=0:=by omega
  ·obtain⟨q0,q1,q2,q3,q4⟩:=haH.out;have r0:=(hbw.cell (p:=⟨X,0,none⟩) hX).trans q0;have r1:=(hbw.cell (p:=⟨X,1,none⟩) hX).trans q1;have r2:=(hbw.cell (p:=⟨X,2,none⟩) hX).trans q2;have r3:=(hbw.cell (p:=⟨X,3,none⟩) hX).trans q3;have r4:=(hbw.cell (p:=⟨X,4,none⟩) hX).trans q4;clear q0 q1 q2 q3 q4;go_wp2_with (fail);go_ret;exact⟨rfl,hbw⟩
set_option maxHeartbeats 1000000 in
theorem few3_no0 (Pa Ma Na:Int)(mla:List Int)(na:Nat)(rowsa:Nat→List Int)(Aa Ra:Option Addr)(ca ka:Nat)(Pb Mb Nb:Int)(mlb:List Int)(nb:Nat)(rowsb:Nat→List Int)(Ab Rb:Option Addr)(cb kb:Nat)(Pd Md Nd:Int)(mld:List Int)(nd:Nat)(rowsd:Nat→List Int)(Ad Rd:Option Addr)(cd kd:Nat)(X:Nat)(w:World)(hma:RdM w w.heap.size Ra na rowsa)(hmb:RdM w w.heap.size Rb nb rowsb)(hmd:RdM w w.heap.size Rd nd rowsd)(hLa:na≤maxLen∧∀ i,i<na→(rowsa i).length≤maxLen)(hLb:nb≤maxLen∧∀ i,i<nb→(rowsb i).length≤maxLen)(hLd:nd≤maxLen∧∀ i,i<nd→(rowsd i).length≤maxLen)  (hX:X<w.heap.size)(hg:na≤64)(hz:fewM na rowsa=false)(ha0:(w.cell? ⟨X,0,none⟩=some (.int .i64 Pa)∧w.cell? ⟨X,1,none⟩=some (.int .i64 Ma)∧w.cell? ⟨X,2,none⟩=some (.slice Aa mla.length ca)∧w.cell? ⟨X,3,none⟩=some (.int .i64 Na)∧w.cell? ⟨X,4,none⟩=some (.slice Ra na ka)))(hb0:(w.cell? ⟨X,5,none⟩=some (.int .i64 Pb)∧w.cell? ⟨X,6,none⟩=some (.int .i64 Mb)∧w.cell? ⟨X,7,none⟩=some (.slice Ab mlb.length cb)∧w.cell? ⟨X,8,none⟩=some (.int .i64 Nb)∧w.cell? ⟨X,9,none⟩=some (.slice Rb nb kb)))(hd0:(w.cell? ⟨X,10,none⟩=some (.int .i64 Pd)∧w.cell? ⟨X,11,none⟩=some (.int .i64 Md)∧w.cell? ⟨X,12,none⟩=some (.slice Ad mld.length cd)∧w.cell? ⟨X,13,none⟩=some (.int .i64 Nd)∧w.cell? ⟨X,14,none⟩=some (.slice Rd nd kd))) :
  Calls Tryz.prog 8 #[.slice (some ⟨X,0,none⟩) 3 3] w fun e w'=>e=.returned (.bool false)∧Below w.heap.size w w':=by
 have _u:=hma;clear _u;have _u:=hLa;clear _u;have _u:=hmb;clear _u;have _u:=hLb;clear _u;have _u:=hmd;clear _u;have _u:=hLd;clear _u;have hg2:¬ (64:Int)<(na:Int):=by omega
 have hFa:=fun W h=>Few12_any Pa Ma Na mla na rowsa Aa Ra ca ka W h hLa.1 hLa.2
 rw[hz]at hFa;replace hFa:=fun W h=>Lib.hid (hFa W h)
 replace hz:=Lib.hid hz;clear hLa hLb hLd;have haH:=Lib.hid ha0;have hbH:=Lib.hid hb0;have hdH:=Lib.hid hd0;clear ha0 hb0 hd0;go_enter Tryz.func8,Tryz.ntmps8;go_wp2_with (fail);go_loopw [3] (fun i wr=>∃ k:Nat,k≤0∧i=.int .i64 k∧Below w.heap.size w wr) (fun i _=>3 - (intOf i).toNat)
 case atStart=>exact⟨0,by omega,rfl,Below.refl _ _⟩
 case round =>
  obtain⟨k,hk,rfl,hbw⟩:=hrel;obtain⟨w3,rfl⟩:∃ w3:World,w3=wr:=⟨_,rfl⟩;obtain rfl:k=0:=by omega
  ·obtain⟨q0,q1,q2,q3,q4⟩:=haH.out;have r0:=(hbw.cell (p:=⟨X,0,none⟩) hX).trans q0;have r1:=(hbw.cell (p:=⟨X,1,none⟩) hX).trans q1;have r2:=(hbw.cell (p:=⟨X,2,none⟩) hX).trans q2;have r3:=(hbw.cell (p:=⟨X,3,none⟩) hX).trans q3;have r4:=(hbw.cell (p:=⟨X,4,none⟩) hX).trans q4;clear q0 q1 q2 q3 q4;go_wp2_with (fail);(with_reducible refine (hFa w3 ((hma.below hbw).more hbw.size)).out.mono ?_);rintro e w4 ⟨rfl,hb4⟩;go_wp2_with (fail);go_ret;exact⟨rfl,hbw.trans (hb4.mono hbw.size)⟩
set_option maxHeartbeats 1000000 in
theorem few3_big1 (Pa Ma Na:Int)(mla:List Int)(na:Nat)(rowsa:Nat→List Int)(Aa Ra:Option Addr)(ca ka:Nat)(Pb Mb Nb:Int)(mlb:List Int)(nb:Nat)(rowsb:Nat→List Int)(Ab Rb:Option Addr)(cb kb:Nat)(Pd Md Nd:Int)(mld:List Int)(nd:Nat)(rowsd:Nat→List Int)(Ad Rd:Option Addr)(cd kd:Nat)(X:Nat)(w:World)(hma:RdM w w.heap.size Ra na rowsa)(hmb:RdM w w.heap.size Rb nb rowsb)(hmd:RdM w w.heap.size Rd nd rowsd)(hLa:na≤maxLen∧∀ i,i<na→(rowsa i).length≤maxLen)(hLb:nb≤maxLen∧∀ i,i<nb→(rowsb i).length≤maxLen)(hLd:nd≤maxLen∧∀ i,i<nd→(rowsd i).length≤maxLen)(hfa:fewC na rowsa=true)(hX:X<w.heap.size)(hg:¬ nb≤64)(ha0:(w.cell? ⟨X,0,none⟩=some (.int .i64 Pa)∧w.cell? ⟨X,1,none⟩=some (.int .i64 Ma)∧w.cell? ⟨X,2,none⟩=some (.slice Aa mla.length ca)∧w.cell? ⟨X,3,none⟩=some (.int .i64 Na)∧w.cell? ⟨X,4,none⟩=some (.slice Ra na ka)))(hb0:(w.cell? ⟨X,5,none⟩=some (.int .i64 Pb)∧w.cell? ⟨X,6,none⟩=some (.int .i64 Mb)∧w.cell? ⟨X,7,none⟩=some (.slice Ab mlb.length cb)∧w.cell? ⟨X,8,none⟩=some (.int .i64 Nb)∧w.cell? ⟨X,9,none⟩=some (.slice Rb nb kb)))(hd0:(w.cell? ⟨X,10,none⟩=some (.int .i64 Pd)∧w.cell? ⟨X,11,none⟩=some (.int .i64 Md)∧w.cell? ⟨X,12,none⟩=some (.slice Ad mld.length cd)∧w.cell? ⟨X,13,none⟩=some (.int .i64 Nd)∧w.cell? ⟨X,14,none⟩=some (.slice Rd nd kd))) :
  Calls Tryz.prog 8 #[.slice (some ⟨X,0,none⟩) 3 3] w fun e w'=>e=.returned (.bool false)∧Below w.heap.size w w':=by
 have _u:=hma;clear _u;have _u:=hLa;clear _u;have _u:=hmb;clear _u;have _u:=hLb;clear _u;have _u:=hmd;clear _u;have _u:=hLd;clear _u;obtain⟨hna,hka⟩:=fewC_le hfa;have hFa:=fun W h=>Few12_any Pa Ma Na mla na rowsa Aa Ra ca ka W h (by unfold maxLen; omega) (fun i hi=>Nat.le_trans (hka i hi) (by unfold maxLen; omega))
 rw[fewC_m hfa]at hFa;replace hFa:=fun W h=>Lib.hid (hFa W h)
 replace hfa:=Lib.hid hfa;clear hka;have hg2:(64:Int)<(nb:Int):=by omega
 clear hLa hLb hLd;have haH:=Lib.hid ha0;have hbH:=Lib.hid hb0;have hdH:=Lib.hid hd0;clear ha0 hb0 hd0;go_enter Tryz.func8,Tryz.ntmps8;go_wp2_with (fail);go_loopw [3] (fun i wr=>∃ k:Nat,k≤1∧i=.int .i64 k∧Below w.heap.size w wr) (fun i _=>3 - (intOf i).toNat)
 case atStart=>exact⟨0,by omega,rfl,Below.refl _ _⟩
 case round =>
  obtain⟨k,hk,rfl,hbw⟩:=hrel;obtain⟨w3,rfl⟩:∃ w3:World,w3=wr:=⟨_,rfl⟩;rcases (by omega:k=0∨k=1) with rfl | rfl
  ·obtain⟨q0,q1,q2,q3,q4⟩:=haH.out;have r0:=(hbw.cell (p:=⟨X,0,none⟩) hX).trans q0;have r1:=(hbw.cell (p:=⟨X,1,none⟩) hX).trans q1;have r2:=(hbw.cell (p:=⟨X,2,none⟩) hX).trans q2;have r3:=(hbw.cell (p:=⟨X,3,none⟩) hX).trans q3;have r4:=(hbw.cell (p:=⟨X,4,none⟩) hX).trans q4;clear q0 q1 q2 q3 q4;go_wp2_with (fail);(with_reducible refine (hFa w3 ((hma.below hbw).more hbw.size)).out.mono ?_);rintro e w4 ⟨rfl,hb4⟩;go_wp2_with (fail);go_roundw
   case rel=>exact⟨1,by omega,by go_num,hbw.trans (hb4.mono hbw.size)⟩
   case measure=>simp[intOf]
  ·obtain⟨q0,q1,q2,q3,q4⟩:=hbH.out;have r0:=(hbw.cell (p:=⟨X,5,none⟩) hX).trans q0;have r1:=(hbw.cell (p:=⟨X,6,none⟩) hX).trans q1;have r2:=(hbw.cell (p:=⟨X,7,none⟩) hX).trans q2;have r3:=(hbw.cell (p:=⟨X,8,none⟩) hX).trans q3;have r4:=(hbw.cell (p:=⟨X,9,none⟩) hX).trans q4;clear q0 q1 q2 q3 q4;go_wp2_with (fail);go_ret;exact⟨rfl,hbw⟩
set_option maxHeartbeats 1000000 in
theorem few3_no1 (Pa Ma Na:Int)(mla:List Int)(na:Nat)(rowsa:Nat→List Int)(Aa Ra:Option Addr)(ca ka:Nat)(Pb Mb Nb:Int)(mlb:List Int)(nb:Nat)(rowsb:Nat→List Int)(Ab Rb:Option Addr)(cb kb:Nat)(Pd Md Nd:Int)(mld:List Int)(nd:Nat)(rowsd:Nat→List Int)(Ad Rd:Option Addr)(cd kd:Nat)(X:Nat)(w:World)(hma:RdM w w.heap.size Ra na rowsa)(hmb:RdM w w.heap.size Rb nb rowsb)(hmd:RdM w w.heap.size Rd nd rowsd)(hLa:na≤maxLen∧∀ i,i<na→(rowsa i).length≤maxLen)(hLb:nb≤maxLen∧∀ i,i<nb→(rowsb i).length≤maxLen)(hLd:nd≤maxLen∧∀ i,i<nd→(rowsd i).length≤maxLen)(hfa:fewC na rowsa=true)(hX:X<w.heap.size)(hg:nb≤64)(hz:fewM nb rowsb=false)(ha0:(w.cell? ⟨X,0,none⟩=some (.int .i64 Pa)∧w.cell? ⟨X,1,none⟩=some (.int .i64 Ma)∧w.cell? ⟨X,2,none⟩=some (.slice Aa mla.length ca)∧w.cell? ⟨X,3,none⟩=some (.int .i64 Na)∧w.cell? ⟨X,4,none⟩=some (.slice Ra na ka)))(hb0:(w.cell? ⟨X,5,none⟩=some (.int .i64 Pb)∧w.cell? ⟨X,6,none⟩=some (.int .i64 Mb)∧w.cell? ⟨X,7,none⟩=some (.slice Ab mlb.length cb)∧w.cell? ⟨X,8,none⟩=some (.int .i64 Nb)∧w.cell? ⟨X,9,none⟩=some (.slice Rb nb kb)))(hd0:(w.cell? ⟨X,10,none⟩=some (.int .i64 Pd)∧w.cell? ⟨X,11,none⟩=some (.int .i64 Md)∧w.cell? ⟨X,12,none⟩=some (.slice Ad mld.length cd)∧w.cell? ⟨X,13,none⟩=some (.int .i64 Nd)∧w.cell? ⟨X,14,none⟩=some (.slice Rd nd kd))) :
  Calls Tryz.prog 8 #[.slice (some ⟨X,0,none⟩) 3 3] w fun e w'=>e=.returned (.bool false)∧Below w.heap.size w w':=by
 have _u:=hma;clear _u;have _u:=hLa;clear _u;have _u:=hmb;clear _u;have _u:=hLb;clear _u;have _u:=hmd;clear _u;have _u:=hLd;clear _u;obtain⟨hna,hka⟩:=fewC_le hfa;have hFa:=fun W h=>Few12_any Pa Ma Na mla na rowsa Aa Ra ca ka W h (by unfold maxLen; omega) (fun i hi=>Nat.le_trans (hka i hi) (by unfold maxLen; omega))
 rw[fewC_m hfa]at hFa;replace hFa:=fun W h=>Lib.hid (hFa W h)
 replace hfa:=Lib.hid hfa;clear hka;have hg2:¬ (64:Int)<(nb:Int):=by omega
 have hFb:=fun W h=>Few12_any Pb Mb Nb mlb nb rowsb Ab Rb cb kb W h hLb.1 hLb.2
 rw[hz]at hFb;replace hFb:=fun W h=>Lib.hid (hFb W h)
 replace hz:=Lib.hid hz;clear hLa hLb hLd;have haH:=Lib.hid ha0;have hbH:=Lib.hid hb0;have hdH:=Lib.hid hd0;clear ha0 hb0 hd0;go_enter Tryz.func8,Tryz.ntmps8;go_wp2_with (fail);go_loopw [3] (fun i wr=>∃ k:Nat,k≤1∧i=.int .i64 k∧Below w.heap.size w wr) (fun i _=>3 - (intOf i).toNat)
 case atStart=>exact⟨0,by omega,rfl,Below.refl _ _⟩
 case round =>
  obtain⟨k,hk,rfl,hbw⟩:=hrel;obtain⟨w3,rfl⟩:∃ w3:World,w3=wr:=⟨_,rfl⟩;rcases (by omega:k=0∨k=1) with rfl | rfl
  ·obtain⟨q0,q1,q2,q3,q4⟩:=haH.out;have r0:=(hbw.cell (p:=⟨X,0,none⟩) hX).trans q0;have r1:=(hbw.cell (p:=⟨X,1,none⟩) hX).trans q1;have r2:=(hbw.cell (p:=⟨X,2,none⟩) hX).trans q2;have r3:=(hbw.cell (p:=⟨X,3,none⟩) hX).trans q3;have r4:=(hbw.cell (p:=⟨X,4,none⟩) hX).trans q4;clear q0 q1 q2 q3 q4;go_wp2_with (fail);(with_reducible refine (hFa w3 ((hma.below hbw).more hbw.size)).out.mono ?_);rintro e w4 ⟨rfl,hb4⟩;go_wp2_with (fail);go_roundw
   case rel=>exact⟨1,by omega,by go_num,hbw.trans (hb4.mono hbw.size)⟩
   case measure=>simp[intOf]
  ·obtain⟨q0,q1,q2,q3,q4⟩:=hbH.out;have r0:=(hbw.cell (p:=⟨X,5,none⟩) hX).trans q0;have r1:=(hbw.cell (p:=⟨X,6,none⟩) hX).trans q1;have r2:=(hbw.cell (p:=⟨X,7,none⟩) hX).trans q2;have r3:=(hbw.cell (p:=⟨X,8,none⟩) hX).trans q3;have r4:=(hbw.cell (p:=⟨X,9,none⟩) hX).trans q4;clear q0 q1 q2 q3 q4;go_wp2_with (fail);(with_reducible refine (hFb w3 ((hmb.below hbw).more hbw.size)).out.mono ?_);rintro e w4 ⟨rfl,hb4⟩;go_wp2_with (fail);go_ret;exact⟨rfl,hbw.trans (hb4.mono hbw.size)⟩
set_option maxHeartbeats 1000000 in
theorem few3_big2 (Pa Ma Na:Int)(mla:List Int)(na:Nat)(rowsa:Nat→List Int)(Aa Ra:Option Addr)(ca ka:Nat)(Pb Mb Nb:Int)(mlb:List Int)(nb:Nat)(rowsb:Nat→List Int)(Ab Rb:Option Addr)(cb kb:Nat)(Pd Md Nd:Int)(mld:List Int)(nd:Nat)(rowsd:Nat→List Int)(Ad Rd:Option Addr)(cd kd:Nat)(X:Nat)(w:World)(hma:RdM w w.heap.size Ra na rowsa)(hmb:RdM w w.heap.size Rb nb rowsb)(hmd:RdM w w.heap.size Rd nd rowsd)(hLa:na≤maxLen∧∀ i,i<na→(rowsa i).length≤maxLen)(hLb:nb≤maxLen∧∀ i,i<nb→(rowsb i).length≤maxLen)(hLd:nd≤maxLen∧∀ i,i<nd→(rowsd i).length≤maxLen)(hfa:fewC na rowsa=true)(hfb:fewC nb rowsb=true)(hX:X<w.heap.size)(hg:¬ nd≤64)(ha0:(w.cell? ⟨X,0,none⟩=some (.int .i64 Pa)∧w.cell? ⟨X,1,none⟩=some (.int .i64 Ma)∧w.cell? ⟨X,2,none⟩=some (.slice Aa mla.length ca)∧w.cell? ⟨X,3,none⟩=some (.int .i64 Na)∧w.cell? ⟨X,4,none⟩=some (.slice Ra na ka)))(hb0:(w.cell? ⟨X,5,none⟩=some (.int .i64 Pb)∧w.cell? ⟨X,6,none⟩=some (.int .i64 Mb)∧w.cell? ⟨X,7,none⟩=some (.slice Ab mlb.length cb)∧w.cell? ⟨X,8,none⟩=some (.int .i64 Nb)∧w.cell? ⟨X,9,none⟩=some (.slice Rb nb kb)))(hd0:(w.cell? ⟨X,10,none⟩=some (.int .i64 Pd)∧w.cell? ⟨X,11,none⟩=some (.int .i64 Md)∧w.cell? ⟨X,12,none⟩=some (.slice Ad mld.length cd)∧w.cell? ⟨X,13,none⟩=some (.int .i64 Nd)∧w.cell? ⟨X,14,none⟩=some (.slice Rd nd kd))) :
  Calls Tryz.prog 8 #[.slice (some ⟨X,0,none⟩) 3 3] w fun e w'=>e=.returned (.bool false)∧Below w.heap.size w w':=by
 have _u:=hma;clear _u;have _u:=hLa;clear _u;have _u:=hmb;clear _u;have _u:=hLb;clear _u;have _u:=hmd;clear _u;have _u:=hLd;clear _u;obtain⟨hna,hka⟩:=fewC_le hfa;have hFa:=fun W h=>Few12_any Pa Ma Na mla na rowsa Aa Ra ca ka W h (by unfold maxLen; omega) (fun i hi=>Nat.le_trans (hka i hi) (by unfold maxLen; omega))
 rw[fewC_m hfa]at hFa;replace hFa:=fun W h=>Lib.hid (hFa W h)
 replace hfa:=Lib.hid hfa;clear hka;obtain⟨hnb,hkb⟩:=fewC_le hfb;have hFb:=fun W h=>Few12_any Pb Mb Nb mlb nb rowsb Ab Rb cb kb W h (by unfold maxLen; omega) (fun i hi=>Nat.le_trans (hkb i hi) (by unfold maxLen; omega))
 rw[fewC_m hfb]at hFb;replace hFb:=fun W h=>Lib.hid (hFb W h)
 replace hfb:=Lib.hid hfb;clear hkb;have hg2:(64:Int)<(nd:Int):=by omega
 clear hLa hLb hLd;have haH:=Lib.hid ha0;have hbH:=Lib.hid hb0;have hdH:=Lib.hid hd0;clear ha0 hb0 hd0;go_enter Tryz.func8,Tryz.ntmps8;go_wp2_with (fail);go_loopw [3] (fun i wr=>∃ k:Nat,k≤2∧i=.int .i64 k∧Below w.heap.size w wr) (fun i _=>3 - (intOf i).toNat)
 case atStart=>exact⟨0,by omega,rfl,Below.refl _ _⟩
 case round =>
  obtain⟨k,hk,rfl,hbw⟩:=hrel;obtain⟨w3,rfl⟩:∃ w3:World,w3=wr:=⟨_,rfl⟩;rcases (by omega:k=0∨k=1∨k=2) with rfl | rfl | rfl
  ·obtain⟨q0,q1,q2,q3,q4⟩:=haH.out;have r0:=(hbw.cell (p:=⟨X,0,none⟩) hX).trans q0;have r1:=(hbw.cell (p:=⟨X,1,none⟩) hX).trans q1;have r2:=(hbw.cell (p:=⟨X,2,none⟩) hX).trans q2;have r3:=(hbw.cell (p:=⟨X,3,none⟩) hX).trans q3;have r4:=(hbw.cell (p:=⟨X,4,none⟩) hX).trans q4;clear q0 q1 q2 q3 q4;go_wp2_with (fail);(with_reducible refine (hFa w3 ((hma.below hbw).more hbw.size)).out.mono ?_);rintro e w4 ⟨rfl,hb4⟩;go_wp2_with (fail);go_roundw
   case rel=>exact⟨1,by omega,by go_num,hbw.trans (hb4.mono hbw.size)⟩
   case measure=>simp[intOf]
  ·obtain⟨q0,q1,q2,q3,q4⟩:=hbH.out;have r0:=(hbw.cell (p:=⟨X,5,none⟩) hX).trans q0;have r1:=(hbw.cell (p:=⟨X,6,none⟩) hX).trans q1;have r2:=(hbw.cell (p:=⟨X,7,none⟩) hX).trans q2;have r3:=(hbw.cell (p:=⟨X,8,none⟩) hX).trans q3;have r4:=(hbw.cell (p:=⟨X,9,none⟩) hX).trans q4;clear q0 q1 q2 q3 q4;go_wp2_with (fail);(with_reducible refine (hFb w3 ((hmb.below hbw).more hbw.size)).out.mono ?_);rintro e w4 ⟨rfl,hb4⟩;go_wp2_with (fail);go_roundw
   case rel=>exact⟨2,by omega,by go_num,hbw.trans (hb4.mono hbw.size)⟩
   case measure=>simp[intOf]
  ·obtain⟨q0,q1,q2,q3,q4⟩:=hdH.out;have r0:=(hbw.cell (p:=⟨X,10,none⟩) hX).trans q0;have r1:=(hbw.cell (p:=⟨X,11,none⟩) hX).trans q1;have r2:=(hbw.cell (p:=⟨X,12,none⟩) hX).trans q2;have r3:=(hbw.cell (p:=⟨X,13,none⟩) hX).trans q3;have r4:=(hbw.cell (p:=⟨X,14,none⟩) hX).trans q4;clear q0 q1 q2 q3 q4;go_wp2_with (fail);go_ret;exact⟨rfl,hbw⟩
set_option maxHeartbeats 1000000 in
theorem few3_no2 (Pa Ma Na:Int)(mla:List Int)(na:Nat)(rowsa:Nat→List Int)(Aa Ra:Option Addr)(ca ka:Nat)(Pb Mb Nb:Int)(mlb:List Int)(nb:Nat)(rowsb:Nat→List Int)(Ab Rb:Option Addr)(cb kb:Nat)(Pd Md Nd:Int)(mld:List Int)(nd:Nat)(rowsd:Nat→List Int)(Ad Rd:Option Addr)(cd kd:Nat)(X:Nat)(w:World)(hma:RdM w w.heap.size Ra na rowsa)(hmb:RdM w w.heap.size Rb nb rowsb)(hmd:RdM w w.heap.size Rd nd rowsd)(hLa:na≤maxLen∧∀ i,i<na→(rowsa i).length≤maxLen)(hLb:nb≤maxLen∧∀ i,i<nb→(rowsb i).length≤maxLen)(hLd:nd≤maxLen∧∀ i,i<nd→(rowsd i).length≤maxLen)(hfa:fewC na rowsa=true)(hfb:fewC nb rowsb=true)(hX:X<w.heap.size)(hg:nd≤64)(hz:fewM nd rowsd=false)(ha0:(w.cell? ⟨X,0,none⟩=some (.int .i64 Pa)∧w.cell? ⟨X,1,none⟩=some (.int .i64 Ma)∧w.cell? ⟨X,2,none⟩=some (.slice Aa mla.length ca)∧w.cell? ⟨X,3,none⟩=some (.int .i64 Na)∧w.cell? ⟨X,4,none⟩=some (.slice Ra na ka)))(hb0:(w.cell? ⟨X,5,none⟩=some (.int .i64 Pb)∧w.cell? ⟨X,6,none⟩=some (.int .i64 Mb)∧w.cell? ⟨X,7,none⟩=some (.slice Ab mlb.length cb)∧w.cell? ⟨X,8,none⟩=some (.int .i64 Nb)∧w.cell? ⟨X,9,none⟩=some (.slice Rb nb kb)))(hd0:(w.cell? ⟨X,10,none⟩=some (.int .i64 Pd)∧w.cell? ⟨X,11,none⟩=some (.int .i64 Md)∧w.cell? ⟨X,12,none⟩=some (.slice Ad mld.length cd)∧w.cell? ⟨X,13,none⟩=some (.int .i64 Nd)∧w.cell? ⟨X,14,none⟩=some (.slice Rd nd kd))) :
  Calls Tryz.prog 8 #[.slice (some ⟨X,0,none⟩) 3 3] w fun e w'=>e=.returned (.bool false)∧Below w.heap.size w w':=by
 have _u:=hma;clear _u;have _u:=hLa;clear _u;have _u:=hmb;clear _u;have _u:=hLb;clear _u;have _u:=hmd;clear _u;have _u:=hLd;clear _u;obtain⟨hna,hka⟩:=fewC_le hfa;have hFa:=fun W h=>Few12_any Pa Ma Na mla na rowsa Aa Ra ca ka W h (by unfold maxLen; omega) (fun i hi=>Nat.le_trans (hka i hi) (by unfold maxLen; omega))
 rw[fewC_m hfa]at hFa;replace hFa:=fun W h=>Lib.hid (hFa W h)
 replace hfa:=Lib.hid hfa;clear hka;obtain⟨hnb,hkb⟩:=fewC_le hfb;have hFb:=fun W h=>Few12_any Pb Mb Nb mlb nb rowsb Ab Rb cb kb W h (by unfold maxLen; omega) (fun i hi=>Nat.le_trans (hkb i hi) (by unfold maxLen; omega))
 rw[fewC_m hfb]at hFb;replace hFb:=fun W h=>Lib.hid (hFb W h)
 replace hfb:=Lib.hid hfb;clear hkb;have hg2:¬ (64:Int)<(nd:Int):=by omega
 have hFd:=fun W h=>Few12_any Pd Md Nd mld nd rowsd Ad Rd cd kd W h hLd.1 hLd.2
 rw[hz]at hFd;replace hFd:=fun W h=>Lib.hid (hFd W h)
 replace hz:=Lib.hid hz;clear hLa hLb hLd;have haH:=Lib.hid ha0;have hbH:=Lib.hid hb0;have hdH:=Lib.hid hd0;clear ha0 hb0 hd0;go_enter Tryz.func8,Tryz.ntmps8;go_wp2_with (fail);go_loopw [3] (fun i wr=>∃ k:Nat,k≤2∧i=.int .i64 k∧Below w.heap.size w wr) (fun i _=>3 - (intOf i).toNat)
 case atStart=>exact⟨0,by omega,rfl,Below.refl _ _⟩
 case round =>
  obtain⟨k,hk,rfl,hbw⟩:=hrel;obtain⟨w3,rfl⟩:∃ w3:World,w3=wr:=⟨_,rfl⟩;rcases (by omega:k=0∨k=1∨k=2) with rfl | rfl | rfl
  ·obtain⟨q0,q1,q2,q3,q4⟩:=haH.out;have r0:=(hbw.cell (p:=⟨X,0,none⟩) hX).trans q0;have r1:=(hbw.cell (p:=⟨X,1,none⟩) hX).trans q1;have r2:=(hbw.cell (p:=⟨X,2,none⟩) hX).trans q2;have r3:=(hbw.cell (p:=⟨X,3,none⟩) hX).trans q3;have r4:=(hbw.cell (p:=⟨X,4,none⟩) hX).trans q4;clear q0 q1 q2 q3 q4;go_wp2_with (fail);(with_reducible refine (hFa w3 ((hma.below hbw).more hbw.size)).out.mono ?_);rintro e w4 ⟨rfl,hb4⟩;go_wp2_with (fail);go_roundw
   case rel=>exact⟨1,by omega,by go_num,hbw.trans (hb4.mono hbw.size)⟩
   case measure=>simp[intOf]
  ·obtain⟨q0,q1,q2,q3,q4⟩:=hbH.out;have r0:=(hbw.cell (p:=⟨X,5,none⟩) hX).trans q0;have r1:=(hbw.cell (p:=⟨X,6,none⟩) hX).trans q1;have r2:=(hbw.cell (p:=⟨X,7,none⟩) hX).trans q2;have r3:=(hbw.cell (p:=⟨X,8,none⟩) hX).trans q3;have r4:=(hbw.cell (p:=⟨X,9,none⟩) hX).trans q4;clear q0 q1 q2 q3 q4;go_wp2_with (fail);(with_reducible refine (hFb w3 ((hmb.below hbw).more hbw.size)).out.mono ?_);rintro e w4 ⟨rfl,hb4⟩;go_wp2_with (fail);go_roundw
   case rel=>exact⟨2,by omega,by go_num,hbw.trans (hb4.mono hbw.size)⟩
   case measure=>simp[intOf]
  ·obtain⟨q0,q1,q2,q3,q4⟩:=hdH.out;have r0:=(hbw.cell (p:=⟨X,10,none⟩) hX).trans q0;have r1:=(hbw.cell (p:=⟨X,11,none⟩) hX).trans q1;have r2:=(hbw.cell (p:=⟨X,12,none⟩) hX).trans q2;have r3:=(hbw.cell (p:=⟨X,13,none⟩) hX).trans q3;have r4:=(hbw.cell (p:=⟨X,14,none⟩) hX).trans q4;clear q0 q1 q2 q3 q4;go_wp2_with (fail);(with_reducible refine (hFd w3 ((hmd.below hbw).more hbw.size)).out.mono ?_);rintro e w4 ⟨rfl,hb4⟩;go_wp2_with (fail);go_ret;exact⟨rfl,hbw.trans (hb4.mono hbw.size)⟩
theorem few3_any (Pa Ma Na:Int)(mla:List Int)(na:Nat)(rowsa:Nat→List Int)(Aa Ra:Option Addr)(ca ka:Nat)(Pb Mb Nb:Int)(mlb:List Int)(nb:Nat)(rowsb:Nat→List Int)(Ab Rb:Option Addr)(cb kb:Nat)(Pd Md Nd:Int)(mld:List Int)(nd:Nat)(rowsd:Nat→List Int)(Ad Rd:Option Addr)(cd kd:Nat)(X:Nat)(w:World)(hma:RdM w w.heap.size Ra na rowsa)(hmb:RdM w w.heap.size Rb nb rowsb)(hmd:RdM w w.heap.size Rd nd rowsd)(hLa:na≤maxLen∧∀ i,i<na→(rowsa i).length≤maxLen)(hLb:nb≤maxLen∧∀ i,i<nb→(rowsb i).length≤maxLen)(hLd:nd≤maxLen∧∀ i,i<nd→(rowsd i).length≤maxLen)(hX:X<w.heap.size)(ha0:(w.cell? ⟨X,0,none⟩=some (.int .i64 Pa)∧w.cell? ⟨X,1,none⟩=some (.int .i64 Ma)∧w.cell? ⟨X,2,none⟩=some (.slice Aa mla.length ca)∧w.cell? ⟨X,3,none⟩=some (.int .i64 Na)∧w.cell? ⟨X,4,none⟩=some (.slice Ra na ka)))(hb0:(w.cell? ⟨X,5,none⟩=some (.int .i64 Pb)∧w.cell? ⟨X,6,none⟩=some (.int .i64 Mb)∧w.cell? ⟨X,7,none⟩=some (.slice Ab mlb.length cb)∧w.cell? ⟨X,8,none⟩=some (.int .i64 Nb)∧w.cell? ⟨X,9,none⟩=some (.slice Rb nb kb)))(hd0:(w.cell? ⟨X,10,none⟩=some (.int .i64 Pd)∧w.cell? ⟨X,11,none⟩=some (.int .i64 Md)∧w.cell? ⟨X,12,none⟩=some (.slice Ad mld.length cd)∧w.cell? ⟨X,13,none⟩=some (.int .i64 Nd)∧w.cell? ⟨X,14,none⟩=some (.slice Rd nd kd))) :
  Calls Tryz.prog 8 #[.slice (some ⟨X,0,none⟩) 3 3] w fun e w'=>e=.returned (.bool (fewAll3 na rowsa nb rowsb nd rowsd))∧Below w.heap.size w w':=by
 by_cases hfa:fewC na rowsa=true;rotate_left
 ·rw[show fewAll3 na rowsa nb rowsb nd rowsd=false from by unfold fewAll3; simp[hfa]];by_cases hg:na≤64
  ·exact few3_no0 Pa Ma Na mla na rowsa Aa Ra ca ka Pb Mb Nb mlb nb rowsb Ab Rb cb kb Pd Md Nd mld nd rowsd Ad Rd cd kd X w hma hmb hmd hLa hLb hLd  hX hg (fewC_f hg hfa) ha0 hb0 hd0
  ·exact few3_big0 Pa Ma Na mla na rowsa Aa Ra ca ka Pb Mb Nb mlb nb rowsb Ab Rb cb kb Pd Md Nd mld nd rowsd Ad Rd cd kd X w hma hmb hmd hLa hLb hLd  hX hg ha0 hb0 hd0
 by_cases hfb:fewC nb rowsb=true;rotate_left
 ·rw[show fewAll3 na rowsa nb rowsb nd rowsd=false from by unfold fewAll3; simp[hfb]];by_cases hg:nb≤64
  ·exact few3_no1 Pa Ma Na mla na rowsa Aa Ra ca ka Pb Mb Nb mlb nb rowsb Ab Rb cb kb Pd Md Nd mld nd rowsd Ad Rd cd kd X w hma hmb hmd hLa hLb hLd hfa hX hg (fewC_f hg hfb) ha0 hb0 hd0
  ·exact few3_big1 Pa Ma Na mla na rowsa Aa Ra ca ka Pb Mb Nb mlb nb rowsb Ab Rb cb kb Pd Md Nd mld nd rowsd Ad Rd cd kd X w hma hmb hmd hLa hLb hLd hfa hX hg ha0 hb0 hd0
 by_cases hfd:fewC nd rowsd=true;rotate_left
 ·rw[show fewAll3 na rowsa nb rowsb nd rowsd=false from by unfold fewAll3; simp[hfd]];by_cases hg:nd≤64
  ·exact few3_no2 Pa Ma Na mla na rowsa Aa Ra ca ka Pb Mb Nb mlb nb rowsb Ab Rb cb kb Pd Md Nd mld nd rowsd Ad Rd cd kd X w hma hmb hmd hLa hLb hLd hfa hfb hX hg (fewC_f hg hfd) ha0 hb0 hd0
  ·exact few3_big2 Pa Ma Na mla na rowsa Aa Ra ca ka Pb Mb Nb mlb nb rowsb Ab Rb cb kb Pd Md Nd mld nd rowsd Ad Rd cd kd X w hma hmb hmd hLa hLb hLd hfa hfb hX hg ha0 hb0 hd0
 rw[show fewAll3 na rowsa nb rowsb nd rowsd=true from by unfold fewAll3; simp[hfa,hfb,hfd]];exact few3_yes Pa Ma Na mla na rowsa Aa Ra ca ka Pb Mb Nb mlb nb rowsb Ab Rb cb kb Pd Md Nd mld nd rowsd Ad Rd cd kd X w hma hmb hmd hfa hfb hfd hX ha0 hb0 hd0

end Go.Proofs.YtogfekjbpcfgmaaGreat

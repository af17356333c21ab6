/- Small enough codes: Few, few. Equal fields, of the program and of the reference; small enough codes: few. -/
import Derived.Outline
import Derived.Test.YtogfekjbpcfgmaaGreatZtCCodB
import Derived.Test.YtogfekjbpcfgmaaGreatZtCCodE
namespace Go.Proofs.YtogfekjbpcfgmaaGreat
section
open Go.RowKit Cw
attribute [local go_sem] Oper.semAt_some

def sumL (rows:Nat→List Int):Nat→Nat
 | 0=>0
 | k+1=>sumL rows k+(rows k).length
theorem sumL_mono (rows:Nat→List Int):∀ {a b:Nat},a≤b→sumL rows a≤sumL rows b:=fun {a b} h=>by
  induction b with
  | zero => obtain rfl : a = 0 := by omega
            exact Nat.le_refl _
  | succ b ih =>
    by_cases e:a=b+1
    · rw[e]; exact Nat.le_refl _
    · exact Nat.le_trans (ih (by omega)) (Nat.le_add_right _ _)
theorem sumL_one (rows:Nat→List Int){i n:Nat} (h:i<n):(rows i).length≤sumL rows n :=
 Nat.le_trans (Nat.le_add_left _ (sumL rows i)) (sumL_mono rows h)
def fewM (n:Nat)(rows:Nat→List Int):Bool:=decide (n+sumL rows n≤4200)
theorem fewM_no {n:Nat} {rows:Nat→List Int} {k:Nat} (hk:k<n)(h:4200<n+sumL rows (k+1)):fewM n rows=false:=decide_eq_false fun h2=>by
 have:=sumL_mono rows (show k+1≤n from hk); omega
set_option maxHeartbeats 1000000 in
theorem Few9_any (n:Nat)(rows:Nat→List Int)(Ar:Option Addr)(cr:Nat)(w:World)(hrm:RdM w w.heap.size Ar n rows)(hn:n≤maxLen)(hl:∀ i,i<n→(rows i).length≤maxLen) :
  Calls Tryz.prog 81 #[.agg #[.int .i64 0,.slice Ar n cr],.int .i64 4200] w fun e w'=>e=.returned (.bool (fewM n rows))∧Below w.heap.size w w':=by
 obtain⟨Z,hZ⟩:∃ Z,Z=w.alloc (.cells #[.int .i64 0,.slice Ar n cr] 120):=⟨_,rfl⟩;have hB:Below w.heap.size w Z:=by rw[hZ]; exact (Below.refl _ _).alloc (Nat.le_refl _) _
 have z0:Z.cell? ⟨w.heap.size,0,none⟩=some (.int .i64 0):=by rw[hZ]; simp[go_sem]
 have z1:Z.cell? ⟨w.heap.size,1,none⟩=some (.slice Ar n cr):=by rw[hZ]; simp[go_sem]
 have hrz:=(hrm.below hB).more hB.size;unfold maxLen at hn hl;replace hZ:=Lib.hid hZ;by_cases b1:(4200:Int)<(n:Int)
 ·rw[show fewM n rows=false from decide_eq_false fun h=>by omega];clear hl;go_enter Tryz.func81,Tryz.ntmps81;go_wp2_with (fail);go_ret;rw[←hZ.out];exact⟨rfl,hB⟩
 ·go_enter Tryz.func81,Tryz.ntmps81;go_wp2_with (fail);rw[←hZ.out];go_loop [6,5] (fun i r=>∃ k:Nat,k≤n∧i=.int .i64 k∧∃ q:Nat,r=.int .i64 q∧q+n+sumL rows k=4200) (fun i _=>n - (intOf i).toNat)
  case atStart=>exact⟨0,by omega,rfl,4200 - n,by go_num,by show 4200 - n+n+0=4200; omega⟩
  case round =>
   obtain⟨k,hk,rfl,q,rfl,hq⟩:=hrel;by_cases hlt:k<n
   ·obtain⟨b,o,Ak,ck,rfl,hb,hc,-,-,-⟩:=hrz.at_ hlt;have hlk:=hl k hlt;obtain⟨t,ht⟩:∃ t,t=(rows k).length:=⟨_,rfl⟩;rw[←ht]at hc hlk;have hsu:sumL rows (k+1)=sumL rows k+t:=by rw[ht]; rfl
    by_cases b2:(q:Int)<(t:Int)
    ·have he:Hid (fewM n rows=false):=fewM_no hlt (by rw[hsu]; omega);clear hl hsu ht hq;go_wp2_with (fail);go_ret;exact⟨by rw[he.out]; rfl,hB⟩
    ·have hq2:Hid (q - t+n+sumL rows (k+1)=4200):=by unfold Hid; rw[hsu]; omega
     have htq:t≤q:=by omega
     have hq42:q≤4200:=by omega
     clear hl hsu ht hq;go_wp2_with (fail);go_round
     case rel=>exact⟨k+1,by omega,by go_num,q - t,by go_num,hq2.out⟩
     case measure=>simp[intOf]; omega
   ·obtain rfl:k=n:=by omega
    have he:Hid (fewM k rows=true):=decide_eq_true (by omega);clear hq hl;go_wp2_with (fail);go_ret;exact⟨by rw[he.out]; rfl,hB⟩
theorem Few12_any (Pa Ma Na:Int)(mla:List Int)(na:Nat)(rowsa:Nat→List Int)(Aa Ra:Option Addr)(ca ka:Nat)(w:World)(hm:RdM w w.heap.size Ra na rowsa)(hn:na≤maxLen)(hl:∀ i,i<na→(rowsa i).length≤maxLen) :
  Calls Tryz.prog 27 #[.agg #[.int .i64 Pa,.int .i64 Ma,.slice Aa mla.length ca,.int .i64 Na,.slice Ra na ka],.int .i64 4200] w fun e w'=>e=.returned (.bool (fewM na rowsa))∧Below w.heap.size w w':=by
 obtain⟨Z,hZ⟩:∃ Z,Z=w.alloc (.cells #[.int .i64 Pa,.int .i64 Ma,.slice Aa mla.length ca,.int .i64 Na,.slice Ra na ka] 27):=⟨_,rfl⟩;have hB:Below w.heap.size w Z:=by rw[hZ]; exact (Below.refl _ _).alloc (Nat.le_refl _) _
 have hF:=Lib.hid (Few9_any na rowsa Ra ka Z ((hm.below hB).more hB.size) hn hl);replace hZ:=Lib.hid hZ;clear hn hl;go_enter Tryz.func27,Tryz.ntmps27;go_wp2_with (fail);rw[←hZ.out];(with_reducible refine hF.out.mono ?_);rintro e w1 ⟨rfl,hb1⟩;go_wp2_with (fail);go_ret;exact⟨rfl,hB.trans (hb1.mono hB.size)⟩
end
section
open Go.RowKit Cw
attribute [local go_sem] Oper.semAt_some
def fewC (n:Nat)(rows:Nat→List Int):Bool:=decide (n≤64)&&fewM n rows
theorem fewC_le {n:Nat} {rows:Nat→List Int} (h:fewC n rows=true):n≤64∧∀ i,i<n→(rows i).length≤4200:=by
 unfold fewC fewM at h;rw[Bool.and_eq_true,decide_eq_true_eq,decide_eq_true_eq]at h;exact⟨h.1,fun i hi=>by have:=sumL_one rows hi; omega⟩
theorem fewC_m {n:Nat} {rows:Nat→List Int} (h:fewC n rows=true):fewM n rows=true:=by
 unfold fewC at h;rw[Bool.and_eq_true]at h;exact h.2
theorem fewC_f {n:Nat} {rows:Nat→List Int} (h:n≤64)(h2:¬ fewC n rows=true):fewM n rows=false:=by
 cases e:fewM n rows with
 | false=>rfl
 | true=>exact absurd (by unfold fewC; rw[decide_eq_true h,e]; rfl) h2
set_option maxHeartbeats 1000000 in
theorem few1_yes (Pa Ma Na:Int)(mla:List Int)(na:Nat)(rowsa:Nat→List Int)(Aa Ra:Option Addr)(ca ka:Nat)(X:Nat)(w:World)(hma:RdM w w.heap.size Ra na rowsa)(hfa:fewC na rowsa=true)(hX:X<w.heap.size)(ha0:(w.cell? ⟨X,0,none⟩=some (.int .i64 Pa)∧w.cell? ⟨X,1,none⟩=some (.int .i64 Ma)∧w.cell? ⟨X,2,none⟩=some (.slice Aa mla.length ca)∧w.cell? ⟨X,3,none⟩=some (.int .i64 Na)∧w.cell? ⟨X,4,none⟩=some (.slice Ra na ka))) :
  Calls Tryz.prog 8 #[.slice (some ⟨X,0,none⟩) 1 1] w fun e w'=>e=.returned (.bool true)∧Below w.heap.size w w':=by
 obtain⟨hna,hka⟩:=fewC_le hfa;have hFa:=fun W h=>Few12_any Pa Ma Na mla na rowsa Aa Ra ca ka W h (by unfold maxLen; omega) (fun i hi=>Nat.le_trans (hka i hi) (by unfold maxLen; omega))
 rw[fewC_m hfa]at hFa;replace hFa:=fun W h=>Lib.hid (hFa W h)
 replace hfa:=Lib.hid hfa;clear hka;have haH:=Lib.hid ha0;clear ha0;go_enter Tryz.func8,Tryz.ntmps8;go_wp2_with (fail);go_loopw [3] (fun i wr=>∃ k:Nat,k≤1∧i=.int .i64 k∧Below w.heap.size w wr) (fun i _=>1 - (intOf i).toNat)
 case atStart=>exact⟨0,by omega,rfl,Below.refl _ _⟩
 case round =>
  obtain⟨k,hk,rfl,hbw⟩:=hrel;obtain⟨w3,rfl⟩:∃ w3:World,w3=wr:=⟨_,rfl⟩;rcases (by omega:k=0∨k=1) with rfl | rfl
  ·obtain⟨q0,q1,q2,q3,q4⟩:=haH.out;have r0:=(hbw.cell (p:=⟨X,0,none⟩) hX).trans q0;have r1:=(hbw.cell (p:=⟨X,1,none⟩) hX).trans q1;have r2:=(hbw.cell (p:=⟨X,2,none⟩) hX).trans q2;have r3:=(hbw.cell (p:=⟨X,3,none⟩) hX).trans q3;have r4:=(hbw.cell (p:=⟨X,4,none⟩) hX).trans q4;clear q0 q1 q2 q3 q4;go_wp2_with (fail);(with_reducible refine (hFa w3 ((hma.below hbw).more hbw.size)).out.mono ?_);rintro e w4 ⟨rfl,hb4⟩;go_wp2_with (fail);go_roundw
   case rel=>exact⟨1,by omega,by go_num,hbw.trans (hb4.mono hbw.size)⟩
   case measure=>simp[intOf]
  ·go_wp2_with (fail);go_ret;exact⟨rfl,hbw⟩
set_option maxHeartbeats 1000000 in
theorem few1_big0 (Pa Ma Na:Int)(mla:List Int)(na:Nat)(rowsa:Nat→List Int)(Aa Ra:Option Addr)(ca ka:Nat)(X:Nat)(w:World)(hma:RdM w w.heap.size Ra na rowsa)(hLa:na≤maxLen∧∀ i,i<na→(rowsa i).length≤maxLen)  (hX:X<w.heap.size)(hg:¬ na≤64)(ha0:(w.cell? ⟨X,0,none⟩=some (.int .i64 Pa)∧w.cell? ⟨X,1,none⟩=some (.int .i64 Ma)∧w.cell? ⟨X,2,none⟩=some (.slice Aa mla.length ca)∧w.cell? ⟨X,3,none⟩=some (.int .i64 Na)∧w.cell? ⟨X,4,none⟩=some (.slice Ra na ka))) :
  Calls Tryz.prog 8 #[.slice (some ⟨X,0,none⟩) 1 1] w fun e w'=>e=.returned (.bool false)∧Below w.heap.size w w':=by
 have _u:=hma;clear _u;have _u:=hLa;clear _u;have hg2:(64:Int)<(na:Int):=by omega
 clear hLa;have haH:=Lib.hid ha0;clear ha0;go_enter Tryz.func8,Tryz.ntmps8;go_wp2_with (fail);go_loopw [3] (fun i wr=>∃ k:Nat,k≤0∧i=.int .i64 k∧Below w.heap.size w wr) (fun i _=>1 - (intOf i).toNat)
 case atStart=>exact⟨0,by omega,rfl,Below.refl _ _⟩
 case round =>
  obtain⟨k,hk,rfl,hbw⟩:=hrel;obtain⟨w3,rfl⟩:∃ w3:World,w3=wr:=⟨_,rfl⟩;obtain rfl:k=0:=by omega
  ·obtain⟨q0,q1,q2,q3,q4⟩:=haH.out;have r0:=(hbw.cell (p:=⟨X,0,none⟩) hX).trans q0;have r1:=(hbw.cell (p:=⟨X,1,none⟩) hX).trans q1;have r2:=(hbw.cell (p:=⟨X,2,none⟩) hX).trans q2;have r3:=(hbw.cell (p:=⟨X,3,none⟩) hX).trans q3;have r4:=(hbw.cell (p:=⟨X,4,none⟩) hX).trans q4;clear q0 q1 q2 q3 q4;go_wp2_with (fail);go_ret;exact⟨rfl,hbw⟩
def fewAll2 (na:Nat)(rowsa:Nat→List Int)(nb:Nat)(rowsb:Nat→List Int):Bool:=fewC na rowsa&&fewC nb rowsb
set_option maxHeartbeats 1000000 in
theorem few2_yes (Pa Ma Na:Int)(mla:List Int)(na:Nat)(rowsa:Nat→List Int)(Aa Ra:Option Addr)(ca ka:Nat)(Pb Mb Nb:Int)(mlb:List Int)(nb:Nat)(rowsb:Nat→List Int)(Ab Rb:Option Addr)(cb kb:Nat)(X:Nat)(w:World)(hma:RdM w w.heap.size Ra na rowsa)(hmb:RdM w w.heap.size Rb nb rowsb)(hfa:fewC na rowsa=true)(hfb:fewC nb rowsb=true)(hX:X<w.heap.size)(ha0:(w.cell? ⟨X,0,none⟩=some (.int .i64 Pa)∧w.cell? ⟨X,1,none⟩=some (.int .i64 Ma)∧w.cell? ⟨X,2,none⟩=some (.slice Aa mla.length ca)∧w.cell? ⟨X,3,none⟩=some (.int .i64 Na)∧w.cell? ⟨X,4,none⟩=some (.slice Ra na ka)))(hb0:(w.cell? ⟨X,5,none⟩=some (.int .i64 Pb)∧w.cell? ⟨X,6,none⟩=some (.int .i64 Mb)∧w.cell? ⟨X,7,none⟩=some (.slice Ab mlb.length cb)∧w.cell? ⟨X,8,none⟩=some (.int .i64 Nb)∧w.cell? ⟨X,9,none⟩=some (.slice Rb nb kb))) :
  Calls Tryz.prog 8 #[.slice (some ⟨X,0,none⟩) 2 2] w fun e w'=>e=.returned (.bool true)∧Below w.heap.size w w':=by
 obtain⟨hna,hka⟩:=fewC_le hfa;have hFa:=fun W h=>Few12_any Pa Ma Na mla na rowsa Aa Ra ca ka W h (by unfold maxLen; omega) (fun i hi=>Nat.le_trans (hka i hi) (by unfold maxLen; omega))
 rw[fewC_m hfa]at hFa;replace hFa:=fun W h=>Lib.hid (hFa W h)
 replace hfa:=Lib.hid hfa;clear hka;obtain⟨hnb,hkb⟩:=fewC_le hfb;have hFb:=fun W h=>Few12_any Pb Mb Nb mlb nb rowsb Ab Rb cb kb W h (by unfold maxLen; omega) (fun i hi=>Nat.le_trans (hkb i hi) (by unfold maxLen; omega))
 rw[fewC_m hfb]at hFb;replace hFb:=fun W h=>Lib.hid (hFb W h)
 replace hfb:=Lib.hid hfb;clear hkb;have haH:=Lib.hid ha0;have hbH:=Lib.hid hb0;clear ha0 hb0;go_enter Tryz.func8,Tryz.ntmps8;go_wp2_with (fail);go_loopw [3] (fun i wr=>∃ k:Nat,k≤2∧i=.int .i64 k∧Below w.heap.size w wr) (fun i _=>2 - (intOf i).toNat)
 case atStart=>exact⟨0,by omega,rfl,Below.refl _ _⟩
 case round =>
  obtain⟨k,hk,rfl,hbw⟩:=hrel;obtain⟨w3,rfl⟩:∃ w3:World,w3=wr:=⟨_,rfl⟩;rcases (by omega:k=0∨k=1∨k=2) with rfl | rfl | rfl
  ·obtain⟨q0,q1,q2,q3,q4⟩:=haH.out;have r0:=(hbw.cell (p:=⟨X,0,none⟩) hX).trans q0;have r1:=(hbw.cell (p:=⟨X,1,none⟩) hX).trans q1;have r2:=(hbw.cell (p:=⟨X,2,none⟩) hX).trans q2;have r3:=(hbw.cell (p:=⟨X,3,none⟩) hX).trans q3;have r4:=(hbw.cell (p:=⟨X,4,none⟩) hX).trans q4;clear q0 q1 q2 q3 q4;go_wp2_with (fail);(with_reducible refine (hFa w3 ((hma.below hbw).more hbw.size)).out.mono ?_);rintro e w4 ⟨rfl,hb4⟩;go_wp2_with (fail);go_roundw
   case rel=>exact⟨1,by omega,by go_num,hbw.trans (hb4.mono hbw.size)⟩
   case measure=>simp[intOf]
  ·obtain⟨q0,q1,q2,q3,q4⟩:=hbH.out;have r0:=(hbw.cell (p:=⟨X,5,none⟩) hX).trans q0;have r1:=(hbw.cell (p:=⟨X,6,none⟩) hX).trans q1;have r2:=(hbw.cell (p:=⟨X,7,none⟩) hX).trans q2;have r3:=(hbw.cell (p:=⟨X,8,none⟩) hX).trans q3;have r4:=(hbw.cell (p:=⟨X,9,none⟩) hX).trans q4;clear q0 q1 q2 q3 q4;go_wp2_with (fail);(with_reducible refine (hFb w3 ((hmb.below hbw).more hbw.size)).out.mono ?_);rintro e w4 ⟨rfl,hb4⟩;go_wp2_with (fail);go_roundw
   case rel=>exact⟨2,by omega,by go_num,hbw.trans (hb4.mono hbw.size)⟩
   case measure=>simp[intOf]
  ·go_wp2_with (fail);go_ret;exact⟨rfl,hbw⟩
set_option maxHeartbeats 1000000 in
theorem few2_big0 (Pa Ma Na:Int)(mla:List Int)(na:Nat)(rowsa:Nat→List Int)(Aa Ra:Option Addr)(ca ka:Nat)(Pb Mb Nb:Int)(mlb:List Int)(nb:Nat)(rowsb:Nat→List Int)(Ab Rb:Option Addr)(cb kb:Nat)(X:Nat)(w:World)(hma:RdM w w.heap.size Ra na rowsa)(hmb:RdM w w.heap.size Rb nb rowsb)(hLa:na≤maxLen∧∀ i,i<na→(rowsa i).length≤maxLen)(hLb:nb≤maxLen∧∀ i,i<nb→(rowsb i).length≤maxLen)  (hX:X<w.heap.size)(hg:¬ na≤64)(ha0:(w.cell? ⟨X,0,none⟩=some (.int .i64 Pa)∧w.cell? ⟨X,1,none⟩=some (.int .i64 Ma)∧w.cell? ⟨X,2,none⟩=some (.slice Aa mla.length ca)∧w.cell? ⟨X,3,none⟩=some (.int .i64 Na)∧w.cell? ⟨X,4,none⟩=some (.slice Ra na ka)))(hb0:(w.cell? ⟨X,5,none⟩=some (.int .i64 Pb)∧w.cell? ⟨X,6,none⟩=some (.int .i64 Mb)∧w.cell? ⟨X,7,none⟩=some (.slice Ab mlb.length cb)∧w.cell? ⟨X,8,none⟩=some (.int .i64 Nb)∧w.cell? ⟨X,9,none⟩=some (.slice Rb nb kb))) :
  Calls Tryz.prog 8 #[.slice (some ⟨X,0,none⟩) 2 2] w fun e w'=>e=.returned (.bool false)∧Below w.heap.size w w':=by
 have _u:=hma;clear _u;have _u:=hLa;clear _u;have _u:=hmb;clear _u;have _u:=hLb;clear _u;have hg2:(64:Int)<(na:Int):=by omega
 clear hLa hLb;have haH:=Lib.hid ha0;have hbH:=Lib.hid hb0;clear ha0 hb0;go_enter Tryz.func8,Tryz.ntmps8;go_wp2_with (fail);go_loopw [3] (fun i wr=>∃ k:Nat,k≤0∧i=.int .i64 k∧Below w.heap.size w wr) (fun i _=>2 - (intOf i).toNat)
 case atStart=>exact⟨0,by omega,rfl,Below.refl _ _⟩
 case round =>
  obtain⟨k,hk,rfl,hbw⟩:=hrel;obtain⟨w3,rfl⟩:∃ w3:World,w3=wr:=⟨_,rfl⟩;obtain rfl:k=0:=by omega
  ·obtain⟨q0,q1,q2,q3,q4⟩:=haH.out;have r0:=(hbw.cell (p:=⟨X,0,none⟩) hX).trans q0;have r1:=(hbw.cell (p:=⟨X,1,none⟩) hX).trans q1;have r2:=(hbw.cell (p:=⟨X,2,none⟩) hX).trans q2;have r3:=(hbw.cell (p:=⟨X,3,none⟩) hX).trans q3;have r4:=(hbw.cell (p:=⟨X,4,none⟩) hX).trans q4;clear q0 q1 q2 q3 q4;go_wp2_with (fail);go_ret;exact⟨rfl,hbw⟩
set_option maxHeartbeats 1000000 in
theorem few2_no0 (Pa Ma Na:Int)(mla:List Int)(na:Nat)(rowsa:Nat→List Int)(Aa Ra:Option Addr)(ca ka:Nat)(Pb Mb Nb:Int)(mlb:List Int)(nb:Nat)(rowsb:Nat→List Int)(Ab Rb:Option Addr)(cb kb:Nat)(X:Nat)(w:World)(hma:RdM w w.heap.size Ra na rowsa)(hmb:RdM w w.heap.size Rb nb rowsb)(hLa:na≤maxLen∧∀ i,i<na→(rowsa i).length≤maxLen)(hLb:nb≤maxLen∧∀ i,i<nb→(rowsb i).length≤maxLen)  (hX:X<w.heap.size)(hg:na≤64)(hz:fewM na rowsa=false)(ha0:(w.cell? ⟨X,0,none⟩=some (.int .i64 Pa)∧w.cell? ⟨X,1,none⟩=some (.int .i64 Ma)∧w.cell? ⟨X,2,none⟩=some (.slice Aa mla.length ca)∧w.cell? ⟨X,3,none⟩=some (.int .i64 Na)∧w.cell? ⟨X,4,none⟩=some (.slice Ra na ka)))(hb0:(w.cell? ⟨X,5,none⟩=some (.int .i64 Pb)∧w.cell? ⟨X,6,none⟩=some (.int .i64 Mb)∧w.cell? ⟨X,7,none⟩=some (.slice Ab mlb.length cb)∧w.cell? ⟨X,8,none⟩=some (.int .i64 Nb)∧w.cell? ⟨X,9,none⟩=some (.slice Rb nb kb))) :
  Calls Tryz.prog 8 #[.slice (some ⟨X,0,none⟩) 2 2] w fun e w'=>e=.returned (.bool false)∧Below w.heap.size w w':=by
 have _u:=hma;clear _u;have _u:=hLa;clear _u;have _u:=hmb;clear _u;have _u:=hLb;clear _u;have hg2:¬ (64:Int)<(na:Int):=by omega
 have hFa:=fun W h=>Few12_any Pa Ma Na mla na rowsa Aa Ra ca ka W h hLa.1 hLa.2
 rw[hz]at hFa;replace hFa:=fun W h=>Lib.hid (hFa W h)
 replace hz:=Lib.hid hz;clear hLa hLb;have haH:=Lib.hid ha0;have hbH:=Lib.hid hb0;clear ha0 hb0;go_enter Tryz.func8,Tryz.ntmps8;go_wp2_with (fail);go_loopw [3] (fun i wr=>∃ k:Nat,k≤0∧i=.int .i64 k∧Below w.heap.size w wr) (fun i _=>2 - (intOf i).toNat)
 case atStart=>exact⟨0,by omega,rfl,Below.refl _ _⟩
 case round =>
  obtain⟨k,hk,rfl,hbw⟩:=hrel;obtain⟨w3,rfl⟩:∃ w3:World,w3=wr:=⟨_,rfl⟩;obtain rfl:k=0:=by omega
  ·obtain⟨q0,q1,q2,q3,q4⟩:=haH.out;have r0:=(hbw.cell (p:=⟨X,0,none⟩) hX).trans q0;have r1:=(hbw.cell (p:=⟨X,1,none⟩) hX).trans q1;have r2:=(hbw.cell (p:=⟨X,2,none⟩) hX).trans q2;have r3:=(hbw.cell (p:=⟨X,3,none⟩) hX).trans q3;have r4:=(hbw.cell (p:=⟨X,4,none⟩) hX).trans q4;clear q0 q1 q2 q3 q4;go_wp2_with (fail);(with_reducible refine (hFa w3 ((hma.below hbw).more hbw.size)).out.mono ?_);rintro e w4 ⟨rfl,hb4⟩;go_wp2_with (fail);go_ret;exact⟨rfl,hbw.trans (hb4.mono hbw.size)⟩
set_option maxHeartbeats 1000000 in
theorem few2_big1 (Pa Ma Na:Int)(mla:List Int)(na:Nat)(rowsa:Nat→List Int)(Aa Ra:Option Addr)(ca ka:Nat)(Pb Mb Nb:Int)(mlb:List Int)(nb:Nat)(rowsb:Nat→List Int)(Ab Rb:Option Addr)(cb kb:Nat)(X:Nat)(w:World)(hma:RdM w w.heap.size Ra na rowsa)(hmb:RdM w w.heap.size Rb nb rowsb)(hLa:na≤maxLen∧∀ i,i<na→(rowsa i).length≤maxLen)(hLb:nb≤maxLen∧∀ i,i<nb→(rowsb i).length≤maxLen)(hfa:fewC na rowsa=true)(hX:X<w.heap.size)(hg:¬ nb≤64)(ha0:(w.cell? ⟨X,0,none⟩=some (.int .i64 Pa)∧w.cell? ⟨X,1,none⟩=some (.int .i64 Ma)∧w.cell? ⟨X,2,none⟩=some (.slice Aa mla.length ca)∧w.cell? ⟨X,3,none⟩=some (.int .i64 Na)∧w.cell? ⟨X,4,none⟩=some (.slice Ra na ka)))(hb0:(w.cell? ⟨X,5,none⟩=some (.int .i64 Pb)∧w.cell? ⟨X,6,none⟩=some (.int .i64 Mb)∧w.cell? ⟨X,7,none⟩=some (.slice Ab mlb.length cb)∧w.cell? ⟨X,8,none⟩=some (.int .i64 Nb)∧w.cell? ⟨X,9,none⟩=some (.slice Rb nb kb))) :
  Calls Tryz.prog 8 #[.slice (some ⟨X,0,none⟩) 2 2] w fun e w'=>e=.returned (.bool false)∧Below w.heap.size w w':=by
 have _u:=hma;clear _u;have _u:=hLa;clear _u;have _u:=hmb;clear _u;have _u:=hLb;clear _u;obtain⟨hna,hka⟩:=fewC_le hfa;have hFa:=fun W h=>Few12_any Pa Ma Na mla na rowsa Aa Ra ca ka W h (by unfold maxLen; omega) (fun i hi=>Nat.le_trans (hka i hi) (by unfold maxLen; omega))
 rw[fewC_m hfa]at hFa;replace hFa:=fun W h=>Lib.hid (hFa W h)
 replace hfa:=Lib.hid hfa;clear hka;have hg2:(64:Int)<(nb:Int):=by omega
 clear hLa hLb;have haH:=Lib.hid ha0;have hbH:=Lib.hid hb0;clear ha0 hb0;go_enter Tryz.func8,Tryz.ntmps8;go_wp2_with (fail);go_loopw [3] (fun i wr=>∃ k:Nat,k≤1∧i=.int .i64 k∧Below w.heap.size w wr) (fun i _=>2 - (intOf i).toNat)
 case atStart=>exact⟨0,by omega,rfl,Below.refl _ _⟩
 case round =>
  obtain⟨k,hk,rfl,hbw⟩:=hrel;obtain⟨w3,rfl⟩:∃ w3:World,w3=wr:=⟨_,rfl⟩;rcases (by omega:k=0∨k=1) with rfl | rfl
  ·obtain⟨q0,q1,q2,q3,q4⟩:=haH.out;have r0:=(hbw.cell (p:=⟨X,0,none⟩) hX).trans q0;have r1:=(hbw.cell (p:=⟨X,1,none⟩) hX).trans q1;have r2:=(hbw.cell (p:=⟨X,2,none⟩) hX).trans q2;have r3:=(hbw.cell (p:=⟨X,3,none⟩) hX).trans q3;have r4:=(hbw.cell (p:=⟨X,4,none⟩) hX).trans q4;clear q0 q1 q2 q3 q4;go_wp2_with (fail);(with_reducible refine (hFa w3 ((hma.below hbw).more hbw.size)).out.mono ?_);rintro e w4 ⟨rfl,hb4⟩;go_wp2_with (fail);go_roundw
   case rel=>exact⟨1,by omega,by go_num,hbw.trans (hb4.mono hbw.size)⟩
   case measure=>simp[intOf]
  ·obtain⟨q0,q1,q2,q3,q4⟩:=hbH.out;have r0:=(hbw.cell (p:=⟨X,5,none⟩) hX).trans q0;have r1:=(hbw.cell (p:=⟨X,6,none⟩) hX).trans q1;have r2:=(hbw.cell (p:=⟨X,7,none⟩) hX).trans q2;have r3:=(hbw.cell (p:=⟨X,8,none⟩) hX).trans q3;have r4:=(hbw.cell (p:=⟨X,9,none⟩) hX).trans q4;clear q0 q1 q2 q3 q4;go_wp2_with (fail);go_ret;exact⟨rfl,hbw⟩
set_option maxHeartbeats 1000000 in
theorem few2_no1 (Pa Ma Na:Int)(mla:List Int)(na:Nat)(rowsa:Nat→List Int)(Aa Ra:Option Addr)(ca ka:Nat)(Pb Mb Nb:Int)(mlb:List Int)(nb:Nat)(rowsb:Nat→List Int)(Ab Rb:Option Addr)(cb kb:Nat)(X:Nat)(w:World)(hma:RdM w w.heap.size Ra na rowsa)(hmb:RdM w w.heap.size Rb nb rowsb)(hLa:na≤maxLen∧∀ i,i<na→(rowsa i).length≤maxLen)(hLb:nb≤maxLen∧∀ i,i<nb→(rowsb i).length≤maxLen)(hfa:fewC na rowsa=true)(hX:X<w.heap.size)(hg:nb≤64)(hz:fewM nb rowsb=false)(ha0:(w.cell? ⟨X,0,none⟩=some (.int .i64 Pa)∧w.cell? ⟨X,1,none⟩=some (.int .i64 Ma)∧w.cell? ⟨X,2,none⟩=some (.slice Aa mla.length ca)∧w.cell? ⟨X,3,none⟩=some (.int .i64 Na)∧w.cell? ⟨X,4,none⟩=some (.slice Ra na ka)))(hb0:(w.cell? ⟨X,5,none⟩=some (.int .i64 Pb)∧w.cell? ⟨X,6,none⟩=some (.int .i64 Mb)∧w.cell? ⟨X,7,none⟩=some (.slice Ab mlb.length cb)∧w.cell? ⟨X,8,none⟩=some (.int .i64 Nb)∧w.cell? ⟨X,9,none⟩=some (.slice Rb nb kb))) :
  Calls Tryz.prog 8 #[.slice (some ⟨X,0,none⟩) 2 2] w fun e w'=>e=.returned (.bool false)∧Below w.heap.size w w':=by
 have _u:=hma;clear _u;have _u:=hLa;clear _u;have _u:=hmb;clear _u;have _u:=hLb;clear _u;obtain⟨hna,hka⟩:=fewC_le hfa;have hFa:=fun W h=>Few12_any Pa Ma Na mla na rowsa Aa Ra ca ka W h (by unfold maxLen; omega) (fun i hi=>Nat.le_trans (hka i hi) (by unfold maxLen; omega))
 rw[fewC_m hfa]at hFa;replace hFa:=fun W h=>Lib.hid (hFa W h)
 replace hfa:=Lib.hid hfa;clear hka;have hg2:¬ (64:Int)<(nb:Int):=by omega
 have hFb:=fun W h=>Few12_any Pb Mb Nb mlb nb rowsb Ab Rb cb kb W h hLb.1 hLb.2
 rw[hz]at hFb;replace hFb:=fun W h=>Lib.hid (hFb W h)
 replace hz:=Lib.hid hz;clear hLa hLb;have haH:=Lib.hid ha0;have hbH:=Lib.hid hb0;clear ha0 hb0;go_enter Tryz.func8,Tryz.ntmps8;go_wp2_with (fail);go_loopw [3] (fun i wr=>∃ k:Nat,k≤1∧i=.int .i64 k∧Below w.heap.size w wr) (fun i _=>2 - (intOf i).toNat)
 case atStart=>exact⟨0,by omega,rfl,Below.refl _ _⟩
 case round =>
  obtain⟨k,hk,rfl,hbw⟩:=hrel;obtain⟨w3,rfl⟩:∃ w3:World,w3=wr:=⟨_,rfl⟩;rcases (by omega:k=0∨k=1) with rfl | rfl
  ·obtain⟨q0,q1,q2,q3,q4⟩:=haH.out;have r0:=(hbw.cell (p:=⟨X,0,none⟩) hX).trans q0;have r1:=(hbw.cell (p:=⟨X,1,none⟩) hX).trans q1;have r2:=(hbw.cell (p:=⟨X,2,none⟩) hX).trans q2;have r3:=(hbw.cell (p:=⟨X,3,none⟩) hX).trans q3;have r4:=(hbw.cell (p:=⟨X,4,none⟩) hX).trans q4;clear q0 q1 q2 q3 q4;go_wp2_with (fail);(with_reducible refine (hFa w3 ((hma.below hbw).more hbw.size)).out.mono ?_);rintro e w4 ⟨rfl,hb4⟩;go_wp2_with (fail);go_roundw
   case rel=>exact⟨1,by omega,by go_num,hbw.trans (hb4.mono hbw.size)⟩
   case measure=>simp[intOf]
  ·obtain⟨q0,q1,q2,q3,q4⟩:=hbH.out;have r0:=(hbw.cell (p:=⟨X,5,none⟩) hX).trans q0;have r1:=(hbw.cell (p:=⟨X,6,none⟩) hX).trans q1;have r2:=(hbw.cell (p:=⟨X,7,none⟩) hX).trans q2;have r3:=(hbw.cell (p:=⟨X,8,none⟩) hX).trans q3;have r4:=(hbw.cell (p:=⟨X,9,none⟩) hX).trans q4;clear q0 q1 q2 q3 q4;go_wp2_with (fail);(with_reducible refine (hFb w3 ((hmb.below hbw).more hbw.size)).out.mono ?_);rintro e w4 ⟨rfl,hb4⟩;go_wp2_with (fail);go_ret;exact⟨rfl,hbw.trans (hb4.mono hbw.size)⟩
theorem few2_any (Pa Ma Na:Int)(mla:List Int)(na:Nat)(rowsa:Nat→List Int)(Aa Ra:Option Addr)(ca ka:Nat)(Pb Mb Nb:Int)(mlb:List Int)(nb:Nat)(rowsb:Nat→List Int)(Ab Rb:Option Addr)(cb kb:Nat)(X:Nat)(w:World)(hma:RdM w w.heap.size Ra na rowsa)(hmb:RdM w w.heap.size Rb nb rowsb)(hLa:na≤maxLen∧∀ i,i<na→(rowsa i).length≤maxLen)(hLb:nb≤maxLen∧∀ i,i<nb→(rowsb i).length≤maxLen)(hX:X<w.heap.size)(ha0:(w.cell? ⟨X,0,none⟩=some (.int .i64 Pa)∧w.cell? ⟨X,1,none⟩=some (.int .i64 Ma)∧w.cell? ⟨X,2,none⟩=some (.slice Aa mla.length ca)∧w.cell? ⟨X,3,none⟩=some (.int .i64 Na)∧w.cell? ⟨X,4,none⟩=some (.slice Ra na ka)))(hb0:(w.cell? ⟨X,5,none⟩=some (.int .i64 Pb)∧w.cell? ⟨X,6,none⟩=some (.int .i64 Mb)∧w.cell? ⟨X,7,none⟩=some (.slice Ab mlb.length cb)∧w.cell? ⟨X,8,none⟩=some (.int .i64 Nb)∧w.cell? ⟨X,9,none⟩=some (.slice Rb nb kb))) :
  Calls Tryz.prog 8 #[.slice (some ⟨X,0,none⟩) 2 2] w fun e w'=>e=.returned (.bool (fewAll2 na rowsa nb rowsb))∧Below w.heap.size w w':=by
 by_cases hfa:fewC na rowsa=true;rotate_left
 ·rw[show fewAll2 na rowsa nb rowsb=false from by unfold fewAll2; simp[hfa]];by_cases hg:na≤64
  ·exact few2_no0 Pa Ma Na mla na rowsa Aa Ra ca ka Pb Mb Nb mlb nb rowsb Ab Rb cb kb X w hma hmb hLa hLb  hX hg (fewC_f hg hfa) ha0 hb0
  ·exact few2_big0 Pa Ma Na mla na rowsa Aa Ra ca ka Pb Mb Nb mlb nb rowsb Ab Rb cb kb X w hma hmb hLa hLb  hX hg ha0 hb0
 by_cases hfb:fewC nb rowsb=true;rotate_left
 ·rw[show fewAll2 na rowsa nb rowsb=false from by unfold fewAll2; simp[hfb]];by_cases hg:nb≤64
  ·exact few2_no1 Pa Ma Na mla na rowsa Aa Ra ca ka Pb Mb Nb mlb nb rowsb Ab Rb cb kb X w hma hmb hLa hLb hfa hX hg (fewC_f hg hfb) ha0 hb0
  ·exact few2_big1 Pa Ma Na mla na rowsa Aa Ra ca ka Pb Mb Nb mlb nb rowsb Ab Rb cb kb X w hma hmb hLa hLb hfa hX hg ha0 hb0
 rw[show fewAll2 na rowsa nb rowsb=true from by unfold fewAll2; simp[hfa,hfb]];exact few2_yes Pa Ma Na mla na rowsa Aa Ra ca ka Pb Mb Nb mlb nb rowsb Ab Rb cb kb X w hma hmb hfa hfb hX ha0 hb0

end
end Go.Proofs.YtogfekjbpcfgmaaGreat

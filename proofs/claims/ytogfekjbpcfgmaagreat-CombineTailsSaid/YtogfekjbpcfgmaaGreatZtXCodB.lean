/- Equal lists and equal rows: slices.Equal and slices.EqualFunc, the reference's SameInts and SameRows, for any lists. -/
import Derived.Deep.RegionHeld3
import Derived.Test.YtogfekjbpcfgmaaGreatZtXArgC
import Derived.Test.YtogfekjbpcfgmaaGreatZtXTk
namespace Go.Proofs.YtogfekjbpcfgmaaGreat
open Go.RowKit Cw
attribute [local go_sem] Oper.semAt_some

def eqL (a b:List Int):Bool:=decide (a=b)
theorem eqL_of {l1 l2:List Int} {n:Nat} (h1:l1.length=n)(h2:l2.length=n)(h:∀ j,j<n→l1[j]?.getD 0=l2[j]?.getD 0):eqL l1 l2=true:=by
 refine decide_eq_true (List.ext_getElem? fun j=>?_);by_cases hj:j<n
 ·have h3:=h j hj;rw[List.getElem?_eq_getElem (by omega),List.getElem?_eq_getElem (by omega)]at h3 ⊢;rw[Option.getD_some,Option.getD_some]at h3;rw[h3]
 ·rw[List.getElem?_eq_none (by omega),List.getElem?_eq_none (by omega)]
theorem eqL_no {l1 l2:List Int} {j:Nat} (h:l1[j]?.getD 0≠l2[j]?.getD 0):eqL l1 l2=false:=decide_eq_false fun e=>h (by rw[e])
theorem eqL_len {l1 l2:List Int} (h:l1.length≠l2.length):eqL l1 l2=false:=decide_eq_false fun e=>h (by rw[e])
theorem eqL_iff {l1 l2:List Int}:eqL l1 l2=true↔l1=l2:=decide_eq_true_iff
open Classical in
noncomputable def eqR (n1 n2:Nat)(r1 r2:Nat→List Int):Bool:=decide (n1=n2∧∀ i,i<n1→r1 i=r2 i)
theorem eqR_of {n:Nat} {r1 r2:Nat→List Int} (h:∀ i,i<n→eqL (r1 i) (r2 i)=true):eqR n n r1 r2=true:=decide_eq_true ⟨rfl,fun i hi=>eqL_iff.1 (h i hi)⟩
theorem eqR_no {n1 n2:Nat} {r1 r2:Nat→List Int} {i:Nat} (hi:i<n1)(h:eqL (r1 i) (r2 i)=false):eqR n1 n2 r1 r2=false :=
 decide_eq_false fun e=>by rw[eqL_iff.2 (e.2 i hi)]at h; cases h
theorem eqR_len {n1 n2:Nat} {r1 r2:Nat→List Int} (h:n1≠n2):eqR n1 n2 r1 r2=false:=decide_eq_false fun e=>h e.1
theorem eqR_iff {n1 n2:Nat} {r1 r2:Nat→List Int}:eqR n1 n2 r1 r2=true↔n1=n2∧∀ i,i<n1→r1 i=r2 i:=decide_eq_true_iff

set_option maxHeartbeats 1000000 in
theorem slEq_len (l1 l2:List Int)(A1 A2:Option Addr)(c1 c2:Nat)(w:World)(h:l1.length≠l2.length) :
  Calls Tryz.prog 209 #[.slice A1 l1.length c1,.slice A2 l2.length c2] w fun e w'=>e=.returned (.bool (eqL l1 l2))∧Below w.heap.size w w':=by
 have hb:((l1.length:Int) !=(l2.length:Int))=true:=by rw[bne_iff_ne]; omega
 have hb2:(l1.length !=l2.length)=true:=by rw[bne_iff_ne]; exact h
 rw[eqL_len h];replace h:=Lib.hid h;go_enter Tryz.func209,Tryz.ntmps209;go_wp2_with (fail);go_ret;exact⟨rfl,Below.refl _ _⟩
set_option maxHeartbeats 1000000 in
theorem slEq_n (n:Nat)(l1 l2:List Int)(A1 A2:Option Addr)(c1 c2:Nat)(w:World)(h1:Rd w w.heap.size A1 l1)(h2:Rd w w.heap.size A2 l2)(hn1:l1.length=n)(hn2:l2.length=n)(hl:n≤1000000) :
  Calls Tryz.prog 209 #[.slice A1 n c1,.slice A2 n c2] w fun e w'=>e=.returned (.bool (eqL l1 l2))∧Below w.heap.size w w':=by
 have hbz:((n:Int) !=(n:Int))=false:=by simp
 have hbz2:(n !=n)=false:=by simp
 replace hn1:=Lib.hid hn1;replace hn2:=Lib.hid hn2;go_enter Tryz.func209,Tryz.ntmps209;go_wp2_with (fail);go_loopw [13,5] (fun i _ wr=>∃ k:Nat,k≤n∧i=.int .i64 k∧(∀ j,j<k→l1[j]?.getD 0=l2[j]?.getD 0)∧Below w.heap.size w wr) (fun i _ _=>n - (intOf i).toNat)
 case atStart=>exact⟨0,by omega,rfl,fun j hj=>absurd hj (Nat.not_lt_zero _),Below.refl _ _⟩
 case round =>
  obtain⟨k,hk,rfl,hin,hbw⟩:=hrel;obtain⟨w2,rfl⟩:∃ w2:World,w2=wr:=⟨_,rfl⟩;by_cases hlt:k<n
  ·obtain⟨b1,o1,rfl,hb1,hc1⟩:=h1.at_ (by rw[hn1.out]; exact hlt);obtain⟨b2,o2,rfl,hb2,hc2⟩:=h2.at_ (by rw[hn2.out]; exact hlt);have hd1:=(hbw.cell (p:=⟨b1,o1+k,none⟩) hb1).trans hc1;have hd2:=(hbw.cell (p:=⟨b2,o2+k,none⟩) hb2).trans hc2;obtain⟨y1,hy1⟩:∃ y,y=l1[k]?.getD 0:=⟨_,rfl⟩;obtain⟨y2,hy2⟩:∃ y,y=l2[k]?.getD 0:=⟨_,rfl⟩;rw[←hy1]at hd1;rw[←hy2]at hd2;by_cases hq:y1=y2
   ·have hz:(y1 !=y2)=false:=by rw[bne_eq_false_iff_eq]; exact hq
    have hin2:Hid (∀ j,j<k+1→l1[j]?.getD 0=l2[j]?.getD 0):=fun j hj=>by
     by_cases e:j=k
     ·rw[e,←hy1,←hy2]; exact hq
     ·exact hin j (by omega)
    clear hc1 hc2 hy1 hy2 hin hq;go_wp2_with (fail);go_quiet (fail);go_wp2_with (fail);go_roundw
    case rel=>exact⟨k+1,by omega,by go_num,hin2.out,⟨hbw.os,hbw.tape,hbw.output,hbw.size,hbw.block⟩⟩
    case measure=>simp[intOf]; omega
   ·have hz:(y1 !=y2)=true:=by rw[bne_iff_ne]; exact hq
    have he:Hid (eqL l1 l2=false):=eqL_no (j:=k) (by rw[←hy1,←hy2]; exact hq);clear hc1 hc2 hy1 hy2 hin hq;go_wp2_with (fail);go_quiet (fail);go_wp2_with (fail);go_ret;exact⟨by rw[he.out]; rfl,⟨hbw.os,hbw.tape,hbw.output,hbw.size,hbw.block⟩⟩
  ·obtain rfl:k=n:=by omega
   have he:Hid (eqL l1 l2=true):=eqL_of hn1.out hn2.out hin;clear hin;go_wp2_with (fail);go_ret;exact⟨by rw[he.out]; rfl,hbw⟩
theorem slEq_any (l1 l2:List Int)(A1 A2:Option Addr)(c1 c2:Nat)(w:World)(h1:Rd w w.heap.size A1 l1)(h2:Rd w w.heap.size A2 l2)(hl:l1.length≤1000000) :
  Calls Tryz.prog 209 #[.slice A1 l1.length c1,.slice A2 l2.length c2] w fun e w'=>e=.returned (.bool (eqL l1 l2))∧Below w.heap.size w w':=by
 by_cases h:l1.length=l2.length
 ·have h3:=slEq_n l1.length l1 l2 A1 A2 c1 c2 w h1 h2 rfl h.symm hl;rw[←h];exact h3
 ·exact slEq_len l1 l2 A1 A2 c1 c2 w h

set_option maxHeartbeats 1000000 in
theorem SameInts_len (l1 l2:List Int)(A1 A2:Option Addr)(c1 c2:Nat)(w:World)(h:l1.length≠l2.length) :
  Calls Tryz.prog 160 #[.slice A1 l1.length c1,.slice A2 l2.length c2] w fun e w'=>e=.returned (.bool (eqL l1 l2))∧Below w.heap.size w w':=by
 have hb:((l1.length:Int) !=(l2.length:Int))=true:=by rw[bne_iff_ne]; omega
 have hb2:(l1.length !=l2.length)=true:=by rw[bne_iff_ne]; exact h
 rw[eqL_len h];replace h:=Lib.hid h;go_enter Tryz.func160,Tryz.ntmps160;go_wp2_with (fail);go_ret;exact⟨rfl,Below.refl _ _⟩
set_option maxHeartbeats 1000000 in
theorem SameInts_n (n:Nat)(l1 l2:List Int)(A1 A2:Option Addr)(c1 c2:Nat)(w:World)(h1:Rd w w.heap.size A1 l1)(h2:Rd w w.heap.size A2 l2)(hn1:l1.length=n)(hn2:l2.length=n)(hl:n≤1000000) :
  Calls Tryz.prog 160 #[.slice A1 n c1,.slice A2 n c2] w fun e w'=>e=.returned (.bool (eqL l1 l2))∧Below w.heap.size w w':=by
 have hbz:((n:Int) !=(n:Int))=false:=by simp
 have hbz2:(n !=n)=false:=by simp
 replace hn1:=Lib.hid hn1;replace hn2:=Lib.hid hn2;go_enter Tryz.func160,Tryz.ntmps160;go_wp2_with (fail);go_loopw [5] (fun i  wr=>∃ k:Nat,k≤n∧i=.int .i64 k∧(∀ j,j<k→l1[j]?.getD 0=l2[j]?.getD 0)∧Below w.heap.size w wr) (fun i  _=>n - (intOf i).toNat)
 case atStart=>exact⟨0,by omega,rfl,fun j hj=>absurd hj (Nat.not_lt_zero _),Below.refl _ _⟩
 case round =>
  obtain⟨k,hk,rfl,hin,hbw⟩:=hrel;obtain⟨w2,rfl⟩:∃ w2:World,w2=wr:=⟨_,rfl⟩;by_cases hlt:k<n
  ·obtain⟨b1,o1,rfl,hb1,hc1⟩:=h1.at_ (by rw[hn1.out]; exact hlt);obtain⟨b2,o2,rfl,hb2,hc2⟩:=h2.at_ (by rw[hn2.out]; exact hlt);have hd1:=(hbw.cell (p:=⟨b1,o1+k,none⟩) hb1).trans hc1;have hd2:=(hbw.cell (p:=⟨b2,o2+k,none⟩) hb2).trans hc2;obtain⟨y1,hy1⟩:∃ y,y=l1[k]?.getD 0:=⟨_,rfl⟩;obtain⟨y2,hy2⟩:∃ y,y=l2[k]?.getD 0:=⟨_,rfl⟩;rw[←hy1]at hd1;rw[←hy2]at hd2;by_cases hq:y1=y2
   ·have hz:(y1 !=y2)=false:=by rw[bne_eq_false_iff_eq]; exact hq
    have hin2:Hid (∀ j,j<k+1→l1[j]?.getD 0=l2[j]?.getD 0):=fun j hj=>by
     by_cases e:j=k
     ·rw[e,←hy1,←hy2]; exact hq
     ·exact hin j (by omega)
    clear hc1 hc2 hy1 hy2 hin hq;go_wp2_with (fail);go_quiet (fail);go_wp2_with (fail);go_roundw
    case rel=>exact⟨k+1,by omega,by go_num,hin2.out,⟨hbw.os,hbw.tape,hbw.output,hbw.size,hbw.block⟩⟩
    case measure=>simp[intOf]; omega
   ·have hz:(y1 !=y2)=true:=by rw[bne_iff_ne]; exact hq
    have he:Hid (eqL l1 l2=false):=eqL_no (j:=k) (by rw[←hy1,←hy2]; exact hq);clear hc1 hc2 hy1 hy2 hin hq;go_wp2_with (fail);go_quiet (fail);go_wp2_with (fail);go_ret;exact⟨by rw[he.out]; rfl,⟨hbw.os,hbw.tape,hbw.output,hbw.size,hbw.block⟩⟩
  ·obtain rfl:k=n:=by omega
   have he:Hid (eqL l1 l2=true):=eqL_of hn1.out hn2.out hin;clear hin;go_wp2_with (fail);go_ret;exact⟨by rw[he.out]; rfl,hbw⟩
theorem SameInts_any (l1 l2:List Int)(A1 A2:Option Addr)(c1 c2:Nat)(w:World)(h1:Rd w w.heap.size A1 l1)(h2:Rd w w.heap.size A2 l2)(hl:l1.length≤1000000) :
  Calls Tryz.prog 160 #[.slice A1 l1.length c1,.slice A2 l2.length c2] w fun e w'=>e=.returned (.bool (eqL l1 l2))∧Below w.heap.size w w':=by
 by_cases h:l1.length=l2.length
 ·have h3:=SameInts_n l1.length l1 l2 A1 A2 c1 c2 w h1 h2 rfl h.symm hl;rw[←h];exact h3
 ·exact SameInts_len l1 l2 A1 A2 c1 c2 w h

set_option maxHeartbeats 1000000 in
theorem slEqF_len (n1 n2:Nat)(r1 r2:Nat→List Int)(A1 A2:Option Addr)(c1 c2:Nat)(w:World)(h:n1≠n2) :
  Calls Tryz.prog 208 #[.slice A1 n1 c1,.slice A2 n2 c2,.func (.func 209) #[] #[]] w fun e w'=>e=.returned (.bool (eqR n1 n2 r1 r2))∧Below w.heap.size w w':=by
 have hb:((n1:Int) !=(n2:Int))=true:=by rw[bne_iff_ne]; omega
 have hb2:(n1 !=n2)=true:=by rw[bne_iff_ne]; exact h
 rw[eqR_len h];replace h:=Lib.hid h;go_enter Tryz.func208,Tryz.ntmps208;go_wp2_with (fail);go_ret;exact⟨rfl,Below.refl _ _⟩
set_option maxHeartbeats 2000000 in
theorem slEqF_n (n:Nat)(r1 r2:Nat→List Int)(A1 A2:Option Addr)(c1 c2:Nat)(w:World)(h1:RdM w w.heap.size A1 n r1)(h2:RdM w w.heap.size A2 n r2)(hn:n≤1000000)(hl:∀ i,i<n→(r1 i).length≤1000000) :
  Calls Tryz.prog 208 #[.slice A1 n c1,.slice A2 n c2,.func (.func 209) #[] #[]] w fun e w'=>e=.returned (.bool (eqR n n r1 r2))∧Below w.heap.size w w':=by
 have hS:=fun i hi B1 B2 d1 d2 W a b=>slEq_any (r1 i) (r2 i) B1 B2 d1 d2 W a b (hl i hi)
 have hbz:((n:Int) !=(n:Int))=false:=by simp
 have hbz2:(n !=n)=false:=by simp
 go_enter Tryz.func208,Tryz.ntmps208;go_wp2_with (fail);go_loopw [17,7,8,9] (fun i _ _ _ wr=>∃ k:Nat,k≤n∧i=.int .i64 k∧(∀ j,j<k→eqL (r1 j) (r2 j)=true)∧Below w.heap.size w wr) (fun i _ _ _ _=>n - (intOf i).toNat)
 case atStart=>exact⟨0,by omega,rfl,fun j hj=>absurd hj (Nat.not_lt_zero _),Below.refl _ _⟩
 case round =>
  obtain⟨k,hk,rfl,hin,hbw⟩:=hrel;obtain⟨w2,rfl⟩:∃ w2:World,w2=wr:=⟨_,rfl⟩;by_cases hlt:k<n
  ·have hk0:(0:Int)≤(k:Int):=by omega
   have hk1:(k:Int)<(n:Int):=by omega
   obtain⟨b1,o1,B1,d1,rfl,hb1,hc1,hr1,-,-⟩:=h1.at_ hlt;obtain⟨b2,o2,B2,d2,rfl,hb2,hc2,hr2,-,-⟩:=h2.at_ hlt;have hd1:=(hbw.cell (p:=⟨b1,o1+k,none⟩) hb1).trans hc1;have hd2:=(hbw.cell (p:=⟨b2,o2+k,none⟩) hb2).trans hc2;have kk:=Lib.hid (show _∧_ from ⟨hd1,hd2⟩);have hb13:b1<w2.heap.size:=Nat.lt_of_lt_of_le hb1 hbw.size;have hb23:b2<w2.heap.size:=Nat.lt_of_lt_of_le hb2 hbw.size;have hS2:=hS k hlt B1 B2 d1 d2 w2 ((hr1.below hbw).more hbw.size) ((hr2.below hbw).more hbw.size);clear hc1 hc2;by_cases hq:eqL (r1 k) (r2 k)=true
   ·rw[hq]at hS2;replace hS2:=Lib.hid hS2;have hin2:Hid (∀ j,j<k+1→eqL (r1 j) (r2 j)=true):=fun j hj=>by
     by_cases e:j=k
     ·rw[e]; exact hq
     ·exact hin j (by omega)
    clear hin hq hS;go_wp2_with (fail);(with_reducible refine hS2.out.mono ?_);rintro e w4 ⟨rfl,hb4⟩;go_wp2_with (fail);go_roundw
    case rel=>exact⟨k+1,by omega,by go_num,hin2.out,hbw.trans (hb4.mono hbw.size)⟩
    case measure=>simp[intOf]; omega
   ·have hq2:eqL (r1 k) (r2 k)=false:=by simpa using hq
    rw[hq2]at hS2;have he:Hid (eqR n n r1 r2=false):=eqR_no hlt hq2;replace hS2:=Lib.hid hS2;clear hin hq hq2 hS;go_wp2_with (fail);(with_reducible refine hS2.out.mono ?_);rintro e w4 ⟨rfl,hb4⟩;go_wp2_with (fail);go_ret;exact⟨by rw[he.out]; rfl,hbw.trans (hb4.mono hbw.size)⟩
  ·obtain rfl:k=n:=by omega
   have he:Hid (eqR k k r1 r2=true):=eqR_of hin;clear hin hS;go_wp2_with (fail);go_ret;exact⟨by rw[he.out]; rfl,hbw⟩
theorem slEqF_any (n1 n2:Nat)(r1 r2:Nat→List Int)(A1 A2:Option Addr)(c1 c2:Nat)(w:World)(h1:RdM w w.heap.size A1 n1 r1)(h2:RdM w w.heap.size A2 n2 r2)(hn:n1≤1000000)(hl:∀ i,i<n1→(r1 i).length≤1000000) :
  Calls Tryz.prog 208 #[.slice A1 n1 c1,.slice A2 n2 c2,.func (.func 209) #[] #[]] w fun e w'=>e=.returned (.bool (eqR n1 n2 r1 r2))∧Below w.heap.size w w':=by
 by_cases h:n1=n2
 ·subst h;exact slEqF_n n1 r1 r2 A1 A2 c1 c2 w h1 h2 hn hl
 ·exact slEqF_len n1 n2 r1 r2 A1 A2 c1 c2 w h

set_option maxHeartbeats 1000000 in
theorem SameRows_len (n1 n2:Nat)(r1 r2:Nat→List Int)(A1 A2:Option Addr)(c1 c2:Nat)(w:World)(h:n1≠n2) :
  Calls Tryz.prog 104 #[.slice A1 n1 c1,.slice A2 n2 c2] w fun e w'=>e=.returned (.bool (eqR n1 n2 r1 r2))∧Below w.heap.size w w':=by
 have hb:((n1:Int) !=(n2:Int))=true:=by rw[bne_iff_ne]; omega
 have hb2:(n1 !=n2)=true:=by rw[bne_iff_ne]; exact h
 rw[eqR_len h];replace h:=Lib.hid h;go_enter Tryz.func104,Tryz.ntmps104;go_wp2_with (fail);go_ret;exact⟨rfl,Below.refl _ _⟩
set_option maxHeartbeats 2000000 in
theorem SameRows_n (n:Nat)(r1 r2:Nat→List Int)(A1 A2:Option Addr)(c1 c2:Nat)(w:World)(h1:RdM w w.heap.size A1 n r1)(h2:RdM w w.heap.size A2 n r2)(hn:n≤1000000)(hl:∀ i,i<n→(r1 i).length≤1000000) :
  Calls Tryz.prog 104 #[.slice A1 n c1,.slice A2 n c2] w fun e w'=>e=.returned (.bool (eqR n n r1 r2))∧Below w.heap.size w w':=by
 have hS:=fun i hi B1 B2 d1 d2 W a b=>SameInts_any (r1 i) (r2 i) B1 B2 d1 d2 W a b (hl i hi)
 have hbz:((n:Int) !=(n:Int))=false:=by simp
 have hbz2:(n !=n)=false:=by simp
 go_enter Tryz.func104,Tryz.ntmps104;go_wp2_with (fail);go_loopw [5] (fun i  wr=>∃ k:Nat,k≤n∧i=.int .i64 k∧(∀ j,j<k→eqL (r1 j) (r2 j)=true)∧Below w.heap.size w wr) (fun i  _=>n - (intOf i).toNat)
 case atStart=>exact⟨0,by omega,rfl,fun j hj=>absurd hj (Nat.not_lt_zero _),Below.refl _ _⟩
 case round =>
  obtain⟨k,hk,rfl,hin,hbw⟩:=hrel;obtain⟨w2,rfl⟩:∃ w2:World,w2=wr:=⟨_,rfl⟩;by_cases hlt:k<n
  ·have hk0:(0:Int)≤(k:Int):=by omega
   have hk1:(k:Int)<(n:Int):=by omega
   obtain⟨b1,o1,B1,d1,rfl,hb1,hc1,hr1,-,-⟩:=h1.at_ hlt;obtain⟨b2,o2,B2,d2,rfl,hb2,hc2,hr2,-,-⟩:=h2.at_ hlt;have hd1:=(hbw.cell (p:=⟨b1,o1+k,none⟩) hb1).trans hc1;have hd2:=(hbw.cell (p:=⟨b2,o2+k,none⟩) hb2).trans hc2;have kk:=Lib.hid (show _∧_ from ⟨hd1,hd2⟩);have hb13:b1<w2.heap.size:=Nat.lt_of_lt_of_le hb1 hbw.size;have hb23:b2<w2.heap.size:=Nat.lt_of_lt_of_le hb2 hbw.size;have hS2:=hS k hlt B1 B2 d1 d2 w2.drew ((hr1.below hbw).more hbw.size).drew ((hr2.below hbw).more hbw.size).drew;clear hc1 hc2;by_cases hq:eqL (r1 k) (r2 k)=true
   ·rw[hq]at hS2;replace hS2:=Lib.hid hS2;have hin2:Hid (∀ j,j<k+1→eqL (r1 j) (r2 j)=true):=fun j hj=>by
     by_cases e:j=k
     ·rw[e]; exact hq
     ·exact hin j (by omega)
    clear hin hq hS;go_wp2_with (fail);refine wp_region_held_drew (S:=fun w'=>w'.cell? ⟨b1,o1+k,none⟩=some (.slice B1 (r1 k).length d1)∧w'.cell? ⟨b2,o2+k,none⟩=some (.slice B2 (r2 k).length d2)) (by kernel_rfl) (by (try dsimp only); exact kk.out) (fun hHeld=>?_);refine tk 0 ?_; try simp only[pS]
    refine tk 1 ?_; try simp only[pS]
    refine tk 2 ?_; try simp only[pS]
    refine tk 3 ?_; try simp only[pS]
    refine tk 4 ?_; try simp only[pS]
    refine tk 5 ?_; try simp only[pS]
    refine tk 6 ?_; try simp only[pS]
    refine tk 7 ?_; try simp only[pS]
    refine rd 8 fun K hK=>?_
    go_simp;go_at_call 160;(with_reducible refine (hS2).out.mono ?_);rintro e w4 ⟨rfl,hb4⟩;go_wp2_with (fail);refine hK.out _ _ (by (try dsimp only); exact⟨(hb4.cell (p:=⟨b1,o1+k,none⟩) hb13).trans kk.out.1,(hb4.cell (p:=⟨b2,o2+k,none⟩) hb23).trans kk.out.2⟩) (fun hHeld=>?_);clear hK K;try simp only[pS]
    refine tk 9 ?_; try simp only[pS]
    refine wpAnyH_done (by kernel_rfl) ?_ _;go_wp2_with (fail);go_roundw
    case rel=>exact⟨k+1,by omega,by go_num,hin2.out,hbw.drew.trans (hb4.mono hbw.size)⟩
    case measure=>simp[intOf]; omega
   ·have hq2:eqL (r1 k) (r2 k)=false:=by simpa using hq
    rw[hq2]at hS2;have he:Hid (eqR n n r1 r2=false):=eqR_no hlt hq2;replace hS2:=Lib.hid hS2;clear hin hq hq2 hS;go_wp2_with (fail);refine wp_region_held_drew (S:=fun w'=>w'.cell? ⟨b1,o1+k,none⟩=some (.slice B1 (r1 k).length d1)∧w'.cell? ⟨b2,o2+k,none⟩=some (.slice B2 (r2 k).length d2)) (by kernel_rfl) (by (try dsimp only); exact kk.out) (fun hHeld=>?_);refine tk 0 ?_; try simp only[pS]
    refine tk 1 ?_; try simp only[pS]
    refine tk 2 ?_; try simp only[pS]
    refine tk 3 ?_; try simp only[pS]
    refine tk 4 ?_; try simp only[pS]
    refine tk 5 ?_; try simp only[pS]
    refine tk 6 ?_; try simp only[pS]
    refine tk 7 ?_; try simp only[pS]
    refine rd 8 fun K hK=>?_
    go_simp;go_at_call 160;(with_reducible refine (hS2).out.mono ?_);rintro e w4 ⟨rfl,hb4⟩;go_wp2_with (fail);refine hK.out _ _ (by (try dsimp only); exact⟨(hb4.cell (p:=⟨b1,o1+k,none⟩) hb13).trans kk.out.1,(hb4.cell (p:=⟨b2,o2+k,none⟩) hb23).trans kk.out.2⟩) (fun hHeld=>?_);clear hK K;try simp only[pS]
    refine tk 9 ?_; try simp only[pS]
    refine wpAnyH_done (by kernel_rfl) ?_ _;go_wp2_with (fail);go_ret;exact⟨by rw[he.out]; rfl,hbw.drew.trans (hb4.mono hbw.size)⟩
  ·obtain rfl:k=n:=by omega
   have he:Hid (eqR k k r1 r2=true):=eqR_of hin;clear hin hS;go_wp2_with (fail);go_ret;exact⟨by rw[he.out]; rfl,hbw⟩
theorem SameRows_any (n1 n2:Nat)(r1 r2:Nat→List Int)(A1 A2:Option Addr)(c1 c2:Nat)(w:World)(h1:RdM w w.heap.size A1 n1 r1)(h2:RdM w w.heap.size A2 n2 r2)(hn:n1≤1000000)(hl:∀ i,i<n1→(r1 i).length≤1000000) :
  Calls Tryz.prog 104 #[.slice A1 n1 c1,.slice A2 n2 c2] w fun e w'=>e=.returned (.bool (eqR n1 n2 r1 r2))∧Below w.heap.size w w':=by
 by_cases h:n1=n2
 ·subst h;exact SameRows_n n1 r1 r2 A1 A2 c1 c2 w h1 h2 hn hl
 ·exact SameRows_len n1 n2 r1 r2 A1 A2 c1 c2 w h

end Go.Proofs.YtogfekjbpcfgmaaGreat

/- The program's space.zero, has, pair, Inside and code.Inside of two valid codes. -/
import Derived.Test.YtogfekjbpcfgmaaGreatZtXCodG
import Derived.Test.YtogfekjbpcfgmaaGreatZtXSpR
import Derived.Test.YtogfekjbpcfgmaaGreatZtXNewL
namespace Go.Proofs.YtogfekjbpcfgmaaGreat
open Go.RowKit Cw
attribute [local go_sem] Oper.semAt_some

theorem all0_yes {l:List Int} (h:∀ j,j<l.length→l[j]?.getD 0=0):all0 l=true:=by
 unfold all0;rw[decide_eq_true_iff];intro x hx;obtain⟨j,hj,rfl⟩:=List.getElem_of_mem hx;have:=h j hj
 rwa [List.getElem?_eq_getElem hj]at this
theorem all0_no {l:List Int} {k:Nat} (h:k<l.length)(h2:l[k]?.getD 0≠0):all0 l=false:=by
 unfold all0;rw[decide_eq_false_iff_not];intro hall;rw[List.getElem?_eq_getElem h]at h2;exact h2 (hall _ (List.getElem_mem h))
def NzPost (z:Bool)(w:World)(e:Ending)(w':World):Prop:=∃ i:Int,e=.returned (.int .i64 i)∧Below w.heap.size w w'∧decide (0≤i)=!z
theorem spZ1_any (x:Int)(w:World) :
  Calls Tryz.prog 224 #[.int .i64 x] w fun e w'=>e=.returned (.bool (x !=0))∧w=w':=by
 go_enter Tryz.func224,Tryz.ntmps224;go_wp2_with (fail);go_ret;exact⟨rfl,rfl⟩
set_option maxHeartbeats 1000000 in
theorem slIxZ_any (l:List Int)(n:Nat)(hln:l.length=n)(hn:n≤1000000)(A:Option Addr)(cp:Nat)(w:World)(hr:Rd w w.heap.size A l) :
  Calls Tryz.prog 203 #[.slice A n cp,.func (.func 224) #[] #[]] w (NzPost (all0 l) w):=by
 have hZ:=fun x W=>Lib.hid (spZ1_any x W)
 have hyes:=Lib.hid (all0_yes (l:=l));have hno:=fun k a b=>Lib.hid (all0_no (l:=l) (k:=k) a b)
 rw[hln]at hyes hno;replace hln:=Lib.hid hln;unfold NzPost;go_enter Tryz.func203,Tryz.ntmps203;go_wp2_with (fail);go_loopw [8,5] (fun i _ wr=>∃ k:Nat,k≤n∧i=.int .i64 k∧wr=w∧Hid (∀ j,j<k→l[j]?.getD 0=0)) (fun i _ _=>n - (intOf i).toNat)
 case atStart=>exact⟨0,by omega,rfl,rfl,fun j hj=>absurd hj (by omega)⟩
 case round =>
  obtain⟨k,hk,rfl,hww,hall⟩:=hrel;by_cases hlt:k<n
  ·have hk0:(0:Int)≤(k:Int):=by omega
   have hk1:(k:Int)<(n:Int):=by omega
   obtain⟨b1,o1,rfl,hb1,hc1⟩:=hr.at_ (k:=k) (by rw[hln.out]; exact hlt);obtain⟨y1,hy1⟩:∃ y,y=l[k]?.getD 0:=⟨_,rfl⟩;rw[←hy1]at hc1;have hZ2:=hZ y1 w;subst hww;by_cases hz:y1=0
   ·have hzb:(y1 !=0)=false:=by rw[bne_eq_false_iff_eq]; exact hz
    have hall2:Hid (∀ j,j<k+1→l[j]?.getD 0=0):=fun j hj=>by
     by_cases e:j=k
     ·rw[e,←hy1]; exact hz
     ·exact hall.out j (by omega)
    rw[hzb]at hZ2;replace hy1:=Lib.hid hy1;clear hz hzb;go_wp2_with (fail);(with_reducible refine hZ2.out.mono ?_);rintro e w4 ⟨rfl,rfl⟩;go_wp2_with (fail);go_roundw
    case rel=>exact⟨k+1,by omega,by go_num,trivial,hall2⟩
    case measure=>simp[intOf]; omega
   ·have hzb:(y1 !=0)=true:=by rw[bne_iff_ne]; exact hz
    have hfin:=hno k hlt (by rw[←hy1]; exact hz);rw[hzb]at hZ2;replace hy1:=Lib.hid hy1;clear hz hzb hno;go_wp2_with (fail);(with_reducible refine hZ2.out.mono ?_);rintro e w4 ⟨rfl,rfl⟩;go_wp2_with (fail);go_ret;exact⟨(k:Int),rfl,Below.refl _ _,by rw[hfin.out]; exact decide_eq_true (by omega)⟩
  ·obtain rfl:k=n:=by omega
   have hfin:=Lib.hid (hyes.out hall.out);subst hww;clear hno;go_wp2_with (fail);go_ret;exact⟨-1,rfl,Below.refl _ _,by rw[hfin.out]; rfl⟩
set_option maxHeartbeats 1000000 in
theorem slCtZ_any (l:List Int)(n:Nat)(hln:l.length=n)(hn:n≤1000000)(A:Option Addr)(cp:Nat)(w:World)(hr:Rd w w.heap.size A l) :
  Calls Tryz.prog 153 #[.slice A n cp,.func (.func 224) #[] #[]] w fun e w'=>e=.returned (.bool (!all0 l))∧Below w.heap.size w w':=by
 have hI:=slIxZ_any l n hln hn A cp w hr;unfold NzPost at hI;replace hI:=Lib.hid hI;replace hln:=Lib.hid hln;go_enter Tryz.func153,Tryz.ntmps153;go_wp2_with (fail);(with_reducible refine hI.out.mono ?_);rintro e w1 ⟨i,rfl,hb,hi⟩;replace hi:=Lib.hid hi;go_wp2_with (fail);go_ret;exact⟨ret_bool hi.out,hb⟩
set_option maxHeartbeats 1000000 in
theorem spZero_any (l:List Int)(n:Nat)(hln:l.length=n)(hn:n≤1000000)(A:Option Addr)(cp:Nat)(w:World)(hr:Rd w w.heap.size A l) :
  Calls Tryz.prog 197 #[.slice A n cp] w fun e w'=>e=.returned (.bool (all0 l))∧Below w.heap.size w w':=by
 have hI:=slCtZ_any l n hln hn A cp w hr;generalize all0 l=z at *;replace hI:=Lib.hid hI;replace hln:=Lib.hid hln;go_enter Tryz.func197,Tryz.ntmps197;go_wp2_with (fail);(with_reducible refine hI.out.mono ?_);rintro e w1 ⟨rfl,hb⟩;go_wp2_with (fail);go_ret;exact⟨rfl,hb⟩
set_option maxRecDepth 100000 in
set_option maxHeartbeats 2000000 in
theorem spHas_any (F:FD)(n m:Nat)(M:Nat→Nat→R F.toDesc)(p:Nat→Nat)(hRR:RR m n p M)(u:Nat→R F.toDesc)(g cr cp c1:Nat)(Ar Ap A1:Option Addr)(w:World)(hg:GF w w.heap.size g F)(hrm:RdM w w.heap.size Ar n (rowsL F.toDesc m M))(hrp:Rd w w.heap.size Ap (lst n fun i=>(p i:Int)))(hr1:Rd w w.heap.size A1 (rowL F.toDesc m u))(hm1:1≤m)(hm:m≤256)(hn:n≤256) :
  Calls Tryz.prog 146 #[.agg #[.pointer (some ⟨g,0,none⟩),.int .i64 m,.slice Ar n cr,.slice Ap n cp],.slice A1 m c1] w fun e w'=>e=.returned (.bool (spB n m M u))∧Below w.heap.size w w':=by
 obtain⟨Z,hZ⟩:∃ Z,Z=w.alloc (.cells #[.pointer (some ⟨g,0,none⟩),.int .i64 m,.slice Ar n cr,.slice Ap n cp] 170):=⟨_,rfl⟩;have hB:Below w.heap.size w Z:=by rw[hZ]; exact (Below.refl _ _).alloc (Nat.le_refl _) _
 have hR:=Lib.hid (spReduce_any F n m M p hRR u g cr cp c1 Ar Ap A1 Z ((hg.below hB).more hB.size) ((hrm.below hB).more hB.size) ((hrp.below hB).more hB.size) ((hr1.below hB).more hB.size) hm1 hm hn);have hS:=fun A c W a=>spZero_any (rowL F.toDesc m (restF n p M u)) m (rowL_length _ _ _) (by omega) A c W a
 rw[rest_spanP hRR u]at hS;generalize spB n m M u=z at *;replace hS:=fun A c W a=>Lib.hid (hS A c W a)
 replace hZ:=Lib.hid hZ;clear hRR;go_enter Tryz.func146,Tryz.ntmps146;go_wp2_with (fail);rw[←hZ.out];(with_reducible refine hR.out.mono ?_);rintro e w1 ⟨b,c,vt,rfl,hr2,hb1⟩;have hS1:=hS (some ⟨b,0,none⟩) c w1 hr2;clear hS hR;go_wp2_with (fail);(with_reducible refine hS1.out.mono ?_);rintro e w2 ⟨rfl,hb2⟩;go_wp2_with (fail);go_ret;exact⟨rfl,(hB.trans (hb1.mono hB.size)).trans (hb2.mono (Nat.le_trans hB.size hb1.size))⟩
set_option maxRecDepth 100000 in
set_option maxHeartbeats 2000000 in
theorem spIn1_any (F:FD)(n m:Nat)(M:Nat→Nat→R F.toDesc)(p:Nat→Nat)(hRR:RR m n p M)(u:Nat→R F.toDesc)(g cr cp c1 vb:Nat)(Ar Ap A1:Option Addr)(w:World)(hg:GF w w.heap.size g F)(hrm:RdM w w.heap.size Ar n (rowsL F.toDesc m M))(hrp:Rd w w.heap.size Ap (lst n fun i=>(p i:Int)))(hr1:Rd w w.heap.size A1 (rowL F.toDesc m u))(hm1:1≤m)(hm:m≤256)(hn:n≤256)
  (hv:Four w vb (.pointer (some ⟨g,0,none⟩)) (.int .i64 m) (.slice Ar n cr) (.slice Ap n cp)) :
  Calls Tryz.prog 145 #[.slice A1 m c1,.pointer (some ⟨vb,0,none⟩)] w fun e w'=>e=.returned (.bool (!spB n m M u))∧Below w.heap.size w w':=by
 have hH:=Lib.hid (spHas_any F n m M p hRR u g cr cp c1 Ar Ap A1 w hg hrm hrp hr1 hm1 hm hn);obtain⟨⟨a0,a1,a2,a3⟩,-⟩:=hv;clear hRR;go_enter Tryz.func145,Tryz.ntmps145;go_wp2_with (fail);(with_reducible refine hH.out.mono ?_);rintro e w1 ⟨rfl,hb⟩;go_wp2_with (fail);go_ret;exact⟨rfl,hb⟩
noncomputable def inAll {F:Type} [CField F] (k n m:Nat)(M B:Nat→Nat→F):Bool:=@decide (∀ i,i<k→Span n m M (B i)) (Classical.propDecidable _)
theorem inAll_iff {F:Type} [CField F] {k n m:Nat} {M B:Nat→Nat→F}:inAll k n m M B=true↔∀ i,i<k→Span n m M (B i):=@decide_eq_true_iff _ (Classical.propDecidable _)
theorem inAll_no {F:Type} [CField F] {k n m i:Nat} {M B:Nat→Nat→F} (hi:i<k)(h:spB n m M (B i)=false):inAll k n m M B=false:=by
 rw[←Bool.not_eq_true,inAll_iff];intro h2;rw[spB_iff.2 (h2 i hi)]at h
 cases h
theorem inAll_yes {F:Type} [CField F] {k n m:Nat} {M B:Nat→Nat→F} (h:∀ i,i<k→spB n m M (B i)=true):inAll k n m M B=true:=inAll_iff.2 fun i hi=>spB_iff.1 (h i hi)
set_option maxRecDepth 100000 in
set_option maxHeartbeats 2000000 in
theorem slIxI_any (F:FD)(k n m:Nat)(M B:Nat→Nat→R F.toDesc)(p:Nat→Nat)(hRR:RR m n p M)(g cr cp cb vb:Nat)(Ar Ap Rb:Option Addr)(w:World)(hg:GF w w.heap.size g F)(hrm:RdM w w.heap.size Ar n (rowsL F.toDesc m M))(hrp:Rd w w.heap.size Ap (lst n fun i=>(p i:Int)))(hrb:RdM w w.heap.size Rb k (rowsL F.toDesc m B))(hm1:1≤m)(hm:m≤256)(hn:n≤256)(hk:k≤1000)
  (hv:Four w vb (.pointer (some ⟨g,0,none⟩)) (.int .i64 m) (.slice Ar n cr) (.slice Ap n cp)) (hvb:vb<w.heap.size) :
  Calls Tryz.prog 195 #[.slice Rb k cb,.func (.func 145) #[] #[.pointer (some ⟨vb,0,none⟩)]] w (NzPost (inAll k n m M B) w):=by
 have hI:=fun u A1 c1 W (hb:Below w.heap.size w W) h1=>Lib.hid (spIn1_any F n m M p hRR u g cr cp c1 vb Ar Ap A1 W ((hg.below hb).more hb.size) ((hrm.below hb).more hb.size) ((hrp.below hb).more hb.size) h1 hm1 hm hn (hv.keep hb hvb))
 have hno:=fun i a b=>Lib.hid (inAll_no (k:=k) (n:=n) (m:=m) (M:=M) (B:=B) (i:=i) a b)
 have hyes:=Lib.hid (inAll_yes (k:=k) (n:=n) (m:=m) (M:=M) (B:=B));clear hRR hv hg hrm hrp;unfold NzPost;go_enter Tryz.func195,Tryz.ntmps195;go_wp2_with (fail);go_loopw [8,5] (fun i _ wr=>∃ j:Nat,j≤k∧i=.int .i64 j∧Below w.heap.size w wr∧Hid (∀ i,i<j→spB n m M (B i)=true)) (fun i _ _=>k - (intOf i).toNat)
 case atStart=>exact⟨0,by omega,rfl,Below.refl _ _,fun j hj=>absurd hj (by omega)⟩
 case round =>
  obtain⟨j,hj,rfl,hbw,hall⟩:=hrel;obtain⟨w3,rfl⟩:∃ w3:World,w3=wr:=⟨_,rfl⟩;by_cases hlt:j<k
  ·have hj0:(0:Int)≤(j:Int):=by omega
   have hj1:(j:Int)<(k:Int):=by omega
   obtain⟨ba,oa,Ka,la,rfl,hha,hca,hrka,-,-⟩:=hrb.at_ hlt;rw[show (rowsL F.toDesc m B j).length=m from rowL_length _ _ _]at hca;have hda:=(hbw.cell (p:=⟨ba,oa+j,none⟩) hha).trans hca;have hI2:=hI (B j) Ka la w3 hbw ((hrka.below hbw).more hbw.size);clear hca;by_cases hz:spB n m M (B j)=true
   ·rw[hz]at hI2;have hall2:Hid (∀ i,i<j+1→spB n m M (B i)=true):=fun i hi=>by
     by_cases e:i=j
     ·rw[e]; exact hz
     ·exact hall.out i (by omega)
    replace hz:=Lib.hid hz;clear hno;go_wp2_with (fail);(with_reducible refine hI2.out.mono ?_);rintro e w4 ⟨rfl,hb4⟩;go_wp2_with (fail);go_roundw
    case rel=>exact⟨j+1,by omega,by go_num,hbw.trans (hb4.mono hbw.size),hall2⟩
    case measure=>simp[intOf]; omega
   ·rw[Bool.not_eq_true]at hz;rw[hz]at hI2;have hfin:=hno j hlt hz;replace hz:=Lib.hid hz;clear hno;go_wp2_with (fail);(with_reducible refine hI2.out.mono ?_);rintro e w4 ⟨rfl,hb4⟩;go_wp2_with (fail);go_ret;exact⟨(j:Int),rfl,hbw.trans (hb4.mono hbw.size),by rw[hfin.out]; exact decide_eq_true (by omega)⟩
  ·obtain rfl:k=j:=by omega
   have hfin:=Lib.hid (hyes.out hall.out);clear hno hI;go_wp2_with (fail);go_ret;exact⟨-1,rfl,hbw,by rw[hfin.out]; rfl⟩
set_option maxHeartbeats 1000000 in
theorem slCtI_any (F:FD)(k n m:Nat)(M B:Nat→Nat→R F.toDesc)(p:Nat→Nat)(hRR:RR m n p M)(g cr cp cb vb:Nat)(Ar Ap Rb:Option Addr)(w:World)(hg:GF w w.heap.size g F)(hrm:RdM w w.heap.size Ar n (rowsL F.toDesc m M))(hrp:Rd w w.heap.size Ap (lst n fun i=>(p i:Int)))(hrb:RdM w w.heap.size Rb k (rowsL F.toDesc m B))(hm1:1≤m)(hm:m≤256)(hn:n≤256)(hk:k≤1000)
  (hv:Four w vb (.pointer (some ⟨g,0,none⟩)) (.int .i64 m) (.slice Ar n cr) (.slice Ap n cp)) (hvb:vb<w.heap.size) :
  Calls Tryz.prog 144 #[.slice Rb k cb,.func (.func 145) #[] #[.pointer (some ⟨vb,0,none⟩)]] w fun e w'=>e=.returned (.bool (!inAll k n m M B))∧Below w.heap.size w w':=by
 have hI:=slIxI_any F k n m M B p hRR g cr cp cb vb Ar Ap Rb w hg hrm hrp hrb hm1 hm hn hk hv hvb;unfold NzPost at hI;replace hI:=Lib.hid hI;clear hRR hv;go_enter Tryz.func144,Tryz.ntmps144;go_wp2_with (fail);(with_reducible refine hI.out.mono ?_);rintro e w1 ⟨i,rfl,hb,hi⟩;replace hi:=Lib.hid hi;go_wp2_with (fail);go_ret;exact⟨ret_bool hi.out,hb⟩
end Go.Proofs.YtogfekjbpcfgmaaGreat

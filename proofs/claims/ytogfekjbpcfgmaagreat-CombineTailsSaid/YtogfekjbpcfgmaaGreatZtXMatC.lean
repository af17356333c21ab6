/- The reference's rows: AddTo, scale, Copy. The reference's rows: Copy. -/
import Derived.Test.YtogfekjbpcfgmaaGreatZtXKerI
import Derived.Test.YtogfekjbpcfgmaaGreatZtXTk
namespace Go.Proofs.YtogfekjbpcfgmaaGreat
section
open Go.RowKit Cw
attribute [local go_sem] Oper.semAt_some

theorem keep5e {B b b1 o1 b2 o2:Nat} {W w1:World} {v0 v1 v2 v3 v4:Value} (hb:Below B W w1)(h2:b<B)(h3:b1<B)(h5:b2<B)(h4:W.cell? ⟨b,0,none⟩=some v0∧W.cell? ⟨b,1,none⟩=some v1∧W.cell? ⟨b,2,none⟩=some v2∧W.cell? ⟨b1,o1,none⟩=some v3∧W.cell? ⟨b2,o2,none⟩=some v4) :
  w1.cell? ⟨b,0,none⟩=some v0∧w1.cell? ⟨b,1,none⟩=some v1∧w1.cell? ⟨b,2,none⟩=some v2∧w1.cell? ⟨b1,o1,none⟩=some v3∧w1.cell? ⟨b2,o2,none⟩=some v4 :=
 have k:=keep3 hb h2 ⟨h4.1,h4.2.1,h4.2.2.1⟩
 ⟨k.1,k.2.1,k.2.2,(hb.cell (p:=⟨b1,o1,none⟩) h3).trans h4.2.2.2.1,(hb.cell (p:=⟨b2,o2,none⟩) h5).trans h4.2.2.2.2⟩

set_option maxRecDepth 100000 in
set_option maxHeartbeats 2000000 in
theorem scale9_any (D:Desc)(m:Nat)(f:Nat→R D)(a:Int)(A A1:Option Addr)(c c1:Nat)(w:World)(hr:Rd w w.heap.size A (modL D))(hr1:Rd w w.heap.size A1 (rowL D m f))(hm:m≤70000) :
  Calls Tryz.prog 207 #[.agg #[.int .i64 D.p,.int .i64 D.m,.slice A D.mod.length c],.int .i64 a,.slice A1 m c1] w (Gives w.heap.size (rowL D m fun j=>eli D a*f j) w):=by
 have hM:=fun z W hr=>Lib.hid (Mul_any D a z A c W hr)
 have hmk:=mk_ints m hm;have hbx0:=Bx.new w D A D.mod.length c 24;obtain⟨Y,hY⟩:∃ Y,Y=(w.alloc (.cells #[.int .i64 D.p,.int .i64 D.m,.slice A D.mod.length c] 24)).alloc (.cells (Array.replicate m (Value.int .i64 0)) 3):=⟨_,rfl⟩;obtain⟨g,hg⟩:∃ g,g=w.heap.size+1:=⟨_,rfl⟩;have hib:IB Y g (upd m 0 fun j=>ci (eli D a*f j)):=by
  rw[upd_zero,hY,hg]; have:=IB.newz (w.alloc (.cells #[.int .i64 D.p,.int .i64 D.m,.slice A D.mod.length c] 24)) m; rw[World.size_alloc]at this; exact this
 have hB:Below w.heap.size w Y:=by rw[hY]; exact ((Below.refl _ _).alloc (Nat.le_refl _) _).alloc (by simp) _
 have hbx:Bx Y w.heap.size D A D.mod.length c:=by rw[hY]; exact hbx0.below ((Below.refl _ _).alloc (Nat.le_refl _) _) (by simp)
 have hgw:w.heap.size<g:=by omega
 replace hY:=Lib.hid hY;replace hib:=Lib.hid hib;clear hbx0;go_enter Tryz.func207,Tryz.ntmps207;go_wp2_with (fail);rw[←hY.out];simp only[←hg];replace hg:=Lib.hid hg;go_loopw [8] (fun i wr=>∃ k:Nat,k≤m∧i=.int .i64 k∧Hid (IB wr g (upd m k fun j=>ci (eli D a*f j)))∧Bx wr w.heap.size D A D.mod.length c∧Below w.heap.size w wr) (fun i _=>m - (intOf i).toNat)
 case atStart=>exact⟨0,by omega,rfl,hib,hbx,hB⟩
 case round =>
  clear hib hbx hB hY;obtain⟨w3,rfl⟩:∃ w3:World,w3=wr:=⟨_,rfl⟩;obtain⟨k,hk,rfl,hib,hbx,hbw⟩:=hrel;have hg3:=hib.out.lt;by_cases hlt:k<m
  ·have hk0:(0:Int)≤(k:Int):=by omega
   have hk2:(k:Int)<(m:Int):=by omega
   obtain⟨b,o,rfl,hb,hc⟩:=hr1.at_ (by rw[rowL_length]; exact hlt:k<(rowL D m f).length);rw[rowL_get D f hlt]at hc;have hd:=(hbw.cell (p:=⟨b,o+k,none⟩) hb).trans hc;have hM2:=fun W h=>(hM (ci (f k)) W h).out
   rw[eli_ci]at hM2;obtain⟨y,hy⟩:∃ y,y=ci (f k):=⟨_,rfl⟩;obtain⟨v,hv⟩:∃ v,v=ci (eli D a*f k):=⟨_,rfl⟩;rw[←hy]at hd hM2;rw[←hv]at hM2;have hM3:=Lib.hid (hM2 w3.drew ((hr.below hbw).more hbw.size).drew);have hsz3:w.heap.size<w3.heap.size:=by omega
   have hcc:=Lib.hid (show _∧_∧_∧_ from ⟨hbx.cells.1,hbx.cells.2.1,hbx.cells.2.2,hd⟩);have hb':=Nat.lt_of_lt_of_le hb hbw.size;have hbg:b≠g:=by omega
   have hkk:Hid (k<(upd m k fun j=>ci (eli D a*f j)).length):=by unfold Hid; rw[upd_length]; exact hlt
   replace hv:=Lib.hid hv;replace hy:=Lib.hid hy;clear hc hd hbx hM2;go_wp2_with (fail);refine wp_region_held_drew (S:=fun w'=>w'.cell? ⟨w.heap.size,0,none⟩=some (.int .i64 D.p)∧w'.cell? ⟨w.heap.size,1,none⟩=some (.int .i64 D.m)∧w'.cell? ⟨w.heap.size,2,none⟩=some (.slice A D.mod.length c)∧w'.cell? ⟨b,o+k,none⟩=some (.int .i64 y)) (by kernel_rfl) (by (try dsimp only); exact hcc.out) (fun hHeld=>?_);refine tk 0 ?_; try simp only[pS]
   refine tk 1 ?_; try simp only[pS]
   refine tk 2 ?_; try simp only[pS]
   refine tk 3 ?_; try simp only[pS]
   refine tk 4 ?_; try simp only[pS]
   refine tk 5 ?_; try simp only[pS]
   refine tk 6 ?_; try simp only[pS]
   refine tk 7 ?_; try simp only[pS]
   refine rd 8 fun K hK=>?_
   go_simp;go_at_call 57;(with_reducible refine (hM3).out.mono ?_);rintro e w4 ⟨rfl,hb4⟩;go_wp2_with (fail);refine hK.out _ _ (by (try dsimp only); exact keep4 hb4 hsz3 hb' hcc.out) (fun hHeld=>?_);clear hK K;try simp only[pS]
   have hib4:=hib.out.drew.below hb4 hg3;have hcW:=hib4.cell hkk.out;have hfW:=hib4.frozen k;refine tk 9 ?_; try simp only[pS]
   refine rd 10 fun K hK=>?_
   go_simp;refine hK.out _ _ (by (try dsimp only); exact keep4 (B:=g) ((Below.refl _ _).setCell (p:=⟨g,k,none⟩) (Nat.le_refl _) _) (by omega) (by omega) (keep4 hb4 hsz3 hb' hcc.out)) (fun hHeld=>?_);clear hK K;try simp only[pS]
   refine wpAnyH_done (by kernel_rfl) ?_ _;have hB4:=hbw.drew.trans (hb4.mono hbw.size);have hset:=hib4.set_ k v;rw[hv.out,upd_set,←hv.out]at hset;have kk4:=keep4 (B:=g) ((Below.refl _ _).setCell (p:=⟨g,k,none⟩) (Nat.le_refl _) (.int .i64 v)) (by omega) (by omega) (keep4 hb4 hsz3 hb' hcc.out);replace hset:=Lib.hid hset;replace kk4:=Lib.hid kk4;clear hcW hfW;go_wp2_with (fail);go_roundw
   case rel=>exact⟨k+1,by omega,by go_num,hset,⟨kk4.out.1,kk4.out.2.1,kk4.out.2.2.1⟩,hB4.setCell (p:=⟨g,k,none⟩) (Nat.le_of_lt hgw) _⟩
   case measure=>simp[intOf]; omega
  ·obtain rfl:k=m:=by omega
   have hib2:=hib.out;rw[upd_full]at hib2;replace hib2:=Lib.hid hib2;go_wp2_with (fail);go_ret;exact⟨g,by rw[rowL_length]; rfl,Nat.le_of_lt hgw,hib2.out,hbw⟩

set_option maxRecDepth 100000 in
set_option maxHeartbeats 3000000 in
theorem AddTo9_any (D:Desc)(m:Nat)(f h:Nat→R D)(a:Int)(A A1 A2:Option Addr)(c c1 c2:Nat)(w:World)(hr:Rd w w.heap.size A (modL D))(hr1:Rd w w.heap.size A1 (rowL D m f))(hr2:Rd w w.heap.size A2 (rowL D m h))(hm:m≤70000) :
  Calls Tryz.prog 99 #[.agg #[.int .i64 D.p,.int .i64 D.m,.slice A D.mod.length c],.slice A1 m c1,.int .i64 a,.slice A2 m c2] w (Gives w.heap.size (rowL D m fun j=>f j+eli D a*h j) w):=by
 have hM:=fun z W hr=>Lib.hid (Mul_any D a z A c W hr)
 have hAd:=fun y z W=>Lib.hid (Add_any D y z A D.mod.length c W)
 have hmk:=mk_ints m hm;have hbx0:=Bx.new w D A D.mod.length c 24;obtain⟨Y,hY⟩:∃ Y,Y=(w.alloc (.cells #[.int .i64 D.p,.int .i64 D.m,.slice A D.mod.length c] 24)).alloc (.cells (Array.replicate m (Value.int .i64 0)) 3):=⟨_,rfl⟩;obtain⟨g,hg⟩:∃ g,g=w.heap.size+1:=⟨_,rfl⟩;have hib:IB Y g (upd m 0 fun j=>ci (f j+eli D a*h j)):=by
  rw[upd_zero,hY,hg]; have:=IB.newz (w.alloc (.cells #[.int .i64 D.p,.int .i64 D.m,.slice A D.mod.length c] 24)) m; rw[World.size_alloc]at this; exact this
 have hB:Below w.heap.size w Y:=by rw[hY]; exact ((Below.refl _ _).alloc (Nat.le_refl _) _).alloc (by simp) _
 have hbx:Bx Y w.heap.size D A D.mod.length c:=by rw[hY]; exact hbx0.below ((Below.refl _ _).alloc (Nat.le_refl _) _) (by simp)
 have hgw:w.heap.size<g:=by omega
 replace hY:=Lib.hid hY;replace hib:=Lib.hid hib;clear hbx0;go_enter Tryz.func99,Tryz.ntmps99;go_wp2_with (fail);rw[←hY.out];simp only[←hg];replace hg:=Lib.hid hg;go_loopw [10] (fun i wr=>∃ k:Nat,k≤m∧i=.int .i64 k∧Hid (IB wr g (upd m k fun j=>ci (f j+eli D a*h j)))∧Bx wr w.heap.size D A D.mod.length c∧Below w.heap.size w wr) (fun i _=>m - (intOf i).toNat)
 case atStart=>exact⟨0,by omega,rfl,hib,hbx,hB⟩
 case round =>
  clear hib hbx hB hY;obtain⟨w3,rfl⟩:∃ w3:World,w3=wr:=⟨_,rfl⟩;obtain⟨k,hk,rfl,hib,hbx,hbw⟩:=hrel;have hg3:=hib.out.lt;by_cases hlt:k<m
  ·have hk0:(0:Int)≤(k:Int):=by omega
   have hk2:(k:Int)<(m:Int):=by omega
   obtain⟨b1,o1,rfl,hb1,hc1⟩:=hr1.at_ (by rw[rowL_length]; exact hlt:k<(rowL D m f).length);obtain⟨b2,o2,rfl,hb2,hc2⟩:=hr2.at_ (by rw[rowL_length]; exact hlt:k<(rowL D m h).length);rw[rowL_get D f hlt]at hc1;rw[rowL_get D h hlt]at hc2;have hd1:=(hbw.cell (p:=⟨b1,o1+k,none⟩) hb1).trans hc1;have hd2:=(hbw.cell (p:=⟨b2,o2+k,none⟩) hb2).trans hc2;have hsz3:w.heap.size<w3.heap.size:=by omega
   have hbg1:b1≠g:=by omega
   have hbg2:b2≠g:=by omega
   have hb1':=Nat.lt_of_lt_of_le hb1 hbw.size;have hb2':=Nat.lt_of_lt_of_le hb2 hbw.size;have hM2:=fun W h'=>(hM (ci (h k)) W h').out
   rw[eli_ci]at hM2;have hA2:=fun W=>(hAd (ci (f k)) (ci (eli D a*h k)) W).out
   rw[eli_ci,eli_ci]at hA2;have hz0:(ci (h k)=0)→f k+eli D a*h k=f k:=fun e=>by rw[ci_eq_zero.1 e,mul_zero,add_zero]
   have hkk:k<(upd m k fun j=>ci (f j+eli D a*h j)).length:=by rw[upd_length]; exact hlt
   have hcW:=hib.out.cell hkk;have hfW:=hib.out.frozen k;have hi0:=hib.out.set_ k (ci (f k));obtain⟨y1,hy1⟩:∃ y,y=ci (f k):=⟨_,rfl⟩;obtain⟨y2,hy2⟩:∃ y,y=ci (h k):=⟨_,rfl⟩;obtain⟨y3,hy3⟩:∃ y,y=ci (eli D a*h k):=⟨_,rfl⟩;obtain⟨y4,hy4⟩:∃ y,y=ci (f k+eli D a*h k):=⟨_,rfl⟩;rw[←hy1]at hd1 hA2 hi0;rw[←hy2]at hd2 hM2 hz0;rw[←hy3]at hM2 hA2;rw[←hy4]at hA2;obtain⟨w4,hw4⟩:∃ w4,w4=w3.setCell ⟨g,k,none⟩ (.int .i64 y1):=⟨_,rfl⟩;have hb34:Below g w3 w4:=by rw[hw4]; exact (Below.refl _ _).setCell (p:=⟨g,k,none⟩) (Nat.le_refl _) _
   have hs4:w4.heap.size=w3.heap.size:=by rw[hw4]; simp[World.setCell]
   have hcc:=Lib.hid (keep5e hb34 hgw (by omega) (by omega) (show _∧_∧_∧_∧_ from ⟨hbx.cells.1,hbx.cells.2.1,hbx.cells.2.2,hd1,hd2⟩));have hB4:=hbw.trans (hb34.mono (Nat.le_of_lt hgw));rw[←hw4]at hi0;have hbx4:Bx w4 w.heap.size D A D.mod.length c:=⟨hcc.out.1,hcc.out.2.1,hcc.out.2.2.1⟩;replace hw4:=Lib.hid hw4;by_cases hz:y2=0
   ·have hzb:(y2 !=0)=false:=by rw[bne_eq_false_iff_eq]; exact hz
    have hI4:Hid (IB w4 g (upd m (k+1) fun j=>ci (f j+eli D a*h j))):=by
     rw[hy1,←hz0 hz]at hi0;rw[upd_set]at hi0;exact hi0
    replace hi0:=Lib.hid hi0;replace hy1:=Lib.hid hy1;replace hy2:=Lib.hid hy2;replace hy3:=Lib.hid hy3;replace hy4:=Lib.hid hy4;clear hz hz0 hc1 hc2 hbx hM2 hA2;have hcc4:=hcc.out;obtain⟨-,-,-,p1,p2⟩:=hcc4;go_wp2_with (fail);rw[←hw4.out];go_wp2_with (fail);go_roundw
    case rel=>exact⟨k+1,by omega,by go_num,hI4,hbx4,hB4⟩
    case measure=>simp[intOf]; omega
   ·have hzb:(y2 !=0)=true:=by rw[bne_iff_ne]; exact hz
    have hM3:=Lib.hid (hM2 w4.drew ((hr.below hB4).more hB4.size).drew);replace hA2:=fun W=>Lib.hid (hA2 W)
    have hg4:g<w4.heap.size:=by omega
    have hsz4:w.heap.size<w4.heap.size:=by omega
    have hb14:b1<w4.heap.size:=by omega
    have hb24:b2<w4.heap.size:=by omega
    have hkk4:Hid (k<((upd m k fun j=>ci (f j+eli D a*h j)).set k y1).length):=by unfold Hid; rw[List.length_set]; exact hkk
    replace hy1:=Lib.hid hy1;replace hy2:=Lib.hid hy2;replace hy3:=Lib.hid hy3;replace hy4:=Lib.hid hy4;replace hi0:=Lib.hid hi0;clear hz hz0 hc1 hc2 hbx hM2;have hcc4:=hcc.out;obtain⟨-,-,-,p1,p2⟩:=hcc4;go_wp2_with (fail);rw[←hw4.out];go_wp2_with (fail);clear hcW hfW p1 p2;refine wp_region_held_drew (S:=fun w'=>w'.cell? ⟨w.heap.size,0,none⟩=some (.int .i64 D.p)∧w'.cell? ⟨w.heap.size,1,none⟩=some (.int .i64 D.m)∧w'.cell? ⟨w.heap.size,2,none⟩=some (.slice A D.mod.length c)∧w'.cell? ⟨b1,o1+k,none⟩=some (.int .i64 y1)∧w'.cell? ⟨b2,o2+k,none⟩=some (.int .i64 y2)) (by kernel_rfl) (by (try dsimp only); exact hcc.out) (fun hHeld=>?_);refine tk 0 ?_; try simp only[pS]
    refine tk 1 ?_; try simp only[pS]
    refine tk 2 ?_; try simp only[pS]
    refine tk 3 ?_; try simp only[pS]
    refine tk 4 ?_; try simp only[pS]
    refine tk 5 ?_; try simp only[pS]
    refine tk 6 ?_; try simp only[pS]
    refine tk 7 ?_; try simp only[pS]
    refine tk 8 ?_; try simp only[pS]
    refine tk 9 ?_; try simp only[pS]
    refine tk 10 ?_; try simp only[pS]
    refine tk 11 ?_; try simp only[pS]
    refine tk 12 ?_; try simp only[pS]
    refine rd 13 fun K hK=>?_
    go_simp;go_at_call 57;(with_reducible refine (hM3).out.mono ?_);rintro e w5 ⟨rfl,hb5⟩;have hccM:=Lib.hid (keep5e hb5 hsz4 hb14 hb24 hcc.out);go_wp2_with (fail);refine hK.out _ _ (by (try dsimp only); exact hccM.out) (fun hHeld=>?_);clear hK K;try simp only[pS]
    have hs5:w4.heap.size≤w5.heap.size:=hb5.size;refine rd 14 fun K hK=>?_
    go_simp;go_at_call 118;(with_reducible refine (hA2 w5).out.mono ?_);rintro e w6 ⟨rfl,hb6⟩;have hccA:=Lib.hid (keep5e hb6 (Nat.lt_of_lt_of_le hsz4 hs5) (Nat.lt_of_lt_of_le hb14 hs5) (Nat.lt_of_lt_of_le hb24 hs5) hccM.out);go_wp2_with (fail);refine hK.out _ _ (by (try dsimp only); exact hccA.out) (fun hHeld=>?_);clear hK K;try simp only[pS]
    have hib6:=(hi0.out.drew.below hb5 hg4).below hb6 (Nat.lt_of_lt_of_le hg4 hs5);have hcW:=hib6.cell hkk4.out;have hfW:=hib6.frozen k;refine tk 15 ?_; try simp only[pS]
    refine rd 16 fun K hK=>?_
    go_simp;refine hK.out _ _ (by (try dsimp only); exact keep5e (B:=g) ((Below.refl _ _).setCell (p:=⟨g,k,none⟩) (Nat.le_refl _) _) hgw (by omega) (by omega) hccA.out) (fun hHeld=>?_);clear hK K;try simp only[pS]
    refine wpAnyH_done (by kernel_rfl) ?_ _;have kk6:=keep5e (B:=g) ((Below.refl _ _).setCell (p:=⟨g,k,none⟩) (Nat.le_refl _) (.int .i64 y4)) hgw (by omega) (by omega) hccA.out;have hset:=hib6.set_ k y4;rw[List.set_set,hy4.out,upd_set,←hy4.out]at hset;have hb46:=hb5.trans (hb6.mono hb5.size);have hB6:=Lib.hid ((hB4.drew.trans (hb46.mono hB4.size)).setCell (p:=⟨g,k,none⟩) (Nat.le_of_lt hgw) (.int .i64 y4));replace hset:=Lib.hid hset;replace kk6:=Lib.hid kk6;clear hcW hfW;go_wp2_with (fail);go_roundw
    case rel=>exact⟨k+1,by omega,by go_num,hset,⟨kk6.out.1,kk6.out.2.1,kk6.out.2.2.1⟩,hB6.out⟩
    case measure=>simp[intOf]; omega
  ·obtain rfl:k=m:=by omega
   have hib2:=hib.out;rw[upd_full]at hib2;replace hib2:=Lib.hid hib2;go_wp2_with (fail);go_ret;exact⟨g,by rw[rowL_length]; rfl,Nat.le_of_lt hgw,hib2.out,hbw⟩
end
section
open Go.RowKit Cw
attribute [local go_sem] Oper.semAt_some

def CopyM (n:Nat)(rows:Nat→List Int)(w:World)(e:Ending)(w':World):Prop:=∃ v,e=.returned v∧OwnM w' w.heap.size v n rows∧Below w.heap.size w w'∧(n=0→v=.slice none 0 0)

set_option maxRecDepth 100000 in
set_option maxHeartbeats 2000000 in
theorem Copy9_any (n:Nat)(rows:Nat→List Int)(A:Option Addr)(c:Nat)(w:World)(hr:RdM w w.heap.size A n rows)(hn:n≤1000000)(hm:∀ i,i<n→(rows i).length≤1000000) :
  Calls Tryz.prog 206 #[.slice A n c] w (CopyM n rows w):=by
 go_enter Tryz.func206,Tryz.ntmps206;go_wp2_with (fail);go_loopw [4,3] (fun i v wr=>∃ k:Nat,k≤n∧i=.int .i64 k∧OwnM wr w.heap.size v k rows∧Below w.heap.size w wr∧Hid (k=0→v=.slice none 0 0)) (fun i _ _=>n - (intOf i).toNat)
 case atStart=>exact⟨0,by omega,rfl,OwnM.nil _ _ _,Below.refl _ _,fun _=>rfl⟩
 case round =>
  obtain⟨w3,rfl⟩:∃ w3:World,w3=wr:=⟨_,rfl⟩;obtain⟨k,hk,rfl,hown,hbw,hnil⟩:=hrel;by_cases hlt:k<n
  ·have hk0:(0:Int)≤(k:Int):=by omega
   have hk2:(k:Int)<(n:Int):=by omega
   obtain⟨b,o,Ak,ck,rfl,hb,hc,hrk,hlk,hck⟩:=hr.at_ hlt;have hd:=(hbw.cell (p:=⟨b,o+k,none⟩) hb).trans hc;have hrk3:=(hrk.below hbw).more hbw.size;have hmk:=hm k hlt;obtain⟨Av,cv,rfl⟩:=hown.size;have hownH:=hown;obtain⟨hs',-,e2',-⟩:=hownH;obtain⟨W1,hW1⟩:∃ W1,W1=w3.alloc (.cells #[] 3):=⟨_,rfl⟩;have hb1:Below w3.heap.size w3 W1:=by rw[hW1]; exact (Below.refl _ _).alloc (Nat.le_refl _) _
   have hs1:w3.heap.size<W1.heap.size:=by rw[hW1]; simp
   have ho1:Own W1 w3.heap.size (.slice (some ⟨w3.heap.size,0,none⟩) 0 0) []:=by rw[hW1]; exact Own.of_IB (l:=[]) (heap_alloc_new _ _) (Nat.le_refl _) (by simp[maxLen])
   have hd1:=(hb1.cell (p:=⟨b,o+k,none⟩) (Nat.lt_of_lt_of_le hb hbw.size)).trans hd;have hr1:=(hrk3.below hb1).more hb1.size;have hle1:([]:List Int).length+(rows k).length≤1000000000:=by simp; omega
   subst hW1;have hb':b<w3.heap.size:=Nat.lt_of_lt_of_le hb hbw.size;clear hc hd1;go_wp2_with (first
    | (at_builtin; refine wpList_appN rfl (.tmp 12) (.tmp 16) rfl w3.heap.size _ [] _ Ak ck (rows k) ho1 hr1 rfl rfl rfl hle1 (Nat.le_of_lt hs1) ?_; intro v1 W2 ho2 hb2 hg2 hv2; rw[List.nil_append]at ho2; obtain⟨A1,c1,rfl,hc1,hr2,hA1⟩:=ho2.form; have hcm:=Own.capM ho2; have hown2:=hown.below (hb1.trans hb2) (Nat.le_refl _); obtain⟨hs,e1,e2,e3⟩:=hown2)
    | (at_builtin; refine wpList_app1V rfl (.tmp 11) (.tmp 18) rfl w.heap.size _ hs _ rfl e2 rfl rfl rfl (by rw[e1]; omega) (Nat.le_trans hbw.size (hb1.trans hb2).size) ?_; intro v3 W3 ho3 hb3 hg3 hv3))
   have hsn:=OwnM.snoc e1 e3 hr2 hc1 hcm (fun hne a e=>⟨fun e2=>by have h1:=(hA1 a e).1; have h2:=(World.ownsRow.lt e2' _ e2).2; omega,by have h1:=(hA1 a e).1; have h2:=hbw.size; omega⟩) ho3 hg3 hv3;go_roundw
   case rel=>exact⟨k+1,by omega,by go_num,hsn,hbw.trans (((hb1.trans hb2).mono hbw.size).trans (hb3.mono (Nat.le_refl _))),fun h=>absurd h (by omega)⟩
   case measure=>simp[intOf]; omega
  ·obtain rfl:k=n:=by omega
   go_wp2_with (fail);go_ret;exact⟨_,rfl,hown,hbw,hnil.out⟩
end
end Go.Proofs.YtogfekjbpcfgmaaGreat

/- The program's rows again: matrix.add with a row that lies anywhere, matrix.vec. -/
import Derived.Test.YtogfekjbpcfgmaaGreatZtXMP
import Derived.Test.YtogfekjbpcfgmaaGreatZtXCodC
import Derived.Test.YtogfekjbpcfgmaaGreatZtXDsS
import Derived.Test.YtogfekjbpcfgmaaGreatZtXTk
namespace Go.Proofs.YtogfekjbpcfgmaaGreat
open Go.RowKit Cw
attribute [local go_sem] Oper.semAt_some

set_option maxRecDepth 100000 in
set_option maxHeartbeats 3000000 in
theorem gAddRowO (F:FD)(m:Nat)(f h:Nat→R F.toDesc)(a:Int)(bv cv bu ou cu gf B:Nat)(w:World)(hg:GF w B gf F)(hB:B≤bv)(hbv:bv<w.heap.size)
  (hv:∀ j,j<m→w.cell? ⟨bv,j,none⟩=some (.int .i64 (ci (f j)))∧w.frozen? ⟨bv,j,none⟩=false) (hu:∀ j,j<m→w.cell? ⟨bu,ou+j,none⟩=some (.int .i64 (ci (h j)))) (hne:bu≠bv) (hm:m≤70000) :
  Calls Tryz.prog 204 #[.pointer (some ⟨gf,0,none⟩),.slice (some ⟨bv,0,none⟩) m cv,.int .i64 a,.slice (some ⟨bu,ou,none⟩) m cu] w fun e w'=>e=.returned (.tuple #[])∧w.grownBy w' (some bv) ∧
   ∀ j,j<m→w'.cell? ⟨bv,j,none⟩=some (.int .i64 (ci (f j+eli F.toDesc a*h j)))∧w'.frozen? ⟨bv,j,none⟩=false:=by
 have hM:=fun z W h'=>Lib.hid (gMul_any F a z gf W h')
 have hA:=fun y z W h'=>Lib.hid (gAdd_any F y z gf W h')
 replace hv:=Lib.hid hv;replace hu:=Lib.hid hu;go_enter Tryz.func204,Tryz.ntmps204;go_wp2_with (fail);go_loopw [12,8,9] (fun i _ _ wr=>∃ k:Nat,k≤m∧i=.int .i64 k∧w.grownBy wr (some bv)∧Hid (∀ j,j<m→wr.cell? ⟨bv,j,none⟩=some (.int .i64 (ci (if j<k then f j+eli F.toDesc a*h j else f j)))∧wr.frozen? ⟨bv,j,none⟩=false)) (fun i _ _ _=>m - (intOf i).toNat)
 case atStart=>exact⟨0,by omega,rfl,World.grownBy.refl _ _,fun j hj=>by simpa using hv.out j hj⟩
 case round =>
  obtain⟨w3,rfl⟩:∃ w3:World,w3=wr:=⟨_,rfl⟩;obtain⟨k,hk,rfl,hgr,hvk⟩:=hrel;by_cases hlt:k<m
  ·have hk0:(0:Int)≤(k:Int):=by omega
   have hk1:(k:Int)<(m:Int):=by omega
   have hbw:=grown_below hgr hB hbv;have hbv3:bv<w3.heap.size:=Nat.lt_of_lt_of_le hbv hgr.size;have hB3:B≤w3.heap.size:=by omega
   have hxu:=hgr.cell (hu.out k hlt) (fun e=>hne (by injection e));obtain⟨hxv,hfv⟩:=hvk.out k hlt;rw[if_neg (Nat.lt_irrefl _)]at hxv;obtain⟨y1,hy1⟩:∃ y,y=ci (f k):=⟨_,rfl⟩;obtain⟨y2,hy2⟩:∃ y,y=ci (h k):=⟨_,rfl⟩;rw[←hy1]at hxv;rw[←hy2]at hxu;by_cases hz:y2=0
   ·have hzb:(y2 !=0)=false:=by rw[bne_eq_false_iff_eq]; exact hz
    have hvk2:Hid (∀ j,j<m→w3.cell? ⟨bv,j,none⟩=some (.int .i64 (ci (if j<k+1 then f j+eli F.toDesc a*h j else f j)))∧w3.frozen? ⟨bv,j,none⟩=false):=fun j hj=>by
     have h0:=hvk.out j hj;by_cases e:j=k
     ·subst e;rw[if_neg (Nat.lt_irrefl _)]at h0;rw[if_pos (Nat.lt_succ_self _),ci_eq_zero.1 (hy2 ▸ hz:ci (h j)=0),mul_zero,add_zero];exact h0
     ·rw[ite_succ e];exact h0
    replace hy1:=Lib.hid hy1;replace hy2:=Lib.hid hy2;clear hz;go_wp2_with (fail);go_roundw
    case rel=>exact⟨k+1,by omega,by go_num,hgr,hvk2⟩
    case measure=>simp[intOf]; omega
   ·have hzb:(y2 !=0)=true:=by rw[bne_iff_ne]; exact hz
    have hM2:=(hM y2 w3.drew ((hg.below hbw).more hB3).drew).out;rw[hy2,eli_ci,←hy2]at hM2;obtain⟨y3,hy3⟩:∃ y,y=ci (eli F.toDesc a*h k):=⟨_,rfl⟩;obtain⟨y4,hy4⟩:∃ y,y=ci (f k+eli F.toDesc a*h k):=⟨_,rfl⟩;rw[←hy3]at hM2;have hA2:=fun W h'=>(hA y1 y3 W h').out
    rw[hy1,hy3,eli_ci,eli_ci,←hy1,←hy3,←hy4]at hA2;replace hM2:=Lib.hid hM2;replace hA2:=fun W h'=>Lib.hid (hA2 W h')
    replace hy1:=Lib.hid hy1;replace hy2:=Lib.hid hy2;replace hy3:=Lib.hid hy3;replace hy4:=Lib.hid hy4;have hgf3:=(hg.below hbw).more hB3;clear hz;go_wp2_with (fail);refine wp_region_held_drew (S:=fun w'=>True) (by kernel_rfl) (by (try dsimp only); all_goals trivial) (fun hHeld=>?_);refine tk 0 ?_; try simp only[pS]
    refine tk 1 ?_; try simp only[pS]
    refine tk 2 ?_; try simp only[pS]
    refine tk 3 ?_; try simp only[pS]
    refine tk 4 ?_; try simp only[pS]
    refine tk 5 ?_; try simp only[pS]
    refine tk 7 ?_; try simp only[pS]
    refine tk 8 ?_; try simp only[pS]
    refine tk 9 ?_; try simp only[pS]
    refine wpAnyH_ready (rs:=[6,10]) (by kernel_rfl) (by simp) ?_;refine AllReadyH.cons (o:=⟨_,_,_,_,_,_⟩) rfl (fun K hK=>?_) ?_
    ·go_simp;refine hK.out _ _ (by (try dsimp only); all_goals trivial) (fun hHeld=>?_);clear hK K;try simp only[pS]
     refine rd 10 fun K hK=>?_
     go_simp;go_at_call 90;(with_reducible refine (hM2).out.mono ?_);rintro e w4 ⟨rfl,hb4⟩;have hx4:=(hb4.cell (p:=⟨bv,k,none⟩) hbv3).trans hxv;have hA4:=hA2 w4 ((hgf3.drew.below hb4).more hb4.size);go_wp2_with (fail);refine hK.out _ _ (by (try dsimp only); all_goals trivial) (fun hHeld=>?_);clear hK K;try simp only[pS]
     refine rd 11 fun K hK=>?_
     go_simp;go_at_call 91;(with_reducible refine (hA4).out.mono ?_);rintro e w5 ⟨rfl,hb5⟩;have hb35:Below w3.heap.size w3 w5:=(Below.refl _ w3).drew.trans ((hb4.mono (Nat.le_refl _)).trans (hb5.mono hb4.size));have hx5:=(hb35.cell (p:=⟨bv,k,none⟩) hbv3).trans hxv;have hf5:=(hb35.frozen (p:=⟨bv,k,none⟩) hbv3).trans hfv;go_wp2_with (fail);refine hK.out _ _ (by (try dsimp only); all_goals trivial) (fun hHeld=>?_);clear hK K;try simp only[pS]
     refine tk 12 ?_; try simp only[pS]
     refine rd 13 fun K hK=>?_
     go_simp;refine hK.out _ _ (by (try dsimp only); all_goals trivial) (fun hHeld=>?_);clear hK K;try simp only[pS]
     refine wpAnyH_done (by kernel_rfl) ?_ _;have hg5:Hid (w.grownBy (w5.setCell ⟨bv,k,none⟩ (.int .i64 y4)) (some bv)):=(hgr.trans ((below_grown hb35 (Nat.le_refl _)).but _)).trans (grown_set _ _ _);have hvk2:Hid (∀ j,j<m→(w5.setCell ⟨bv,k,none⟩ (.int .i64 y4)).cell? ⟨bv,j,none⟩=some (.int .i64 (ci (if j<k+1 then f j+eli F.toDesc a*h j else f j)))∧(w5.setCell ⟨bv,k,none⟩ (.int .i64 y4)).frozen? ⟨bv,j,none⟩=false):=fun j hj=>by
      have h0:=hvk.out j hj;have h1:=(hb35.frozen (p:=⟨bv,j,none⟩) hbv3).trans h0.2;refine⟨?_,by simp[go_sem,h1]⟩;by_cases e:j=k
      ·subst e;rw[if_pos (Nat.lt_succ_self _),←hy4.out];exact World.cell?_setCell_same _ _ _ hx5
      ·rw[ite_succ e];rw[World.cell?_setCell_other _ _ _ _ (by intro e2; injection e2 with e3 e4; exact e (by first | exact e4 | exact e4.symm))];exact (hb35.cell (p:=⟨bv,j,none⟩) hbv3).trans h0.1
     clear hx5 hf5 hx4;go_wp2_with (fail);go_roundw
     case rel=>exact⟨k+1,by omega,by go_num,hg5.out,hvk2⟩
     case measure=>simp[intOf]; omega
    refine AllReadyH.cons (o:=⟨_,_,_,_,_,_⟩) rfl (fun K hK=>?_) AllReadyH.nil;go_simp;go_at_call 90;(with_reducible refine (hM2).out.mono ?_);rintro e w4 ⟨rfl,hb4⟩;have hx4:=(hb4.cell (p:=⟨bv,k,none⟩) hbv3).trans hxv;have hA4:=hA2 w4 ((hgf3.drew.below hb4).more hb4.size);go_wp2_with (fail);refine hK.out _ _ (by (try dsimp only); all_goals trivial) (fun hHeld=>?_);clear hK K;try simp only[pS]
    refine rd 6 fun K hK=>?_
    go_simp;refine hK.out _ _ (by (try dsimp only); all_goals trivial) (fun hHeld=>?_);clear hK K;try simp only[pS]
    refine rd 11 fun K hK=>?_
    go_simp;go_at_call 91;(with_reducible refine (hA4).out.mono ?_);rintro e w5 ⟨rfl,hb5⟩;have hb35:Below w3.heap.size w3 w5:=(Below.refl _ w3).drew.trans ((hb4.mono (Nat.le_refl _)).trans (hb5.mono hb4.size));have hx5:=(hb35.cell (p:=⟨bv,k,none⟩) hbv3).trans hxv;have hf5:=(hb35.frozen (p:=⟨bv,k,none⟩) hbv3).trans hfv;go_wp2_with (fail);refine hK.out _ _ (by (try dsimp only); all_goals trivial) (fun hHeld=>?_);clear hK K;try simp only[pS]
    refine tk 12 ?_; try simp only[pS]
    refine rd 13 fun K hK=>?_
    go_simp;refine hK.out _ _ (by (try dsimp only); all_goals trivial) (fun hHeld=>?_);clear hK K;try simp only[pS]
    refine wpAnyH_done (by kernel_rfl) ?_ _;have hg5:Hid (w.grownBy (w5.setCell ⟨bv,k,none⟩ (.int .i64 y4)) (some bv)):=(hgr.trans ((below_grown hb35 (Nat.le_refl _)).but _)).trans (grown_set _ _ _);have hvk2:Hid (∀ j,j<m→(w5.setCell ⟨bv,k,none⟩ (.int .i64 y4)).cell? ⟨bv,j,none⟩=some (.int .i64 (ci (if j<k+1 then f j+eli F.toDesc a*h j else f j)))∧(w5.setCell ⟨bv,k,none⟩ (.int .i64 y4)).frozen? ⟨bv,j,none⟩=false):=fun j hj=>by
     have h0:=hvk.out j hj;have h1:=(hb35.frozen (p:=⟨bv,j,none⟩) hbv3).trans h0.2;refine⟨?_,by simp[go_sem,h1]⟩;by_cases e:j=k
     ·subst e;rw[if_pos (Nat.lt_succ_self _),←hy4.out];exact World.cell?_setCell_same _ _ _ hx5
     ·rw[ite_succ e];rw[World.cell?_setCell_other _ _ _ _ (by intro e2; injection e2 with e3 e4; exact e (by first | exact e4 | exact e4.symm))];exact (hb35.cell (p:=⟨bv,j,none⟩) hbv3).trans h0.1
    clear hx5 hf5 hx4;go_wp2_with (fail);go_roundw
    case rel=>exact⟨k+1,by omega,by go_num,hg5.out,hvk2⟩
    case measure=>simp[intOf]; omega
  ·obtain rfl:k=m:=by omega
   have hfin:Hid (∀ j,j<k→w3.cell? ⟨bv,j,none⟩=some (.int .i64 (ci (f j+eli F.toDesc a*h j)))∧w3.frozen? ⟨bv,j,none⟩=false):=fun j hj=>by
    have:=hvk.out j hj
    rwa [if_pos hj]at this
   go_wp2_with (fail);go_end0;exact⟨rfl,hgr,hfin.out⟩

set_option maxRecDepth 100000 in
set_option maxHeartbeats 3000000 in
theorem gVec_any (F:FD)(n m:Nat)(x:Nat→R F.toDesc)(M:Nat→Nat→R F.toDesc)(A1 Ar:Option Addr)(c1 cr gf:Nat)(w:World)(hg:GF w w.heap.size gf F)(hr1:Rd w w.heap.size A1 (rowL F.toDesc n x))(hrm:RdM w w.heap.size Ar n (rowsL F.toDesc m M))(hn:n≤1000)(hm1:1≤m)(hm:m≤70000) :
  Calls Tryz.prog 156 #[.pointer (some ⟨gf,0,none⟩),.slice A1 n c1,.slice Ar n cr,.int .i64 m] w fun e w'=>e=.returned (.slice (some ⟨w.heap.size,0,none⟩) m m)∧Rd w' w'.heap.size (some ⟨w.heap.size,0,none⟩) (rowL F.toDesc m (cmb n x M))∧Below w.heap.size w w':=by
 have hA:=fun f h a bu ou cu W b c d f1 f2 f3=>Lib.hid (gAddRowO F m f h a w.heap.size m bu ou cu gf w.heap.size W b (Nat.le_refl _) c d f1 f2 f3)
 have hmk:=mk_ints m hm;obtain⟨Y,hY⟩:∃ Y,Y=w.alloc (.cells (Array.replicate m (Value.int .i64 0)) 3):=⟨_,rfl⟩;have hbY:Below w.heap.size w Y:=by rw[hY]; exact (Below.refl _ _).alloc (Nat.le_refl _) _
 have hYs:w.heap.size<Y.heap.size:=by rw[hY]; simp
 have h0:Hid (∀ j,j<m→Y.cell? ⟨w.heap.size,j,none⟩=some (.int .i64 (ci (cmb 0 x M j)))∧Y.frozen? ⟨w.heap.size,j,none⟩=false):=fun j hj=>by
  have hib:IB Y w.heap.size (List.replicate m 0):=by rw[hY]; exact IB.newz w m
  refine⟨?_,hib.frozen j⟩;rw[hib.cell (by simpa using hj),List.getElem?_replicate,if_pos hj]
  show some (Value.int .i64 0)=_
  rw[show cmb 0 x M j=0 from rsum_zero _,ci_zero]
 replace hY:=Lib.hid hY;go_enter Tryz.func156,Tryz.ntmps156;go_wp2_with (fail);rw[←hY.out];go_loopw [16,10,11] (fun i _ _ wr=>∃ k:Nat,k≤n∧i=.int .i64 k∧Y.heap.size≤wr.heap.size∧Below w.heap.size w wr∧Hid (∀ j,j<m→wr.cell? ⟨w.heap.size,j,none⟩=some (.int .i64 (ci (cmb k x M j)))∧wr.frozen? ⟨w.heap.size,j,none⟩=false)) (fun i _ _ _=>n - (intOf i).toNat)
 case atStart=>exact⟨0,by omega,rfl,Nat.le_refl _,hbY,h0⟩
 case round =>
  obtain⟨w3,rfl⟩:∃ w3:World,w3=wr:=⟨_,rfl⟩;obtain⟨k,hk,rfl,hs3,hb3,hv3⟩:=hrel;by_cases hlt:k<n
  ·have hk0:(0:Int)≤(k:Int):=by omega
   have hk1:(k:Int)<(n:Int):=by omega
   obtain⟨b,o,Ak,ck,rfl,hb,hc,hrk,-,-⟩:=hrm.at_ hlt;obtain⟨b1,o1,rfl,hb1,hc1⟩:=hr1.at_ (show k<(rowL F.toDesc n x).length by rw[rowL_length]; exact hlt);rw[rowL_get F.toDesc x hlt]at hc1;rw[show (rowsL F.toDesc m M k).length=m from rowL_length _ _ _]at hc;have hd:=(hb3.cell (p:=⟨b,o+k,none⟩) hb).trans hc;have hd1:=(hb3.cell (p:=⟨b1,o1+k,none⟩) hb1).trans hc1;have hgk:eli F.toDesc (ci (x k))=x k:=eli_ci _;have hst:cmb (k+1) x M=fun j=>cmb k x M j+x k*M k j:=funext fun j=>rsum_succ _ _
   by_cases hz:ci (x k)=0
   ·have hzz:(ci (x k) !=0)=false:=by rw[bne_eq_false_iff_eq]; exact hz
    have hnx:Hid (∀ j,j<m→w3.cell? ⟨w.heap.size,j,none⟩=some (.int .i64 (ci (cmb (k+1) x M j)))∧w3.frozen? ⟨w.heap.size,j,none⟩=false):=fun j hj=>by
     have:=hv3.out j hj;rw[show cmb (k+1) x M j=cmb k x M j from by rw[hst]; show cmb k x M j+x k*M k j=_; rw[←hgk,hz,eli_zero,zero_mul,add_zero]];exact this
    generalize ci (x k)=y at *;clear hgk hst hz hc hc1 hd hv3;go_wp2_with (fail);go_roundw
    case rel=>exact⟨k+1,by omega,by go_num,hs3,hb3,hnx⟩
    case measure=>simp[intOf]; omega
   ·have hzz:(ci (x k) !=0)=true:=by rw[bne_iff_ne]; exact hz
    obtain⟨bu,ou,rfl,hbu,hcu⟩:=hrk (show 0<(rowsL F.toDesc m M k).length by rw[show (rowsL F.toDesc m M k).length=m from rowL_length _ _ _]; omega);have hu:∀ j,j<m→w3.cell? ⟨bu,ou+j,none⟩=some (.int .i64 (ci (M k j))):=fun j hj=>by
     refine (hb3.cell (p:=⟨bu,ou+j,none⟩) hbu).trans ?_;rw[hcu j (by rw[show (rowsL F.toDesc m M k).length=m from rowL_length _ _ _]; exact hj)];unfold rowsL;rw[rowL_get F.toDesc (M k) hj]
    have hA3:=(hA (cmb k x M) (M k) (ci (x k)) bu ou ck w3 (hg.below hb3) (Nat.lt_of_lt_of_le hYs hs3) hv3.out hu (fun e=>by rw[e]at hbu; exact absurd hbu (Nat.lt_irrefl _)) hm).out;rw[hgk]at hA3;have hA4:Calls Tryz.prog 204 #[.pointer (some ⟨gf,0,none⟩),.slice (some ⟨w.heap.size,0,none⟩) m m,.int .i64 (ci (x k)),.slice (some ⟨bu,ou,none⟩) m ck] w3 fun e w'=>e=.returned (.tuple #[])∧w3.grownBy w' (some w.heap.size)∧∀ j,j<m→w'.cell? ⟨w.heap.size,j,none⟩=some (.int .i64 (ci (cmb (k+1) x M j)))∧w'.frozen? ⟨w.heap.size,j,none⟩=false:=by rw[hst]; exact hA3
    clear hA3;replace hA4:=Lib.hid hA4;generalize hy:ci (x k)=y at *;replace hy:=Lib.hid hy;clear hgk hst hz hc hc1 hv3 hu hcu;go_wp2_with (fail);(with_reducible refine hA4.out.mono ?_);rintro e w4 ⟨rfl,hgr,hv4⟩;replace hv4:=Lib.hid hv4;have hb4:=hb3.trans (grown_below hgr (Nat.le_refl _) (Nat.lt_of_lt_of_le hYs hs3));have hs4:=Nat.le_trans hs3 hgr.size;clear hgr hb3 hs3 hA4;go_wp2_with (fail);go_roundw
    case rel=>exact⟨k+1,by omega,by go_num,hs4,hb4,hv4⟩
    case measure=>simp[intOf]; omega
  ·obtain rfl:k=n:=by omega
   go_wp2_with (fail);go_ret;refine⟨rfl,fun _=>⟨w.heap.size,0,rfl,Nat.lt_of_lt_of_le hYs hs3,fun j hj=>?_⟩,hb3⟩;rw[rowL_length]at hj;rw[Nat.zero_add,rowL_get _ _ hj];exact (hv3.out j hj).1
end Go.Proofs.YtogfekjbpcfgmaaGreat

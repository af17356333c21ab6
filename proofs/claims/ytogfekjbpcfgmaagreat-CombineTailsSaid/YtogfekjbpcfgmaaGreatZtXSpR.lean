/- The program's subspaces: a word reduced by canonical rows; whether it is in their span. -/
import Derived.Test.YtogfekjbpcfgmaaGreatZtXMatX
import Derived.Test.YtogfekjbpcfgmaaGreatZtXCodD
import Derived.Test.YtogfekjbpcfgmaaGreatZtXInsW
import Derived.Test.YtogfekjbpcfgmaaGreatZtXTk
namespace Go.Proofs.YtogfekjbpcfgmaaGreat
open Go.RowKit Cw
attribute [local go_sem] Oper.semAt_some

section
variable {F:FD} {n m k:Nat} {p:Nat→Nat} {M:Nat→Nat→R F.toDesc} {u:Nat→R F.toDesc}
theorem restF_zero (j:Nat):restF 0 p M u j=u j:=by unfold restF; rw[rsum_zero,add_zero]
theorem restF_step (j:Nat):restF (k+1) p M u j=restF k p M u j - u (p k)*M k j:=by
 unfold restF;rw[rsum_succ,sub_d,neg_mul,add_a]
theorem restF_piv (h:RR m n p M)(hk:k<n):restF k p M u (p k)=u (p k):=by
 unfold restF;rw[rsum_eq_zero fun i hi=>by rw[h.zero i k (by omega) hk (by omega),mul_zero],add_zero]
theorem rest_spanP (h:RR m n p M)(u:Nat→R F.toDesc):all0 (rowL F.toDesc m (restF n p M u))=spB n m M u:=by
 rw[←rest_span h u];refine congrArg all0 (lst_congr fun j _=>congrArg ci ?_);unfold restF;exact congrArg (u j+·) (rsum_congr fun i hi=>by dsimp only; rw[fnz_RR h hi])
end
def RowC {D:Desc} (w:World)(b m:Nat)(f:Nat→R D):Prop:=∀ j,j<m→w.cell? ⟨b,j,none⟩=some (.int .i64 (ci (f j)))∧w.frozen? ⟨b,j,none⟩=false
section
variable {D:Desc} {w w':World} {b m B:Nat} {f h:Nat→R D}
theorem RowC.congr (hc:RowC w b m f)(he:∀ j,j<m→f j=h j):RowC w b m h:=fun j hj=>by rw[←he j hj]; exact hc j hj
theorem RowC.below (hc:RowC w b m f)(hb:Below B w w')(hB:b<B):RowC w' b m f:=fun j hj=>⟨(hb.cell (p:=⟨b,j,none⟩) hB).trans (hc j hj).1,(hb.frozen (p:=⟨b,j,none⟩) hB).trans (hc j hj).2⟩
theorem RowC.rd (hc:RowC w b m f)(hb:b<w.heap.size):Rd w w.heap.size (some ⟨b,0,none⟩) (rowL D m f):=fun _=>⟨b,0,rfl,hb,fun j hj=>by
 rw[rowL_length]at hj;rw[Nat.zero_add,rowL_get D f hj];exact (hc j hj).1⟩
theorem RowC.step {k:Nat} (hc:RowC w b m (fun j=>if j<k then h j else f j))(hk:k<m):RowC (w.setCell ⟨b,k,none⟩ (.int .i64 (ci (h k)))) b m (fun j=>if j<k+1 then h j else f j):=fun j hj=>by
 have h0:=hc j hj;refine⟨?_,by simp[go_sem,h0.2]⟩;dsimp only at h0 ⊢;by_cases e:j=k
 ·subst e;rw[if_pos (Nat.lt_succ_self _)];exact World.cell?_setCell_same _ _ _ h0.1
 ·rw[ite_succ e,World.cell?_setCell_other _ _ _ _ (by intro e2; injection e2 with e3 e4; exact e (by first | exact e4 | exact e4.symm))];exact h0.1
theorem RowC.begin (hc:RowC w b m f):RowC w b m (fun j=>if j<0 then h j else f j):=hc.congr fun _ _=>(if_neg (Nat.not_lt_zero _)).symm
theorem RowC.finish (hc:RowC w b m (fun j=>if j<m then h j else f j)):RowC w b m h:=hc.congr fun _ hj=>if_pos hj
end
set_option maxRecDepth 100000 in
set_option maxHeartbeats 4000000 in
theorem spReduce_any (F:FD)(n m:Nat)(M:Nat→Nat→R F.toDesc)(p:Nat→Nat)(hRR:RR m n p M)(u:Nat→R F.toDesc)(g cr cp c1:Nat)(Ar Ap A1:Option Addr)(w:World)(hg:GF w w.heap.size g F)(hrm:RdM w w.heap.size Ar n (rowsL F.toDesc m M))(hrp:Rd w w.heap.size Ap (lst n fun i=>(p i:Int)))(hr1:Rd w w.heap.size A1 (rowL F.toDesc m u))(hm1:1≤m)(hm:m≤256)(hn:n≤256) :
  Calls Tryz.prog 196 #[.agg #[.pointer (some ⟨g,0,none⟩),.int .i64 m,.slice Ar n cr,.slice Ap n cp],.slice A1 m c1] w fun e w'=>∃ b c vt,e=.returned (.tuple #[.slice (some ⟨b,0,none⟩) m c,vt])∧Rd w' w'.heap.size (some ⟨b,0,none⟩) (rowL F.toDesc m (restF n p M u))∧Below w.heap.size w w':=by
 have hM:=fun y z W h=>Lib.hid (gMul_any F y z g W h)
 have hS:=fun y z W h=>Lib.hid (gSub_any F y z g W h)
 have hpl:=fun i hi=>hRR.lt i hi
 have hpv:=fun k hk=>restF_piv (u:=u) hRR (k:=k) hk
 obtain⟨Z,hZ⟩:∃ Z,Z=w.alloc (.cells #[.pointer (some ⟨g,0,none⟩),.int .i64 m,.slice Ar n cr,.slice Ap n cp] 170):=⟨_,rfl⟩;have hB:Below w.heap.size w Z:=by rw[hZ]; exact (Below.refl _ _).alloc (Nat.le_refl _) _
 obtain⟨s,hs⟩:∃ s,s=w.heap.size:=⟨_,rfl⟩;have hZs:s<Z.heap.size:=by rw[hZ,hs]; simp
 have kz:=Lib.hid (show Four Z s (.pointer (some ⟨g,0,none⟩)) (.int .i64 m) (.slice Ar n cr) (.slice Ap n cp) from by rw[hZ,hs]; unfold Four; simp[go_sem]);have hCl:=Clone_any (rowL F.toDesc m u) A1 c1 Z ((hr1.below hB).more hB.size) (by rw[rowL_length]; omega);rw[rowL_length]at hCl;unfold GivesA at hCl;replace hCl:=Lib.hid hCl;replace hZ:=Lib.hid hZ;go_enter Tryz.func196,Tryz.ntmps196;go_wp2_with (fail);rw[←hZ.out];simp only[←hs];(with_reducible refine hCl.out.mono ?_);rintro e w1 ⟨v1,rfl,ho1,hb1⟩;obtain⟨Av,cv,rfl,-⟩:=ho1.form;rw[rowL_length]at ho1 ⊢;obtain⟨b,rfl⟩:=ho1.zero (by rw[rowL_length]; omega);obtain⟨o1,o2,-,-,hrow1⟩:=ho1.rowCells;have hw1:=hb1.size;have hc1:=Lib.hid (show RowC w1 b m (restF 0 p M u) from fun j hj=>by rw[restF_zero]; exact hrow1 j hj);have hsw:w.heap.size≤s:=Nat.le_of_eq hs.symm;have hB1:=hB.trans (hb1.mono hB.size);replace hs:=Lib.hid hs;have kz1:=kz.out.keep hb1 hZs;obtain⟨⟨a0,a1,a2,a3⟩,-⟩:=kz1;clear hCl ho1 hrow1;go_wp2_with (fail);clear a0 a1 a2 a3;go_loopw [16,5,6,7,8,9,10] (fun iS tS _ _ _ _ _ wr=>∃ (k:Nat) (T:List Int),k≤n∧iS=.int .i64 k∧T.length=k∧Own wr w1.heap.size tS T∧Hid (RowC wr b m (restF k p M u))∧Below Z.heap.size Z wr∧w1.heap.size≤wr.heap.size) (fun iS _ _ _ _ _ _ _=>n - (intOf iS).toNat)
 case atStart=>exact⟨0,[],by omega,rfl,rfl,Own.nil _ _,hc1,hb1,Nat.le_refl _⟩
 case round =>
  obtain⟨k,T,hk,rfl,hT,hot,hrc,hb3,hl3⟩:=hrel;obtain⟨w3,rfl⟩:∃ w3:World,w3=wr:=⟨_,rfl⟩;have hB3:=hB.trans (hb3.mono hB.size);by_cases hlt:k<n
  ·have hk0:(0:Int)≤(k:Int):=by omega
   have hk1:(k:Int)<(n:Int):=by omega
   obtain⟨bp,op,rfl,hbp,hcp⟩:=hrp.at_ (k:=k) (by rw[lst_length]; exact hlt);rw[lst_get _ hlt]at hcp;have hdp:=(hB3.cell (p:=⟨bp,op+k,none⟩) hbp).trans hcp;have hpm:=hpl k hlt;obtain⟨q,hq⟩:∃ q,q=p k:=⟨_,rfl⟩;rw[←hq]at hdp hpm;have hq0:(0:Int)≤(q:Int):=by omega
   have hq1:(q:Int)<(m:Int):=by omega
   obtain⟨y,hy⟩:∃ y,y=ci (u (p k)):=⟨_,rfl⟩;have hdy:=(hrc.out q hpm).1;rw[show restF k p M u q=u (p k) from by rw[hq]; exact hpv k hlt,←hy]at hdy;have hTl:T.length≤1000:=by omega
   have hstep:=fun j=>restF_step (p:=p) (M:=M) (u:=u) (k:=k) j
   have hbz:b<w1.heap.size:=o2;obtain⟨Tv,ct,rfl,-⟩:=hot.form;have hotH:=hot;rw[hT]at hot ⊢;have hT1:(T ++ [y]).length=k+1:=by rw[List.length_append,hT]; rfl
   replace hq:=Lib.hid hq;replace hT:=Lib.hid hT;replace hT1:=Lib.hid hT1;have hyz:y=0→∀ j,restF (k+1) p M u j=restF k p M u j:=fun h j=>by
    have h2:u (p k)=0:=ci_eq_zero.1 (hy ▸ h);rw[hstep,h2,zero_mul,sub_zero]
   by_cases hz:y=0
   ·have hzb:(y !=0)=false:=by rw[bne_eq_false_iff_eq]; exact hz
    have hst2:=Lib.hid (hyz hz);replace hy:=Lib.hid hy;clear hstep hyz hz hcp;go_wp2_with (at_builtin; refine wpList_app1 rfl _ _ rfl w1.heap.size _ _ _ hot rfl rfl rfl (by omega) hl3 ?_; intro v7 w7 ho7 hb7 _ _);have hs7:=hb7.size;go_roundw
    case rel=>exact⟨k+1,T ++ [y],by omega,by go_num,hT1.out,ho7,(hrc.out.below hb7 hbz).congr fun j _=>(hst2.out j).symm,hb3.trans (hb7.mono hw1),by omega⟩
    case measure=>simp[intOf]; omega
   ·have hzb:(y !=0)=true:=by rw[bne_iff_ne]; exact hz
    obtain⟨ba,oa,Ka,la,rfl,hha,hca,hrka,hlka,hcka⟩:=hrm.at_ hlt;rw[show (rowsL F.toDesc m M k).length=m from rowL_length _ _ _]at hca hlka;have hyE:=Lib.hid hy;clear hyz hz hcp hy;go_wp2_with (at_builtin; refine wpList_app1 rfl _ _ rfl w1.heap.size _ _ _ hot rfl rfl rfl (by omega) hl3 ?_; intro v7 w7 ho7 hb7 _ _; have hs7:=hb7.size; have hZ7:=hb3.trans (hb7.mono hw1); have hB7:=hB.trans (hZ7.mono hB.size); have hx7:=(hB7.cell (p:=⟨ba,oa+k,none⟩) hha).trans hca; obtain⟨⟨a0,a1,a2,a3⟩,-⟩:=kz.out.keep hZ7 hZs);have hrc7:=Lib.hid (hrc.out.below hb7 hbz);have hl7:w1.heap.size≤w7.heap.size:=by omega
    clear a0 a1 a2 a3 hx7;go_loopw [38,9,10] (fun iS _ _ wr=>∃ j:Nat,j≤m∧iS=.int .i64 j∧Own wr w1.heap.size v7 (T ++ [y])∧Hid (RowC wr b m (fun i=>if i<j then restF (k+1) p M u i else restF k p M u i))∧Below Z.heap.size Z wr∧w1.heap.size≤wr.heap.size) (fun iS _ _ _=>m - (intOf iS).toNat)
    case atStart=>exact⟨0,by omega,rfl,ho7,hrc7.out.begin,hZ7,hl7⟩
    case round =>
     obtain⟨j,hj,rfl,ho8,hrc8,hZ8,hl8⟩:=hrel;obtain⟨w8,rfl⟩:∃ w8:World,w8=wr:=⟨_,rfl⟩;have hB8:=hB.trans (hZ8.mono hB.size);by_cases hjm:j<m
     ·have hj0:(0:Int)≤(j:Int):=by omega
      have hj1:(j:Int)<(m:Int):=by omega
      obtain⟨bu,ou,rfl,hbu,hcu⟩:=hrka.at_ (k:=j) (by rw[rowsL_length]; exact hjm);rw[rowsL_get F.toDesc M k hjm]at hcu;obtain⟨z,hz⟩:∃ z,z=ci (M k j):=⟨_,rfl⟩;rw[←hz]at hcu;have hdu:=(hB8.cell (p:=⟨bu,ou+j,none⟩) hbu).trans hcu;obtain⟨hdr,hfr⟩:=hrc8.out j hjm;dsimp only at hdr;rw[if_neg (Nat.lt_irrefl _)]at hdr;obtain⟨y1,hy1⟩:∃ y,y=ci (restF k p M u j):=⟨_,rfl⟩;rw[←hy1]at hdr;obtain⟨y3,hy3⟩:∃ y,y=ci (u (p k)*M k j):=⟨_,rfl⟩;obtain⟨y4,hy4⟩:∃ y,y=ci (restF (k+1) p M u j):=⟨_,rfl⟩;have hgf8:=(hg.below hB8).more hB8.size;have hM8:=(hM y z w8.drew hgf8.drew).out;rw[hyE.out,hz,eli_ci,eli_ci,←hz,←hyE.out,←hy3]at hM8;have hS8:=fun W h=>(hS y1 y3 W h).out
      rw[show ci (eli F.toDesc y1 - eli F.toDesc y3)=y4 from by rw[hy1,hy3,eli_ci,eli_ci,hy4,hstep]]at hS8;obtain⟨⟨a0,a1,a2,a3⟩,-⟩:=kz.out.keep hZ8 hZs;have k8:=Lib.hid a0;have hs8:s<w8.heap.size:=by have:=hZ8.size; omega
      have hb8:b<w8.heap.size:=by omega
      have hsb:s<b:=by omega
      have hstp:∀ (W:World),RowC W b m (fun i=>if i<j then restF (k+1) p M u i else restF k p M u i)→Hid (RowC (W.setCell ⟨b,j,none⟩ (.int .i64 y4)) b m (fun i=>if i<j+1 then restF (k+1) p M u i else restF k p M u i)):=fun W h=>by rw[hy4]; exact h.step hjm
      replace hM8:=Lib.hid hM8;replace hS8:=fun W h=>Lib.hid (hS8 W h)
      replace hz:=Lib.hid hz;replace hy1:=Lib.hid hy1;replace hy3:=Lib.hid hy3;replace hy4:=Lib.hid hy4;clear hcu a1 a2 a3;go_wp2_with (fail);clear a0;refine wp_region_held_drew (S:=fun w'=>w'.cell? ⟨s,0,none⟩=some (.pointer (some ⟨g,0,none⟩))) (by kernel_rfl) (by (try dsimp only); exact k8.out) (fun hHeld=>?_);refine tk 0 ?_; try simp only[pS]
      refine tk 1 ?_; try simp only[pS]
      refine tk 2 ?_; try simp only[pS]
      refine tk 3 ?_; try simp only[pS]
      refine tk 4 ?_; try simp only[pS]
      refine tk 5 ?_; try simp only[pS]
      refine tk 6 ?_; try simp only[pS]
      refine tk 8 ?_; try simp only[pS]
      refine tk 9 ?_; try simp only[pS]
      refine tk 10 ?_; try simp only[pS]
      refine tk 11 ?_; try simp only[pS]
      refine wpAnyH_ready (rs:=[7,12]) (by kernel_rfl) (by simp) ?_;refine AllReadyH.cons (o:=⟨_,_,_,_,_,_⟩) rfl (fun K hK=>?_) ?_
      ·go_simp;refine hK.out _ _ (by (try dsimp only); exact hHeld) (fun hHeld=>?_);clear hK K;try simp only[pS]
       refine rd 12 fun K hK=>?_
       go_simp;go_at_call 90;(with_reducible refine (hM8).out.mono ?_);rintro e w9 ⟨rfl,hb9⟩;have hb89:Below w8.heap.size w8 w9:=(Below.refl _ w8).drew.trans hb9;have k9:=(hb89.cell (p:=⟨s,0,none⟩) hs8).trans k8.out;have hdr9:=(hb89.cell (p:=⟨b,j,none⟩) hb8).trans hdr;have hg9:=(hgf8.below hb89).more hb89.size;have hS9:=hS8 w9 hg9;go_wp2_with (fail);refine hK.out _ _ (by (try dsimp only); exact k9) (fun hHeld=>?_);clear hK K;try simp only[pS]
       refine rd 13 fun K hK=>?_
       go_simp;go_at_call 34;(with_reducible refine (hS9).out.mono ?_);rintro e w10 ⟨rfl,hb10⟩;have hb810:=hb89.trans (hb10.mono hb89.size);have k10:=(hb810.cell (p:=⟨s,0,none⟩) hs8).trans k8.out;have hdr10:=(hb810.cell (p:=⟨b,j,none⟩) hb8).trans hdr;have hfr10:=(hb810.frozen (p:=⟨b,j,none⟩) hb8).trans hfr;go_wp2_with (fail);refine hK.out _ _ (by (try dsimp only); exact k10) (fun hHeld=>?_);clear hK K;try simp only[pS]
       refine tk 14 ?_; try simp only[pS]
       refine rd 15 fun K hK=>?_
       go_simp;have k11:(w10.setCell ⟨b,j,none⟩ (.int .i64 y4)).cell? ⟨s,0,none⟩=some (.pointer (some ⟨g,0,none⟩)):=by rw[World.cell?_setCell_far _ _ _ _ (show b≠s by omega)]; exact k10
       refine hK.out _ _ (by (try dsimp only); exact k11) (fun hHeld=>?_);clear hK K;try simp only[pS]
       refine wpAnyH_done (by kernel_rfl) ?_ _;have hfin:=hstp w10 (hrc8.out.below hb810 hb8);have hs10:=hb810.size;have ho10:=(ho8.below hb810 (Nat.le_refl _)).far (p:=⟨b,j,none⟩) (fun e=>by have h9:w1.heap.size≤b:=(ho8.lt _ e).1; omega) (.int .i64 y4);have hZ10:=(hZ8.trans (hb810.mono hZ8.size)).setCell (p:=⟨b,j,none⟩) o1 (.int .i64 y4);have hsz:w1.heap.size≤(w10.setCell ⟨b,j,none⟩ (.int .i64 y4)).heap.size:=by rw[World.size_setCell]; omega
       clear k9 k10 k11 hdr9 hdr10 hfr10 hdr hfr hdu;go_wp2_with (fail);go_roundw
       case rel=>exact⟨j+1,by omega,by go_num,ho10,hfin,hZ10,hsz⟩
       case measure=>simp[intOf]; omega
      refine AllReadyH.cons (o:=⟨_,_,_,_,_,_⟩) rfl (fun K hK=>?_) AllReadyH.nil;go_simp;go_at_call 90;(with_reducible refine (hM8).out.mono ?_);rintro e w9 ⟨rfl,hb9⟩;have hb89:Below w8.heap.size w8 w9:=(Below.refl _ w8).drew.trans hb9;have k9:=(hb89.cell (p:=⟨s,0,none⟩) hs8).trans k8.out;have hdr9:=(hb89.cell (p:=⟨b,j,none⟩) hb8).trans hdr;have hg9:=(hgf8.below hb89).more hb89.size;have hS9:=hS8 w9 hg9;go_wp2_with (fail);refine hK.out _ _ (by (try dsimp only); exact k9) (fun hHeld=>?_);clear hK K;try simp only[pS]
      refine rd 7 fun K hK=>?_
      go_simp;refine hK.out _ _ (by (try dsimp only); exact hHeld) (fun hHeld=>?_);clear hK K;try simp only[pS]
      refine rd 13 fun K hK=>?_
      go_simp;go_at_call 34;(with_reducible refine (hS9).out.mono ?_);rintro e w10 ⟨rfl,hb10⟩;have hb810:=hb89.trans (hb10.mono hb89.size);have k10:=(hb810.cell (p:=⟨s,0,none⟩) hs8).trans k8.out;have hdr10:=(hb810.cell (p:=⟨b,j,none⟩) hb8).trans hdr;have hfr10:=(hb810.frozen (p:=⟨b,j,none⟩) hb8).trans hfr;go_wp2_with (fail);refine hK.out _ _ (by (try dsimp only); exact k10) (fun hHeld=>?_);clear hK K;try simp only[pS]
      refine tk 14 ?_; try simp only[pS]
      refine rd 15 fun K hK=>?_
      go_simp;have k11:(w10.setCell ⟨b,j,none⟩ (.int .i64 y4)).cell? ⟨s,0,none⟩=some (.pointer (some ⟨g,0,none⟩)):=by rw[World.cell?_setCell_far _ _ _ _ (show b≠s by omega)]; exact k10
      refine hK.out _ _ (by (try dsimp only); exact k11) (fun hHeld=>?_);clear hK K;try simp only[pS]
      refine wpAnyH_done (by kernel_rfl) ?_ _;have hfin:=hstp w10 (hrc8.out.below hb810 hb8);have hs10:=hb810.size;have ho10:=(ho8.below hb810 (Nat.le_refl _)).far (p:=⟨b,j,none⟩) (fun e=>by have h9:w1.heap.size≤b:=(ho8.lt _ e).1; omega) (.int .i64 y4);have hZ10:=(hZ8.trans (hb810.mono hZ8.size)).setCell (p:=⟨b,j,none⟩) o1 (.int .i64 y4);have hsz:w1.heap.size≤(w10.setCell ⟨b,j,none⟩ (.int .i64 y4)).heap.size:=by rw[World.size_setCell]; omega
      clear k9 k10 k11 hdr9 hdr10 hfr10 hdr hfr hdu;go_wp2_with (fail);go_roundw
      case rel=>exact⟨j+1,by omega,by go_num,ho10,hfin,hZ10,hsz⟩
      case measure=>simp[intOf]; omega
     ·obtain rfl:m=j:=by omega
      go_wp2_with (fail);go_roundw
      case rel=>exact⟨k+1,T ++ [y],by omega,by go_num,hT1.out,ho8,hrc8.out.finish,hZ8,hl8⟩
      case measure=>simp[intOf]; omega
  ·obtain rfl:n=k:=by omega
   have hfin:=Lib.hid (hrc.out.rd (by omega));clear hM hS hrc;go_wp2_with (fail);go_ret2;exact⟨b,cv,_,rfl,hfin.out,hB3⟩
end Go.Proofs.YtogfekjbpcfgmaaGreat

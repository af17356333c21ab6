/- The reference's Tail of two valid codes of one length. -/
import Derived.Test.YtogfekjbpcfgmaaGreatZtXHasB
import Derived.Test.YtogfekjbpcfgmaaGreatZtXSpL
import Derived.Test.YtogfekjbpcfgmaaGreatZtXExtL
import Derived.Test.YtogfekjbpcfgmaaGreatZtXTk
namespace Go.Proofs.YtogfekjbpcfgmaaGreat
open Go.RowKit Cw
attribute [local go_sem] Oper.semAt_some

theorem nat_beq (a b:Nat):((a:Int)==(b:Int))=decide (a=b):=by
 by_cases h:a=b
 ·subst h; simp
 ·rw[decide_eq_false h,beq_eq_false_iff_ne]; omega
set_option maxRecDepth 100000 in
set_option maxHeartbeats 8000000 in
theorem Tail14_ok (F:FD)(m na nb:Nat)(A B:Nat→Nat→R F.toDesc)(p q:Nat→Nat)(hRa:RR m na p A)(hRb:RR m nb q B)(u:Nat→R F.toDesc)(Aa Ra Ab Rb Ax:Option Addr)(ca ka cb kb cx:Nat)(w:World)(hra:Rd w w.heap.size Aa (modL F.toDesc))(hma:RdM w w.heap.size Ra na (rowsL F.toDesc m A))(hmb:RdM w w.heap.size Rb nb (rowsL F.toDesc m B))(hrx:Rd w w.heap.size Ax (rowL F.toDesc m u))(hm1:1≤m)(hm:m≤256)(hna:na≤256)(hnb:nb≤256) :
  Calls Tryz.prog 44 #[.agg #[.int .i64 F.p,.int .i64 F.m,.slice Aa F.mod.length ca,.int .i64 m,.slice Ra na ka],.agg #[.int .i64 F.p,.int .i64 F.m,.slice Ab F.mod.length cb,.int .i64 m,.slice Rb nb kb],.slice Ax m cx] w (GivesA w.heap.size (tlF q nb p (restF nb q B u) na) w):=by
 have hPa:=fun W h=>Pivots10_any na (rowsL F.toDesc m A) Ra ka W h (by omega) (fun i _=>by rw[rowsL_length]; omega)
 have hPb:=fun W h=>Pivots10_any nb (rowsL F.toDesc m B) Rb kb W h (by omega) (fun i _=>by rw[rowsL_length]; omega)
 rw[show (lst na fun i=>(fnz (rowsL F.toDesc m A i):Int))=lst na fun i=>(p i:Int) from lst_congr fun i hi=>by rw[fnz_RR hRa hi]]at hPa;rw[show (lst nb fun i=>(fnz (rowsL F.toDesc m B i):Int))=lst nb fun i=>(q i:Int) from lst_congr fun i hi=>by rw[fnz_RR hRb hi]]at hPb;replace hPa:=fun W h=>Lib.hid (hPa W h)
 replace hPb:=fun W h=>Lib.hid (hPb W h)
 have hN:=fun y W=>Neg_any F.toDesc y Aa F.mod.length ca W
 have hAT:=fun f h a A1 A2 c1 c2 W x y z=>AddTo9_any F.toDesc m f h a Aa A1 A2 ca c1 c2 W x y z (by omega)
 obtain⟨Z,hZ⟩:∃ Z,Z=(w.alloc (.cells #[.int .i64 F.p,.int .i64 F.m,.slice Aa F.mod.length ca,.int .i64 m,.slice Ra na ka] 27)).alloc (.cells #[.int .i64 F.p,.int .i64 F.m,.slice Ab F.mod.length cb,.int .i64 m,.slice Rb nb kb] 27):=⟨_,rfl⟩;have hB:Below w.heap.size w Z:=by rw[hZ]; exact ((Below.refl _ _).alloc (Nat.le_refl _) _).alloc (by simp) _
 obtain⟨s,hs⟩:∃ s,s=w.heap.size:=⟨_,rfl⟩;obtain⟨hZe,fa,fb⟩:=enter2 F.p F.m m (modL F.toDesc) na (rowsL F.toDesc m A) Aa Ra ca ka F.p F.m m (modL F.toDesc) nb (rowsL F.toDesc m B) Ab Rb cb kb w (Z:=Z) (by rw[modL_length]; exact hZ) hs;rw[modL_length]at fa fb;obtain⟨Y,hY⟩:∃ Y,Y=Z.alloc (.cells #[] 3):=⟨_,rfl⟩;have hbY:Below Z.heap.size Z Y:=by rw[hY]; exact (Below.refl _ _).alloc (Nat.le_refl _) _
 have hYs:Z.heap.size<Y.heap.size:=by rw[hY]; simp
 have hoY:Own Y Z.heap.size (.slice (some ⟨w.heap.size+1+1,0,none⟩) 0 0) []:=by rw[hY,←show Z.heap.size=w.heap.size+1+1 from by rw[hZe,hs]]; exact Own.of_IB (l:=[]) (heap_alloc_new _ _) (Nat.le_refl _) (by simp[maxLen])
 have hBY:=hB.trans (hbY.mono hB.size);have hrxY:=(hrx.below hBY).more hBY.size;have hle:([]:List Int).length+(rowL F.toDesc m u).length≤1000000000:=by rw[rowL_length]; simp; omega
 replace fa:=Lib.hid fa;replace fb:=Lib.hid fb;replace hZe:=Lib.hid hZe;have hpz:=Lib.hid (show Z.heap.size=s+1+1 from hZe.out);rw[hY]at hoY hrxY;replace hY:=Lib.hid hY;unfold GivesA;go_enter Tryz.func44,Tryz.ntmps44;go_wp2_with (at_builtin; rw[←hZ]; refine wpList_appN (n2:=m) rfl (.tmp 15) (.tmp 16) rfl Z.heap.size _ [] _ Ax cx (rowL F.toDesc m u) hoY hrxY rfl rfl (rowL_length _ _ _).symm hle (Nat.le_of_lt (by rw[←hY.out]; exact hYs)) ?_; intro v1 w1 ho1 hb1 hg1 hv1; rw[List.nil_append]at ho1; rw[←hY.out]at hb1; have hbz1:=hbY.trans hb1; obtain⟨c0,c1,c2,c3,c4,-⟩:=fb.out.keep hbz1 (by have:=hZe.out; omega); rw[hs]at c4);have hs1:s+1<w1.heap.size:=by have:=hZe.out; have:=hbz1.size; omega
 have hB1:=hB.trans (hbz1.mono hB.size);have fa1:=Lib.hid (fa.out.keep hbz1 (by have:=hZe.out; omega));have fb1:=Lib.hid (fb.out.keep hbz1 (by have:=hZe.out; omega));obtain⟨Av,cv,rfl,-,hrv,-⟩:=ho1.form;rw[rowL_length];have hq1:=hPb w1 ((hmb.below hB1).more hB1.size);simp only[←hs];have hsw:w.heap.size≤s:=Nat.le_of_eq hs.symm;replace hs:=Lib.hid hs;replace hZ:=Lib.hid hZ;clear hPb hoY hrxY ho1;(with_reducible refine hq1.out.mono ?_);rintro e w2 ⟨vq,rfl,hoq,hb2⟩;obtain⟨Aq,xq,rfl,-,hrq,-⟩:=hoq.form;rw[lst_length];have hB2:=hB1.trans (hb2.mono hB1.size);have fa2:=Lib.hid (fa1.out.keep hb2 (by omega));have fb2:=Lib.hid (fb1.out.keep hb2 (by omega));have hs2:s+1<w2.heap.size:=Nat.lt_of_lt_of_le hs1 hb2.size;have hrv2:=(hrv.below hb2).more hb2.size;clear hq1 hoq c0 c1 c2 c3 c4 fa1 fb1 hrv;go_wp2_with (fail);go_loopw [9,7] (fun iS yS wr=>∃ (i:Nat) (A2:Option Addr) (c2:Nat),i≤nb∧iS=.int .i64 i∧yS=.slice A2 m c2∧Rd wr wr.heap.size A2 (rowL F.toDesc m (restF i q B u))∧Below w2.heap.size w2 wr) (fun iS _ _=>nb - (intOf iS).toNat)
 case atStart=>exact⟨0,Av,cv,by omega,rfl,rfl,by rw[show rowL F.toDesc m (restF 0 q B u)=rowL F.toDesc m u from lst_congr fun j _=>by rw[restF_zero]]; exact hrv2,Below.refl _ _⟩
 case round =>
  obtain⟨i,A2,c2,hi,rfl,rfl,hry,hb3⟩:=hrel;obtain⟨w3,rfl⟩:∃ w3:World,w3=wr:=⟨_,rfl⟩;have hB3:=hB2.trans (hb3.mono hB2.size);by_cases hib:i<nb
  ·have hi0:(0:Int)≤(i:Int):=by omega
   have hi1:(i:Int)<(nb:Int):=by omega
   obtain⟨bq,oq,rfl,hbq,hcq⟩:=hrq.at_ (k:=i) (by rw[lst_length]; exact hib);rw[lst_get _ hib]at hcq;have hqm:=hRb.lt i hib;obtain⟨bb,ob,Kb,lb,rfl,hhb,hcb,hrkb,-,-⟩:=hmb.at_ (show i<nb by omega);rw[rowsL_length]at hcb;obtain⟨yb,yo,rfl,hyb,hcy⟩:=hry.at_ (k:=q i) (by rw[rowL_length]; exact hqm);rw[rowL_get F.toDesc _ hqm,restF_piv hRb hib]at hcy;obtain⟨qi,hqi⟩:∃ qi,qi=q i:=⟨_,rfl⟩;rw[←hqi]at hcq hqm hcy;have hq0:(0:Int)≤(qi:Int):=by omega
   have hq1:(qi:Int)<(m:Int):=by omega
   obtain⟨y,hy⟩:∃ y,y=ci (u qi):=⟨_,rfl⟩;rw[←hy]at hcy;obtain⟨y2,hy2⟩:∃ y2,y2=ci (-(u qi)):=⟨_,rfl⟩;have hN3:=hN y w3.drew;rw[show ci (-(eli F.toDesc y))=y2 from by rw[hy,eli_ci,hy2]]at hN3;have hAT3:=fun W x d z=>hAT (restF i q B u) (B i) y2 (some ⟨yb,yo,none⟩) Kb c2 lb W x d z
   rw[show (fun j=>restF i q B u j+eli F.toDesc y2*B i j)=restF (i+1) q B u from funext fun j=>by rw[restF_step,hy2,eli_ci,hqi,neg_mul,sub_d]]at hAT3;unfold Gives at hAT3;rw[rowL_length]at hAT3;replace hAT3:=fun W x d z=>Lib.hid (hAT3 W x d z)
   replace hN3:=Lib.hid hN3;obtain⟨a0,a1,a2,a3,a4,-⟩:=fa2.out.keep hb3 (by omega);obtain⟨c0,c1,c2',c3,c4,-⟩:=fb2.out.keep hb3 hs2;have kk:=Lib.hid (show (w3.cell? ⟨s,0,none⟩=some (.int .i64 F.p)∧w3.cell? ⟨s,1,none⟩=some (.int .i64 F.m)∧w3.cell? ⟨s,2,none⟩=some (.slice Aa F.mod.length ca))∧w3.cell? ⟨s+1,4,none⟩=some (.slice (some ⟨bb,ob,none⟩) nb kb)∧w3.cell? ⟨bb,ob+i,none⟩=some (.slice Kb m lb)∧w3.cell? ⟨bq,oq+i,none⟩=some (.int .i64 qi)∧w3.cell? ⟨yb,yo+qi,none⟩=some (.int .i64 y) from ⟨⟨a0,a1,a2⟩,c4,(hB3.cell (p:=⟨bb,ob+i,none⟩) hhb).trans hcb,(hb3.cell (p:=⟨bq,oq+i,none⟩) hbq).trans hcq,hcy⟩);have kp:∀ {B0:Nat} {W W':World},Below B0 W W'→s+1<B0→bb<B0→bq<B0→yb<B0→Hid ((W.cell? ⟨s,0,none⟩=some (.int .i64 F.p)∧W.cell? ⟨s,1,none⟩=some (.int .i64 F.m)∧W.cell? ⟨s,2,none⟩=some (.slice Aa F.mod.length ca))∧W.cell? ⟨s+1,4,none⟩=some (.slice (some ⟨bb,ob,none⟩) nb kb)∧W.cell? ⟨bb,ob+i,none⟩=some (.slice Kb m lb)∧W.cell? ⟨bq,oq+i,none⟩=some (.int .i64 qi)∧W.cell? ⟨yb,yo+qi,none⟩=some (.int .i64 y))→Hid ((W'.cell? ⟨s,0,none⟩=some (.int .i64 F.p)∧W'.cell? ⟨s,1,none⟩=some (.int .i64 F.m)∧W'.cell? ⟨s,2,none⟩=some (.slice Aa F.mod.length ca))∧W'.cell? ⟨s+1,4,none⟩=some (.slice (some ⟨bb,ob,none⟩) nb kb)∧W'.cell? ⟨bb,ob+i,none⟩=some (.slice Kb m lb)∧W'.cell? ⟨bq,oq+i,none⟩=some (.int .i64 qi)∧W'.cell? ⟨yb,yo+qi,none⟩=some (.int .i64 y)):=fun {B0 W W'} hb h1 _ _ _ h=>⟨keep3 hb (by omega) h.out.1,(hb.cell (p:=⟨s+1,4,none⟩) (by assumption)).trans h.out.2.1,(hb.cell (p:=⟨bb,ob+i,none⟩) (by assumption)).trans h.out.2.2.1,(hb.cell (p:=⟨bq,oq+i,none⟩) (by assumption)).trans h.out.2.2.2.1,(hb.cell (p:=⟨yb,yo+qi,none⟩) (by assumption)).trans h.out.2.2.2.2⟩
   have x1:s+1<w3.heap.size:=Nat.lt_of_lt_of_le hs2 hb3.size;have x2:bb<w3.heap.size:=Nat.lt_of_lt_of_le hhb hB3.size;have x3:bq<w3.heap.size:=Nat.lt_of_lt_of_le hbq hb3.size;replace hqi:=Lib.hid hqi;replace hy:=Lib.hid hy;replace hy2:=Lib.hid hy2;replace kp:=fun {B0:Nat} {W W':World} a u0 u1 u2 u3 b=>Lib.hid (@kp B0 W W' a u0 u1 u2 u3 b)
   clear hcq hcb hcy a0 a1 a2 a3 a4 c0 c1 c2' c3 c4 hN hAT;go_wp2_with (fail);refine wp_region_held_drew (S:=fun w'=>(w'.cell? ⟨s,0,none⟩=some (.int .i64 F.p)∧w'.cell? ⟨s,1,none⟩=some (.int .i64 F.m)∧w'.cell? ⟨s,2,none⟩=some (.slice Aa F.mod.length ca))∧w'.cell? ⟨s+1,4,none⟩=some (.slice (some ⟨bb,ob,none⟩) nb kb)∧w'.cell? ⟨bb,ob+i,none⟩=some (.slice Kb m lb)∧w'.cell? ⟨bq,oq+i,none⟩=some (.int .i64 qi)∧w'.cell? ⟨yb,yo+qi,none⟩=some (.int .i64 y)) (by kernel_rfl) (by (try dsimp only); exact kk.out) (fun hHeld=>?_);refine tk 0 ?_; try simp only[pS]
   refine tk 1 ?_; try simp only[pS]
   refine tk 2 ?_; try simp only[pS]
   refine tk 3 ?_; try simp only[pS]
   refine tk 4 ?_; try simp only[pS]
   refine tk 5 ?_; try simp only[pS]
   refine tk 6 ?_; try simp only[pS]
   refine tk 7 ?_; try simp only[pS]
   refine tk 8 ?_; try simp only[pS]
   refine tk 9 ?_; try simp only[pS]
   refine tk 10 ?_; try simp only[pS]
   refine tk 11 ?_; try simp only[pS]
   refine tk 13 ?_; try simp only[pS]
   refine tk 14 ?_; try simp only[pS]
   refine tk 15 ?_; try simp only[pS]
   refine tk 16 ?_; try simp only[pS]
   refine tk 17 ?_; try simp only[pS]
   refine rd 12 fun K hK=>?_
   go_simp;go_at_call 101;(with_reducible refine (hN3).out.mono ?_);rintro e w4 ⟨rfl,hx4⟩;have hb4:Below w3.heap.size w3 w4:=(Below.refl _ w3).drew.trans hx4;have kk4:=(kp hb4 x1 x2 x3 hyb kk).out;have hB4:=hB3.trans (hb4.mono hB3.size);have hA4:=hAT3 w4 ((hra.below hB4).more hB4.size) ((hry.below hb4).more hb4.size) ((hrkb.below hB4).more hB4.size);have hs34:=hb4.size;go_wp2_with (fail);refine hK.out _ _ (by (try dsimp only); exact kk4.out) (fun hHeld=>?_);clear hK K;try simp only[pS]
   refine rd 18 fun K hK=>?_
   go_simp;go_at_call 99;(with_reducible refine (hA4).out.mono ?_);rintro e w5 ⟨g5,rfl,hg5,hib5,hx5⟩;have kk5:=(kp hx5 (Nat.lt_of_lt_of_le x1 hs34) (Nat.lt_of_lt_of_le x2 hs34) (Nat.lt_of_lt_of_le x3 hs34) (Nat.lt_of_lt_of_le hyb hs34) kk4).out;go_wp2_with (fail);refine hK.out _ _ (by (try dsimp only); exact kk5.out) (fun hHeld=>?_);clear hK K;try simp only[pS]
   refine tk 19 ?_; try simp only[pS]
   refine wpAnyH_done (by kernel_rfl) ?_ _;clear kk5 kk4 kk kp hA4 hAT3 hN3;go_wp2_with (fail);go_roundw
   case rel=>exact⟨i+1,some ⟨g5,0,none⟩,m,by omega,by go_num,rfl,hib5.rd,hb3.trans ((hb4.trans (hx5.mono hs34)).mono hb3.size)⟩
   case measure=>simp[intOf]; omega
  ·obtain rfl:nb=i:=by omega
   have hq3:=hPa w3 ((hma.below hB3).more hB3.size);obtain⟨a0,a1,a2,a3,a4,-⟩:=fa2.out.keep hb3 (by omega);clear hPa hN hAT;go_wp2_with (fail);(with_reducible refine hq3.out.mono ?_);rintro e w4 ⟨vp,rfl,hop,hb4⟩;obtain⟨Ap,xp,rfl,-,hrp,-⟩:=hop.form;rw[lst_length];have hB4:=hB3.trans (hb4.mono hB3.size);have hb24:=hb3.trans (hb4.mono hb3.size);have hry4:=(hry.below hb4).more hb4.size;have hrq4:=(hrq.below hb24).more hb24.size;clear hq3 hop a0 a1 a2 a3 a4 hry hrq;go_wp2_with (fail);go_loopw [12,10,13,14] (fun iS vS _ _ wr=>∃ j:Nat,j≤na∧iS=.int .i64 j∧Own wr w4.heap.size vS (tlF q nb p (restF nb q B u) j)∧Below w4.heap.size w4 wr) (fun iS _ _ _ _=>na - (intOf iS).toNat)
   case atStart=>exact⟨0,by omega,rfl,Own.nil _ _,Below.refl _ _⟩
   case round =>
    obtain⟨j,hj,rfl,how,hb5⟩:=hrel;obtain⟨w5,rfl⟩:∃ w5:World,w5=wr:=⟨_,rfl⟩;by_cases hjm:j<na
    ·have hj0:(0:Int)≤(j:Int):=by omega
     have hj1:(j:Int)<(na:Int):=by omega
     obtain⟨bp,op,rfl,hbp,hcp⟩:=hrp.at_ (k:=j) (by rw[lst_length]; exact hjm);rw[lst_get _ hjm]at hcp;have hdp:=(hb5.cell (p:=⟨bp,op+j,none⟩) hbp).trans hcp;have hpm:=hRa.lt j hjm;obtain⟨pj,hpj⟩:∃ pj,pj=p j:=⟨_,rfl⟩;rw[←hpj]at hdp hpm;have hyes:=fun h=>tlF_yes (f:=restF nb q B u) (q:=q) (p:=p) (nb:=nb) (k:=j) h
     have hno:=fun h=>tlF_no (f:=restF nb q B u) (q:=q) (p:=p) (nb:=nb) (k:=j) h
     rw[←hpj]at hyes hno;replace hpj:=Lib.hid hpj;clear hcp;go_wp2_with (fail);go_loopw [14,13] (fun tS dS wr=>∃ t:Nat,t≤nb∧tS=.int .i64 t∧dS=.bool (ownD q pj t)∧Own wr w4.heap.size _ (tlF q nb p (restF nb q B u) j)∧Below w5.heap.size w5 wr) (fun tS _ _=>nb - (intOf tS).toNat)
     case atStart=>exact⟨0,by omega,rfl,rfl,how,Below.refl _ _⟩
     case round =>
      obtain⟨t,ht,rfl,rfl,how6,hb6⟩:=hrel;obtain⟨w6,rfl⟩:∃ w6:World,w6=wr:=⟨_,rfl⟩;have hb46:=hb5.trans (hb6.mono hb5.size);have hs45:=hb5.size;have hdp6:=(hb6.cell (p:=⟨bp,op+j,none⟩) (Nat.lt_of_lt_of_le hbp hs45)).trans hdp;by_cases htn:t<nb
      ·have ht0:(0:Int)≤(t:Int):=by omega
       have ht1:(t:Int)<(nb:Int):=by omega
       obtain⟨bq,oq,rfl,hbq,hcq⟩:=hrq4.at_ (k:=t) (by rw[lst_length]; exact htn);rw[lst_get _ htn]at hcq;have hdq:=(hb46.cell (p:=⟨bq,oq+t,none⟩) hbq).trans hcq;have hstp:ownD q pj (t+1)=(ownD q pj t || decide (q t=pj)):=rfl;obtain⟨qt,hqt⟩:∃ qt,qt=q t:=⟨_,rfl⟩;rw[←hqt]at hdq hstp;have kk:=Lib.hid (show w6.cell? ⟨bq,oq+t,none⟩=some (.int .i64 qt)∧w6.cell? ⟨bp,op+j,none⟩=some (.int .i64 pj) from ⟨hdq,hdp6⟩);have how7:=how6.drew;have hb7:=hb6.drew;clear hcq;replace hqt:=Lib.hid hqt
       cases hod:ownD q pj t
       ·rw[hod,Bool.false_or,←nat_beq]at hstp;replace hstp:=Lib.hid hstp;replace hod:=Lib.hid hod;clear hdq hdp6;go_wp2_with (fail);refine wp_region_held_drew (S:=fun w'=>w'.cell? ⟨bq,oq+t,none⟩=some (.int .i64 qt)∧w'.cell? ⟨bp,op+j,none⟩=some (.int .i64 pj)) (by kernel_rfl) (by (try dsimp only); exact kk.out) (fun hHeld=>?_);refine tk 0 ?_; try simp only[pS]
        refine tk 1 ?_; try simp only[pS]
        refine tk 2 ?_; try simp only[pS]
        refine tk 3 ?_; try simp only[pS]
        refine tk 4 ?_; try simp only[pS]
        refine tk 5 ?_; try simp only[pS]
        refine tk 6 ?_; try simp only[pS]
        refine tk 7 ?_; try simp only[pS]
        refine tk 8 ?_; try simp only[pS]
        refine tk 9 ?_; try simp only[pS]
        refine tk 10 ?_; try simp only[pS]
        refine tk 11 ?_; try simp only[pS]
        refine tk 12 ?_; try simp only[pS]
        refine wpAnyH_done (by kernel_rfl) ?_ _;go_wp2_with (fail);go_roundw
        case rel=>exact⟨t+1,by omega,by go_num,by rw[hstp.out],how7,hb7⟩
        case measure=>simp[intOf]; omega
       ·rw[hod,Bool.true_or]at hstp;replace hstp:=Lib.hid hstp;replace hod:=Lib.hid hod;clear hdq hdp6;go_wp2_with (fail);refine wp_region_held_drew (S:=fun w'=>w'.cell? ⟨bq,oq+t,none⟩=some (.int .i64 qt)∧w'.cell? ⟨bp,op+j,none⟩=some (.int .i64 pj)) (by kernel_rfl) (by (try dsimp only); exact kk.out) (fun hHeld=>?_);refine tk 0 ?_; try simp only[pS]
        refine tk 1 ?_; try simp only[pS]
        refine tu 2 ?_;try simp only[pS]
        refine tu 3 ?_;try simp only[pS]
        refine tu 4 ?_;try simp only[pS]
        refine tu 5 ?_;try simp only[pS]
        refine tu 6 ?_;try simp only[pS]
        refine tu 7 ?_;try simp only[pS]
        refine tu 8 ?_;try simp only[pS]
        refine tu 9 ?_;try simp only[pS]
        refine tu 10 ?_;try simp only[pS]
        refine tk 11 ?_; try simp only[pS]
        refine tk 12 ?_; try simp only[pS]
        refine wpAnyH_done (by kernel_rfl) ?_ _;go_wp2_with (fail);go_roundw
        case rel=>exact⟨t+1,by omega,by go_num,by rw[hstp.out],how7,hb7⟩
        case measure=>simp[intOf]; omega
      ·obtain rfl:nb=t:=by omega
       have hs46:=hb46.size
       cases hod:ownD q pj nb
       ·have hno2:=Lib.hid (hno hod);obtain⟨yb,yo,rfl,hyb,hcy⟩:=hry4.at_ (k:=pj) (by rw[rowL_length]; exact hpm);rw[rowL_get F.toDesc _ hpm]at hcy;have hdy:=(hb46.cell (p:=⟨yb,yo+pj,none⟩) hyb).trans hcy;have hp0:(0:Int)≤(pj:Int):=by omega
        have hp1:(pj:Int)<(m:Int):=by omega
        have hlen:(tlF q nb p (restF nb q B u) j).length≤1000:=by rw[tlF_length]; have:=selP_le q p nb j; omega
        replace hod:=Lib.hid hod;generalize ci (restF nb q B u pj)=y at *;clear hcy hno hyes;go_wp2_with (at_builtin; refine wpList_app1 rfl _ _ rfl w4.heap.size _ _ _ how6 rfl rfl rfl (by omega) hs46 ?_; intro v10 w10 ho10 hb10 _ _);rw[hno2.out]at ho10;go_roundw
        case rel=>exact⟨j+1,by omega,by go_num,ho10,hb46.trans (hb10.mono (Nat.le_refl _))⟩
        case measure=>simp[intOf]; omega
       ·have hyes2:=Lib.hid (hyes hod);replace hod:=Lib.hid hod;clear hno hyes;go_wp2_with (fail);go_roundw
        case rel=>exact⟨j+1,by omega,by go_num,by rw[hyes2.out]; exact how6,hb46⟩
        case measure=>simp[intOf]; omega
    ·obtain rfl:na=j:=by omega
     have hBf:=hB4.trans (hb5.mono hB4.size);have hof:=how.lowerM hB4.size;clear how;go_wp2_with (fail);go_ret;exact⟨_,rfl,hof,hBf⟩
end Go.Proofs.YtogfekjbpcfgmaaGreat

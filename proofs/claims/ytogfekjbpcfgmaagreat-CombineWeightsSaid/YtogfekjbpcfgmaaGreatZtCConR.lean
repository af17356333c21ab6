/- The reference's Concatenate of two codes. -/
import Derived.IntWalk
import Derived.Test.YtogfekjbpcfgmaaGreatZtCConE
import Derived.Test.YtogfekjbpcfgmaaGreatZtCEncP
import Derived.Test.YtogfekjbpcfgmaaGreatZtCIsB7
import Derived.Test.YtogfekjbpcfgmaaGreatZtCCor14
import Derived.Test.YtogfekjbpcfgmaaGreatZtCConL
import Derived.Test.YtogfekjbpcfgmaaGreatZtCTk
namespace Go.Proofs.YtogfekjbpcfgmaaGreat
open Go.RowKit Cw
attribute [local go_sem] Oper.semAt_some

theorem coor_clean (S F:FD)(n rt:Nat)(l:List Int)(A AF Al:Option Addr)(c cF cl:Nat)(w:World)(hrA:Rd w w.heap.size A (modL S.toDesc))(hrF:Rd w w.heap.size AF (modL F.toDesc))(hrl:Rd w w.heap.size Al (rowL F.toDesc n (elL F l)))(hp:S.p=F.p)(hnM:S.m*n=F.m)(hrt:IsRt S F rt)(hI:IndS S.m n (elL F l)) :
  Calls Tryz.prog 56 #[.agg #[.int .i64 F.p,.int .i64 F.m,.slice AF F.mod.length cF],.agg #[.int .i64 S.p,.int .i64 S.m,.slice A S.mod.length c],.slice Al n cl] w fun e w'=>∃ b,e=.returned (.slice (some ⟨b,0,none⟩) F.q F.q)∧RdM w' w'.heap.size (some ⟨b,0,none⟩) F.q (fun x=>rowL S.toDesc n (msgS S F (rel F.toDesc rt) n (elL F l) (rel F.toDesc x)))∧Below w.heap.size w w':=by
 have h:=Coor14_ok S F n rt (rowL F.toDesc n (elL F l)) A AF Al c cF cl w hrA hrF hrl (rowL_length _ _ _) hp hnM hrt (indS_congr (fun j hj=>(elL_row _ hj).symm) hI);rw[msgS_congr (b:=elL F (rowL F.toDesc n (elL F l))) (b':=elL F l) fun j hj=>elL_row _ hj]at h;exact h

set_option maxRecDepth 100000 in
set_option maxHeartbeats 8000000 in
theorem rConc_any (F S:FD)(m1 m2 na nb:Nat)(rowsa rowsb:Nat→List Int)(U:Nat→Nat→R F.toDesc)(M:Nat→Nat→R S.toDesc)(va:VC F.p F.m m1 (modL F.toDesc) na rowsa F m1 U)(vb:VC S.p S.m m2 (modL S.toDesc) nb rowsb S m2 M)(l:List Int)(Aa Ra Ab Rb Al:Option Addr)(ca ka cb kb cl:Nat)(w:World)(hra:Rd w w.heap.size Aa (modL F.toDesc))(hma:RdM w w.heap.size Ra na rowsa)(hrb:Rd w w.heap.size Ab (modL S.toDesc))(hmb:RdM w w.heap.size Rb nb rowsb)(hrl:Rd w w.heap.size Al l)(hll:l.length≤maxLen)(rt:Nat)(hrt:Mt F S nb→IsRt S F rt){P Mf N:Int} {ml:List Int} {n:Nat} {rows:Nat→List Int}
  (hG:Mt F S nb→basE F l S.m=0→m1*m2≤64→∀ (W:World) (Ag:Option Addr) (cg:Nat),Rd W W.heap.size Ab (modL S.toDesc)→RdM W W.heap.size Ag (nb*na) (rowsL S.toDesc (m1*m2) (conR S F (rel F.toDesc rt) nb (elL F l) m2 M U))→Calls Tryz.prog 45 #[.agg #[.int .i64 S.p,.int .i64 S.m,.slice Ab S.mod.length cb],.slice Ag (nb*na) cg,.int .i64 (m1*m2:Nat)] W (ResM P Mf N ml n rows W)) :
  Calls Tryz.prog 17 #[.agg #[.int .i64 F.p,.int .i64 F.m,.slice Aa F.mod.length ca,.int .i64 m1,.slice Ra na ka],.agg #[.int .i64 S.p,.int .i64 S.m,.slice Ab S.mod.length cb,.int .i64 m2,.slice Rb nb kb],.slice Al l.length cl] w (ConPost F S nb m1 m2 l (ResC P Mf N ml n rows 0) w):=by
 have hm1:=va.m1; have hm2:=vb.m1; have hm164:=va.m64; have hm264:=vb.m64;have hna64:na≤64:=by have:=va.le; omega
 obtain⟨qa1,qa2,qa3,qa4,qa5⟩:=vc_bounds va;obtain⟨qb1,qb2,qb3,qb4,qb5⟩:=vc_bounds vb;have hCa:=fun W a b=>Check12_any F.p F.m m1 (modL F.toDesc) na rowsa Aa Ra ca ka W qa1 qa2 qa3 qa4 qa5 a b
 have hCb:=fun W a b=>Check12_any S.p S.m m2 (modL S.toDesc) nb rowsb Ab Rb cb kb W qb1 qb2 qb3 qb4 qb5 a b
 rw[vc_err va,modL_length]at hCa;rw[vc_err vb,modL_length]at hCb;replace hCa:=fun W a b=>Lib.hid (hCa W a b)
 replace hCb:=fun W a b=>Lib.hid (hCb W a b)
 have hIs:=fun W a b=>IsB7_any F l S.m Aa Al ca cl W a b hll
 have hva:=va.rdm hma;have hvb:=vb.rdm hmb;obtain⟨Z,hZ⟩:∃ Z,Z=(((w.alloc (.cells #[.int .i64 F.p,.int .i64 F.m,.slice Aa F.mod.length ca,.int .i64 m1,.slice Ra na ka] 27)).alloc (.cells #[.int .i64 S.p,.int .i64 S.m,.slice Ab S.mod.length cb,.int .i64 m2,.slice Rb nb kb] 27)).alloc (.cells #[.int .i64 0,.int .i64 0,.slice none 0 0,.int .i64 0,.slice none 0 0] 27)):=⟨_,rfl⟩;have hB:Below w.heap.size w Z:=by rw[hZ]; exact (((Below.refl _ _).alloc (Nat.le_refl _) _).alloc (by simp) _).alloc (by simp; omega) _
 obtain⟨s,hs⟩:∃ s,s=w.heap.size:=⟨_,rfl⟩;have h3:=two_enter F.p F.m m1 (modL F.toDesc) na rowsa Aa Ra ca ka S.p S.m m2 (modL S.toDesc) nb rowsb Ab Rb cb kb w (Z:=Z) (by rw[modL_length,modL_length]; exact hZ) hs;rw[modL_length,modL_length]at h3;obtain⟨hZe,fa,fb,fz⟩:=h3;have hZs:s+1+1<Z.heap.size:=by omega
 have hC1:=hCa Z ((hra.below hB).more hB.size) ((hma.below hB).more hB.size);replace hZe:=Lib.hid hZe;replace hZ:=Lib.hid hZ;replace fa:=Lib.hid fa;replace fb:=Lib.hid fb;replace fz:=Lib.hid fz;clear qa1 qa2 qa3 qa4 qa5 qb1 qb2 qb3 qb4 qb5 hCa hma;go_enter Tryz.func17,Tryz.ntmps17;go_wp2_with (fail);rw[←hZ.out];simp only[←hs];have hsw:w.heap.size≤s:=Nat.le_of_eq hs.symm;replace hs:=Lib.hid hs;(with_reducible refine hC1.out.mono ?_);rintro e w1 ⟨rfl,hb1⟩;have hB1:=hB.trans (hb1.mono hB.size);have fa1:=Lib.hid (fa.out.keep hb1 (by omega));have fb1:=Lib.hid (fb.out.keep hb1 (by omega));have fz1:=Lib.hid (fz.out.keep hb1 hZs);have hs1:s+1+1<w1.heap.size:=Nat.lt_of_lt_of_le hZs hb1.size;have hC2:=hCb w1 ((hrb.below hB1).more hB1.size) ((hmb.below hB1).more hB1.size);obtain⟨c0,c1,c2,c3,c4,-⟩:=fb1.out;clear hC1 hCb fa fb fz hb1;go_wp2_with (fail);(with_reducible refine hC2.out.mono ?_);rintro e w2 ⟨rfl,hb2⟩;have hB2:=hB1.trans (hb2.mono hB1.size);have fa2:=Lib.hid (fa1.out.keep hb2 (by omega));have fb2:=Lib.hid (fb1.out.keep hb2 (by omega));have fz2:=Lib.hid (fz1.out.keep hb2 hs1);have hs2:s+1+1<w2.heap.size:=Nat.lt_of_lt_of_le hs1 hb2.size;clear hC2 fa1 fb1 fz1 hb2 c0 c1 c2 c3 c4;obtain⟨a0,a1,a2,a3,a4,-⟩:=fa2.out;obtain⟨c0,c1,c2,c3,c4,-⟩:=fb2.out;have kG:=Lib.hid (show (w2.cell? ⟨s,0,none⟩=some (.int .i64 F.p)∧w2.cell? ⟨s,1,none⟩=some (.int .i64 F.m))∧w2.cell? ⟨s+1,0,none⟩=some (.int .i64 S.p)∧w2.cell? ⟨s+1,4,none⟩=some (.slice Rb nb kb) from ⟨⟨a0,a1⟩,c0,c4⟩);have hSn:¬ S.m=0:=by have:=S.m1; omega
 have hSi:¬ (S.m:Int)=0:=by omega
 obtain⟨r,hr⟩:∃ r,r=F.m % S.m:=⟨_,rfl⟩;obtain⟨d,hd⟩:∃ d,d=F.m / S.m:=⟨_,rfl⟩;have hmt:((F.m:Int).tmod (S.m:Int))=(r:Int):=by rw[hr]; rfl
 have hme:((F.m:Int) % (S.m:Int))=(r:Int):=by rw[hr]; push_cast; rfl
 have hdt:((F.m:Int).tdiv (S.m:Int))=(d:Int):=by rw[hd]; rfl
 have hde:((F.m:Int) / (S.m:Int))=(d:Int):=by rw[hd]; push_cast; rfl
 have hd8:d≤8:=by rw[hd]; exact Nat.le_trans (Nat.div_le_self _ _) F.m8
 have hdw:IntKind.i64.wrap (d:Int)=(d:Int):=IntWalk.i64_in _ (by omega);by_cases hpp:F.p=S.p;rotate_left
 ·have hp1:((F.p:Int) !=(S.p:Int))=true:=by rw[bne_iff_ne]; omega
  have hp2:(F.p !=S.p)=true:=by rw[bne_iff_ne]; exact hpp
  replace hr:=Lib.hid hr;replace hd:=Lib.hid hd;have hno:¬ Mt F S nb:=fun h=>hpp h.1.symm
  replace hpp:=Lib.hid hpp;go_wp2_with (fail);clear a0 a1 a2 a3 a4 c0 c1 c2 c3 c4;refine wp_region_held_drew (S:=fun w'=>(w'.cell? ⟨s,0,none⟩=some (.int .i64 F.p)∧w'.cell? ⟨s,1,none⟩=some (.int .i64 F.m))∧w'.cell? ⟨s+1,0,none⟩=some (.int .i64 S.p)∧w'.cell? ⟨s+1,4,none⟩=some (.slice Rb nb kb)) (by kernel_rfl) (by (try dsimp only); exact kG.out) (fun hHeld=>?_);refine tk 0 ?_; try simp only[pS]
  refine tk 1 ?_; try simp only[pS]
  refine tk 2 ?_; try simp only[pS]
  refine tk 3 ?_; try simp only[pS]
  refine tk 4 ?_; try simp only[pS]
  refine tk 5 ?_; try simp only[pS]
  refine tk 6 ?_; try simp only[pS]
  refine tk 7 ?_; try simp only[pS]
  refine tu 8 ?_;try simp only[pS]
  refine tu 9 ?_;try simp only[pS]
  refine tu 10 ?_;try simp only[pS]
  refine tu 11 ?_;try simp only[pS]
  refine tu 12 ?_;try simp only[pS]
  refine tu 13 ?_;try simp only[pS]
  refine tk 14 ?_; try simp only[pS]
  refine tk 15 ?_; try simp only[pS]
  refine tu 16 ?_;try simp only[pS]
  refine tu 17 ?_;try simp only[pS]
  refine tu 18 ?_;try simp only[pS]
  refine tu 19 ?_;try simp only[pS]
  refine tu 20 ?_;try simp only[pS]
  refine tu 21 ?_;try simp only[pS]
  refine tu 22 ?_;try simp only[pS]
  refine tu 23 ?_;try simp only[pS]
  refine tu 24 ?_;try simp only[pS]
  refine tk 25 ?_; try simp only[pS]
  refine wpAnyH_done (by kernel_rfl) ?_ _;have hBf:=Lib.hid (hB2.drew.trans ((set5 (w3:=w2.drew) (b:=s+1+1) (.int .i64 0) (.int .i64 0) (.slice none 0 0) (.int .i64 0) (.slice none 0 0)).mono (by omega)));obtain⟨q0,q1,q2,q3,q4,g0,g1,g2,g3,g4⟩:=fz2.out;go_wp2_with (fail);refine bodyPost_ret (v:=.tuple #[.agg #[.int .i64 0,.int .i64 0,.slice none 0 0,.int .i64 0,.slice none 0 0],.int .i64 10]) (by simp[results,Tryz.results17,go_sem,q0,q1,q2,q3,q4]) rfl (conP_10 hno hBf.out)
 have hp1:((F.p:Int) !=(S.p:Int))=false:=by rw[hpp]; simp
 have hp2:(F.p !=S.p)=false:=by rw[hpp]; simp
 by_cases hr0:r=0;rotate_left
 ·have hr1:((r:Int) !=0)=true:=by rw[bne_iff_ne]; omega
  have hr2:(r !=0)=true:=by rw[bne_iff_ne]; exact hr0
  have hno:¬ Mt F S nb:=fun h=>hr0 (by rw[hr]; exact Nat.mod_eq_zero_of_dvd h.2.1)
  replace hr:=Lib.hid hr;replace hd:=Lib.hid hd;replace hpp:=Lib.hid hpp;replace hr0:=Lib.hid hr0;go_wp2_with (fail);clear a0 a1 a2 a3 a4 c0 c1 c2 c3 c4;refine wp_region_held_drew (S:=fun w'=>(w'.cell? ⟨s,0,none⟩=some (.int .i64 F.p)∧w'.cell? ⟨s,1,none⟩=some (.int .i64 F.m))∧w'.cell? ⟨s+1,0,none⟩=some (.int .i64 S.p)∧w'.cell? ⟨s+1,4,none⟩=some (.slice Rb nb kb)) (by kernel_rfl) (by (try dsimp only); exact kG.out) (fun hHeld=>?_);refine tk 0 ?_; try simp only[pS]
  refine tk 1 ?_; try simp only[pS]
  refine tk 2 ?_; try simp only[pS]
  refine tk 3 ?_; try simp only[pS]
  refine tk 4 ?_; try simp only[pS]
  refine tk 5 ?_; try simp only[pS]
  refine tk 6 ?_; try simp only[pS]
  refine tk 7 ?_; try simp only[pS]
  refine tk 8 ?_; try simp only[pS]
  refine tk 9 ?_; try simp only[pS]
  refine tk 10 ?_; try simp only[pS]
  refine tk 11 ?_; try simp only[pS]
  refine tk 12 ?_; try simp only[pS]
  refine tk 13 ?_; try simp only[pS]
  refine tk 14 ?_; try simp only[pS]
  refine tk 15 ?_; try simp only[pS]
  refine tu 16 ?_;try simp only[pS]
  refine tu 17 ?_;try simp only[pS]
  refine tu 18 ?_;try simp only[pS]
  refine tu 19 ?_;try simp only[pS]
  refine tu 20 ?_;try simp only[pS]
  refine tu 21 ?_;try simp only[pS]
  refine tu 22 ?_;try simp only[pS]
  refine tu 23 ?_;try simp only[pS]
  refine tu 24 ?_;try simp only[pS]
  refine tk 25 ?_; try simp only[pS]
  refine wpAnyH_done (by kernel_rfl) ?_ _;have hBf:=Lib.hid (hB2.drew.trans ((set5 (w3:=w2.drew) (b:=s+1+1) (.int .i64 0) (.int .i64 0) (.slice none 0 0) (.int .i64 0) (.slice none 0 0)).mono (by omega)));obtain⟨q0,q1,q2,q3,q4,g0,g1,g2,g3,g4⟩:=fz2.out;go_wp2_with (fail);refine bodyPost_ret (v:=.tuple #[.agg #[.int .i64 0,.int .i64 0,.slice none 0 0,.int .i64 0,.slice none 0 0],.int .i64 10]) (by simp[results,Tryz.results17,go_sem,q0,q1,q2,q3,q4]) rfl (conP_10 hno hBf.out)
 have hr1:((r:Int) !=0)=false:=by rw[hr0]; rfl
 have hr2:(r !=0)=false:=by rw[hr0]; rfl
 by_cases hnd:nb=d;rotate_left
 ·have hd1:((nb:Int) !=(d:Int))=true:=by rw[bne_iff_ne]; omega
  have hd2:(nb !=d)=true:=by rw[bne_iff_ne]; exact hnd
  have hno:¬ Mt F S nb:=fun h=>hnd (by rw[hd]; exact h.2.2.symm)
  replace hr:=Lib.hid hr;replace hd:=Lib.hid hd;replace hpp:=Lib.hid hpp;replace hr0:=Lib.hid hr0;replace hnd:=Lib.hid hnd;go_wp2_with (fail);clear a0 a1 a2 a3 a4 c0 c1 c2 c3 c4;refine wp_region_held_drew (S:=fun w'=>(w'.cell? ⟨s,0,none⟩=some (.int .i64 F.p)∧w'.cell? ⟨s,1,none⟩=some (.int .i64 F.m))∧w'.cell? ⟨s+1,0,none⟩=some (.int .i64 S.p)∧w'.cell? ⟨s+1,4,none⟩=some (.slice Rb nb kb)) (by kernel_rfl) (by (try dsimp only); exact kG.out) (fun hHeld=>?_);refine tk 0 ?_; try simp only[pS]
  refine tk 1 ?_; try simp only[pS]
  refine tk 2 ?_; try simp only[pS]
  refine tk 3 ?_; try simp only[pS]
  refine tk 4 ?_; try simp only[pS]
  refine tk 5 ?_; try simp only[pS]
  refine tk 6 ?_; try simp only[pS]
  refine tk 7 ?_; try simp only[pS]
  refine tk 8 ?_; try simp only[pS]
  refine tk 9 ?_; try simp only[pS]
  refine tk 10 ?_; try simp only[pS]
  refine tk 11 ?_; try simp only[pS]
  refine tk 12 ?_; try simp only[pS]
  refine tk 13 ?_; try simp only[pS]
  refine tk 14 ?_; try simp only[pS]
  refine tk 15 ?_; try simp only[pS]
  refine tk 16 ?_; try simp only[pS]
  refine tk 17 ?_; try simp only[pS]
  refine tk 18 ?_; try simp only[pS]
  refine tk 19 ?_; try simp only[pS]
  refine tk 20 ?_; try simp only[pS]
  refine tk 21 ?_; try simp only[pS]
  refine tk 22 ?_; try simp only[pS]
  refine tk 23 ?_; try simp only[pS]
  refine tk 24 ?_; try simp only[pS]
  refine tk 25 ?_; try simp only[pS]
  refine wpAnyH_done (by kernel_rfl) ?_ _;have hBf:=Lib.hid (hB2.drew.trans ((set5 (w3:=w2.drew) (b:=s+1+1) (.int .i64 0) (.int .i64 0) (.slice none 0 0) (.int .i64 0) (.slice none 0 0)).mono (by omega)));obtain⟨q0,q1,q2,q3,q4,g0,g1,g2,g3,g4⟩:=fz2.out;go_wp2_with (fail);refine bodyPost_ret (v:=.tuple #[.agg #[.int .i64 0,.int .i64 0,.slice none 0 0,.int .i64 0,.slice none 0 0],.int .i64 10]) (by simp[results,Tryz.results17,go_sem,q0,q1,q2,q3,q4]) rfl (conP_10 hno hBf.out)
 have hd1:((nb:Int) !=(d:Int))=false:=by rw[hnd]; simp
 have hd2:(nb !=d)=false:=by rw[hnd]; simp
 have hmt9:=Lib.hid (show Mt F S nb from ⟨hpp.symm,Nat.dvd_of_mod_eq_zero (hr.symm.trans hr0),hd.symm.trans hnd.symm⟩);have hI3:=hIs w2.drew (((hra.below hB2).more hB2.size).drew) (((hrl.below hB2).more hB2.size).drew);replace hr:=Lib.hid hr;replace hd:=Lib.hid hd;replace hpp:=Lib.hid hpp;replace hr0:=Lib.hid hr0;replace hnd:=Lib.hid hnd;have hnb8:nb≤8:=by rw[hnd.out]; exact hd8
 clear hIs;obtain⟨NN,hNN⟩:∃ NN,NN=m1*m2:=⟨_,rfl⟩;have hNl:NN≤64*64:=by rw[hNN]; exact Nat.mul_le_mul hm164 hm264
 have hw0:((m1:Int)*(m2:Int))=(NN:Int):=by rw[hNN]; push_cast; rfl
 have hmul:IntKind.i64.wrap ((m1:Int)*(m2:Int))=(NN:Int):=by rw[hw0]; exact IntWalk.i64_in _ (by omega)
 replace hw0:=Lib.hid hw0;by_cases hbs:basE F l S.m=0;rotate_left
 ·rw[show (basE F l S.m==0)=false from by rw[beq_eq_false_iff_ne]; exact hbs]at hI3;replace hI3:=Lib.hid hI3;have hbsH:=Lib.hid hbs;replace hNN:=Lib.hid hNN;clear hbs hG;go_wp2_with (fail);clear a0 a1 a2 a3 a4 c0 c1 c2 c3 c4;refine wp_region_held_drew (S:=fun w'=>(w'.cell? ⟨s,0,none⟩=some (.int .i64 F.p)∧w'.cell? ⟨s,1,none⟩=some (.int .i64 F.m))∧w'.cell? ⟨s+1,0,none⟩=some (.int .i64 S.p)∧w'.cell? ⟨s+1,4,none⟩=some (.slice Rb nb kb)) (by kernel_rfl) (by (try dsimp only); exact kG.out) (fun hHeld=>?_);refine tk 0 ?_; try simp only[pS]
  refine tk 1 ?_; try simp only[pS]
  refine tk 2 ?_; try simp only[pS]
  refine tk 3 ?_; try simp only[pS]
  refine tk 4 ?_; try simp only[pS]
  refine tk 5 ?_; try simp only[pS]
  refine tk 6 ?_; try simp only[pS]
  refine tk 7 ?_; try simp only[pS]
  refine tk 8 ?_; try simp only[pS]
  refine tk 9 ?_; try simp only[pS]
  refine tk 10 ?_; try simp only[pS]
  refine tk 11 ?_; try simp only[pS]
  refine tk 12 ?_; try simp only[pS]
  refine tk 13 ?_; try simp only[pS]
  refine tk 14 ?_; try simp only[pS]
  refine tk 15 ?_; try simp only[pS]
  refine tk 16 ?_; try simp only[pS]
  refine tk 17 ?_; try simp only[pS]
  refine tk 18 ?_; try simp only[pS]
  refine tk 19 ?_; try simp only[pS]
  refine tk 20 ?_; try simp only[pS]
  refine tk 21 ?_; try simp only[pS]
  refine tk 22 ?_; try simp only[pS]
  refine tk 23 ?_; try simp only[pS]
  refine tk 24 ?_; try simp only[pS]
  refine tk 25 ?_; try simp only[pS]
  refine wpAnyH_done (by kernel_rfl) ?_ _;obtain⟨a0,a1,a2,a3,a4,-⟩:=fa2.out;go_wp2_with (fail);(with_reducible refine hI3.out.mono ?_);rintro e w3 ⟨rfl,hx3⟩;have hb3:=(Below.refl w2.heap.size w2).drew.trans hx3;have hB3:=hB2.trans (hb3.mono hB2.size);clear a0 a1 a2 a3 a4;have hBf:=Lib.hid (hB3.trans ((set5 (w3:=w3) (b:=s+1+1) (.int .i64 0) (.int .i64 0) (.slice none 0 0) (.int .i64 0) (.slice none 0 0)).mono (by omega)));obtain⟨q0,q1,q2,q3,q4,g0,g1,g2,g3,g4⟩:=fz2.out.keep hb3 hs2;go_wp2_with (fail);refine bodyPost_ret (v:=.tuple #[.agg #[.int .i64 0,.int .i64 0,.slice none 0 0,.int .i64 0,.slice none 0 0],.int .i64 9]) (by simp[results,Tryz.results17,go_sem,q0,q1,q2,q3,q4]) rfl (conP_9 hmt9.out hbsH.out hBf.out)
 rw[show (basE F l S.m==0)=true from by rw[hbs]; rfl]at hI3;replace hI3:=Lib.hid hI3;have hbsH:=Lib.hid hbs;by_cases hN64:NN≤64;rotate_left
 ·have hNb:(64:Int)<(NN:Int):=by omega
  have hN4:=Lib.hid (show 64<m1*m2 from by rw[←hNN]; omega);replace hNN:=Lib.hid hNN;clear hbs hG;go_wp2_with (fail);clear a0 a1 a2 a3 a4 c0 c1 c2 c3 c4;refine wp_region_held_drew (S:=fun w'=>(w'.cell? ⟨s,0,none⟩=some (.int .i64 F.p)∧w'.cell? ⟨s,1,none⟩=some (.int .i64 F.m))∧w'.cell? ⟨s+1,0,none⟩=some (.int .i64 S.p)∧w'.cell? ⟨s+1,4,none⟩=some (.slice Rb nb kb)) (by kernel_rfl) (by (try dsimp only); exact kG.out) (fun hHeld=>?_);refine tk 0 ?_; try simp only[pS]
  refine tk 1 ?_; try simp only[pS]
  refine tk 2 ?_; try simp only[pS]
  refine tk 3 ?_; try simp only[pS]
  refine tk 4 ?_; try simp only[pS]
  refine tk 5 ?_; try simp only[pS]
  refine tk 6 ?_; try simp only[pS]
  refine tk 7 ?_; try simp only[pS]
  refine tk 8 ?_; try simp only[pS]
  refine tk 9 ?_; try simp only[pS]
  refine tk 10 ?_; try simp only[pS]
  refine tk 11 ?_; try simp only[pS]
  refine tk 12 ?_; try simp only[pS]
  refine tk 13 ?_; try simp only[pS]
  refine tk 14 ?_; try simp only[pS]
  refine tk 15 ?_; try simp only[pS]
  refine tk 16 ?_; try simp only[pS]
  refine tk 17 ?_; try simp only[pS]
  refine tk 18 ?_; try simp only[pS]
  refine tk 19 ?_; try simp only[pS]
  refine tk 20 ?_; try simp only[pS]
  refine tk 21 ?_; try simp only[pS]
  refine tk 22 ?_; try simp only[pS]
  refine tk 23 ?_; try simp only[pS]
  refine tk 24 ?_; try simp only[pS]
  refine tk 25 ?_; try simp only[pS]
  refine wpAnyH_done (by kernel_rfl) ?_ _;obtain⟨a0,a1,a2,a3,a4,-⟩:=fa2.out;go_wp2_with (fail);(with_reducible refine hI3.out.mono ?_);rintro e w3 ⟨rfl,hx3⟩;have hb3:=(Below.refl w2.heap.size w2).drew.trans hx3;have hB3:=hB2.trans (hb3.mono hB2.size);clear a0 a1 a2 a3 a4;obtain⟨a0,a1,a2,a3,a4,-⟩:=fa2.out.keep hb3 (by omega);obtain⟨c0,c1,c2,c3,c4,-⟩:=fb2.out.keep hb3 (by omega);have hBf:=Lib.hid (hB3.trans ((set5 (w3:=w3) (b:=s+1+1) (.int .i64 0) (.int .i64 0) (.slice none 0 0) (.int .i64 0) (.slice none 0 0)).mono (by omega)));obtain⟨q0,q1,q2,q3,q4,g0,g1,g2,g3,g4⟩:=fz2.out.keep hb3 hs2;go_wp2_with (fail);refine bodyPost_ret (v:=.tuple #[.agg #[.int .i64 0,.int .i64 0,.slice none 0 0,.int .i64 0,.slice none 0 0],.int .i64 4]) (by simp[results,Tryz.results17,go_sem,q0,q1,q2,q3,q4]) rfl (conP_4 hmt9.out hbsH.out hN4.out hBf.out)
 have hNb:¬ (64:Int)<(NN:Int):=by omega
 have hrtH:=hrt hmt9.out;obtain⟨hln,hInd⟩:=basE_ind hmt9.out.2.1 hbs;rw[hmt9.out.2.2]at hln hInd;have hnM:S.m*nb=F.m:=by rw[←hmt9.out.2.2]; exact Nat.mul_div_cancel' hmt9.out.2.1
 have hCo:=fun W Ac cc a b c=>coor_clean S F nb rt l Ab Aa Ac cb ca cc W a b c hmt9.out.1 hnM hrtH hInd
 have hG2:=hG hmt9.out hbs (by rw[←hNN]; exact hN64);rw[←hNN]at hG2;have hcp:=conP_ok (R:=ResC P Mf N ml n rows 0) (l:=l) hmt9.out hbs (m1:=m1) (m2:=m2) (by rw[←hNN]; exact hN64);rw[congrFun hcp w,hln];unfold ResM at hG2;replace hln:=Lib.hid hln;replace hNN:=Lib.hid hNN;replace hcp:=Lib.hid hcp;replace hnM:=Lib.hid hnM;replace hCo:=fun W Ac cc a b c=>Lib.hid (hCo W Ac cc a b c)
 clear hbs hInd hrtH hrt hG;go_wp2_with (fail);clear a0 a1 a2 a3 a4 c0 c1 c2 c3 c4;refine wp_region_held_drew (S:=fun w'=>(w'.cell? ⟨s,0,none⟩=some (.int .i64 F.p)∧w'.cell? ⟨s,1,none⟩=some (.int .i64 F.m))∧w'.cell? ⟨s+1,0,none⟩=some (.int .i64 S.p)∧w'.cell? ⟨s+1,4,none⟩=some (.slice Rb nb kb)) (by kernel_rfl) (by (try dsimp only); exact kG.out) (fun hHeld=>?_);refine tk 0 ?_; try simp only[pS]
 refine tk 1 ?_; try simp only[pS]
 refine tk 2 ?_; try simp only[pS]
 refine tk 3 ?_; try simp only[pS]
 refine tk 4 ?_; try simp only[pS]
 refine tk 5 ?_; try simp only[pS]
 refine tk 6 ?_; try simp only[pS]
 refine tk 7 ?_; try simp only[pS]
 refine tk 8 ?_; try simp only[pS]
 refine tk 9 ?_; try simp only[pS]
 refine tk 10 ?_; try simp only[pS]
 refine tk 11 ?_; try simp only[pS]
 refine tk 12 ?_; try simp only[pS]
 refine tk 13 ?_; try simp only[pS]
 refine tk 14 ?_; try simp only[pS]
 refine tk 15 ?_; try simp only[pS]
 refine tk 16 ?_; try simp only[pS]
 refine tk 17 ?_; try simp only[pS]
 refine tk 18 ?_; try simp only[pS]
 refine tk 19 ?_; try simp only[pS]
 refine tk 20 ?_; try simp only[pS]
 refine tk 21 ?_; try simp only[pS]
 refine tk 22 ?_; try simp only[pS]
 refine tk 23 ?_; try simp only[pS]
 refine tk 24 ?_; try simp only[pS]
 refine tk 25 ?_; try simp only[pS]
 refine wpAnyH_done (by kernel_rfl) ?_ _;obtain⟨a0,a1,a2,a3,a4,-⟩:=fa2.out;rw[hln.out]at hI3;go_wp2_with (fail);(with_reducible refine hI3.out.mono ?_);rintro e w3 ⟨rfl,hx3⟩;have hb3:=(Below.refl w2.heap.size w2).drew.trans hx3;have hB3:=hB2.trans (hb3.mono hB2.size);have fa3:=Lib.hid (fa2.out.keep hb3 (by omega));have fb3:=Lib.hid (fb2.out.keep hb3 (by omega));have fz3:=Lib.hid (fz2.out.keep hb3 hs2);have hs3:s+1+1<w3.heap.size:=Nat.lt_of_lt_of_le hs2 hb3.size;clear a0 a1 a2 a3 a4 hI3 hx3 hb3 kG fa2 fb2 fz2;obtain⟨a0,a1,a2,a3,a4,-⟩:=fa3.out;obtain⟨c0,c1,c2,c3,c4,-⟩:=fb3.out;go_wp2_with (fail);clear a0 a1 a2 a3 a4 c0 c1 c2 c3 c4;go_loopw [11,10] (fun iS vS wr=>∃ k:Nat,k≤nb∧iS=.int .i64 k∧Own wr w3.heap.size vS (rowL F.toDesc k (elL F l))∧Below w3.heap.size w3 wr) (fun iS _ _=>nb - (intOf iS).toNat)
 case atStart=>exact⟨0,by omega,rfl,Own.nil _ _,Below.refl _ _⟩
 case round =>
  obtain⟨k,hk,rfl,how,hb4⟩:=hrel;obtain⟨w4,rfl⟩:∃ w4:World,w4=wr:=⟨_,rfl⟩;have hB4:=hB3.trans (hb4.mono hB3.size);by_cases hlt:k<nb
  ·have hk0:(0:Int)≤(k:Int):=by omega
   have hk1:(k:Int)<(nb:Int):=by omega
   obtain⟨bl,ol,rfl,hbl,hcl⟩:=hrl.at_ (k:=k) (by rw[hln.out]; exact hlt);obtain⟨u,hu⟩:∃ u,u=l[k]?.getD 0:=⟨_,rfl⟩;rw[←hu]at hcl;obtain⟨y3,hy3⟩:∃ y,y=Cw.ci (elL F l k):=⟨_,rfl⟩;have hI5:=In_any F.toDesc u Aa F.mod.length ca w4.drew;rw[show Cw.ci (eli F.toDesc u)=y3 from by rw[hy3,hu]; rfl]at hI5;have hsn:=rowL_snoc9 F.toDesc k (elL F l);rw[←hy3]at hsn;obtain⟨a0,a1,a2,a3,a4,-⟩:=fa3.out.keep hb4 (by omega);have kk:=Lib.hid (show (w4.cell? ⟨s,0,none⟩=some (.int .i64 F.p)∧w4.cell? ⟨s,1,none⟩=some (.int .i64 F.m)∧w4.cell? ⟨s,2,none⟩=some (.slice Aa F.mod.length ca))∧w4.cell? ⟨bl,ol+k,none⟩=some (.int .i64 u) from ⟨⟨a0,a1,a2⟩,(hB4.cell (p:=⟨bl,ol+k,none⟩) hbl).trans hcl⟩);have kp:∀ {B:Nat} {W W':World},Below B W W'→s<B→bl<B→Hid ((W.cell? ⟨s,0,none⟩=some (.int .i64 F.p)∧W.cell? ⟨s,1,none⟩=some (.int .i64 F.m)∧W.cell? ⟨s,2,none⟩=some (.slice Aa F.mod.length ca))∧W.cell? ⟨bl,ol+k,none⟩=some (.int .i64 u))→Hid ((W'.cell? ⟨s,0,none⟩=some (.int .i64 F.p)∧W'.cell? ⟨s,1,none⟩=some (.int .i64 F.m)∧W'.cell? ⟨s,2,none⟩=some (.slice Aa F.mod.length ca))∧W'.cell? ⟨bl,ol+k,none⟩=some (.int .i64 u)):=fun {B W W'} hb _ _ h=>⟨keep3 hb (by assumption) h.out.1,(hb.cell (p:=⟨bl,ol+k,none⟩) (by assumption)).trans h.out.2⟩
   replace kp:=fun {B:Nat} {W W':World} a u0 u1 b=>Lib.hid (@kp B W W' a u0 u1 b)
   have x1:s<w4.heap.size:=by have:=hb4.size; omega
   have x2:bl<w4.heap.size:=Nat.lt_of_lt_of_le hbl hB4.size;have x3:bl<w3.heap.size:=Nat.lt_of_lt_of_le hbl hB3.size;have x4:s<w3.heap.size:=by omega
   have hZ4:w3.heap.size≤w4.heap.size:=hb4.size;have howH:=how;obtain⟨Av,cv,rfl,-⟩:=how.form;have hle:(rowL F.toDesc k (elL F l)).length+[y3].length≤1000000000:=by rw[rowL_length]; simp; omega
   replace hI5:=Lib.hid hI5;replace hsn:=Lib.hid hsn;replace hu:=Lib.hid hu;replace hy3:=Lib.hid hy3;clear hcl how a0 a1 a2 a3 a4;go_wp2_with (fail);refine wp_region_held_drew (S:=fun w'=>(w'.cell? ⟨s,0,none⟩=some (.int .i64 F.p)∧w'.cell? ⟨s,1,none⟩=some (.int .i64 F.m)∧w'.cell? ⟨s,2,none⟩=some (.slice Aa F.mod.length ca))∧w'.cell? ⟨bl,ol+k,none⟩=some (.int .i64 u)) (by kernel_rfl) (by (try dsimp only); exact kk.out) (fun hHeld=>?_);refine tk 0 ?_; try simp only[pS]
   refine tk 1 ?_; try simp only[pS]
   refine tk 2 ?_; try simp only[pS]
   refine tk 3 ?_; try simp only[pS]
   refine tk 4 ?_; try simp only[pS]
   refine tk 5 ?_; try simp only[pS]
   refine tk 6 ?_; try simp only[pS]
   refine rd 7 fun K hK=>?_
   go_simp;go_at_call 49;(with_reducible refine (hI5).out.mono ?_);rintro e w5 ⟨rfl,hb5⟩;have hb45:Below w4.heap.size w4 w5:=(Below.refl _ w4).drew.trans hb5;have kk5:=(kp hb45 x1 x2 kk).out;have how5:=howH.below hb45 (Nat.le_refl _);have hs5:w4.heap.size≤w5.heap.size:=hb45.size;have hbA:Below w5.heap.size w5 (w5.alloc (.cells #[.int .i64 y3] 3)):=(Below.refl _ _).alloc (Nat.le_refl _) _;have howA:=how5.below hbA (Nat.le_refl _);have hrA:Rd (w5.alloc (.cells #[.int .i64 y3] 3)) (w5.heap.size+1) (some ⟨w5.heap.size,0,none⟩) [y3]:=(IB.new w5 [y3]).rd.more (by simp);have kkA:=(kp hbA (Nat.lt_of_lt_of_le x1 hs5) (Nat.lt_of_lt_of_le x2 hs5) kk5).out;go_wp2_with (fail);refine hK.out _ _ (by (try dsimp only); exact kk5.out) (fun hHeld=>?_);clear hK K;try simp only[pS]
   refine rd 8 fun K hK=>?_
   go_simp;refine hK.out _ _ (by (try dsimp only); exact kkA.out) (fun hHeld=>?_);clear hK K;try simp only[pS]
   refine rd 9 fun K hK=>?_
   refine step_appN (n2:=1) rfl (.tmp 79) (.tmp 87) rfl w3.heap.size _ (rowL F.toDesc k (elL F l)) (w5.heap.size+1) (some ⟨w5.heap.size,0,none⟩) 1 [y3] howA hrA (by rfl) (by rfl) (by rfl) hle (Nat.le_trans hZ4 (Nat.le_trans hs5 hbA.size)) ?_;intro v6 w6 ho6 hb6 hg6 hv6;have kk6:=(kp hb6 x4 x3 kkA).out;refine hK.out _ _ (by (try dsimp only); exact kk6.out) (fun hHeld=>?_);clear hK K;try simp only[pS]
   refine tk 10 ?_; try simp only[pS]
   refine wpAnyH_done (by kernel_rfl) ?_ _;rw[hsn.out]at ho6;go_wp2_with (fail);go_roundw
   case rel=>exact⟨k+1,by omega,by go_num,ho6,hb4.trans ((hb45.mono hZ4).trans ((hbA.mono (Nat.le_trans hZ4 hs5)).trans hb6))⟩
   case measure=>simp[intOf]; omega
  ·obtain rfl:nb=k:=by omega
   obtain⟨Ac,cc,rfl,hlc,hcc,hrc,hAc⟩:=how.parts;rw[rowL_length];have hCo4:=hCo w4 Ac cc ((hrb.below hB4).more hB4.size) ((hra.below hB4).more hB4.size) hrc;have fa4:=Lib.hid (fa3.out.keep hb4 (by omega));have fb4:=Lib.hid (fb3.out.keep hb4 (by omega));have fz4:=Lib.hid (fz3.out.keep hb4 hs3);have hs4:s+1+1<w4.heap.size:=Nat.lt_of_lt_of_le hs3 hb4.size;obtain⟨a0,a1,a2,a3,a4,-⟩:=fa4.out;obtain⟨c0,c1,c2,c3,c4,-⟩:=fb4.out;clear how hAc hCo hlc fa3 fb3 fz3;go_wp2_with (fail);(with_reducible refine hCo4.out.mono ?_);rintro e w5 ⟨gb,rfl,hrw,hb5⟩;have hB5:=hB4.trans (hb5.mono hB4.size);have fa5:=Lib.hid (fa4.out.keep hb5 (by omega));have fb5:=Lib.hid (fb4.out.keep hb5 (by omega));have fz5:=Lib.hid (fz4.out.keep hb5 hs4);have hs5:s+1+1<w5.heap.size:=Nat.lt_of_lt_of_le hs4 hb5.size;have hrc5:=(hrc.below hb5).more hb5.size;clear a0 a1 a2 a3 a4 c0 c1 c2 c3 c4 hCo4 fa4 fb4 fz4 hrc hb5;go_wp2_with (fail);go_loopw [14,13,15,16,17,18] (fun iS vS _ _ _ _ wr=>∃ k:Nat,k≤na∧iS=.int .i64 k∧OwnM wr w5.heap.size vS (nb*k) (rowsL S.toDesc NN (conR S F (rel F.toDesc rt) nb (elL F l) m2 M U))∧Below w5.heap.size w5 wr) (fun iS _ _ _ _ _ _=>na - (intOf iS).toNat)
   case atStart=>exact⟨0,by omega,rfl,by rw[Nat.mul_zero]; exact OwnM.nil _ _ _,Below.refl _ _⟩
   case round =>
    obtain⟨k,hk,rfl,hown,hbw⟩:=hrel;obtain⟨w6,rfl⟩:∃ w6:World,w6=wr:=⟨_,rfl⟩;have hB6:=hB5.trans (hbw.mono hB5.size);obtain⟨a0,a1,a2,a3,a4,-⟩:=fa5.out.keep hbw (by omega);by_cases hlt:k<na
    ·have hk0:(0:Int)≤(k:Int):=by omega
     have hk1:(k:Int)<(na:Int):=by omega
     obtain⟨ba,oa,Ka,la,rfl,hha,hca,hrka,hlka,hcka⟩:=hva.at_ (show k<na by omega);rw[rowsL_length]at hca hlka;obtain⟨Av,cv,rfl⟩:=hown.size;go_wp2_with (fail);clear a0 a1 a2 a3 a4;go_loopw [15,13,16,17,18] (fun iS vS _ _ _ wr=>∃ j:Nat,j≤nb∧iS=.int .i64 j∧OwnM wr w5.heap.size vS (nb*k+j) (rowsL S.toDesc NN (conR S F (rel F.toDesc rt) nb (elL F l) m2 M U))∧Below w5.heap.size w5 wr) (fun iS _ _ _ _ _=>nb - (intOf iS).toNat)
     case atStart=>exact⟨0,by omega,rfl,by rw[Nat.add_zero]; exact hown,hbw⟩
     case round =>
      obtain⟨j,hj,rfl,hown7,hbx⟩:=hrel;obtain⟨w7,rfl⟩:∃ w7:World,w7=wr:=⟨_,rfl⟩;have hB7:=hB5.trans (hbx.mono hB5.size);by_cases hjd:j<nb
      ·have hj0:(0:Int)≤(j:Int):=by omega
       have hj1:(j:Int)<(nb:Int):=by omega
       have hW57:w5.heap.size≤w7.heap.size:=hbx.size;have hownH:=hown7;obtain⟨Av4,cv4,rfl⟩:=hown7.size;have fa7:=Lib.hid (fa5.out.keep hbx (by omega));have fb7:=Lib.hid (fb5.out.keep hbx (by omega));have hs7:s+1+1<w7.heap.size:=Nat.lt_of_lt_of_le hs5 hW57;go_wp2_with (fail);go_loopw [17,16,18] (fun iS vS _ wr=>∃ i:Nat,i≤m1∧iS=.int .i64 i∧Own wr w7.heap.size vS (rowL S.toDesc (m2*i) ((conR S F (rel F.toDesc rt) nb (elL F l) m2 M U) (nb*k+j)))∧Below w7.heap.size w7 wr) (fun iS _ _ _=>m1 - (intOf iS).toNat)
       case atStart=>exact⟨0,by omega,rfl,by rw[Nat.mul_zero]; exact Own.nil _ _,Below.refl _ _⟩
       case round =>
        obtain⟨i,hi,rfl,hoi,hbq⟩:=hrel;obtain⟨w8,rfl⟩:∃ w8:World,w8=wr:=⟨_,rfl⟩;have hx8:=hbx.trans (hbq.mono hbx.size);have hB8:=hB7.trans (hbq.mono hB7.size);have hs8:s+1+1<w8.heap.size:=Nat.lt_of_lt_of_le hs7 hbq.size;obtain⟨a0,a1,a2,a3,a4,-⟩:=fa7.out.keep hbq (by omega);by_cases him:i<m1
        ·have hi0:(0:Int)≤(i:Int):=by omega
         have hi1:(i:Int)<(m1:Int):=by omega
         obtain⟨bu,ou,rfl,hbu,hcu⟩:=hrka.at_ (k:=i) (by rw[rowsL_length]; exact him);rw[rowsL_get F.toDesc U k him]at hcu;obtain⟨bc,oc,rfl,hbc,hcc2⟩:=hrc5.at_ (k:=j) (by rw[rowL_length]; exact hjd);rw[rowL_get F.toDesc (elL F l) hjd]at hcc2;obtain⟨y,hy⟩:∃ y:Nat,y=rcode (elL F l j*U k i):=⟨_,rfl⟩;have hyl:y<F.q:=by rw[hy]; exact rcode_lt _
         have hry:rel F.toDesc y=elL F l j*U k i:=by rw[hy,rel_rcode]
         have hM8:=Mul_any F.toDesc (Cw.ci (elL F l j)) (Cw.ci (U k i)) Aa ca w8.drew (((hra.below hB8).more hB8.size).drew);rw[eli_ci,eli_ci,show Cw.ci (elL F l j*U k i)=(y:Int) from by rw[hy]; rfl]at hM8;obtain⟨bw,ow,Ax,cx,hgw,hbw9,hcw,hrx,hlx,hcx⟩:=hrw.at_ hyl;rw[rowL_length]at hcw hlx
         injection hgw with hgw
         injection hgw with hg1 hg2
         subst hg1 hg2;rw[Nat.zero_add]at hcw;have hrow:rowL S.toDesc m2 (cmb nb (msgS S F (rel F.toDesc rt) nb (elL F l) (rel F.toDesc y)) M)=rowL S.toDesc m2 (fun c=>(conR S F (rel F.toDesc rt) nb (elL F l) m2 M U) (nb*k+j) (m2*i+c)):=by
          show rowL S.toDesc m2 (wdS S F (rel F.toDesc rt) nb (elL F l) M (rel F.toDesc y))=_
          rw[hry];exact lst_congr fun c hc=>congrArg Cw.ci (conR_at hjd hc).symm
         have happ:=Lib.hid (rowL_app S.toDesc (m2*i) m2 ((conR S F (rel F.toDesc rt) nb (elL F l) m2 M U) (nb*k+j)));have hmi:m2*i≤64*64:=Nat.mul_le_mul (by omega) (by omega);have y00:(0:Int)≤(y:Int):=by omega
         have y01:(y:Int)<(F.q:Int):=by omega
         generalize hy1:Cw.ci (U k i)=y1 at *;generalize hy2:Cw.ci (elL F l j)=y2 at *;have hB5b:bc<w8.heap.size:=Nat.lt_of_lt_of_le hbc hx8.size;have hb8a:ba<w8.heap.size:=Nat.lt_of_lt_of_le hha hB8.size;have hb8u:bu<w8.heap.size:=Nat.lt_of_lt_of_le hbu hB8.size;have kk:=Lib.hid (show (w8.cell? ⟨s,0,none⟩=some (.int .i64 F.p)∧w8.cell? ⟨s,1,none⟩=some (.int .i64 F.m)∧w8.cell? ⟨s,2,none⟩=some (.slice Aa F.mod.length ca))∧w8.cell? ⟨s,4,none⟩=some (.slice (some ⟨ba,oa,none⟩) na ka)∧w8.cell? ⟨ba,oa+k,none⟩=some (.slice (some ⟨bu,ou,none⟩) m1 la)∧w8.cell? ⟨bu,ou+i,none⟩=some (.int .i64 y1)∧w8.cell? ⟨bc,oc+j,none⟩=some (.int .i64 y2) from ⟨⟨a0,a1,a2⟩,a4,(hB8.cell (p:=⟨ba,oa+k,none⟩) hha).trans hca,(hB8.cell (p:=⟨bu,ou+i,none⟩) hbu).trans hcu,(hx8.cell (p:=⟨bc,oc+j,none⟩) hbc).trans hcc2⟩);have kp:∀ {B:Nat} {W W':World},Below B W W'→s<B→ba<B→bu<B→bc<B→Hid ((W.cell? ⟨s,0,none⟩=some (.int .i64 F.p)∧W.cell? ⟨s,1,none⟩=some (.int .i64 F.m)∧W.cell? ⟨s,2,none⟩=some (.slice Aa F.mod.length ca))∧W.cell? ⟨s,4,none⟩=some (.slice (some ⟨ba,oa,none⟩) na ka)∧W.cell? ⟨ba,oa+k,none⟩=some (.slice (some ⟨bu,ou,none⟩) m1 la)∧W.cell? ⟨bu,ou+i,none⟩=some (.int .i64 y1)∧W.cell? ⟨bc,oc+j,none⟩=some (.int .i64 y2))→Hid ((W'.cell? ⟨s,0,none⟩=some (.int .i64 F.p)∧W'.cell? ⟨s,1,none⟩=some (.int .i64 F.m)∧W'.cell? ⟨s,2,none⟩=some (.slice Aa F.mod.length ca))∧W'.cell? ⟨s,4,none⟩=some (.slice (some ⟨ba,oa,none⟩) na ka)∧W'.cell? ⟨ba,oa+k,none⟩=some (.slice (some ⟨bu,ou,none⟩) m1 la)∧W'.cell? ⟨bu,ou+i,none⟩=some (.int .i64 y1)∧W'.cell? ⟨bc,oc+j,none⟩=some (.int .i64 y2)):=fun {B W W'} hb _ _ _ _ h=>⟨keep3 hb (by assumption) h.out.1,(hb.cell (p:=⟨s,4,none⟩) (by assumption)).trans h.out.2.1,(hb.cell (p:=⟨ba,oa+k,none⟩) (by assumption)).trans h.out.2.2.1,(hb.cell (p:=⟨bu,ou+i,none⟩) (by assumption)).trans h.out.2.2.2.1,(hb.cell (p:=⟨bc,oc+j,none⟩) (by assumption)).trans h.out.2.2.2.2⟩
         replace kp:=fun {B:Nat} {W W':World} a u0 u1 u2 u3 b=>Lib.hid (@kp B W W' a u0 u1 u2 u3 b)
         have hoiH:=hoi;obtain⟨Ai,ci',rfl,-⟩:=hoi.form;have x1:s<w8.heap.size:=by omega
         replace hM8:=Lib.hid hM8;replace hy:=Lib.hid hy;replace hry:=Lib.hid hry;replace hy1:=Lib.hid hy1;replace hy2:=Lib.hid hy2;replace hrow:=Lib.hid hrow;have hcwH:=Lib.hid hcw;clear hcu hcc2 hcw hoi;go_wp2_with (fail);clear a0 a1 a2 a3 a4;refine wp_region_held_drew (S:=fun w'=>(w'.cell? ⟨s,0,none⟩=some (.int .i64 F.p)∧w'.cell? ⟨s,1,none⟩=some (.int .i64 F.m)∧w'.cell? ⟨s,2,none⟩=some (.slice Aa F.mod.length ca))∧w'.cell? ⟨s,4,none⟩=some (.slice (some ⟨ba,oa,none⟩) na ka)∧w'.cell? ⟨ba,oa+k,none⟩=some (.slice (some ⟨bu,ou,none⟩) m1 la)∧w'.cell? ⟨bu,ou+i,none⟩=some (.int .i64 y1)∧w'.cell? ⟨bc,oc+j,none⟩=some (.int .i64 y2)) (by kernel_rfl) (by (try dsimp only); exact kk.out) (fun hHeld=>?_);refine tk 0 ?_; try simp only[pS]
         refine tk 1 ?_; try simp only[pS]
         refine tk 2 ?_; try simp only[pS]
         refine tk 3 ?_; try simp only[pS]
         refine tk 4 ?_; try simp only[pS]
         refine tk 5 ?_; try simp only[pS]
         refine tk 6 ?_; try simp only[pS]
         refine tk 7 ?_; try simp only[pS]
         refine tk 8 ?_; try simp only[pS]
         refine tk 9 ?_; try simp only[pS]
         refine tk 10 ?_; try simp only[pS]
         refine tk 11 ?_; try simp only[pS]
         refine tk 12 ?_; try simp only[pS]
         refine tk 13 ?_; try simp only[pS]
         refine rd 14 fun K hK=>?_
         go_simp;go_at_call 57;(with_reducible refine (hM8).out.mono ?_);rintro e w9 ⟨rfl,hb9⟩;have hb89:Below w8.heap.size w8 w9:=(Below.refl _ w8).drew.trans hb9;have kk9:=(kp hb89 x1 hb8a hb8u hB5b kk).out;go_wp2_with (fail);refine hK.out _ _ (by (try dsimp only); exact kk9.out) (fun hHeld=>?_);clear hK K;try simp only[pS]
         refine tk 15 ?_; try simp only[pS]
         refine wpAnyH_done (by kernel_rfl) ?_ _;have hb79:=hbq.trans (hb89.mono hbq.size);have hx9:=hbx.trans (hb79.mono hbx.size);have hB9:=hB7.trans (hb79.mono hB7.size);have how9:=hoiH.below hb89 (Nat.le_refl _);have hCo9:=Combine9_any S.toDesc nb m2 (msgS S F (rel F.toDesc rt) nb (elL F l) (rel F.toDesc y)) M Ab Ax Rb cb cx kb w9.drew (((hrb.below hB9).more hB9.size).drew) (((hrx.below hx9).more hx9.size).drew) (((hvb.below hB9).more hB9.size).drew) (by omega) (by omega);rw[hrow.out]at hCo9;replace hCo9:=Lib.hid hCo9;obtain⟨c0,c1,c2,c3,c4,-⟩:=fb7.out.keep hb79 (by omega);have kn:=Lib.hid (show (w9.cell? ⟨s+1,0,none⟩=some (.int .i64 S.p)∧w9.cell? ⟨s+1,1,none⟩=some (.int .i64 S.m)∧w9.cell? ⟨s+1,2,none⟩=some (.slice Ab S.mod.length cb))∧w9.cell? ⟨s+1,3,none⟩=some (.int .i64 m2)∧w9.cell? ⟨s+1,4,none⟩=some (.slice Rb nb kb)∧w9.cell? ⟨gb,y,none⟩=some (.slice Ax nb cx) from ⟨⟨c0,c1,c2⟩,c3,c4,(hx9.cell (p:=⟨gb,y,none⟩) hbw9).trans hcwH.out⟩);have kpn:∀ {B:Nat} {W W':World},Below B W W'→s+1<B→gb<B→Hid ((W.cell? ⟨s+1,0,none⟩=some (.int .i64 S.p)∧W.cell? ⟨s+1,1,none⟩=some (.int .i64 S.m)∧W.cell? ⟨s+1,2,none⟩=some (.slice Ab S.mod.length cb))∧W.cell? ⟨s+1,3,none⟩=some (.int .i64 m2)∧W.cell? ⟨s+1,4,none⟩=some (.slice Rb nb kb)∧W.cell? ⟨gb,y,none⟩=some (.slice Ax nb cx))→Hid ((W'.cell? ⟨s+1,0,none⟩=some (.int .i64 S.p)∧W'.cell? ⟨s+1,1,none⟩=some (.int .i64 S.m)∧W'.cell? ⟨s+1,2,none⟩=some (.slice Ab S.mod.length cb))∧W'.cell? ⟨s+1,3,none⟩=some (.int .i64 m2)∧W'.cell? ⟨s+1,4,none⟩=some (.slice Rb nb kb)∧W'.cell? ⟨gb,y,none⟩=some (.slice Ax nb cx)):=fun {B W W'} hb _ _ h=>⟨keep3 hb (by assumption) h.out.1,(hb.cell (p:=⟨s+1,3,none⟩) (by assumption)).trans h.out.2.1,(hb.cell (p:=⟨s+1,4,none⟩) (by assumption)).trans h.out.2.2.1,(hb.cell (p:=⟨gb,y,none⟩) (by assumption)).trans h.out.2.2.2⟩
         replace kpn:=fun {B:Nat} {W W':World} a u0 u1 b=>Lib.hid (@kpn B W W' a u0 u1 b)
         have z1:s+1<w9.heap.size:=by have:=hb79.size; omega
         have z2:gb<w9.heap.size:=Nat.lt_of_lt_of_le hbw9 hx9.size;have z3:s+1<w7.heap.size:=by omega
         have z4:gb<w7.heap.size:=Nat.lt_of_lt_of_le hbw9 hbx.size;have hs79:=hb79.size;have hle:(rowL S.toDesc (m2*i) ((conR S F (rel F.toDesc rt) nb (elL F l) m2 M U) (nb*k+j))).length+(rowL S.toDesc m2 (fun c=>(conR S F (rel F.toDesc rt) nb (elL F l) m2 M U) (nb*k+j) (m2*i+c))).length≤1000000000:=by rw[rowL_length,rowL_length]; omega
         clear kp kk kk9 c0 c1 c2 c3 c4 hM8 hoiH;go_wp2_with (fail);refine wp_region_held_drew (S:=fun w'=>(w'.cell? ⟨s+1,0,none⟩=some (.int .i64 S.p)∧w'.cell? ⟨s+1,1,none⟩=some (.int .i64 S.m)∧w'.cell? ⟨s+1,2,none⟩=some (.slice Ab S.mod.length cb))∧w'.cell? ⟨s+1,3,none⟩=some (.int .i64 m2)∧w'.cell? ⟨s+1,4,none⟩=some (.slice Rb nb kb)∧w'.cell? ⟨gb,y,none⟩=some (.slice Ax nb cx)) (by kernel_rfl) (by (try dsimp only); exact kn.out) (fun hHeld=>?_);refine tk 0 ?_; try simp only[pS]
         refine tk 1 ?_; try simp only[pS]
         refine tk 2 ?_; try simp only[pS]
         refine tk 3 ?_; try simp only[pS]
         refine tk 4 ?_; try simp only[pS]
         refine tk 5 ?_; try simp only[pS]
         refine tk 6 ?_; try simp only[pS]
         refine tk 7 ?_; try simp only[pS]
         refine tk 8 ?_; try simp only[pS]
         refine tk 9 ?_; try simp only[pS]
         refine tk 10 ?_; try simp only[pS]
         refine rd 11 fun K hK=>?_
         go_simp;go_at_call 43;(with_reducible refine (hCo9).out.mono ?_);rintro e w10 ⟨A8,c8,rfl,hr8,-,-,-,hb10⟩;have hb910:Below w9.heap.size w9 w10:=(Below.refl _ w9).drew.trans hb10;have kn10:=(kpn hb910 z1 z2 kn).out;have how10:=how9.below hb910 (Nat.le_refl _);have hs910:=hb910.size;go_wp2_with (fail);refine hK.out _ _ (by (try dsimp only); exact kn10.out) (fun hHeld=>?_);clear hK K;try simp only[pS]
         refine rd 12 fun K hK=>?_
         refine step_appN (n2:=m2) rfl (.tmp 129) (.tmp 140) rfl w7.heap.size _ (rowL S.toDesc (m2*i) ((conR S F (rel F.toDesc rt) nb (elL F l) m2 M U) (nb*k+j))) w10.heap.size A8 c8 (rowL S.toDesc m2 (fun c=>(conR S F (rel F.toDesc rt) nb (elL F l) m2 M U) (nb*k+j) (m2*i+c))) how10 hr8 (by rfl) (by rfl) (rowL_length _ _ _).symm hle (Nat.le_trans hs79 hs910) ?_;intro v11 w11 ho11 hb11 hg11 hv11;have kn11:=(kpn hb11 z3 z4 kn10).out;refine hK.out _ _ (by (try dsimp only); exact kn11.out) (fun hHeld=>?_);clear hK K;try simp only[pS]
         refine tk 13 ?_; try simp only[pS]
         refine wpAnyH_done (by kernel_rfl) ?_ _;rw[happ.out,←Nat.mul_succ]at ho11;go_wp2_with (fail);go_roundw
         case rel=>exact⟨i+1,by omega,by go_num,ho11,hb79.trans ((hb910.mono hs79).trans hb11)⟩
         case measure=>simp[intOf]; omega
        ·obtain rfl:m1=i:=by omega
         rw[Nat.mul_comm m2 m1,←hNN.out]at hoi;obtain⟨A4,c4,rfl,hl4,hc4,hr4,hA4⟩:=hoi.parts;rw[rowL_length]at hl4;rw[rowL_length];have hown8:=hownH.below hbq (Nat.le_refl _);have hs78:=hbq.size;have hdk:nb*k≤8*64:=Nat.mul_le_mul hnb8 (by omega);clear hoi;go_wp2_with (at_builtin; refine wpList_appRow rfl (.tmp 142) (.tmp 144) rfl w5.heap.size _ (nb*k+j) _ hown8 A4 NN c4 hr4 (rowsL_length _ _ _ _) hl4 hc4 w7.heap.size hownH.lt0 hA4 hW57 rfl rfl rfl (by omega) (Nat.le_trans hW57 hs78) ?_; intro v12 w12 ho12 hb12);go_roundw
         case rel=>exact⟨j+1,by omega,by go_num,ho12,hx8.trans (hb12.mono (Nat.le_refl _))⟩
         case measure=>simp[intOf]; omega
      ·obtain rfl:nb=j:=by omega
       go_wp2_with (fail);go_roundw
       case rel=>exact⟨k+1,by omega,by go_num,by rw[Nat.mul_succ]; exact hown7,hbx⟩
       case measure=>simp[intOf]; omega
    ·obtain rfl:na=k:=by omega
     obtain⟨A9,c9,rfl,hr9⟩:=hown.rdm;have hG9:=Lib.hid (hG2 w6 A9 c9 ((hrb.below hB6).more hB6.size) hr9);have hs6:s+1+1<w6.heap.size:=Nat.lt_of_lt_of_le hs5 hbw.size;have fz6:=fz5.out.keep hbw hs5;obtain⟨c0,c1,c2,c3,c4,-⟩:=fb5.out.keep hbw (by omega);clear hG2 hown hr9;go_wp2_with (fail);(with_reducible refine hG9.out.mono ?_);rintro e w14 ⟨A6,c6,Ag,cg,rfl,hr6,hA6,hru,hb14⟩;obtain⟨t0,t1,t2,t3,t4,g0,g1,g2,g3,g4⟩:=fz6.keep hb14 hs6;have hrf:=Lib.hid (hr6.set5 (b:=s+1+1) (fun b hb=>by have:=hA6 b hb; omega) (.int .i64 P) (.int .i64 Mf) (.slice A6 ml.length c6) (.int .i64 N) (.slice Ag n cg));have hruf:Hid (RdMU (((((w14.setCell ⟨s+1+1,0,none⟩ (.int .i64 P)).setCell ⟨s+1+1,1,none⟩ (.int .i64 Mf)).setCell ⟨s+1+1,2,none⟩ (.slice A6 ml.length c6)).setCell ⟨s+1+1,3,none⟩ (.int .i64 N)).setCell ⟨s+1+1,4,none⟩ (.slice Ag n cg)) w6.heap.size w14.heap.size Ag n rows):=hru.keepU fun p hp _=>set5_above (b:=s+1+1) (L:=w6.heap.size) hs6 _ _ _ _ _ p hp
     have hBf:Hid (Below w.heap.size w (((((w14.setCell ⟨s+1+1,0,none⟩ (.int .i64 P)).setCell ⟨s+1+1,1,none⟩ (.int .i64 Mf)).setCell ⟨s+1+1,2,none⟩ (.slice A6 ml.length c6)).setCell ⟨s+1+1,3,none⟩ (.int .i64 N)).setCell ⟨s+1+1,4,none⟩ (.slice Ag n cg))):=(hB6.trans (hb14.mono hB6.size)).trans ((set5 _ _ _ _ _).mono (by omega));have hsz:Hid ((((((w14.setCell ⟨s+1+1,0,none⟩ (.int .i64 P)).setCell ⟨s+1+1,1,none⟩ (.int .i64 Mf)).setCell ⟨s+1+1,2,none⟩ (.slice A6 ml.length c6)).setCell ⟨s+1+1,3,none⟩ (.int .i64 N)).setCell ⟨s+1+1,4,none⟩ (.slice Ag n cg)).heap.size=w14.heap.size):=by unfold Hid; simp[World.setCell]
     have hW9:w.heap.size≤w6.heap.size:=hB6.size;have hA9:∀ b,A6=some b→w.heap.size≤b.block:=fun b hb=>Nat.le_trans hW9 (hA6 b hb)
     have h5:=hruf.out.low hW9;rw[←hsz.out]at h5;have hfin:Hid (ResC P Mf N ml n rows 0 w (.returned (.tuple #[.agg #[.int .i64 P,.int .i64 Mf,.slice A6 ml.length c6,.int .i64 N,.slice Ag n cg],.int .i64 0])) (((((w14.setCell ⟨s+1+1,0,none⟩ (.int .i64 P)).setCell ⟨s+1+1,1,none⟩ (.int .i64 Mf)).setCell ⟨s+1+1,2,none⟩ (.slice A6 ml.length c6)).setCell ⟨s+1+1,3,none⟩ (.int .i64 N)).setCell ⟨s+1+1,4,none⟩ (.slice Ag n cg))):=by
      unfold ResC;exact⟨A6,c6,Ag,cg,rfl,hrf.out.more (by rw[hsz.out]; exact Nat.le_refl _),hA9,h5,hBf.out⟩
     clear hr6 hA6 hru hb14 hG9 h5 a0 a1 a2 a3 a4 c0 c1 c2 c3 c4;go_wp2_with (fail);refine bodyPost_ret (v:=.tuple #[.agg #[.int .i64 P,.int .i64 Mf,.slice A6 ml.length c6,.int .i64 N,.slice Ag n cg],.int .i64 0]) (by simp[results,Tryz.results17,go_sem,t0,t1,t2,t3,t4]) rfl (by first | exact hfin.out | (rw[hcp.out]; exact hfin.out))
end Go.Proofs.YtogfekjbpcfgmaaGreat

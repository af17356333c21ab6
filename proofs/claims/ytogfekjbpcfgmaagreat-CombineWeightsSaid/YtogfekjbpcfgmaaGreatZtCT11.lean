/- CombineWeights: the walk. -/
import Derived.Test.YtogfekjbpcfgmaaGreatZtCConE
import Derived.Test.YtogfekjbpcfgmaaGreatZtCDsM
import Derived.Test.YtogfekjbpcfgmaaGreatZtCT10
import Derived.Test.YtogfekjbpcfgmaaGreatZtCConL
import Derived.Test.YtogfekjbpcfgmaaGreatZtCTk
namespace Go.Proofs.YtogfekjbpcfgmaaGreat
open Go.RowKit Cw
attribute [local go_sem] Oper.semAt_some
theorem pre1_below {w W:World} {ml:List Int} {n:Nat} {rows:Nat→List Int} {A Ar:Option Addr} (h1:Rd w w.heap.size A ml)(h2:RdM w w.heap.size Ar n rows)(hb:Below w.heap.size w W):Pre1 ml n rows A Ar W:=⟨(h1.below hb).more hb.size,(h2.below hb).more hb.size⟩
theorem cells_two {W:World} {x y:Nat} {u0 u1 u2 u3 u4 v0 v1 v2 v3 v4:Value} (fa:Five W x u0 u1 u2 u3 u4)(fb:Five W y v0 v1 v2 v3 v4):W.cell? ⟨x,0,none⟩=some u0∧W.cell? ⟨x,1,none⟩=some u1∧W.cell? ⟨x,2,none⟩=some u2∧W.cell? ⟨x,3,none⟩=some u3∧W.cell? ⟨x,4,none⟩=some u4∧W.cell? ⟨y,0,none⟩=some v0∧W.cell? ⟨y,1,none⟩=some v1∧W.cell? ⟨y,2,none⟩=some v2∧W.cell? ⟨y,3,none⟩=some v3∧W.cell? ⟨y,4,none⟩=some v4:=by
 obtain⟨a0,a1,a2,a3,a4,-⟩:=fa;obtain⟨c0,c1,c2,c3,c4,-⟩:=fb;exact⟨a0,a1,a2,a3,a4,c0,c1,c2,c3,c4⟩

theorem conP_err0 {F S:FD} {nb m1 m2:Nat} {l:List Int} (h:¬ (Mt F S nb∧basE F l S.m=0∧m1*m2≤64)):∃ E,E≠0∧∀ R,ConPost F S nb m1 m2 l R=ResErr E:=by
 by_cases h1:Mt F S nb
 ·by_cases h2:basE F l S.m=0
  ·exact⟨4,by decide,fun R=>by unfold ConPost; rw[if_neg (not_not_intro h1),if_neg (not_not_intro h2),if_pos (by have:¬ m1*m2≤64:=fun h3=>h ⟨h1,h2,h3⟩; omega)]⟩
  ·exact⟨9,by decide,fun R=>by unfold ConPost; rw[if_neg (not_not_intro h1),if_pos h2]⟩
 ·exact⟨10,by decide,fun R=>by unfold ConPost; rw[if_pos h1]⟩
set_option maxHeartbeats 2000000 in
theorem conc_pack (Pa Ma Na:Int)(mla:List Int)(na:Nat)(rowsa:Nat→List Int)(Aa Ra:Option Addr)(ca ka:Nat)(Pb Mb Nb:Int)(mlb:List Int)(nb:Nat)(rowsb:Nat→List Int)(Ab Rb:Option Addr)(cb kb:Nat)(l msg:List Int)(Al Am:Option Addr)(cl cm:Nat)(hll:l.length≤maxLen)(hlm:msg.length≤maxLen)(hPa:I64 Pa)(hMa:I64 Ma)(hla:mla.length≤maxLen)(hna:na≤64)(hka:∀ i,i<na→(rowsa i).length≤4200)(hPb:I64 Pb)(hMb:I64 Mb)(hlb:mlb.length≤maxLen)(hnb:nb≤64)(hkb:∀ i,i<nb→(rowsb i).length≤4200) :
  ∃ V V2:Int,(-1≤V∧V≤64)∧(-1≤V2∧V2≤64) ∧
   (∀ W,Pre1 mla na rowsa Aa Ra W→Calls Tryz.prog 12 #[.agg #[.int .i64 Pa,.int .i64 Ma,.slice Aa mla.length ca,.int .i64 Na,.slice Ra na ka],.int .i64 4096] W fun e w'=>e=.returned (.int .i64 V)∧Below W.heap.size W w') ∧
   (∀ W,Pre1 mlb nb rowsb Ab Rb W→Calls Tryz.prog 12 #[.agg #[.int .i64 Pb,.int .i64 Mb,.slice Ab mlb.length cb,.int .i64 Nb,.slice Rb nb kb],.int .i64 4096] W fun e w'=>e=.returned (.int .i64 V2)∧Below W.heap.size W w') ∧
   (1≤V→1≤V2→(∃ E,E≠0∧∀ W,(PreC mla na rowsa Aa Ra mlb nb rowsb Ab Rb l Al W)→Calls Tryz.prog 16 #[.agg #[.int .i64 Pa,.int .i64 Ma,.slice Aa mla.length ca,.int .i64 Na,.slice Ra na ka],.agg #[.int .i64 Pb,.int .i64 Mb,.slice Ab mlb.length cb,.int .i64 Nb,.slice Rb nb kb],.slice Al l.length cl] W (ResErr E W)∧Calls Tryz.prog 17 #[.agg #[.int .i64 Pa,.int .i64 Ma,.slice Aa mla.length ca,.int .i64 Na,.slice Ra na ka],.agg #[.int .i64 Pb,.int .i64 Mb,.slice Ab mlb.length cb,.int .i64 Nb,.slice Rb nb kb],.slice Al l.length cl] W (ResErr E W)) ∨
    ∃ (P Mf:Int) (ml:List Int) (n N:Nat) (rows:Nat→List Int) (lst:List Int) (wt:Int),n=na*nb∧n≤64∧N≤64∧lst.length=N∧wtI lst=wt∧(wt=0∨V*V2≤wt) ∧
     (∀ W,(PreC mla na rowsa Aa Ra mlb nb rowsb Ab Rb l Al W)→Calls Tryz.prog 16 #[.agg #[.int .i64 Pa,.int .i64 Ma,.slice Aa mla.length ca,.int .i64 Na,.slice Ra na ka],.agg #[.int .i64 Pb,.int .i64 Mb,.slice Ab mlb.length cb,.int .i64 Nb,.slice Rb nb kb],.slice Al l.length cl] W (ResC P Mf N ml n rows 0 W)) ∧
     (∀ A c Ar cr W,Rd W W.heap.size A ml→RdM W W.heap.size Ar n rows→Rd W W.heap.size Am msg→Calls Tryz.prog 13 #[.agg #[.int .i64 P,.int .i64 Mf,.slice A ml.length c,.int .i64 N,.slice Ar n cr],.slice Am msg.length cm] W fun e w'=>∃ A2 c2,e=.returned (.slice A2 N c2)∧Rd w' w'.heap.size A2 lst∧Below W.heap.size W w')):=by
 obtain⟨V,hV,hD,hVC⟩:=dist_any Pa Ma Na mla na rowsa Aa Ra ca ka 4096 hPa hMa hla hna hka ⟨by omega,by omega⟩;obtain⟨V2,hV2,hD2,hVC2⟩:=dist_any Pb Mb Nb mlb nb rowsb Ab Rb cb kb 4096 hPb hMb hlb hnb hkb ⟨by omega,by omega⟩;refine⟨V,V2,hV,hV2,hD,hD2,fun g1 g2=>?_⟩;obtain⟨F,m1,U,va,-,-,-,hLA⟩:=hVC (by omega);obtain⟨S,m2,M,vb,-,-,-,hLA2⟩:=hVC2 (by omega);obtain⟨hLow1,-⟩:=hLA g1;obtain⟨hLow2,-⟩:=hLA2 g2;clear hD hD2 hVC hVC2 hLA hLA2;have eN1:=va.hN; have eP1:=va.hP; have eM1:=va.hM; have eL1:=va.hl;have eN2:=vb.hN; have eP2:=vb.hP; have eM2:=vb.hM; have eL2:=vb.hl;have h1:=va.m1; have h2:=va.m64; have h3:=vb.m1; have h4:=vb.m64; have h5:=va.le; have h6:=vb.le;have hgS:=vb.good;obtain⟨pa,hRa⟩:=canl_RR va.can;obtain⟨pb,hRb⟩:=canl_RR vb.can;subst eN1 eP1 eM1 eL1 eN2 eP2 eM2 eL2;obtain⟨rt,hrt⟩:=mt_rt F S nb;rw[modL_length,modL_length];by_cases h:Mt F S nb∧basE F l S.m=0∧m1*m2≤64
 ·right;have hnn:=con_le h5 h6 h.2.2;have h0:=(hrt h.1).2.1;have hnM:S.m*nb=F.m:=by rw[←h.1.2.2]; exact Nat.mul_div_cancel' h.1.2.1
  have hI:=(basE_ind h.1.2.1 h.2.1).2;rw[h.1.2.2]at hI;obtain⟨X,hX⟩:∃ X,X=conR S F (rel F.toDesc rt) nb (elL F l) m2 M U:=⟨_,rfl⟩;have hind:Indep (nb*na) (m1*m2) X:=by rw[hX]; exact con_indep h.1.1 h0 hI hnM (RR.indep hRa) (RR.indep hRb)
  have hlow:Low (nb*na) (m1*m2) X (V.toNat*V2.toNat):=by rw[hX]; exact con_low h.1.1 h0 hI hnM (RR.indep hRb) hLow1 hLow2
  have hrk:rkS S (nb*na) (m1*m2) X=nb*na:=rk_full hind;have hm1:1≤m1*m2:=Nat.mul_pos h1 h3;have hvr:=vc_res S hgS (nb*na) (m1*m2) X hm1 h.2.2;rw[hrk]at hvr;obtain⟨u,hu⟩:∃ u,u=ofF (nb*na) (elS (nb*na) X (m1*m2)).1 msg:=⟨_,rfl⟩;have hspan:Span (nb*na) (m1*m2) X u:=by
   have q6:Span (nb*na) (m1*m2) (elS (nb*na) X (m1*m2)).1 u:=by rw[hu]; exact ofF_span msg
   have q7:=elS_span (nb*na) (m1*m2) X;have q8:(elS (nb*na) X (m1*m2)).2.length=nb*na:=hrk;rw[q8]at q7;exact q6.trans q7.1
  refine⟨S.p,S.m,modL S.toDesc,nb*na,m1*m2,rowsL S.toDesc (m1*m2) (elS (nb*na) X (m1*m2)).1,rowL S.toDesc (m1*m2) u,(wtF (m1*m2) u:Nat),Nat.mul_comm _ _,hnn,h.2.2,rowL_length _ _ _,congrArg Nat.cast (wtI_row u),?_,fun W g=>?_,fun A c Ar cr W q1 q2 q3=>?_⟩
  ·by_cases hz:NZ (m1*m2) u
   ·right;have q9:=hlow u hspan hz;have e1:V=(V.toNat:Int):=by omega
    have e2:V2=(V2.toNat:Int):=by omega
    rw[e1,e2,←Int.natCast_mul];exact Int.ofNat_le.2 q9
   ·left;rw[wtF_zero (not_NZ hz)];rfl
  ·have hc:=cConc_any F S m1 m2 na nb rowsa rowsb U M va vb l Aa Ra Ab Rb Al ca ka cb kb cl W g.1.1.1 g.1.1.2 g.1.2.1 g.1.2.2 g.2 hll rt hrt (P:=S.p) (Mf:=S.m) (N:=(m1*m2:Nat)) (ml:=modL S.toDesc) (n:=rkS S (nb*na) (m1*m2) X) (rows:=rowsL S.toDesc (m1*m2) (elS (nb*na) X (m1*m2)).1) (E:=0) fun _ _ _ W2 Ag cg g1 g2=>cGenerated_ok S hgS (nb*na) (m1*m2) X Ab Ag cb cg W2 g1 (by rw[hX]; exact g2) (by omega) hm1 h.2.2
   rw[conP_ok h.1 h.2.1 h.2.2,hrk]at hc;exact hc
  ·refine (of_vc hvr msg A Ar Am c cr cm W q1 q2 q3 hlm).mono ?_;rintro e w' ⟨A2,c2,rfl,r1,-,-,-,r2⟩;exact⟨A2,c2,rfl,by rw[hu]; exact r1,r2⟩
 ·left;obtain⟨E,hE0,hE⟩:=conP_err0 h;refine⟨E,hE0,fun W g=>⟨?_,?_⟩⟩
  ·have hc:=cConc_any F S m1 m2 na nb rowsa rowsb U M va vb l Aa Ra Ab Rb Al ca ka cb kb cl W g.1.1.1 g.1.1.2 g.1.2.1 g.1.2.2 g.2 hll rt hrt (P:=0) (Mf:=0) (N:=0) (ml:=[]) (n:=0) (rows:=fun _=>[]) (E:=0) fun a b c=>absurd ⟨a,b,c⟩ h
   rw[hE]at hc;exact hc
  ·have hc:=rConc_any F S m1 m2 na nb rowsa rowsb U M va vb l Aa Ra Ab Rb Al ca ka cb kb cl W g.1.1.1 g.1.1.2 g.1.2.1 g.1.2.2 g.2 hll rt hrt (P:=0) (Mf:=0) (N:=0) (ml:=[]) (n:=0) (rows:=fun _=>[]) fun a b c=>absurd ⟨a,b,c⟩ h
   rw[hE]at hc;exact hc

set_option maxRecDepth 100000 in
set_option maxHeartbeats 16000000 in
theorem weightsL (Pa Ma Na:Int)(mla:List Int)(na:Nat)(rowsa:Nat→List Int)(Aa Ra:Option Addr)(ca ka:Nat)(Pb Mb Nb:Int)(mlb:List Int)(nb:Nat)(rowsb:Nat→List Int)(Ab Rb:Option Addr)(cb kb:Nat)(l:List Int)(Al:Option Addr)(cl:Nat)(msg:List Int)(Am:Option Addr)(cm:Nat)(w:World)(hPa:I64 Pa)(hMa:I64 Ma)(_hNa:I64 Na)(hla:mla.length≤maxLen)(hna:na≤maxLen)(hra:Rd w w.heap.size Aa mla)(hma:RdM w w.heap.size Ra na rowsa)(hPb:I64 Pb)(hMb:I64 Mb)(_hNb:I64 Nb)(hlb:mlb.length≤maxLen)(hnb:nb≤maxLen)(hrb:Rd w w.heap.size Ab mlb)(hmb:RdM w w.heap.size Rb nb rowsb)(hcl:l.length≤cl)(hlm:cl≤maxLen)(hrl:Rd w w.heap.size Al l)(hcm:msg.length≤cm)(hmm:cm≤maxLen)(hrm:Rd w w.heap.size Am msg) :
  Calls Tryz.prog 6 #[.agg #[.int .i64 Pa,.int .i64 Ma,.slice Aa mla.length ca,.int .i64 Na,.slice Ra na ka],.agg #[.int .i64 Pb,.int .i64 Mb,.slice Ab mlb.length cb,.int .i64 Nb,.slice Rb nb kb],.slice Al l.length cl,.slice Am msg.length cm] w (LawEnd w):=by
 have hLa:=rdm_len hma;have hLb:=rdm_len hmb;obtain⟨Z,hZ⟩:∃ Z,Z=(w.alloc (.cells #[.int .i64 Pa,.int .i64 Ma,.slice Aa mla.length ca,.int .i64 Na,.slice Ra na ka] 27)).alloc (.cells #[.int .i64 Pb,.int .i64 Mb,.slice Ab mlb.length cb,.int .i64 Nb,.slice Rb nb kb] 27):=⟨_,rfl⟩;have hB:Below w.heap.size w Z:=by rw[hZ]; exact ((Below.refl _ _).alloc (Nat.le_refl _) _).alloc (by simp) _
 obtain⟨s,hs⟩:∃ s,s=w.heap.size:=⟨_,rfl⟩;obtain⟨hZe,fa,fb⟩:=two_enter2 Pa Ma Na mla na rowsa Aa Ra ca ka Pb Mb Nb mlb nb rowsb Ab Rb cb kb w hZ hs;have hb1:Below Z.heap.size Z (Z.alloc (.cells #[.int .i64 Pa,.int .i64 Ma,.slice Aa mla.length ca,.int .i64 Na,.slice Ra na ka,.int .i64 Pb,.int .i64 Mb,.slice Ab mlb.length cb,.int .i64 Nb,.slice Rb nb kb] 27)):=(Below.refl _ _).alloc (Nat.le_refl _) _;have hB1:=hB.trans (hb1.mono hB.size);have hF:=few2_any Pa Ma Na mla na rowsa Aa Ra ca ka Pb Mb Nb mlb nb rowsb Ab Rb cb kb (s+1+1) _ ((hma.below hB1).more hB1.size) ((hmb.below hB1).more hB1.size) ⟨hna,hLa⟩ ⟨hnb,hLb⟩ (by rw[World.size_alloc]; omega) (by rw[←hZe]; simp[go_sem]) (by rw[←hZe]; simp[go_sem]);replace fa:=Lib.hid fa;replace fb:=Lib.hid fb;by_cases hf:fewAll2 na rowsa nb rowsb=true;rotate_left
 ·rw[show fewAll2 na rowsa nb rowsb=false from by simpa using hf]at hF;replace hF:=Lib.hid hF;replace hZe:=Lib.hid hZe;replace hZ:=Lib.hid hZ;replace hf:=Lib.hid hf;clear hLa hLb;unfold LawEnd;go_enter Tryz.func6,Tryz.ntmps6;go_wp2_with (fail);rw[←hZ.out];simp only[←hs];replace hs:=Lib.hid hs;(with_reducible refine hF.out.mono ?_);rintro e w1 ⟨rfl,hb2⟩;go_wp2_with (fail);go_ret;exact⟨rfl,hB1.trans (hb2.mono hB1.size)⟩
 rw[hf]at hF;replace hF:=Lib.hid hF;obtain⟨hfa,hfb⟩:fewC na rowsa=true∧fewC nb rowsb=true:=by unfold fewAll2 at hf; simpa using hf
 obtain⟨hna2,hka⟩:=fewC_le hfa;obtain⟨hnb2,hkb⟩:=fewC_le hfb;obtain⟨V,V2,⟨hV1,hV6⟩,⟨hW1,hW6⟩,hD,hD2,hpack⟩:=conc_pack Pa Ma Na mla na rowsa Aa Ra ca ka Pb Mb Nb mlb nb rowsb Ab Rb cb kb l msg Al Am cl cm (Nat.le_trans hcl hlm) (Nat.le_trans hcm hmm) hPa hMa hla hna2 hka hPb hMb hlb hnb2 hkb;replace hD:=fun W h=>Lib.hid (hD W h)
 replace hD2:=fun W h=>Lib.hid (hD2 W h)
 replace hpack:=fun a b=>Lib.hid (hpack a b)
 have hm1:IntKind.i64.wrap (V*V2)=V*V2:=by
  have h1:V*V2≤64*64∧-64≤V*V2:=by
   rcases Int.lt_or_le V 0 with h | h
   ·rw[show V=-1 by omega]; omega
   ·rcases Int.lt_or_le V2 0 with h' | h'
    ·rw[show V2=-1 by omega]; omega
    ·exact⟨Int.mul_le_mul hV6 hW6 h' (by omega),Int.le_trans (by omega) (Int.mul_nonneg h h')⟩
  exact IntWalk.i64_in _ (by omega)
 obtain⟨VV,hVV⟩:∃ VV,VV=V*V2:=⟨_,rfl⟩;rw[←hVV]at hm1;replace hm1:=Lib.hid hm1;replace hVV:=Lib.hid hVV;replace hZe:=Lib.hid hZe;replace hZ:=Lib.hid hZ;replace hf:=Lib.hid hf;replace hfa:=Lib.hid hfa;replace hfb:=Lib.hid hfb;clear hLa hLb hka hkb;unfold LawEnd;go_enter Tryz.func6,Tryz.ntmps6;go_wp2_with (fail);rw[←hZ.out];simp only[←hs];replace hs:=Lib.hid hs;(with_reducible refine hF.out.mono ?_);rintro e w1 ⟨rfl,hb2⟩;have hbz:=hb1.trans (hb2.mono hb1.size);have hBw:=hB.trans (hbz.mono hB.size);have hsz:s+1<w1.heap.size:=by have:=hbz.size; have:=hZe.out; omega
 have fa1:=Lib.hid (fa.out.keep hbz (by have:=hZe.out; omega));have fb1:=Lib.hid (fb.out.keep hbz (by have:=hZe.out; omega));replace hZe:=Lib.hid hZe;clear hF hb2 hb1 hB1 hbz;go_wp2_with (fail);go_cut [9,10] from 21 (fun va vb wx=>va=.int .i64 V∧vb=.int .i64 V2∧Below w1.heap.size w1 wx)
 case first =>
  have hBd:=hBw.drew;have hBr:Below w1.heap.size w1 w1.drew:=(Below.refl _ _).drew;have hsd:s+1<w1.drew.heap.size:=hsz;have fad:=Lib.hid (fa1.out.keep hBr (by omega));have fbd:=Lib.hid (fb1.out.keep hBr (by omega));have hcc:=Lib.hid (cells_two fad.out fbd.out);refine wp_region_held_drew (S:=fun w'=>w'.cell? ⟨s,0,none⟩=some (.int .i64 Pa)∧w'.cell? ⟨s,1,none⟩=some (.int .i64 Ma)∧w'.cell? ⟨s,2,none⟩=some (.slice Aa mla.length ca)∧w'.cell? ⟨s,3,none⟩=some (.int .i64 Na)∧w'.cell? ⟨s,4,none⟩=some (.slice Ra na ka)∧w'.cell? ⟨s+1,0,none⟩=some (.int .i64 Pb)∧w'.cell? ⟨s+1,1,none⟩=some (.int .i64 Mb)∧w'.cell? ⟨s+1,2,none⟩=some (.slice Ab mlb.length cb)∧w'.cell? ⟨s+1,3,none⟩=some (.int .i64 Nb)∧w'.cell? ⟨s+1,4,none⟩=some (.slice Rb nb kb)) (by kernel_rfl) (by (try dsimp only); exact hcc.out) (fun hHeld=>?_);refine tk 0 ?_; try simp only[pS]
  refine tk 2 ?_; try simp only[pS]
  refine rd 1 fun K hK=>?_
  go_simp;go_at_call 12;(with_reducible refine ((hD _ (pre1_below hra hma hBd))).out.mono ?_);rintro e wa ⟨rfl,hbA⟩;replace fad:=Lib.hid (fad.out.keep hbA (by have:=hsd; omega));replace fbd:=Lib.hid (fbd.out.keep hbA (by have:=hsd; omega));replace hsd:=Nat.lt_of_lt_of_le hsd hbA.size;replace hBd:=hBd.trans (hbA.mono hBd.size);replace hBr:=hBr.trans (hbA.mono hBr.size);clear hbA;replace hcc:=Lib.hid (cells_two fad.out fbd.out);go_wp2_with (fail);refine hK.out _ _ (by (try dsimp only); exact hcc.out) (fun hHeld=>?_);clear hK K;try simp only[pS]
  refine rd 3 fun K hK=>?_
  go_simp;go_at_call 12;(with_reducible refine ((hD2 _ (pre1_below hrb hmb hBd))).out.mono ?_);rintro e wb ⟨rfl,hbB⟩;replace fad:=Lib.hid (fad.out.keep hbB (by have:=hsd; omega));replace fbd:=Lib.hid (fbd.out.keep hbB (by have:=hsd; omega));replace hsd:=Nat.lt_of_lt_of_le hsd hbB.size;replace hBd:=hBd.trans (hbB.mono hBd.size);replace hBr:=hBr.trans (hbB.mono hBr.size);clear hbB;replace hcc:=Lib.hid (cells_two fad.out fbd.out);go_wp2_with (fail);refine hK.out _ _ (by (try dsimp only); exact hcc.out) (fun hHeld=>?_);clear hK K;try simp only[pS]
  refine tk 4 ?_; try simp only[pS]
  refine tk 5 ?_; try simp only[pS]
  refine wpAnyH_done (by kernel_rfl) ?_ _;go_wp2_with (fail);go_meet;exact⟨rfl,rfl,hBr⟩
 case rest =>
  obtain⟨rfl,rfl,hb⟩:=hcut;obtain⟨w2,rfl⟩:∃ w2:World,w2=wc:=⟨_,rfl⟩;have fa2:=Lib.hid (fa1.out.keep hb (by first | omega | (simp; omega)));have fb2:=Lib.hid (fb1.out.keep hb (by first | omega | (simp; omega)));replace hBw:=hBw.trans (hb.mono hBw.size);replace hsz:s+1<w2.heap.size:=Nat.lt_of_lt_of_le hsz hb.size;clear fa1 fb1 hD hD2;by_cases hv:V<1
  ·have hvb:decide (V<1)=true:=decide_eq_true hv;clear hpack;go_wp2_with (fail);go_ret;exact⟨rfl,hBw⟩
  have hvb:decide (V<1)=false:=decide_eq_false hv;by_cases hv2:V2<1
  ·have hv2b:decide (V2<1)=true:=decide_eq_true hv2;clear hpack;go_wp2_with (fail);go_ret;exact⟨rfl,hBw⟩
  have hv2b:decide (V2<1)=false:=decide_eq_false hv2;have hpre:∀ W,Below w.heap.size w W→(PreC mla na rowsa Aa Ra mlb nb rowsb Ab Rb l Al W):=fun W h=>⟨⟨⟨(hra.below h).more h.size,(hma.below h).more h.size⟩,(hrb.below h).more h.size,(hmb.below h).more h.size⟩,(hrl.below h).more h.size⟩
  replace hpre:=fun W a=>Lib.hid (hpre W a)
  obtain⟨a0,a1,a2,a3,a4,-⟩:=fa2.out;obtain⟨c0,c1,c2,c3,c4,-⟩:=fb2.out;rcases (hpack (by omega) (by omega)).out with ⟨E,hE0,hEr⟩ | ⟨P,Mf,ml,n,N,rows,lst,wt,hn,hn64,hN64,hll,hwt,hor,hC,hOf⟩
  ·have hEb:(E !=0)=true:=by rw[bne_iff_ne]; exact hE0
   have hEe:(E==E)=true:=by simp
   unfold ResErr ResC at hEr;have hq:=Lib.hid (hEr w2 (hpre w2 hBw).out).1;replace hEr:=fun W a=>Lib.hid (hEr W a).2
   replace hE0:=Lib.hid hE0;clear hpack;go_wp2_with (fail);(with_reducible refine hq.out.mono ?_);rintro e w3 ⟨A3,x3,R3,y3,rfl,-,-,-,hb3⟩;obtain⟨Y,hY⟩:∃ Y,Y=w3.alloc (.cells #[.int .i64 0,.int .i64 0,.slice A3 0 x3,.int .i64 0,.slice R3 0 y3] 27):=⟨_,rfl⟩;have hbY:Below w3.heap.size w3 Y:=by rw[hY]; exact (Below.refl _ _).alloc (Nat.le_refl _) _
   have hbc:=hb3.trans (hbY.mono hb3.size);have hBY:=hBw.trans (hbc.mono hBw.size);have fa3:=fa2.out.keep hbc (by omega);have fb3:=fb2.out.keep hbc (by omega);have hq2:=hEr Y (hpre Y hBY).out;clear hq hEr a0 a1 a2 a3 a4 c0 c1 c2 c3 c4 hb3 hbY;obtain⟨a0,a1,a2,a3,a4,-⟩:=fa3;obtain⟨c0,c1,c2,c3,c4,-⟩:=fb3;rw[hY]at a0 a1 a2 a3 a4 c0 c1 c2 c3 c4;replace hY:=Lib.hid hY;go_wp2_with (fail);rw[show (w3.alloc (.cells #[.int .i64 0,.int .i64 0,.slice A3 0 x3,.int .i64 0,.slice R3 0 y3] 27))=Y from hY.out.symm];(with_reducible refine hq2.out.mono ?_);rintro e w4 ⟨A4,x4,R4,y4,rfl,-,-,-,hb4⟩;clear a0 a1 a2 a3 a4 c0 c1 c2 c3 c4;go_wp2_with (fail);go_ret;exact⟨rfl,(hBY.trans (hb4.mono hBY.size)).alloc (Nat.le_trans hBY.size hb4.size) _⟩
  ·have hE1:((0:Int) !=0)=false:=by decide
   have hK0:((na:Int)*(nb:Int))=(n:Int):=by rw[hn]; push_cast; rfl
   have hKK:IntKind.i64.wrap ((na:Int)*(nb:Int))=(n:Int):=by rw[hK0]; exact IntWalk.i64_in _ (by omega)
   have hnn1:((n:Int)==(n:Int))=true:=by simp
   have hnn2:(n==n)=true:=by simp
   have hW:=fun A c W a=>Weight14_any lst A c W a (by rw[hll]; omega)
   rw[hll,hwt]at hW;replace hK0:=Lib.hid hK0;replace hn:=Lib.hid hn;replace hll:=Lib.hid hll;replace hwt:=Lib.hid hwt;unfold ResC at hC;have hq:=Lib.hid (hC w2 (hpre w2 hBw).out);replace hOf:=fun A c Ar cr W q1 q2 q3=>Lib.hid (hOf A c Ar cr W q1 q2 q3)
   replace hW:=fun A c W a=>Lib.hid (hW A c W a)
   have hm1':=hm1.out;have horH:=Lib.hid hor;rw[←hVV.out]at hor;clear hpack hC hpre;go_wp2_with (fail);(with_reducible refine hq.out.mono ?_);rintro e w3 ⟨A3,x3,R3,y3,rfl,hr3,-,hu3,hb3⟩;obtain⟨Y,hY⟩:∃ Y,Y=w3.alloc (.cells #[.int .i64 P,.int .i64 Mf,.slice A3 ml.length x3,.int .i64 N,.slice R3 n y3] 27):=⟨_,rfl⟩;have hbY:Below w3.heap.size w3 Y:=by rw[hY]; exact (Below.refl _ _).alloc (Nat.le_refl _) _
   have hbc:=hb3.trans (hbY.mono hb3.size);have hBY:=hBw.trans (hbc.mono hBw.size);have fY:Five Y w3.heap.size (.int .i64 P) (.int .i64 Mf) (.slice A3 ml.length x3) (.int .i64 N) (.slice R3 n y3):=by rw[hY]; exact Five.new w3 _ _ _ _ _ 27
   have hYs:w3.heap.size<Y.heap.size:=by rw[hY]; simp
   have fa3:=Lib.hid (fa2.out.keep hbc (by omega));have fb3:=Lib.hid (fb2.out.keep hbc (by omega));have hs3:s+1<Y.heap.size:=Nat.lt_of_lt_of_le hsz hbc.size;have hO:=hOf A3 x3 R3 y3 Y ((hr3.below hbY).more hbY.size) ((hu3.rdm.below hbY).more hbY.size) ((hrm.below hBY).more hBY.size);clear hq hOf a0 a1 a2 a3 a4 c0 c1 c2 c3 c4 hb3 hr3 hu3;obtain⟨d0,d1,d2,d3,d4,-⟩:=fY;rw[hY]at d0 d1 d2 d3 d4;replace hY:=Lib.hid hY;go_wp2_with (fail);rw[←hY.out];(with_reducible refine hO.out.mono ?_);rintro e w4 ⟨A4,c4',rfl,hr4,hb4⟩;have hB4:=hBY.trans (hb4.mono hBY.size);rw[hY.out.symm]at d0 d1 d2 d3 d4;obtain⟨a0,a1,a2,a3,a4,-⟩:=fa3.out.keep hb4 (by omega);obtain⟨c0,c1,c2,c3,c4,-⟩:=fb3.out.keep hb4 hs3;have t4:=(hb4.cell (p:=⟨w3.heap.size,4,none⟩) hYs).trans d4;have hW4:=hW A4 c4' w4 hr4;clear hO hW d0 d1 d2 d3 d4 hr4;by_cases hw0:wt=0
   ·have hw1:(wt==0)=true:=by rw[hw0]; rfl
    clear hor;go_wp2_with (fail);(with_reducible refine hW4.out.mono ?_);rintro e w5 ⟨rfl,rfl⟩;go_wp2_with (fail);go_ret;exact⟨rfl,hB4⟩
   ·have hw1:(wt==0)=false:=by rw[beq_eq_false_iff_ne]; exact hw0
    have hle:VV≤wt:=by rcases hor with h | h; exact absurd h hw0; exact h
    have hVV2:=hVV.out.symm;clear hor;go_wp2_with (fail);(with_reducible refine hW4.out.mono ?_);rintro e w5 ⟨rfl,rfl⟩;go_wp2_with (fail);go_ret;exact⟨rfl,hB4⟩
end Go.Proofs.YtogfekjbpcfgmaaGreat

/- CombineTails: the walk. -/
import Derived.Test.YtogfekjbpcfgmaaGreatZtXDsM
import Derived.Test.YtogfekjbpcfgmaaGreatZtXInsW
import Derived.Test.YtogfekjbpcfgmaaGreatZtXCodN
import Derived.Test.YtogfekjbpcfgmaaGreatZtXT12
import Derived.Test.YtogfekjbpcfgmaaGreatZtXExtL
import Derived.Test.YtogfekjbpcfgmaaGreatZtXTk
namespace Go.Proofs.YtogfekjbpcfgmaaGreat
open Go.RowKit Cw
attribute [local go_sem] Oper.semAt_some

theorem cells_three {W:World} {x y z:Nat} {u0 u1 u2 u3 u4 v0 v1 v2 v3 v4 t0 t1 t2 t3 t4:Value} (fa:Five W x u0 u1 u2 u3 u4)(fb:Five W y v0 v1 v2 v3 v4)(fz:Five W z t0 t1 t2 t3 t4):(W.cell? ⟨x,0,none⟩=some u0∧W.cell? ⟨x,1,none⟩=some u1∧W.cell? ⟨x,2,none⟩=some u2∧W.cell? ⟨x,3,none⟩=some u3∧W.cell? ⟨x,4,none⟩=some u4)∧(W.cell? ⟨y,0,none⟩=some v0∧W.cell? ⟨y,1,none⟩=some v1∧W.cell? ⟨y,2,none⟩=some v2∧W.cell? ⟨y,3,none⟩=some v3∧W.cell? ⟨y,4,none⟩=some v4)∧W.cell? ⟨z,0,none⟩=some t0∧W.cell? ⟨z,1,none⟩=some t1∧W.cell? ⟨z,2,none⟩=some t2∧W.cell? ⟨z,3,none⟩=some t3∧W.cell? ⟨z,4,none⟩=some t4:=by
 obtain⟨a0,a1,a2,a3,a4,-⟩:=fa;obtain⟨c0,c1,c2,c3,c4,-⟩:=fb;obtain⟨d0,d1,d2,d3,d4,-⟩:=fz;exact⟨⟨a0,a1,a2,a3,a4⟩,⟨c0,c1,c2,c3,c4⟩,d0,d1,d2,d3,d4⟩
theorem pre1_below {w W:World} {ml:List Int} {n:Nat} {rows:Nat→List Int} {A Ar:Option Addr} (h1:Rd w w.heap.size A ml)(h2:RdM w w.heap.size Ar n rows)(hb:Below w.heap.size w W):Pre1 ml n rows A Ar W:=⟨(h1.below hb).more hb.size,(h2.below hb).more hb.size⟩
theorem Rd.front {w:World} {B:Nat} {A:Option Addr} {l l2:List Int} (h:Rd w B A l)(hn:0<l.length)(hl:l2.length≤l.length)(he:∀ i,i<l2.length→l[i]?.getD 0=l2[i]?.getD 0):Rd w B A l2:=fun _=>by
 obtain⟨b,o,e,h1,h2⟩:=h hn;exact⟨b,o,e,h1,fun j hj=>by rw[←he j hj]; exact h2 j (by omega)⟩
theorem Rd.back {w:World} {B b o m:Nat} {l l2:List Int} (h:Rd w B (some ⟨b,o,none⟩) l)(hn:0<l.length)(hl:m+l2.length≤l.length)(he:∀ i,i<l2.length→l[m+i]?.getD 0=l2[i]?.getD 0):Rd w B (some ⟨b,o+m,none⟩) l2:=fun _=>by
 obtain⟨b',o',e,h1,h2⟩:=h hn
 injection e with e
 injection e with e1 e2
 subst e1 e2;exact⟨b,o+m,rfl,h1,fun j hj=>by rw[←he j hj,Nat.add_assoc]; exact h2 (m+j) (by omega)⟩
set_option maxHeartbeats 2000000 in
theorem tails_pack (Pa Ma Na:Int)(mla:List Int)(na:Nat)(rowsa:Nat→List Int)(Aa Ra:Option Addr)(ca ka:Nat)(Pb Mb Nb:Int)(mlb:List Int)(nb:Nat)(rowsb:Nat→List Int)(Ab Rb:Option Addr)(cb kb:Nat)(Pz Mz Nz:Int)(mlz:List Int)(nz:Nat)(rowsz:Nat→List Int)(Az Rz:Option Addr)(cz kz:Nat)(msg:List Int)(Am:Option Addr)(cm:Nat)(hlm:msg.length≤maxLen)(hPa:I64 Pa)(hMa:I64 Ma)(hla:mla.length≤maxLen)(hna:na≤64)(hka:∀ i,i<na→(rowsa i).length≤4200)(hPb:I64 Pb)(hMb:I64 Mb)(hlb:mlb.length≤maxLen)(hnb:nb≤64)(hkb:∀ i,i<nb→(rowsb i).length≤4200)(hPz:I64 Pz)(hMz:I64 Mz)(hlz:mlz.length≤maxLen)(hnz:nz≤64)(hkz:∀ i,i<nz→(rowsz i).length≤4200) :
  ∃ V V2 V3:Int,(-1≤V∧V≤64)∧(-1≤V2∧V2≤64)∧(-1≤V3∧V3≤64)∧(∀ W,Pre1 mla na rowsa Aa Ra W→Calls Tryz.prog 12 #[.agg #[.int .i64 Pa,.int .i64 Ma,.slice Aa mla.length ca,.int .i64 Na,.slice Ra na ka],.int .i64 4096] W fun e w'=>e=.returned (.int .i64 V)∧Below W.heap.size W w')∧(∀ W,Pre1 mlb nb rowsb Ab Rb W→Calls Tryz.prog 12 #[.agg #[.int .i64 Pb,.int .i64 Mb,.slice Ab mlb.length cb,.int .i64 Nb,.slice Rb nb kb],.int .i64 4096] W fun e w'=>e=.returned (.int .i64 V2)∧Below W.heap.size W w')∧(∀ W,Pre1 mlz nz rowsz Az Rz W→Calls Tryz.prog 12 #[.agg #[.int .i64 Pz,.int .i64 Mz,.slice Az mlz.length cz,.int .i64 Nz,.slice Rz nz kz],.int .i64 4096] W fun e w'=>e=.returned (.int .i64 V3)∧Below W.heap.size W w') ∧
   (1≤V→0≤V2→1≤V3→(∃ E,E≠0∧∀ W,(Pre3 mla na rowsa Aa Ra mlb nb rowsb Ab Rb mlz nz rowsz Az Rz) W→Calls Tryz.prog 9 #[.agg #[.int .i64 Pa,.int .i64 Ma,.slice Aa mla.length ca,.int .i64 Na,.slice Ra na ka],.agg #[.int .i64 Pb,.int .i64 Mb,.slice Ab mlb.length cb,.int .i64 Nb,.slice Rb nb kb],.agg #[.int .i64 Pz,.int .i64 Mz,.slice Az mlz.length cz,.int .i64 Nz,.slice Rz nz kz]] W (ResErr E W)∧Calls Tryz.prog 10 #[.agg #[.int .i64 Pa,.int .i64 Ma,.slice Aa mla.length ca,.int .i64 Na,.slice Ra na ka],.agg #[.int .i64 Pb,.int .i64 Mb,.slice Ab mlb.length cb,.int .i64 Nb,.slice Rb nb kb],.agg #[.int .i64 Pz,.int .i64 Mz,.slice Az mlz.length cz,.int .i64 Nz,.slice Rz nz kz]] W (ResErr E W)) ∨
    ∃ (P Mf:Int) (ml:List Int) (m mt NN:Nat) (rows:Nat→List Int) (lst lx lt:List Int) (wx wt ww:Int),Na=m∧Nz=mt∧NN=m+mt∧1≤m∧1≤mt∧NN≤64∧na≤64∧lst.length=NN∧lx.length=m∧lt.length=mt∧(∀ i,i<m→lst[i]?.getD 0=lx[i]?.getD 0)∧(∀ i,i<mt→lst[m+i]?.getD 0=lt[i]?.getD 0)∧wtI lst=ww∧wtI lx=wx∧wtI lt=wt∧(wt=0→wx=0∨V2≤ww)∧(wt≠0→V+V3≤ww) ∧
     (∀ W,(Pre3 mla na rowsa Aa Ra mlb nb rowsb Ab Rb mlz nz rowsz Az Rz) W→Calls Tryz.prog 9 #[.agg #[.int .i64 Pa,.int .i64 Ma,.slice Aa mla.length ca,.int .i64 Na,.slice Ra na ka],.agg #[.int .i64 Pb,.int .i64 Mb,.slice Ab mlb.length cb,.int .i64 Nb,.slice Rb nb kb],.agg #[.int .i64 Pz,.int .i64 Mz,.slice Az mlz.length cz,.int .i64 Nz,.slice Rz nz kz]] W (ResC P Mf NN ml na rows 0 W)) ∧
     (∀ A c Ar cr W,Rd W W.heap.size A ml→RdM W W.heap.size Ar na rows→Rd W W.heap.size Am msg→Calls Tryz.prog 13 #[.agg #[.int .i64 P,.int .i64 Mf,.slice A ml.length c,.int .i64 NN,.slice Ar na cr],.slice Am msg.length cm] W fun e w'=>∃ A2 c2,e=.returned (.slice A2 NN c2)∧Rd w' w'.heap.size A2 lst∧NN≤c2∧c2≤maxLen∧Below W.heap.size W w') ∧
     (∀ Ax cx W,Rd W W.heap.size Ab mlb→RdM W W.heap.size Rb nb rowsb→Rd W W.heap.size Ax lx→Calls Tryz.prog 14 #[.agg #[.int .i64 Pb,.int .i64 Mb,.slice Ab mlb.length cb,.int .i64 Nb,.slice Rb nb kb],.slice Ax m cx] W fun e w'=>e=.returned (.tuple #[.bool (wt==0),.int .i64 0])∧Below W.heap.size W w')):=by
 by_cases h0:thrE Pa Ma Na mla na rowsa Aa Ra ca ka Pb Mb Nb mlb nb rowsb Ab Rb cb kb Pz Mz Nz mlz nz rowsz Az Rz cz kz≠0∨Na≠Nb
 ·obtain⟨V,hV,hD,-⟩:=dist_any Pa Ma Na mla na rowsa Aa Ra ca ka 4096 hPa hMa hla hna hka ⟨by omega,by omega⟩;obtain⟨V2,hV2,hD2,-⟩:=dist_any Pb Mb Nb mlb nb rowsb Ab Rb cb kb 4096 hPb hMb hlb hnb hkb ⟨by omega,by omega⟩;obtain⟨V3,hV3,hD3,-⟩:=dist_any Pz Mz Nz mlz nz rowsz Az Rz cz kz 4096 hPz hMz hlz hnz hkz ⟨by omega,by omega⟩;exact⟨V,V2,V3,hV,hV2,hV3,hD,hD2,hD3,fun _ _ _=>.inl (ext_refuse Pa Ma Na mla na rowsa Aa Ra ca ka Pb Mb Nb mlb nb rowsb Ab Rb cb kb Pz Mz Nz mlz nz rowsz Az Rz cz kz hPa hMa hla hna hka hPb hMb hlb hnb hkb hPz hMz hlz hnz hkz h0)⟩
 have hE:thrE Pa Ma Na mla na rowsa Aa Ra ca ka Pb Mb Nb mlb nb rowsb Ab Rb cb kb Pz Mz Nz mlz nz rowsz Az Rz cz kz=0:=Classical.byContradiction fun h=>h0 (.inl h)
 have hN:Na=Nb:=Classical.byContradiction fun h=>h0 (.inr h)
 obtain⟨-,F,m,m2,mt,A,B,U,va,vb,vz⟩:=thrE_zero hE;have e1:=va.hN; have e2:=vb.hN;obtain rfl:m=m2:=by omega
 obtain⟨V,hV,hD,hL1⟩:=dist_vc Pa Ma Na mla na rowsa Aa Ra ca ka 4096 hPa hMa hla hna hka ⟨by omega,by omega⟩ va;obtain⟨V2,hV2,hD2,hL2⟩:=dist_vc Pb Mb Nb mlb nb rowsb Ab Rb cb kb 4096 hPb hMb hlb hnb hkb ⟨by omega,by omega⟩ vb;obtain⟨V3,hV3,hD3,hL3⟩:=dist_vc Pz Mz Nz mlz nz rowsz Az Rz cz kz 4096 hPz hMz hlz hnz hkz ⟨by omega,by omega⟩ vz;refine⟨V,V2,V3,hV,hV2,hV3,hD,hD2,hD3,fun g1 g2 g3=>?_⟩;clear hD hD2 hD3;rcases ext_vc Pa Ma Na mla na rowsa Aa Ra ca ka Pb Mb Nb mlb nb rowsb Ab Rb cb kb Pz Mz Nz mlz nz rowsz Az Rz cz kz hPa hMa hla hna hka hPb hMb hlb hnb hkb hPz hMz hlz hnz hkz F m mt A B U va vb vz hE with ⟨-,E,hE0,h⟩ | ⟨hc,h⟩
 ·exact .inl ⟨E,hE0,h⟩
 right;have h1:=va.m1; have h2:=vz.m1; have h5:=va.le;have hRa:=canl_RRp va.can;have hRb:=canl_RRp vb.can;obtain⟨pz,hRz⟩:=canl_RR vz.can;have hsub:=inAll_iff.1 hc.1.1;have hsl:(selP (pvF (elS nb B m).2) nb (pvF (elS na A m).2) na).length=nz:=by rw[sel_len hRa hRb hsub]; have:=hc.1.2; omega
 obtain⟨X,hX⟩:∃ X,X=(extR m (pvF (elS nb B m).2) nb (pvF (elS na A m).2) na A B U):=⟨_,rfl⟩;rw[←hX]at h;have hind:Indep na (m+mt) X:=by rw[hX]; exact ext_indep hRa
 have hrk:rkS F na (m+mt) X=na:=rk_full hind;have hvr:=vc_res F va.good na (m+mt) X (by omega) hc.2;rw[hrk]at hvr;obtain⟨u,hu⟩:∃ u,u=ofF na (elS na X (m+mt)).1 msg:=⟨_,rfl⟩;have hspan:Span na (m+mt) X u:=by
  have q6:Span na (m+mt) (elS na X (m+mt)).1 u:=by rw[hu]; exact ofF_span msg
  have q7:=elS_span na (m+mt) X;have q8:(elS na X (m+mt)).2.length=na:=hrk;rw[q8]at q7;exact q6.trans q7.1
 rw[hX]at hspan;have hlaw:=ext_law (U:=U) hRa hRb hsub (by rw[hsl]; exact RR.indep hRz) (da:=V.toNat) (db:=V2.toNat) (dt:=V3.toNat) (hL1 g1).2.2.1 (fun hd=>(hL2 (by omega)).2.2.1) (by rw[hsl]; exact (hL3 g3).2.2.1) hspan;obtain⟨l1,l2,l3⟩:=hlaw;have hbz:spB nb m B u=(((wtF mt fun j=>u (m+j):Nat):Int)==0):=by
  rw[Bool.eq_iff_iff,spB_iff,l1,beq_iff_eq];omega
 refine⟨F.p,F.m,modL F.toDesc,m,mt,m+mt,rowsL F.toDesc (m+mt) (elS na X (m+mt)).1,rowL F.toDesc (m+mt) u,rowL F.toDesc m u,rowL F.toDesc mt (fun j=>u (m+j)),(wtF m u:Nat),(wtF mt (fun j=>u (m+j)):Nat),(wtF (m+mt) u:Nat),e1,vz.hN,rfl,h1,h2,hc.2,by omega,rowL_length _ _ _,rowL_length _ _ _,rowL_length _ _ _,fun i hi=>?_,fun i hi=>?_,congrArg Nat.cast (wtI_row u),congrArg Nat.cast (wtI_row u),congrArg Nat.cast (wtI_row _),fun h7=>?_,fun h7=>?_,fun W g=>?_,fun A0 c Ar cr W q1 q2 q3=>?_,fun Ax cx W q1 q2 q3=>?_⟩
 ·rw[rowL_get F.toDesc u (by omega),rowL_get F.toDesc u hi]
 ·rw[rowL_get F.toDesc u (by omega),rowL_get F.toDesc _ hi]
 ·rcases l2 (l1.2 (by omega)) with h8 | h8
  ·left; omega
  ·right; omega
 ·have h8:=l3 (fun h9=>h7 (by have:=l1.1 h9; omega));omega
 ·have h9:=(h W g).1;unfold ResCode at h9;rw[hrk]at h9;exact h9
 ·refine (of_vc hvr msg A0 Ar Am c cr cm W q1 q2 q3 hlm).mono ?_;rintro e w' ⟨A2,c2,rfl,r1,-,r2,r3,r4⟩;exact⟨A2,c2,rfl,by rw[hu]; exact r1,r2,r3,r4⟩
 ·have h9:=Has12_vc vb u Ab Rb Ax cb kb cx W q1 q2 q3;rw[hbz]at h9;exact h9

set_option maxRecDepth 100000 in
set_option maxHeartbeats 16000000 in
theorem tailsL (Pa Ma Na:Int)(mla:List Int)(na:Nat)(rowsa:Nat→List Int)(Aa Ra:Option Addr)(ca ka:Nat)(Pb Mb Nb:Int)(mlb:List Int)(nb:Nat)(rowsb:Nat→List Int)(Ab Rb:Option Addr)(cb kb:Nat)(Pz Mz Nz:Int)(mlz:List Int)(nz:Nat)(rowsz:Nat→List Int)(Az Rz:Option Addr)(cz kz:Nat)(msg:List Int)(Am:Option Addr)(cm:Nat)(w:World)(hPa:I64 Pa)(hMa:I64 Ma)(_hNa:I64 Na)(hla:mla.length≤maxLen)(hna:na≤maxLen)(hra:Rd w w.heap.size Aa mla)(hma:RdM w w.heap.size Ra na rowsa)(hPb:I64 Pb)(hMb:I64 Mb)(_hNb:I64 Nb)(hlb:mlb.length≤maxLen)(hnb:nb≤maxLen)(hrb:Rd w w.heap.size Ab mlb)(hmb:RdM w w.heap.size Rb nb rowsb)(hPz:I64 Pz)(hMz:I64 Mz)(_hNz:I64 Nz)(hlz:mlz.length≤maxLen)(hnz:nz≤maxLen)(hrz:Rd w w.heap.size Az mlz)(hmz:RdM w w.heap.size Rz nz rowsz)(hcm:msg.length≤cm)(hmm:cm≤maxLen)(hrm:Rd w w.heap.size Am msg) :
  Calls Tryz.prog 4 #[.agg #[.int .i64 Pa,.int .i64 Ma,.slice Aa mla.length ca,.int .i64 Na,.slice Ra na ka],.agg #[.int .i64 Pb,.int .i64 Mb,.slice Ab mlb.length cb,.int .i64 Nb,.slice Rb nb kb],.agg #[.int .i64 Pz,.int .i64 Mz,.slice Az mlz.length cz,.int .i64 Nz,.slice Rz nz kz],.slice Am msg.length cm] w (LawEnd w):=by
 have hLa:=rdm_len hma;have hLb:=rdm_len hmb;have hLz:=rdm_len hmz;obtain⟨Z,hZ⟩:∃ Z,Z=(((w.alloc (.cells #[.int .i64 Pa,.int .i64 Ma,.slice Aa mla.length ca,.int .i64 Na,.slice Ra na ka] 27)).alloc (.cells #[.int .i64 Pb,.int .i64 Mb,.slice Ab mlb.length cb,.int .i64 Nb,.slice Rb nb kb] 27)).alloc (.cells #[.int .i64 Pz,.int .i64 Mz,.slice Az mlz.length cz,.int .i64 Nz,.slice Rz nz kz] 27)):=⟨_,rfl⟩;have hB:Below w.heap.size w Z:=by rw[hZ]; exact (((Below.refl _ _).alloc (Nat.le_refl _) _).alloc (by simp) _).alloc (by simp; omega) _
 obtain⟨s,hs⟩:∃ s,s=w.heap.size:=⟨_,rfl⟩;obtain⟨hZe,fa,fb,fz⟩:=enter3L Pa Ma Na mla na rowsa Aa Ra ca ka Pb Mb Nb mlb nb rowsb Ab Rb cb kb Pz Mz Nz mlz nz rowsz Az Rz cz kz w hZ hs;have hb1:Below Z.heap.size Z (Z.alloc (.cells #[.int .i64 Pa,.int .i64 Ma,.slice Aa mla.length ca,.int .i64 Na,.slice Ra na ka,.int .i64 Pb,.int .i64 Mb,.slice Ab mlb.length cb,.int .i64 Nb,.slice Rb nb kb,.int .i64 Pz,.int .i64 Mz,.slice Az mlz.length cz,.int .i64 Nz,.slice Rz nz kz] 27)):=(Below.refl _ _).alloc (Nat.le_refl _) _;have hB1:=hB.trans (hb1.mono hB.size);have hF:=few3_any Pa Ma Na mla na rowsa Aa Ra ca ka Pb Mb Nb mlb nb rowsb Ab Rb cb kb Pz Mz Nz mlz nz rowsz Az Rz cz kz (s+1+1+1) _ ((hma.below hB1).more hB1.size) ((hmb.below hB1).more hB1.size) ((hmz.below hB1).more hB1.size) ⟨hna,hLa⟩ ⟨hnb,hLb⟩ ⟨hnz,hLz⟩ (by rw[World.size_alloc]; omega) (by rw[←hZe]; simp[go_sem]) (by rw[←hZe]; simp[go_sem]) (by rw[←hZe]; simp[go_sem]);replace fa:=Lib.hid fa;replace fb:=Lib.hid fb;replace fz:=Lib.hid fz;by_cases hf:fewAll3 na rowsa nb rowsb nz rowsz=true;rotate_left
 ·rw[show fewAll3 na rowsa nb rowsb nz rowsz=false from by simpa using hf]at hF;replace hF:=Lib.hid hF;replace hZe:=Lib.hid hZe;replace hZ:=Lib.hid hZ;replace hf:=Lib.hid hf;clear hLa hLb hLz;unfold LawEnd;go_enter Tryz.func4,Tryz.ntmps4;go_wp2_with (fail);rw[←hZ.out];simp only[←hs];replace hs:=Lib.hid hs;(with_reducible refine hF.out.mono ?_);rintro e w1 ⟨rfl,hb2⟩;go_wp2_with (fail);go_ret;exact⟨rfl,hB1.trans (hb2.mono hB1.size)⟩
 rw[hf]at hF;replace hF:=Lib.hid hF;obtain⟨⟨hfa,hfb⟩,hfz⟩:(fewC na rowsa=true∧fewC nb rowsb=true)∧fewC nz rowsz=true:=by unfold fewAll3 at hf; simpa using hf
 obtain⟨hna2,hka⟩:=fewC_le hfa;obtain⟨hnb2,hkb⟩:=fewC_le hfb;obtain⟨hnz2,hkz⟩:=fewC_le hfz;replace hZe:=Lib.hid hZe;replace hZ:=Lib.hid hZ;replace hf:=Lib.hid hf;replace hfa:=Lib.hid hfa;replace hfb:=Lib.hid hfb;replace hfz:=Lib.hid hfz;clear hLa hLb hLz;obtain⟨V,V2,V3,⟨hV1,hV6⟩,⟨hW1,hW6⟩,⟨hX1,hX6⟩,hD,hD2,hD3,hpack⟩:=tails_pack Pa Ma Na mla na rowsa Aa Ra ca ka Pb Mb Nb mlb nb rowsb Ab Rb cb kb Pz Mz Nz mlz nz rowsz Az Rz cz kz msg Am cm (Nat.le_trans hcm hmm) hPa hMa hla hna2 hka hPb hMb hlb hnb2 hkb hPz hMz hlz hnz2 hkz;replace hD:=fun W h=>Lib.hid (hD W h)
 replace hD2:=fun W h=>Lib.hid (hD2 W h)
 replace hD3:=fun W h=>Lib.hid (hD3 W h)
 replace hpack:=fun a b c=>Lib.hid (hpack a b c)
 have hvs:IntKind.i64.wrap (V+V3)=V+V3:=IntWalk.i64_in _ (by omega);clear hka hkb hkz;unfold LawEnd;go_enter Tryz.func4,Tryz.ntmps4;go_wp2_with (fail);rw[←hZ.out];simp only[←hs];replace hs:=Lib.hid hs;(with_reducible refine hF.out.mono ?_);rintro e w1 ⟨rfl,hb2⟩;have hbz:=hb1.trans (hb2.mono hb1.size);have hBw:=hB.trans (hbz.mono hB.size);have hsz:s+1+1<w1.heap.size:=by have:=hbz.size; have:=hZe.out; omega
 have fa1:=Lib.hid (fa.out.keep hbz (by have:=hZe.out; omega));have fb1:=Lib.hid (fb.out.keep hbz (by have:=hZe.out; omega));have fz1:=Lib.hid (fz.out.keep hbz (by have:=hZe.out; omega));clear hF hb2 hb1 hB1 hbz fa fb fz;go_wp2_with (fail);go_cut [9,10,11] from 27 (fun va vb vc wx=>va=.int .i64 V∧vb=.int .i64 V2∧vc=.int .i64 V3∧Below w1.heap.size w1 wx)
 case first =>
  have hBd:=hBw.drew;have hBr:Below w1.heap.size w1 w1.drew:=(Below.refl _ _).drew;have hsd:s+1+1<w1.drew.heap.size:=hsz;have fad:=Lib.hid (fa1.out.keep hBr (by omega));have fbd:=Lib.hid (fb1.out.keep hBr (by omega));have fzd:=Lib.hid (fz1.out.keep hBr hsz);have hcc:=Lib.hid (cells_three fad.out fbd.out fzd.out);refine wp_region_held_drew (S:=fun w'=>(w'.cell? ⟨s,0,none⟩=some (.int .i64 Pa)∧w'.cell? ⟨s,1,none⟩=some (.int .i64 Ma)∧w'.cell? ⟨s,2,none⟩=some (.slice Aa mla.length ca)∧w'.cell? ⟨s,3,none⟩=some (.int .i64 Na)∧w'.cell? ⟨s,4,none⟩=some (.slice Ra na ka))∧(w'.cell? ⟨s+1,0,none⟩=some (.int .i64 Pb)∧w'.cell? ⟨s+1,1,none⟩=some (.int .i64 Mb)∧w'.cell? ⟨s+1,2,none⟩=some (.slice Ab mlb.length cb)∧w'.cell? ⟨s+1,3,none⟩=some (.int .i64 Nb)∧w'.cell? ⟨s+1,4,none⟩=some (.slice Rb nb kb))∧w'.cell? ⟨s+1+1,0,none⟩=some (.int .i64 Pz)∧w'.cell? ⟨s+1+1,1,none⟩=some (.int .i64 Mz)∧w'.cell? ⟨s+1+1,2,none⟩=some (.slice Az mlz.length cz)∧w'.cell? ⟨s+1+1,3,none⟩=some (.int .i64 Nz)∧w'.cell? ⟨s+1+1,4,none⟩=some (.slice Rz nz kz)) (by kernel_rfl) (by (try dsimp only); exact hcc.out) (fun hHeld=>?_);refine tk 0 ?_; try simp only[pS]
  refine tk 2 ?_; try simp only[pS]
  refine tk 4 ?_; try simp only[pS]
  refine rd 1 fun K hK=>?_
  go_simp;go_at_call 12;(with_reducible refine ((hD _ (pre1_below hra hma hBd))).out.mono ?_);rintro e wa ⟨rfl,hbA⟩;replace fad:=Lib.hid (fad.out.keep hbA (by have:=hsd; omega));replace fbd:=Lib.hid (fbd.out.keep hbA (by have:=hsd; omega));replace fzd:=Lib.hid (fzd.out.keep hbA hsd);replace hsd:=Nat.lt_of_lt_of_le hsd hbA.size;replace hBd:=hBd.trans (hbA.mono hBd.size);replace hBr:=hBr.trans (hbA.mono hBr.size);clear hbA;replace hcc:=Lib.hid (cells_three fad.out fbd.out fzd.out);go_wp2_with (fail);refine hK.out _ _ (by (try dsimp only); exact hcc.out) (fun hHeld=>?_);clear hK K;try simp only[pS]
  refine rd 3 fun K hK=>?_
  go_simp;go_at_call 12;(with_reducible refine ((hD2 _ (pre1_below hrb hmb hBd))).out.mono ?_);rintro e wa ⟨rfl,hbA⟩;replace fad:=Lib.hid (fad.out.keep hbA (by have:=hsd; omega));replace fbd:=Lib.hid (fbd.out.keep hbA (by have:=hsd; omega));replace fzd:=Lib.hid (fzd.out.keep hbA hsd);replace hsd:=Nat.lt_of_lt_of_le hsd hbA.size;replace hBd:=hBd.trans (hbA.mono hBd.size);replace hBr:=hBr.trans (hbA.mono hBr.size);clear hbA;replace hcc:=Lib.hid (cells_three fad.out fbd.out fzd.out);go_wp2_with (fail);refine hK.out _ _ (by (try dsimp only); exact hcc.out) (fun hHeld=>?_);clear hK K;try simp only[pS]
  refine rd 5 fun K hK=>?_
  go_simp;go_at_call 12;(with_reducible refine ((hD3 _ (pre1_below hrz hmz hBd))).out.mono ?_);rintro e wa ⟨rfl,hbA⟩;replace fad:=Lib.hid (fad.out.keep hbA (by have:=hsd; omega));replace fbd:=Lib.hid (fbd.out.keep hbA (by have:=hsd; omega));replace fzd:=Lib.hid (fzd.out.keep hbA hsd);replace hsd:=Nat.lt_of_lt_of_le hsd hbA.size;replace hBd:=hBd.trans (hbA.mono hBd.size);replace hBr:=hBr.trans (hbA.mono hBr.size);clear hbA;replace hcc:=Lib.hid (cells_three fad.out fbd.out fzd.out);go_wp2_with (fail);refine hK.out _ _ (by (try dsimp only); exact hcc.out) (fun hHeld=>?_);clear hK K;try simp only[pS]
  refine tk 6 ?_; try simp only[pS]
  refine tk 7 ?_; try simp only[pS]
  refine tk 8 ?_; try simp only[pS]
  refine wpAnyH_done (by kernel_rfl) ?_ _;go_wp2_with (fail);go_meet;exact⟨rfl,rfl,rfl,hBr⟩
 case rest =>
  obtain⟨rfl,rfl,rfl,hb⟩:=hcut;obtain⟨w2,rfl⟩:∃ w2:World,w2=wc:=⟨_,rfl⟩;have fa2:=Lib.hid (fa1.out.keep hb (by omega));have fb2:=Lib.hid (fb1.out.keep hb (by omega));have fz2:=Lib.hid (fz1.out.keep hb hsz);replace hBw:=hBw.trans (hb.mono hBw.size);replace hsz:s+1+1<w2.heap.size:=Nat.lt_of_lt_of_le hsz hb.size;clear fa1 fb1 fz1 hD hD2 hD3 hb;by_cases hv:V<1
  ·have hvb:decide (V<1)=true:=decide_eq_true hv;clear hpack;go_wp2_with (fail);go_ret;exact⟨rfl,hBw⟩
  have hvb:decide (V<1)=false:=decide_eq_false hv;by_cases hv2:V2<0
  ·have hv2b:decide (V2<0)=true:=decide_eq_true hv2;clear hpack;go_wp2_with (fail);go_ret;exact⟨rfl,hBw⟩
  have hv2b:decide (V2<0)=false:=decide_eq_false hv2;by_cases hv3:V3<1
  ·have hv3b:decide (V3<1)=true:=decide_eq_true hv3;clear hpack;go_wp2_with (fail);go_ret;exact⟨rfl,hBw⟩
  have hv3b:decide (V3<1)=false:=decide_eq_false hv3;have hpre:∀ W,Below w.heap.size w W→(Pre3 mla na rowsa Aa Ra mlb nb rowsb Ab Rb mlz nz rowsz Az Rz) W:=fun W h=>⟨⟨(hra.below h).more h.size,(hma.below h).more h.size⟩,⟨(hrb.below h).more h.size,(hmb.below h).more h.size⟩,(hrz.below h).more h.size,(hmz.below h).more h.size⟩
  replace hpre:=fun W a=>Lib.hid (hpre W a)
  obtain⟨a0,a1,a2,a3,a4,-⟩:=fa2.out;obtain⟨c0,c1,c2,c3,c4,-⟩:=fb2.out;obtain⟨d0,d1,d2,d3,d4,-⟩:=fz2.out;rcases (hpack (by omega) (by omega) (by omega)).out with ⟨E,hE0,hEr⟩ | ⟨P,Mf,ml,m,mt,NN,rows,lst,lx,lt,wx,wt,ww,hNa,hNz,hNN,hm1,hmt1,hN64,hna64,hls,hlx,hlt,hfr,hbk,hww,hwx,hwt,hz1,hz2,hC,hOf,hHas⟩
  ·have hEb:(E !=0)=true:=by rw[bne_iff_ne]; exact hE0
   have hEe:(E==E)=true:=by simp
   unfold ResErr ResC at hEr;have hq:=Lib.hid (hEr w2 (hpre w2 hBw).out).1;replace hEr:=fun W a=>Lib.hid (hEr W a).2
   replace hE0:=Lib.hid hE0;clear hpack;go_wp2_with (fail);(with_reducible refine hq.out.mono ?_);rintro e w3 ⟨A3,x3,R3,y3,rfl,-,-,-,hb3⟩;obtain⟨Y,hY⟩:∃ Y,Y=w3.alloc (.cells #[.int .i64 0,.int .i64 0,.slice A3 0 x3,.int .i64 0,.slice R3 0 y3] 27):=⟨_,rfl⟩;have hbY:Below w3.heap.size w3 Y:=by rw[hY]; exact (Below.refl _ _).alloc (Nat.le_refl _) _
   have hbc:=hb3.trans (hbY.mono hb3.size);have hBY:=hBw.trans (hbc.mono hBw.size);have fa3:=fa2.out.keep hbc (by omega);have fb3:=fb2.out.keep hbc (by omega);have fz3:=fz2.out.keep hbc hsz;have hq2:=hEr Y (hpre Y hBY).out;clear hq hEr a0 a1 a2 a3 a4 c0 c1 c2 c3 c4 d0 d1 d2 d3 d4 hb3 hbY;obtain⟨a0,a1,a2,a3,a4,-⟩:=fa3;obtain⟨c0,c1,c2,c3,c4,-⟩:=fb3;obtain⟨d0,d1,d2,d3,d4,-⟩:=fz3;rw[hY]at a0 a1 a2 a3 a4 c0 c1 c2 c3 c4 d0 d1 d2 d3 d4;replace hY:=Lib.hid hY;go_wp2_with (fail);rw[show (w3.alloc (.cells #[.int .i64 0,.int .i64 0,.slice A3 0 x3,.int .i64 0,.slice R3 0 y3] 27))=Y from hY.out.symm];(with_reducible refine hq2.out.mono ?_);rintro e w4 ⟨A4,x4,R4,y4,rfl,-,-,-,hb4⟩;clear a0 a1 a2 a3 a4 c0 c1 c2 c3 c4 d0 d1 d2 d3 d4;go_wp2_with (fail);go_ret;exact⟨rfl,(hBY.trans (hb4.mono hBY.size)).alloc (Nat.le_trans hBY.size hb4.size) _⟩
  ·subst hNa hNz;have hE1:((0:Int) !=0)=false:=by decide
   have hsm:IntKind.i64.wrap ((m:Int)+(mt:Int))=(NN:Int):=by rw[hNN]; push_cast; exact IntWalk.i64_in _ (by omega)
   have hs0:((m:Int)+(mt:Int))=(NN:Int):=by rw[hNN]; push_cast; rfl
   replace hs0:=Lib.hid hs0;have hnn1:((NN:Int) !=(NN:Int))=false:=by simp
   have hnn2:(NN !=NN)=false:=by simp
   have hnn3:((na:Int) !=(na:Int))=false:=by simp
   have hnn4:(na !=na)=false:=by simp
   have hWw:=fun A c W a=>Weight14_any lst A c W a (by rw[hls]; omega)
   have hWx:=fun A c W a=>Weight14_any lx A c W a (by rw[hlx]; omega)
   have hWt:=fun A c W a=>Weight14_any lt A c W a (by rw[hlt]; omega)
   rw[hls,hww]at hWw;rw[hlx,hwx]at hWx;rw[hlt,hwt]at hWt;replace hWw:=fun A c W a=>Lib.hid (hWw A c W a)
   replace hWx:=fun A c W a=>Lib.hid (hWx A c W a)
   replace hWt:=fun A c W a=>Lib.hid (hWt A c W a)
   unfold ResC at hC;have hq:=Lib.hid (hC w2 (hpre w2 hBw).out);replace hOf:=fun A c Ar cr W q1 q2 q3=>Lib.hid (hOf A c Ar cr W q1 q2 q3)
   replace hHas:=fun A c W q1 q2 q3=>Lib.hid (hHas A c W q1 q2 q3)
   replace hNN:=Lib.hid hNN;replace hls:=Lib.hid hls;replace hlx:=Lib.hid hlx;replace hlt:=Lib.hid hlt;replace hww:=Lib.hid hww;replace hwx:=Lib.hid hwx;replace hwt:=Lib.hid hwt;clear hpack hC hpre;go_wp2_with (fail);(with_reducible refine hq.out.mono ?_);rintro e w3 ⟨A3,x3,R3,y3,rfl,hr3,-,hu3,hb3⟩;obtain⟨Y,hY⟩:∃ Y,Y=w3.alloc (.cells #[.int .i64 P,.int .i64 Mf,.slice A3 ml.length x3,.int .i64 NN,.slice R3 na y3] 27):=⟨_,rfl⟩;have hbY:Below w3.heap.size w3 Y:=by rw[hY]; exact (Below.refl _ _).alloc (Nat.le_refl _) _
   have hbc:=hb3.trans (hbY.mono hb3.size);have hBY:=hBw.trans (hbc.mono hBw.size);have fY:Five Y w3.heap.size (.int .i64 P) (.int .i64 Mf) (.slice A3 ml.length x3) (.int .i64 NN) (.slice R3 na y3):=by rw[hY]; exact Five.new w3 _ _ _ _ _ 27
   have fa3:=Lib.hid (fa2.out.keep hbc (by omega));have fb3:=Lib.hid (fb2.out.keep hbc (by omega));have fz3:=Lib.hid (fz2.out.keep hbc hsz);have hs3:s+1+1<Y.heap.size:=Nat.lt_of_lt_of_le hsz hbc.size;have hO:=hOf A3 x3 R3 y3 Y ((hr3.below hbY).more hbY.size) ((hu3.rdm.below hbY).more hbY.size) ((hrm.below hBY).more hBY.size);clear hq hOf a0 a1 a2 a3 a4 c0 c1 c2 c3 c4 d0 d1 d2 d3 d4 hb3 hr3 hu3;obtain⟨e0,e1,e2,e3,e4,-⟩:=fY;obtain⟨a0,a1,a2,a3,a4,-⟩:=fa3.out;obtain⟨d0,d1,d2,d3,d4,-⟩:=fz3.out;rw[hY]at e0 e1 e2 e3 e4 a0 a1 a2 a3 a4 d0 d1 d2 d3 d4;replace hY:=Lib.hid hY;go_wp2_with (fail);rw[←hY.out];(with_reducible refine hO.out.mono ?_);rintro e w4 ⟨A4,x4,rfl,hr4,hx41,hx42,hb4⟩;have hB4:=hBY.trans (hb4.mono hBY.size);clear e0 e1 e2 e3 e4 a0 a1 a2 a3 a4 d0 d1 d2 d3 d4 hO;have fa4:=fa3.out.keep hb4 (by omega);have fb4:=Lib.hid (fb3.out.keep hb4 (by omega));have hs4:s+1+1<w4.heap.size:=Nat.lt_of_lt_of_le hs3 hb4.size;obtain⟨bw,ow,rfl,hbw,-⟩:=hr4.at_ (k:=0) (by rw[hls.out,hNN.out]; omega);have hrx:=hr4.front (l2:=lx) (by rw[hls.out,hNN.out]; omega) (by rw[hls.out,hlx.out,hNN.out]; omega) (by rw[hlx.out]; exact hfr);have hrt:=hr4.back (l2:=lt) (m:=m) (by rw[hls.out,hNN.out]; omega) (by rw[hls.out,hlt.out,hNN.out]; omega) (by rw[hlt.out]; exact hbk);have k4:=Lib.hid (show w4.cell? ⟨s,3,none⟩=some (.int .i64 (m:Int)) from fa4.2.2.2.1);have hxm:¬ x4=m:=by have:=hNN.out; omega
   have hml:(m:Int)≤(NN:Int):=by have:=hNN.out; omega
   have hmx:(m:Int)≤(x4:Int):=by have:=hNN.out; omega
   have hm0:(0:Int)≤(m:Int):=by omega
   have hNx:(NN:Int)≤(x4:Int):=by omega
   clear hfr hbk fa4;go_wp2_with (fail);refine wp_region_held_drew (S:=fun w'=>w'.cell? ⟨s,3,none⟩=some (.int .i64 (m:Int))) (by kernel_rfl) (by (try dsimp only); exact k4.out) (fun hHeld=>?_);refine tk 0 ?_; try simp only[pS]
   refine tk 1 ?_; try simp only[pS]
   refine tk 2 ?_; try simp only[pS]
   refine tk 3 ?_; try simp only[pS]
   refine tk 4 ?_; try simp only[pS]
   refine tk 5 ?_; try simp only[pS]
   refine tk 6 ?_; try simp only[pS]
   refine tk 7 ?_; try simp only[pS]
   refine tk 8 ?_; try simp only[pS]
   refine tk 9 ?_; try simp only[pS]
   refine wpAnyH_done (by kernel_rfl) ?_ _;rw[show NN - m=mt from by have:=hNN.out; omega];obtain⟨c0,c1,c2,c3,c4,-⟩:=fb4.out;have hH:=hHas (some ⟨bw,ow,none⟩) x4 w4.drew (((hrb.below hB4).more hB4.size).drew) (((hmb.below hB4).more hB4.size)) hrx.drew;obtain⟨z,hz⟩:∃ z,z=(wt==0):=⟨_,rfl⟩;rw[←hz]at hH;have hzz:(z !=z)=false:=by cases z <;> rfl
   clear hHas;go_wp2_with (fail);(with_reducible refine hH.out.mono ?_);rintro e w5 ⟨rfl,hx5⟩;have hb5:Below w4.heap.size w4 w5:=(Below.refl w4.heap.size w4).drew.trans hx5;have hB5:=hB4.trans (hb5.mono hB4.size);have hWt5:=hWt (some ⟨bw,ow+m,none⟩) (x4 - m) w5 ((hrt.below hb5).more hb5.size);have hWx5:=hWx (some ⟨bw,ow,none⟩) x4 w5 ((hrx.below hb5).more hb5.size);have hWw5:=hWw (some ⟨bw,ow,none⟩) x4 w5 ((hr4.below hb5).more hb5.size);clear c0 c1 c2 c3 c4 hH hWt hWx hWw;by_cases hw0:wt=0
   ·have hw1:(wt==0)=true:=by rw[hw0]; rfl
    obtain rfl:z=true:=hz.trans hw1;replace hz:=Lib.hid hz;have hor:=hz1 hw0;clear hz1 hz2;go_wp2_with (fail);(with_reducible refine hWt5.out.mono ?_);rintro e w6 ⟨rfl,rfl⟩;by_cases hx0:wx=0
    ·have hx1:(wx==0)=true:=by rw[hx0]; rfl
     clear hor;go_wp2_with (fail);(with_reducible refine hWx5.out.mono ?_);rintro e w7 ⟨rfl,rfl⟩;go_wp2_with (fail);go_ret;exact⟨rfl,hB5⟩
    ·have hx1:(wx==0)=false:=by rw[beq_eq_false_iff_ne]; exact hx0
     have hle:V2≤ww:=by rcases hor with h | h; exact absurd h hx0; exact h
     clear hor;go_wp2_with (fail);(with_reducible refine hWx5.out.mono ?_);rintro e w7 ⟨rfl,rfl⟩;go_wp2_with (fail);(with_reducible refine hWw5.out.mono ?_);rintro e w8 ⟨rfl,rfl⟩;go_wp2_with (fail);go_ret;exact⟨rfl,hB5⟩
   ·have hw1:(wt==0)=false:=by rw[beq_eq_false_iff_ne]; exact hw0
    obtain rfl:z=false:=hz.trans hw1;replace hz:=Lib.hid hz;have hle:=hz2 hw0;clear hz1 hz2;go_wp2_with (fail);(with_reducible refine hWt5.out.mono ?_);rintro e w6 ⟨rfl,rfl⟩;go_wp2_with (fail);(with_reducible refine hWw5.out.mono ?_);rintro e w7 ⟨rfl,rfl⟩;go_wp2_with (fail);go_ret;exact⟨rfl,hB5⟩
end Go.Proofs.YtogfekjbpcfgmaaGreat

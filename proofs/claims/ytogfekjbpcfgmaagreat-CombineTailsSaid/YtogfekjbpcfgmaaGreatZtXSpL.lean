/- The program's space.Inside, code.two, code.Inside of two valid codes of one length. The program's code.two, code.Inside, code.Pivots of valid codes. -/
import Derived.Test.YtogfekjbpcfgmaaGreatZtXSpJ
import Derived.Test.YtogfekjbpcfgmaaGreatZtXEncP
import Derived.Test.YtogfekjbpcfgmaaGreatZtXTk
set_option linter.unusedVariables false
set_option linter.unusedSimpArgs false
namespace Go.Proofs.YtogfekjbpcfgmaaGreat
section
open Go.RowKit Cw
attribute [local go_sem] Oper.semAt_some

theorem canl_RRp {F:FD} {n m:Nat} {M:Nat→Nat→R F.toDesc} (h:Canl F n m M):RR m n (pvF (elS n M m).2) M:=by
 have h1:=elS_RR n m M;have hk:(elS n M m).2.length=n:=h.1;rw[hk]at h1;exact RR.congr h1 fun i hi j hj=>rowL_inj (D:=F.toDesc) (h.2 i hi) hj
theorem natL_lst (l:List Nat):natL l=lst l.length (fun i=>(pvF l i:Int)):=by
 unfold natL lst pvF;refine List.ext_getElem (by simp) fun i h1 h2=>?_
 have h3:i<l.length:=by simpa using h1
 simp[h3]
theorem slCtI_two (F F1:FD)(h:F1.toDesc=F.toDesc)(k n m:Nat)(M B:Nat→Nat→R F.toDesc)(p:Nat→Nat)(hRR:RR m n p M)(g cr cp cb vb:Nat)(Ar Ap Rb:Option Addr)(w:World)(hg:GF w w.heap.size g F1)(hrm:RdM w w.heap.size Ar n (rowsL F.toDesc m M))(hrp:Rd w w.heap.size Ap (lst n fun i=>(p i:Int)))(hrb:RdM w w.heap.size Rb k (rowsL F.toDesc m B))(hm1:1≤m)(hm:m≤256)(hn:n≤256)(hk:k≤1000)
  (hv:Four w vb (.pointer (some ⟨g,0,none⟩)) (.int .i64 m) (.slice Ar n cr) (.slice Ap n cp)) (hvb:vb<w.heap.size) :
  Calls Tryz.prog 144 #[.slice Rb k cb,.func (.func 145) #[] #[.pointer (some ⟨vb,0,none⟩)]] w fun e w'=>e=.returned (.bool (!inAll k n m M B))∧Below w.heap.size w w':=by
 obtain⟨D0,g0,a0,b0,c0⟩:=F;obtain⟨D1,g1,a1,b1,d1⟩:=F1;dsimp only at h;subst h;exact slCtI_any ⟨D1,g1,a1,b1,d1⟩ k n m M B p hRR g cr cp cb vb Ar Ap Rb w hg hrm hrp hrb hm1 hm hn hk hv hvb

set_option maxRecDepth 100000 in
set_option maxHeartbeats 4000000 in
theorem spInside_ok (F:FD)(hgood:Good F.p F.m (modL F.toDesc))(n1 n2 m:Nat)(M1 M2:Nat→Nat→R F.toDesc)(A R1 R2:Option Addr)(c k1 k2:Nat)(w:World)(hr:Rd w w.heap.size A (modL F.toDesc))(hma:RdM w w.heap.size R1 n1 (rowsL F.toDesc m M1))(hmb:RdM w w.heap.size R2 n2 (rowsL F.toDesc m M2))(hn1:n1≤256)(hn2:n2≤256)(hm1:1≤m)(hm:m≤256)(hc1:Canl F n1 m M1)(hc2:Canl F n2 m M2) :
  Calls Tryz.prog 84 #[.agg #[.int .i64 F.p,.int .i64 F.m,.slice A F.mod.length c],.agg #[.int .i64 m,.slice R1 n1 k1],.agg #[.int .i64 m,.slice R2 n2 k2]] w fun e w'=>e=.returned (.tuple #[.bool (inAll n1 n2 m M2 M1),.int .i64 0])∧Below w.heap.size w w':=by
 have hmf:∀ (fn:Fn) (first cap:Array Value) (w:World),(Instr.makeFunc fn first cap).run Tryz.prog w=.ok (.func fn first cap) w:=fun _ _ _ _=>rfl
 have hP:=fun W a b d=>spPair_ok F hgood n1 n2 m M1 M2 A R1 R2 c k1 k2 W a b d hn1 hn2 hm1 hm hc1 hc2
 unfold PairPost at hP;replace hP:=fun W a b d=>Lib.hid (hP W a b d)
 have hpl:natL (elS n2 M2 m).2=lst n2 (fun i=>(pvF (elS n2 M2 m).2 i:Int)):=by
  have:=natL_lst (elS n2 M2 m).2
  rwa [show (elS n2 M2 m).2.length=n2 from hc2.1]at this
 have hC:=fun F1 h g cp vb Ap W a b d e f1 f2=>Lib.hid (slCtI_two F F1 h n1 n2 m M2 M1 _ (canl_RRp hc2) g k2 cp k1 vb R2 Ap R1 W a b d e hm1 hm hn2 (by omega) f1 f2)
 obtain⟨z,hz⟩:∃ z,z=inAll n1 n2 m M2 M1:=⟨_,rfl⟩;rw[←hz]at hC ⊢;obtain⟨Z,hZ⟩:∃ Z,Z=((w.alloc (.cells #[.int .i64 F.p,.int .i64 F.m,.slice A F.mod.length c] 24)).alloc (.cells #[.int .i64 m,.slice R1 n1 k1] 120)).alloc (.cells #[.int .i64 m,.slice R2 n2 k2] 120):=⟨_,rfl⟩;have hB:Below w.heap.size w Z:=by rw[hZ]; exact (((Below.refl _ _).alloc (Nat.le_refl _) _).alloc (by simp) _).alloc (by simp; omega) _
 obtain⟨s,hs⟩:∃ s,s=w.heap.size:=⟨_,rfl⟩;have hZs:Z.heap.size=s+1+1+1:=by rw[hZ,hs]; simp
 have kz:Z.cell? ⟨s+1,1,none⟩=some (.slice R1 n1 k1):=by rw[hZ,hs]; simp[go_sem]
 have hq1:=hP Z ((hr.below hB).more hB.size) ((hma.below hB).more hB.size) ((hmb.below hB).more hB.size);replace hZ:=Lib.hid hZ;replace hz:=Lib.hid hz;clear hP;go_enter Tryz.func84,Tryz.ntmps84;go_wp2_with (fail);rw[←hZ.out];simp only[←hs];have hsw:w.heap.size≤s:=Nat.le_of_eq hs.symm;replace hs:=Lib.hid hs;(with_reducible refine hq1.out.mono ?_);rintro e w1 ⟨g1,P1,q1,x1,g2,F2,P2,q2,x2,hF2,rfl,hg2,hown2,hb1⟩;have hB1:=hB.trans (hb1.mono hB.size);rw[hpl]at hown2;obtain⟨Ap,cp,he,-,hrp,-⟩:=hown2.form;rw[lst_length]at he
 injection he with e1 e2 e3
 replace e2:=e2.symm;subst e1 e2 e3;obtain⟨Y,hY⟩:∃ Y,Y=(w1.alloc (.cells #[.pointer (some ⟨g1,0,none⟩),.int .i64 m,.slice R1 n1 k1,.slice P1 q1 x1] 170)).alloc (.cells #[.pointer (some ⟨g2,0,none⟩),.int .i64 m,.slice R2 n2 k2,.slice P2 n2 x2] 170):=⟨_,rfl⟩;have hbY:Below w1.heap.size w1 Y:=by rw[hY]; exact ((Below.refl _ _).alloc (Nat.le_refl _) _).alloc (by simp) _
 have hBY:=hB1.trans (hbY.mono hB1.size);have f4:Four Y (w1.heap.size+1) (.pointer (some ⟨g2,0,none⟩)) (.int .i64 m) (.slice R2 n2 k2) (.slice P2 n2 x2):=by rw[hY]; unfold Four; simp[go_sem]
 have hYs:w1.heap.size+1<Y.heap.size:=by rw[hY]; simp
 have hC1:=hC F2 hF2 g2 x2 (w1.heap.size+1) P2 Y ((hg2.below hbY).more hbY.size) ((hmb.below hBY).more hBY.size) ((hrp.below hbY).more hbY.size) ((hma.below hBY).more hBY.size) f4 hYs;have kq1:=(hbY.cell (p:=⟨s+1,1,none⟩) (show s+1<w1.heap.size by have:=hb1.size; omega)).trans ((hb1.cell (p:=⟨s+1,1,none⟩) (show s+1<Z.heap.size by omega)).trans kz);rw[hY]at kq1;replace hY:=Lib.hid hY;clear hC hq1 f4 hown2 hpl;go_wp2_with (fail);rw[←hY.out];(with_reducible refine hC1.out.mono ?_);rintro e w2 ⟨rfl,hb2⟩;go_wp2_with (fail);go_ret2;exact⟨rfl,hBY.trans (hb2.mono hBY.size)⟩
end
section
open Go.RowKit Cw
attribute [local go_sem] Oper.semAt_some

theorem five_two {W:World} {x y:Nat} {u0 u1 u2 u3 u4 v0 v1 v2 v3 v4:Value} (fa:Five W x u0 u1 u2 u3 u4)(fb:Five W y v0 v1 v2 v3 v4):W.cell? ⟨x,0,none⟩=some u0∧W.cell? ⟨x,1,none⟩=some u1∧W.cell? ⟨x,2,none⟩=some u2∧W.cell? ⟨x,3,none⟩=some u3∧W.cell? ⟨x,4,none⟩=some u4∧W.cell? ⟨y,0,none⟩=some v0∧W.cell? ⟨y,1,none⟩=some v1∧W.cell? ⟨y,2,none⟩=some v2∧W.cell? ⟨y,3,none⟩=some v3∧W.cell? ⟨y,4,none⟩=some v4:=by
 obtain⟨a0,a1,a2,a3,a4,-⟩:=fa;obtain⟨c0,c1,c2,c3,c4,-⟩:=fb;exact⟨a0,a1,a2,a3,a4,c0,c1,c2,c3,c4⟩
theorem enter2 (Pa Ma Na:Int)(mla:List Int)(na:Nat)(rowsa:Nat→List Int)(Aa Ra:Option Addr)(ca ka:Nat)(Pb Mb Nb:Int)(mlb:List Int)(nb:Nat)(rowsb:Nat→List Int)(Ab Rb:Option Addr)(cb kb:Nat)(w:World){Z:World} (hZ:Z=(w.alloc (.cells #[.int .i64 Pa,.int .i64 Ma,.slice Aa mla.length ca,.int .i64 Na,.slice Ra na ka] 27)).alloc (.cells #[.int .i64 Pb,.int .i64 Mb,.slice Ab mlb.length cb,.int .i64 Nb,.slice Rb nb kb] 27)){s:Nat} (hs:s=w.heap.size):Z.heap.size=s+1+1∧Five Z s (.int .i64 Pa) (.int .i64 Ma) (.slice Aa mla.length ca) (.int .i64 Na) (.slice Ra na ka)∧Five Z (s+1) (.int .i64 Pb) (.int .i64 Mb) (.slice Ab mlb.length cb) (.int .i64 Nb) (.slice Rb nb kb):=by
 subst hs;have k1:=Five.new w (.int .i64 Pa) (.int .i64 Ma) (.slice Aa mla.length ca) (.int .i64 Na) (.slice Ra na ka) 27;have k2:=Five.new (w.alloc (.cells #[.int .i64 Pa,.int .i64 Ma,.slice Aa mla.length ca,.int .i64 Na,.slice Ra na ka] 27)) (.int .i64 Pb) (.int .i64 Mb) (.slice Ab mlb.length cb) (.int .i64 Nb) (.slice Rb nb kb) 27;rw[World.size_alloc]at k2;rw[hZ];exact⟨by simp,k1.keep ((Below.refl _ _).alloc (Nat.le_refl _) _) (by simp),k2⟩
theorem vc_eqF {Pa Ma Na:Int} {mla:List Int} {na:Nat} {rowsa:Nat→List Int} {Pb Mb Nb:Int} {mlb:List Int} {nb:Nat} {rowsb:Nat→List Int} {F:FD} {m1 m2:Nat} {A B:Nat→Nat→R F.toDesc} (va:VC Pa Ma Na mla na rowsa F m1 A)(vb:VC Pb Mb Nb mlb nb rowsb F m2 B):eqF Pa Ma mla Pb Mb mlb=true:=eqF_iff.2 ⟨va.hP.trans vb.hP.symm,va.hM.trans vb.hM.symm,va.hl.trans vb.hl.symm⟩
set_option maxRecDepth 100000 in
set_option maxHeartbeats 4000000 in
theorem cTwo_ok (Pa Ma Na:Int)(mla:List Int)(na:Nat)(rowsa:Nat→List Int)(Aa Ra:Option Addr)(ca ka:Nat)(Pb Mb Nb:Int)(mlb:List Int)(nb:Nat)(rowsb:Nat→List Int)(Ab Rb:Option Addr)(cb kb:Nat)(F:FD)(m:Nat)(M1 M2:Nat→Nat→R F.toDesc)(va:VC Pa Ma Na mla na rowsa F m M1)(vb:VC Pb Mb Nb mlb nb rowsb F m M2)(w:World)(hra:Rd w w.heap.size Aa mla)(hma:RdM w w.heap.size Ra na rowsa)(hrb:Rd w w.heap.size Ab mlb)(hmb:RdM w w.heap.size Rb nb rowsb) :
  Calls Tryz.prog 83 #[.agg #[.int .i64 Pa,.int .i64 Ma,.slice Aa mla.length ca,.int .i64 Na,.slice Ra na ka],.agg #[.int .i64 Pb,.int .i64 Mb,.slice Ab mlb.length cb,.int .i64 Nb,.slice Rb nb kb]] w fun e w'=>e=.returned (.int .i64 0)∧Below w.heap.size w w':=by
 obtain⟨qa1,qa2,qa3,qa4,qa5⟩:=vc_bounds va;obtain⟨qb1,qb2,qb3,qb4,qb5⟩:=vc_bounds vb;have hCa:=fun W a b=>cCheck_any Pa Ma Na mla na rowsa Aa Ra ca ka W qa1 qa2 qa3 qa4 qa5 a b
 have hCb:=fun W a b=>cCheck_any Pb Mb Nb mlb nb rowsb Ab Rb cb kb W qb1 qb2 qb3 qb4 qb5 a b
 have hS:=fun W a b=>fSame_any Pa Ma Pb Mb mla mlb Aa Ab ca cb W a b qa3
 rw[vc_err va]at hCa;rw[vc_err vb]at hCb;rw[vc_eqF va vb]at hS;have hN1:(Na !=Nb)=false:=by rw[va.hN,vb.hN]; simp
 replace hCa:=fun W a b=>Lib.hid (hCa W a b)
 replace hCb:=fun W a b=>Lib.hid (hCb W a b)
 replace hS:=fun W a b=>Lib.hid (hS W a b)
 clear qa1 qa2 qa3 qa4 qa5 qb1 qb2 qb3 qb4 qb5 va vb;obtain⟨Z,hZ⟩:∃ Z,Z=(w.alloc (.cells #[.int .i64 Pa,.int .i64 Ma,.slice Aa mla.length ca,.int .i64 Na,.slice Ra na ka] 27)).alloc (.cells #[.int .i64 Pb,.int .i64 Mb,.slice Ab mlb.length cb,.int .i64 Nb,.slice Rb nb kb] 27):=⟨_,rfl⟩;have hB:Below w.heap.size w Z:=by rw[hZ]; exact ((Below.refl _ _).alloc (Nat.le_refl _) _).alloc (by simp) _
 obtain⟨s,hs⟩:∃ s,s=w.heap.size:=⟨_,rfl⟩;obtain⟨hZe,fa,fb⟩:=enter2 Pa Ma Na mla na rowsa Aa Ra ca ka Pb Mb Nb mlb nb rowsb Ab Rb cb kb w hZ hs;have hq1:=hCa Z ((hra.below hB).more hB.size) ((hma.below hB).more hB.size);replace fa:=Lib.hid fa;replace fb:=Lib.hid fb;replace hZ:=Lib.hid hZ;replace hZe:=Lib.hid hZe;go_enter Tryz.func83,Tryz.ntmps83;go_wp2_with (fail);rw[←hZ.out];simp only[←hs];replace hs:=Lib.hid hs;(with_reducible refine hq1.out.mono ?_);rintro e w1 ⟨rfl,hb1⟩;have hB1:=hB.trans (hb1.mono hB.size);have hs1:s+1<w1.heap.size:=by have:=hZe.out; have:=hb1.size; omega
 have fa1:=Lib.hid (fa.out.keep hb1 (by have:=hZe.out; omega));have fb1:=Lib.hid (fb.out.keep hb1 (by have:=hZe.out; omega));obtain⟨c0,c1,c2,c3,c4,-⟩:=fb1.out;have hq2:=hCb w1 ((hrb.below hB1).more hB1.size) ((hmb.below hB1).more hB1.size);clear hq1 hCa hCb;go_wp2_with (fail);(with_reducible refine hq2.out.mono ?_);rintro e w2 ⟨rfl,hb2⟩;have hB2:=hB1.trans (hb2.mono hB1.size);clear c0 c1 c2 c3 c4;have fa2:=Lib.hid (fa1.out.keep hb2 (by omega));have fb2:=Lib.hid (fb1.out.keep hb2 hs1);have hs2:s+1<w2.heap.size:=Nat.lt_of_lt_of_le hs1 hb2.size;obtain⟨a0,a1,a2,a3,a4,-⟩:=fa2.out;obtain⟨c0,c1,c2,c3,c4,-⟩:=fb2.out;have hq3:=hS w2 ((hra.below hB2).more hB2.size) ((hrb.below hB2).more hB2.size);clear hq2 hS;go_wp2_with (fail);(with_reducible refine hq3.out.mono ?_);rintro e w3 ⟨rfl,hb3⟩;have hB3:=hB2.trans (hb3.mono hB2.size);clear a0 a1 a2 a3 a4 c0 c1 c2 c3 c4;obtain⟨a0,a1,a2,a3,a4,-⟩:=fa2.out.keep hb3 (by omega);obtain⟨c0,c1,c2,c3,c4,-⟩:=fb2.out.keep hb3 hs2;go_wp2_with (fail);go_ret;exact⟨rfl,hB3⟩
set_option maxRecDepth 100000 in
set_option maxHeartbeats 4000000 in
theorem cInside_ok (Pa Ma Na:Int)(mla:List Int)(na:Nat)(rowsa:Nat→List Int)(Aa Ra:Option Addr)(ca ka:Nat)(Pb Mb Nb:Int)(mlb:List Int)(nb:Nat)(rowsb:Nat→List Int)(Ab Rb:Option Addr)(cb kb:Nat)(F:FD)(m:Nat)(M1 M2:Nat→Nat→R F.toDesc)(va:VC Pa Ma Na mla na rowsa F m M1)(vb:VC Pb Mb Nb mlb nb rowsb F m M2)(w:World)(hra:Rd w w.heap.size Aa mla)(hma:RdM w w.heap.size Ra na rowsa)(hrb:Rd w w.heap.size Ab mlb)(hmb:RdM w w.heap.size Rb nb rowsb) :
  Calls Tryz.prog 29 #[.agg #[.int .i64 Pa,.int .i64 Ma,.slice Aa mla.length ca,.int .i64 Na,.slice Ra na ka],.agg #[.int .i64 Pb,.int .i64 Mb,.slice Ab mlb.length cb,.int .i64 Nb,.slice Rb nb kb]] w fun e w'=>e=.returned (.tuple #[.bool (inAll na nb m M2 M1),.int .i64 0])∧Below w.heap.size w w':=by
 have hT:=fun W a b d e=>Lib.hid (cTwo_ok Pa Ma Na mla na rowsa Aa Ra ca ka Pb Mb Nb mlb nb rowsb Ab Rb cb kb F m M1 M2 va vb W a b d e)
 have hGa:=fun W=>Lib.hid (cGen_any Pa Ma Na mla na rowsa Aa Ra ca ka W)
 have hGb:=fun W=>Lib.hid (cGen_any Pb Mb Nb mlb nb rowsb Ab Rb cb kb W)
 have hIn:∀ W,Below w.heap.size w W→Hid (Calls Tryz.prog 84 #[.agg #[.int .i64 Pa,.int .i64 Ma,.slice Aa mla.length ca],.agg #[.int .i64 Na,.slice Ra na ka],.agg #[.int .i64 Nb,.slice Rb nb kb]] W fun e w'=>e=.returned (.tuple #[.bool (inAll na nb m M2 M1),.int .i64 0])∧Below W.heap.size W w'):=fun W h=>by
  have h1:=va.le; have h2:=vb.le; have h3:=va.m1; have h4:=va.m64;have r1:=(hra.below h).more h.size;have r2:=va.rdm ((hma.below h).more h.size);have r3:=vb.rdm ((hmb.below h).more h.size);rw[va.hl]at r1;rw[va.hP,va.hM,va.hl,va.hN,vb.hN,modL_length];exact spInside_ok F va.good na nb m M1 M2 Aa Ra Rb ca ka kb W r1 r2 r3 (by omega) (by omega) h3 (by omega) va.can vb.can
 obtain⟨z,hz⟩:∃ z,z=inAll na nb m M2 M1:=⟨_,rfl⟩;rw[←hz]at hIn ⊢;replace hz:=Lib.hid hz;clear va vb;obtain⟨Z,hZ⟩:∃ Z,Z=(w.alloc (.cells #[.int .i64 Pa,.int .i64 Ma,.slice Aa mla.length ca,.int .i64 Na,.slice Ra na ka] 27)).alloc (.cells #[.int .i64 Pb,.int .i64 Mb,.slice Ab mlb.length cb,.int .i64 Nb,.slice Rb nb kb] 27):=⟨_,rfl⟩;have hB:Below w.heap.size w Z:=by rw[hZ]; exact ((Below.refl _ _).alloc (Nat.le_refl _) _).alloc (by simp) _
 obtain⟨s,hs⟩:∃ s,s=w.heap.size:=⟨_,rfl⟩;obtain⟨hZe,fa,fb⟩:=enter2 Pa Ma Na mla na rowsa Aa Ra ca ka Pb Mb Nb mlb nb rowsb Ab Rb cb kb w hZ hs;have hq1:=hT Z ((hra.below hB).more hB.size) ((hma.below hB).more hB.size) ((hrb.below hB).more hB.size) ((hmb.below hB).more hB.size);replace fa:=Lib.hid fa;replace fb:=Lib.hid fb;replace hZ:=Lib.hid hZ;replace hZe:=Lib.hid hZe;clear hT;go_enter Tryz.func29,Tryz.ntmps29;go_wp2_with (fail);rw[←hZ.out];simp only[←hs];replace hs:=Lib.hid hs;(with_reducible refine hq1.out.mono ?_);rintro e w1 ⟨rfl,hb1⟩;have hB1:=hB.trans (hb1.mono hB.size);have hsz:s+1<w1.heap.size:=by have:=hZe.out; have:=hb1.size; omega
 have fa1:=Lib.hid (fa.out.keep hb1 (by have:=hZe.out; omega));have fb1:=Lib.hid (fb.out.keep hb1 (by have:=hZe.out; omega));have hBd:=hB1.drew;have hBr:Below w1.heap.size w1 w1.drew:=(Below.refl _ _).drew;have hsd:s+1<w1.drew.heap.size:=hsz;have fad:=Lib.hid (fa1.out.keep hBr (by omega));have fbd:=Lib.hid (fb1.out.keep hBr (by omega));have hcc:=Lib.hid (five_two fad.out fbd.out);clear hq1;go_wp2_with (fail);refine wp_region_held_drew (S:=fun w'=>w'.cell? ⟨s,0,none⟩=some (.int .i64 Pa)∧w'.cell? ⟨s,1,none⟩=some (.int .i64 Ma)∧w'.cell? ⟨s,2,none⟩=some (.slice Aa mla.length ca)∧w'.cell? ⟨s,3,none⟩=some (.int .i64 Na)∧w'.cell? ⟨s,4,none⟩=some (.slice Ra na ka)∧w'.cell? ⟨s+1,0,none⟩=some (.int .i64 Pb)∧w'.cell? ⟨s+1,1,none⟩=some (.int .i64 Mb)∧w'.cell? ⟨s+1,2,none⟩=some (.slice Ab mlb.length cb)∧w'.cell? ⟨s+1,3,none⟩=some (.int .i64 Nb)∧w'.cell? ⟨s+1,4,none⟩=some (.slice Rb nb kb)) (by kernel_rfl) (by (try dsimp only); exact hcc.out) (fun hHeld=>?_);refine tk 0 ?_; try simp only[pS]
 refine tk 1 ?_; try simp only[pS]
 refine tk 2 ?_; try simp only[pS]
 refine tk 4 ?_; try simp only[pS]
 refine rd 3 fun K hK=>?_
 go_simp;go_at_call 85;(with_reducible refine ((hGa _)).out.mono ?_);rintro e wa ⟨rfl,hbA⟩;replace fad:=Lib.hid (fad.out.keep hbA (by have:=hsd; omega));replace fbd:=Lib.hid (fbd.out.keep hbA (by have:=hsd; omega));replace hsd:=Nat.lt_of_lt_of_le hsd hbA.size;replace hBd:=hBd.trans (hbA.mono hBd.size);clear hbA;replace hcc:=Lib.hid (five_two fad.out fbd.out);go_wp2_with (fail);refine hK.out _ _ (by (try dsimp only); exact hcc.out) (fun hHeld=>?_);clear hK K;try simp only[pS]
 refine rd 5 fun K hK=>?_
 go_simp;go_at_call 85;(with_reducible refine ((hGb _)).out.mono ?_);rintro e wb ⟨rfl,hbA⟩;replace fad:=Lib.hid (fad.out.keep hbA (by have:=hsd; omega));replace fbd:=Lib.hid (fbd.out.keep hbA (by have:=hsd; omega));replace hsd:=Nat.lt_of_lt_of_le hsd hbA.size;replace hBd:=hBd.trans (hbA.mono hBd.size);clear hbA;replace hcc:=Lib.hid (five_two fad.out fbd.out);go_wp2_with (fail);refine hK.out _ _ (by (try dsimp only); exact hcc.out) (fun hHeld=>?_);clear hK K;try simp only[pS]
 refine rd 6 fun K hK=>?_
 go_simp;go_at_call 84;(with_reducible refine ((hIn _ hBd)).out.mono ?_);rintro e wc ⟨rfl,hbA⟩;replace fad:=Lib.hid (fad.out.keep hbA (by have:=hsd; omega));replace fbd:=Lib.hid (fbd.out.keep hbA (by have:=hsd; omega));replace hsd:=Nat.lt_of_lt_of_le hsd hbA.size;replace hBd:=hBd.trans (hbA.mono hBd.size);clear hbA;replace hcc:=Lib.hid (five_two fad.out fbd.out);go_wp2_with (fail);refine hK.out _ _ (by (try dsimp only); exact hcc.out) (fun hHeld=>?_);clear hK K;try simp only[pS]
 refine tk 7 ?_; try simp only[pS]
 refine tk 8 ?_; try simp only[pS]
 refine tk 9 ?_; try simp only[pS]
 refine tk 10 ?_; try simp only[pS]
 refine wpAnyH_done (by kernel_rfl) ?_ _;go_wp2_with (fail);go_ret2;exact⟨rfl,hBd⟩
end
end Go.Proofs.YtogfekjbpcfgmaaGreat

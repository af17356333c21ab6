/- Goppa descriptions over what is no field; the program's Check. Layer 19: the example of the chapter, and the program's Check. Plain: the weights of words that meet the checks of an alternant code, of a Goppa code. No Go here. Layer 19: the reference's check of any Goppa description; codes of multiples of a Goppa polynomial. Plain: the words of an alternant code are those whose images are codewords of the Reed-Solomon code; its dimension, its weights. No Go here. AlternantDimension: the law's walk. The reference's polynomials: DivMod, Rem. Goppa descriptions that are refused: goppa, GoppaDesigned. The reference's Designed. Plain: tables of images read backwards; the code of the rows of traces; the two descriptions of a Goppa code. No Go here. -/
import Derived.BigQuiet
import Derived.IntWalk
import Derived.Lib.AppendZerosOnto
import Derived.Test.YtjdoneanohhkmaaGreatZtV10RPol5
import Derived.Test.YtjdoneanohhkmaaGreatZtV10RLA
import Derived.Test.YtjdoneanohhkmaaGreatZtV10RMat
import Derived.Test.YtjdoneanohhkmaaGreatZtV10RMH
import Derived.Test.YtjdoneanohhkmaaGreatZtV10RMatX
import Derived.Test.YtjdoneanohhkmaaGreatZtV10RCodC
import Derived.Test.YtjdoneanohhkmaaGreatZtV10RBxs
import Derived.Test.YtjdoneanohhkmaaGreatZtV10RGrsA
import Derived.Test.YtjdoneanohhkmaaGreatZtV10RGrsF
import Derived.Test.YtjdoneanohhkmaaGreatZtV10RGrsH
import Derived.Test.YtjdoneanohhkmaaGreatZtV10RGaoL
import Derived.Test.YtjdoneanohhkmaaGreatZtV10RGopW
import Derived.Test.YtjdoneanohhkmaaGreatZtV10RKnl
import Derived.Test.YtjdoneanohhkmaaGreatZtV10RAlvP
import Derived.Test.YtjdoneanohhkmaaGreatZtV10RDivW
import Derived.Test.YtjdoneanohhkmaaGreatZtV10RGcdW
import Derived.Test.YtjdoneanohhkmaaGreatZtV10RGopD
import Derived.Test.YtjdoneanohhkmaaGreatZtV10RGopR
import Derived.Test.YtjdoneanohhkmaaGreatZtV10RGrsU
import Derived.Test.YtjdoneanohhkmaaGreatZtV10RMI
set_option linter.unusedVariables false
set_option linter.unusedSimpArgs false
namespace Go.Proofs.YtjdoneanohhkmaaGreat
section
open Go.RowKit Cw
attribute [local go_sem] Oper.semAt_some

set_option maxRecDepth 100000 in
set_option maxHeartbeats 2000000 in
theorem goppa_bad1 (P M:Int)(ml:List Int)(Q N:Int)(nl poly pts:List Int)(A B A1 A2:Option Addr)(c b c1 c2:Nat)(w:World)(hP:I64 P)(hM:I64 M)(hl:ml.length≤maxLen)(hr:Rd w w.heap.size A ml)(hb:¬ Good P M ml) :
  Calls Tryz.prog 89 #[.agg #[.int .i64 P,.int .i64 M,.slice A ml.length c,.int .i64 Q,.int .i64 N,.slice B nl.length b,.slice A1 poly.length c1,.slice A2 pts.length c2]] w fun e w'=>e=.returned (.tuple #[.agg #[.int .i64 0,.int .i64 0,.slice none 0 0,.pointer none,.slice none 0 0,.slice none 0 0,.int .i64 0],.slice none 0 0,.int .i64 1])∧Below w.heap.size w w':=by
 have hCk:=fCheck_any P M ml A c;rw[chk_no hb]at hCk;obtain⟨s,hs⟩:∃ s,s=w.heap.size:=⟨_,rfl⟩;obtain⟨Z,hZ⟩:∃ Z,Z=((w.alloc (.cells #[.int .i64 P,.int .i64 M,.slice A ml.length c,.int .i64 Q,.int .i64 N,.slice B nl.length b,.slice A1 poly.length c1,.slice A2 pts.length c2] 44)).alloc (.cells #[.int .i64 0,.int .i64 0,.slice none 0 0,.pointer none,.slice none 0 0,.slice none 0 0,.int .i64 0] 130)).alloc (.cells #[.int .i64 0,.int .i64 0,.slice none 0 0,.pointer none,.slice none 0 0,.slice none 0 0,.int .i64 0] 130):=⟨_,rfl⟩;have hgp:Hid (GP w s (#[.int .i64 P,.int .i64 M,.slice A ml.length c,.int .i64 Q,.int .i64 N,.slice B nl.length b,.slice A1 poly.length c1,.slice A2 pts.length c2]).toList Z.heap.size Z):=by
  rw[hZ,hs];exact Lib.hid (gp_new w _ _ _)
 have hq:=Lib.hid (hCk Z hP hM hl ((hr.below hgp.out.bw).more hgp.out.wB));replace hZ:=Lib.hid hZ;clear hCk hP hM hl hb;go_enter Tryz.func89,Tryz.ntmps89;obtain⟨a0,a1,a2,a3,a4,a5,a6,a7⟩:=Bxs.c8 hgp.out.G;go_wp2_with (fail);rw[←hZ.out];simp only[←hs];have hsw:w.heap.size≤s:=Nat.le_of_eq hs.symm;replace hs:=Lib.hid hs;go_wp2_with (fail);(with_reducible refine hq.out.mono ?_);rintro e w1 ⟨rfl,hb⟩;clear hq a0 a1 a2 a3 a4 a5 a6 a7;replace hgp:=Lib.hid ((hgp.out.below hb).more hb.size);clear hb;obtain⟨u0,u1,u2,u3,u4,u5,u6⟩:=hgp.out.R.c7;obtain⟨v0,v1,v2,v3,v4,v5,v6⟩:=hgp.out.R.f7;obtain⟨z0,z1,z2,z3,z4,z5,z6⟩:=hgp.out.Z.c7;have hfin:Hid (Below w.heap.size w (stAll w1 (s+1) 0 [.int .i64 0,.int .i64 0,.slice none 0 0,.pointer none,.slice none 0 0,.slice none 0 0,.int .i64 0])):=stAll_below (by omega) _ _ _ hgp.out.bw;go_wp2_with (fail);exact bodyPost_ret (v:=.tuple #[.agg #[.int .i64 0,.int .i64 0,.slice none 0 0,.pointer none,.slice none 0 0,.slice none 0 0,.int .i64 0],.slice none 0 0,.int .i64 1]) (by simp[results,Tryz.results89,go_sem,u0,u1,u2,u3,u4,u5,u6]) rfl ⟨rfl,hfin.out⟩

set_option maxRecDepth 100000 in
set_option maxHeartbeats 2000000 in
theorem goppa_bad2 (S:Desc)(Q N:Int)(nl poly pts:List Int)(A B A1 A2:Option Addr)(c b c1 c2:Nat)(w:World)(hr:Rd w w.heap.size A (modL S))(hS:Good S.p S.m (modL S))(hQ:I64 Q)(hN:I64 N)(hl:nl.length≤maxLen)(hrB:Rd w w.heap.size B nl)(hb:¬ Good Q N nl) :
  Calls Tryz.prog 89 #[.agg #[.int .i64 S.p,.int .i64 S.m,.slice A S.mod.length c,.int .i64 Q,.int .i64 N,.slice B nl.length b,.slice A1 poly.length c1,.slice A2 pts.length c2]] w fun e w'=>e=.returned (.tuple #[.agg #[.int .i64 0,.int .i64 0,.slice none 0 0,.pointer none,.slice none 0 0,.slice none 0 0,.int .i64 0],.slice none 0 0,.int .i64 1])∧Below w.heap.size w w':=by
 have hCk:=fCheck_D S A c;rw[chk_yes hS]at hCk;have hNw:=fun W a=>Lib.hid (New_no Q N nl B b W hQ.2 hN.2 hl a hb)
 obtain⟨s,hs⟩:∃ s,s=w.heap.size:=⟨_,rfl⟩;obtain⟨Z,hZ⟩:∃ Z,Z=((w.alloc (.cells #[.int .i64 S.p,.int .i64 S.m,.slice A S.mod.length c,.int .i64 Q,.int .i64 N,.slice B nl.length b,.slice A1 poly.length c1,.slice A2 pts.length c2] 44)).alloc (.cells #[.int .i64 0,.int .i64 0,.slice none 0 0,.pointer none,.slice none 0 0,.slice none 0 0,.int .i64 0] 130)).alloc (.cells #[.int .i64 0,.int .i64 0,.slice none 0 0,.pointer none,.slice none 0 0,.slice none 0 0,.int .i64 0] 130):=⟨_,rfl⟩;have hgp:Hid (GP w s (#[.int .i64 S.p,.int .i64 S.m,.slice A S.mod.length c,.int .i64 Q,.int .i64 N,.slice B nl.length b,.slice A1 poly.length c1,.slice A2 pts.length c2]).toList Z.heap.size Z):=by
  rw[hZ,hs];exact Lib.hid (gp_new w _ _ _)
 have hq:=Lib.hid (hCk Z ((hr.below hgp.out.bw).more hgp.out.wB));replace hZ:=Lib.hid hZ;clear hCk hQ hN hl hb hS;go_enter Tryz.func89,Tryz.ntmps89;obtain⟨a0,a1,a2,a3,a4,a5,a6,a7⟩:=Bxs.c8 hgp.out.G;go_wp2_with (fail);rw[←hZ.out];simp only[←hs];have hsw:w.heap.size≤s:=Nat.le_of_eq hs.symm;replace hs:=Lib.hid hs;go_wp2_with (fail);(with_reducible refine hq.out.mono ?_);rintro e w1 ⟨rfl,hb⟩;clear hq a0 a1 a2 a3 a4 a5 a6 a7;replace hgp:=Lib.hid ((hgp.out.below hb).more hb.size);clear hb;have hq:=hNw w1 ((hrB.below hgp.out.bw).more hgp.out.wB);obtain⟨a0,a1,a2,a3,a4,a5,a6,a7⟩:=Bxs.c8 hgp.out.G;go_wp2_with (fail);(with_reducible refine hq.out.mono ?_);rintro e w2 ⟨rfl,hb⟩;clear hq a0 a1 a2 a3 a4 a5 a6 a7;replace hgp:=Lib.hid ((hgp.out.below hb).more hb.size);clear hb;obtain⟨u0,u1,u2,u3,u4,u5,u6⟩:=hgp.out.R.c7;obtain⟨v0,v1,v2,v3,v4,v5,v6⟩:=hgp.out.R.f7;obtain⟨z0,z1,z2,z3,z4,z5,z6⟩:=hgp.out.Z.c7;have hfin:Hid (Below w.heap.size w (stAll w2 (s+1) 0 [.int .i64 0,.int .i64 0,.slice none 0 0,.pointer none,.slice none 0 0,.slice none 0 0,.int .i64 0])):=stAll_below (by omega) _ _ _ hgp.out.bw;go_wp2_with (fail);exact bodyPost_ret (v:=.tuple #[.agg #[.int .i64 0,.int .i64 0,.slice none 0 0,.pointer none,.slice none 0 0,.slice none 0 0,.int .i64 0],.slice none 0 0,.int .i64 1]) (by simp[results,Tryz.results89,go_sem,u0,u1,u2,u3,u4,u5,u6]) rfl ⟨rfl,hfin.out⟩

set_option maxRecDepth 100000 in
set_option maxHeartbeats 2000000 in
theorem GopChk_bad1 (P M:Int)(ml:List Int)(Q N:Int)(nl poly pts:List Int)(A B A1 A2:Option Addr)(c b c1 c2:Nat)(w:World)(hP:I64 P)(hM:I64 M)(hl:ml.length≤maxLen)(hr:Rd w w.heap.size A ml)(hb:¬ Good P M ml) :
  Calls Tryz.prog 26 #[.agg #[.int .i64 P,.int .i64 M,.slice A ml.length c,.int .i64 Q,.int .i64 N,.slice B nl.length b,.slice A1 poly.length c1,.slice A2 pts.length c2]] w fun e w'=>e=.returned (.int .i64 1)∧Below w.heap.size w w':=by
 have hCk:=fun W h=>Check_any P M ml A c W hP.2 hM.2 hl h
 rw[chk_no hb]at hCk;obtain⟨s,hs⟩:∃ s,s=w.heap.size:=⟨_,rfl⟩;obtain⟨Z,hZ⟩:∃ Z,Z=w.alloc (.cells #[.int .i64 P,.int .i64 M,.slice A ml.length c,.int .i64 Q,.int .i64 N,.slice B nl.length b,.slice A1 poly.length c1,.slice A2 pts.length c2] 44):=⟨_,rfl⟩;have hB:Below w.heap.size w Z:=by rw[hZ]; exact (Below.refl _ _).alloc (Nat.le_refl _) _
 have hG:Hid (Bxs Z s (#[.int .i64 P,.int .i64 M,.slice A ml.length c,.int .i64 Q,.int .i64 N,.slice B nl.length b,.slice A1 poly.length c1,.slice A2 pts.length c2]).toList):=by rw[hZ,hs]; exact Lib.hid (Bxs.new w _ _)
 have hsZ:s<Z.heap.size:=by rw[hZ,hs]; simp
 have hq:=Lib.hid (hCk Z ((hr.below hB).more hB.size));replace hZ:=Lib.hid hZ;clear hCk hP hM hl hb;go_enter Tryz.func26,Tryz.ntmps26;obtain⟨a0,a1,a2,a3,a4,a5,a6,a7⟩:=Bxs.c8 hG.out;go_wp2_with (fail);rw[←hZ.out];simp only[←hs];have hsw:w.heap.size≤s:=Nat.le_of_eq hs.symm;replace hs:=Lib.hid hs;go_wp2_with (fail);(with_reducible refine hq.out.mono ?_);rintro e w1 ⟨rfl,hb⟩;clear hq a0 a1 a2 a3 a4 a5 a6 a7;replace hB:=hB.trans (hb.mono hB.size);replace hG:=Lib.hid (hG.out.keep hb hsZ);replace hsZ:=Nat.lt_of_lt_of_le hsZ hb.size;clear hb;go_wp2_with (fail);go_ret;exact⟨rfl,hB⟩

set_option maxRecDepth 100000 in
set_option maxHeartbeats 2000000 in
theorem GopChk_bad2 (S:Desc)(Q N:Int)(nl poly pts:List Int)(A B A1 A2:Option Addr)(c b c1 c2:Nat)(w:World)(hr:Rd w w.heap.size A (modL S))(hS:Good S.p S.m (modL S))(hQ:I64 Q)(hN:I64 N)(hl:nl.length≤maxLen)(hrB:Rd w w.heap.size B nl)(hb:¬ Good Q N nl) :
  Calls Tryz.prog 26 #[.agg #[.int .i64 S.p,.int .i64 S.m,.slice A S.mod.length c,.int .i64 Q,.int .i64 N,.slice B nl.length b,.slice A1 poly.length c1,.slice A2 pts.length c2]] w fun e w'=>e=.returned (.int .i64 1)∧Below w.heap.size w w':=by
 have hp1:=S.p256; have hp2:=S.m8;have hmlS:(modL S).length≤maxLen:=by rw[modL_length]; have:=S.hlen; rw[this]; unfold maxLen; split <;> omega
 have hCk:=fun W h=>Check_any S.p S.m (modL S) A c W (by omega) (by omega) hmlS h
 rw[chk_yes hS,modL_length]at hCk;have hCk2:=fun W h=>Check_any Q N nl B b W hQ.2 hN.2 hl h
 rw[chk_no hb]at hCk2;replace hCk2:=fun W h=>Lib.hid (hCk2 W h)
 obtain⟨s,hs⟩:∃ s,s=w.heap.size:=⟨_,rfl⟩;obtain⟨Z,hZ⟩:∃ Z,Z=w.alloc (.cells #[.int .i64 S.p,.int .i64 S.m,.slice A S.mod.length c,.int .i64 Q,.int .i64 N,.slice B nl.length b,.slice A1 poly.length c1,.slice A2 pts.length c2] 44):=⟨_,rfl⟩;have hB:Below w.heap.size w Z:=by rw[hZ]; exact (Below.refl _ _).alloc (Nat.le_refl _) _
 have hG:Hid (Bxs Z s (#[.int .i64 S.p,.int .i64 S.m,.slice A S.mod.length c,.int .i64 Q,.int .i64 N,.slice B nl.length b,.slice A1 poly.length c1,.slice A2 pts.length c2]).toList):=by rw[hZ,hs]; exact Lib.hid (Bxs.new w _ _)
 have hsZ:s<Z.heap.size:=by rw[hZ,hs]; simp
 have hq:=Lib.hid (hCk Z ((hr.below hB).more hB.size));replace hZ:=Lib.hid hZ;clear hCk hQ hN hl hb hS hmlS;go_enter Tryz.func26,Tryz.ntmps26;obtain⟨a0,a1,a2,a3,a4,a5,a6,a7⟩:=Bxs.c8 hG.out;go_wp2_with (fail);rw[←hZ.out];simp only[←hs];have hsw:w.heap.size≤s:=Nat.le_of_eq hs.symm;replace hs:=Lib.hid hs;go_wp2_with (fail);(with_reducible refine hq.out.mono ?_);rintro e w1 ⟨rfl,hb⟩;clear hq a0 a1 a2 a3 a4 a5 a6 a7;replace hB:=hB.trans (hb.mono hB.size);replace hG:=Lib.hid (hG.out.keep hb hsZ);replace hsZ:=Nat.lt_of_lt_of_le hsZ hb.size;clear hb;have hq:=hCk2 w1 ((hrB.below hB).more hB.size);obtain⟨a0,a1,a2,a3,a4,a5,a6,a7⟩:=Bxs.c8 hG.out;go_wp2_with (fail);(with_reducible refine hq.out.mono ?_);rintro e w2 ⟨rfl,hb⟩;clear hq a0 a1 a2 a3 a4 a5 a6 a7;replace hB:=hB.trans (hb.mono hB.size);clear hb;go_wp2_with (fail);go_ret;exact⟨rfl,hB⟩

end
section
open Go.RowKit Cw
attribute [local go_sem] Oper.semAt_some

theorem rd_lit19 (W:World)(l:List Int):Rd (W.alloc (.cells (l.map (Value.int .i64)).toArray 3)) (W.heap.size+1) (some ⟨W.heap.size,0,none⟩) l:=by
 have h:=rd_new W l;rw[World.size_alloc]at h;exact h
theorem gop19:gopD D2 E2_3 [1,1,1] pts19=0:=by decide +kernel
theorem sqf19:SqfP D2 E2_3 [1,1,1]:=⟨⟨rfl,rfl⟩,by
 obtain⟨F,hF⟩:=good_FD good8;have h:=cop19 hF;rw[hF]at h;exact h⟩
theorem des19:desN D2 E2_3 [1,1,1]=5:=by rw[desN_yes sqf19]; decide
set_option maxRecDepth 100000 in
set_option maxHeartbeats 8000000 in
theorem alive19_any (w:World):Calls Tryz.prog 23 #[] w fun e w'=>e=.returned (.bool true)∧Below w.heap.size w w':=by
 obtain⟨S,hS⟩:=good_FD good2;have e1:(S.p:Int)=2:=by rw[hS]; rfl
 have e2:(S.m:Int)=1:=by rw[hS]; rfl
 have e3:S.mod.length=0:=by rw[hS]; rfl
 have hgS:Good S.p S.m (modL S.toDesc):=by rw[hS]; exact good2
 have hzS:gopD S.toDesc E2_3 [1,1,1] pts19=0:=by rw[hS]; exact gop19
 obtain⟨s,hs⟩:∃ s,s=w.heap.size:=⟨_,rfl⟩;obtain⟨Z1,hZ1⟩:∃ Z1,Z1=w.alloc (.cells #[.int .i64 1,.int .i64 1,.int .i64 0] 3):=⟨_,rfl⟩;obtain⟨Z2,hZ2⟩:∃ Z2,Z2=Z1.alloc (.cells #[.int .i64 1,.int .i64 1,.int .i64 1] 3):=⟨_,rfl⟩;obtain⟨Z3,hZ3⟩:∃ Z3,Z3=Z2.alloc (.cells #[.int .i64 0,.int .i64 1,.int .i64 2,.int .i64 3,.int .i64 4,.int .i64 5,.int .i64 6,.int .i64 7] 3):=⟨_,rfl⟩;obtain⟨Z4,hZ4⟩:∃ Z4,Z4=Z3.alloc (.cells #[.int .i64 2,.int .i64 1,.slice none 0 0,.int .i64 2,.int .i64 3,.slice (some ⟨s,0,none⟩) 3 3,.slice (some ⟨s+1,0,none⟩) 3 3,.slice (some ⟨s+1+1,0,none⟩) 8 8] 44):=⟨_,rfl⟩;have z1:Z1.heap.size=s+1:=by rw[hZ1,hs]; simp
 have z2:Z2.heap.size=s+2:=by rw[hZ2]; simp[z1]
 have z3:Z3.heap.size=s+3:=by rw[hZ3]; simp[z2]
 have z4:Z4.heap.size=s+4:=by rw[hZ4]; simp[z3]
 have b1:Below s w Z1:=by rw[hZ1]; exact (Below.refl _ _).alloc (Nat.le_of_eq hs) _
 have b2:Below (s+1) Z1 Z2:=by rw[hZ2]; exact (Below.refl _ _).alloc (Nat.le_of_eq z1.symm) _
 have b3:Below (s+2) Z2 Z3:=by rw[hZ3]; exact (Below.refl _ _).alloc (Nat.le_of_eq z2.symm) _
 have b4:Below (s+3) Z3 Z4:=by rw[hZ4]; exact (Below.refl _ _).alloc (Nat.le_of_eq z3.symm) _
 have r1:Rd Z1 (s+1) (some ⟨s,0,none⟩) [1,1,0]:=by have h:=rd_lit19 w [1,1,0]; rw[hZ1,hs]; exact h
 have r2:Rd Z2 (s+2) (some ⟨s+1,0,none⟩) [1,1,1]:=by have h:=rd_lit19 Z1 [1,1,1]; rw[z1]at h; rw[hZ2]; exact h
 have r3:Rd Z3 (s+3) (some ⟨s+1+1,0,none⟩) pts19:=by have h:=rd_lit19 Z2 pts19; rw[z2]at h; rw[hZ3]; exact h
 have c34:=b4;have c24:=b3.trans (c34.mono (show s+2≤s+3 by omega));have c14:=b2.trans (c24.mono (show s+1≤s+2 by omega));have hB:Below s w Z4:=b1.trans (c14.mono (show s≤s+1 by omega));have hmod:modL E2_3=[1,1,0]:=by decide
 have rr1:Rd Z4 Z4.heap.size (some ⟨s,0,none⟩) [1,1,0]:=by rw[z4]; exact (r1.below c14).more (by omega)
 have rr2:Rd Z4 Z4.heap.size (some ⟨s+1,0,none⟩) [1,1,1]:=by rw[z4]; exact (r2.below c24).more (by omega)
 have rr3:Rd Z4 Z4.heap.size (some ⟨s+1+1,0,none⟩) pts19:=by rw[z4]; exact (r3.below c34).more (by omega)
 have hbG:Hid (Bxs Z4 (s+1+1+1) [.int .i64 2,.int .i64 1,.slice none 0 0,.int .i64 2,.int .i64 3,.slice (some ⟨s,0,none⟩) 3 3,.slice (some ⟨s+1,0,none⟩) 3 3,.slice (some ⟨s+1+1,0,none⟩) 8 8]):=by have h:=Bxs.new Z3 [.int .i64 2,.int .i64 1,.slice none 0 0,.int .i64 2,.int .i64 3,.slice (some ⟨s,0,none⟩) 3 3,.slice (some ⟨s+1,0,none⟩) 3 3,.slice (some ⟨s+1+1,0,none⟩) 8 8] 44; rw[z3]at h; rw[hZ4]; exact h
 have hC:∀ W,Below Z4.heap.size Z4 W→Calls Tryz.prog 34 #[.agg #[.int .i64 2,.int .i64 1,.slice none 0 0,.int .i64 2,.int .i64 3,.slice (some ⟨s,0,none⟩) 3 3,.slice (some ⟨s+1,0,none⟩) 3 3,.slice (some ⟨s+1+1,0,none⟩) 8 8]] W (GCPost S E2_3 [1,1,1] pts19 W):=fun W hb=>by
  have h:=aGopCode_ok S E2_3 [1,1,1] pts19 none (some ⟨s,0,none⟩) (some ⟨s+1,0,none⟩) (some ⟨s+1+1,0,none⟩) 0 3 3 8 W (by rw[hS]; exact Rd.nil) (by rw[hmod]; exact (rr1.below hb).more hb.size) hgS good8 ((rr2.below hb).more hb.size) ((rr3.below hb).more hb.size) hzS;rw[e1,e2,e3]at h;exact h
 have hDz:∀ W,Below Z4.heap.size Z4 W→Calls Tryz.prog 88 #[.agg #[.int .i64 2,.int .i64 1,.slice none 0 0,.int .i64 2,.int .i64 3,.slice (some ⟨s,0,none⟩) 3 3,.slice (some ⟨s+1,0,none⟩) 3 3,.slice (some ⟨s+1+1,0,none⟩) 8 8]] W fun e w'=>e=.returned (.tuple #[.int .i64 5,.int .i64 0])∧Below W.heap.size W w':=fun W hb=>by
  have h:=aGopDes_ok S E2_3 [1,1,1] pts19 none (some ⟨s,0,none⟩) (some ⟨s+1,0,none⟩) (some ⟨s+1+1,0,none⟩) 0 3 3 8 W (by rw[hS]; exact Rd.nil) (by rw[hmod]; exact (rr1.below hb).more hb.size) hgS good8 ((rr2.below hb).more hb.size) ((rr3.below hb).more hb.size) hzS;rw[e1,e2,e3,hS,des19]at h;exact h
 have hq:=Lib.hid (hC Z4 (Below.refl _ _));replace hDz:=fun W hb=>Lib.hid (hDz W hb)
 clear hC rr1 rr2 rr3 r1 r2 r3 c34 c24 c14 b1 b2 b3 b4 z1 z2 z3;replace e1:=Lib.hid e1;replace e2:=Lib.hid e2;replace e3:=Lib.hid e3;go_enter Tryz.func23,Tryz.ntmps23;obtain⟨a0,a1,a2,a3,a4,a5,a6,a7⟩:=hbG.out.c8;go_wp2_with (fail);rw[←hZ1,←hZ2,←hZ3];simp only[←hs];rw[←hZ4];have hsw:w.heap.size=s:=hs.symm;replace hs:=Lib.hid hs;replace hZ1:=Lib.hid hZ1;replace hZ2:=Lib.hid hZ2;replace hZ3:=Lib.hid hZ3;replace hZ4:=Lib.hid hZ4;replace hsw:=Lib.hid hsw;(with_reducible refine hq.out.mono ?_);rintro e w1 ⟨F,rt,hF,-,k,C,A3,c3,Al,rfl,hvc,hsp,-,-,-,-,hb1⟩;obtain rfl:k=2:=alv_k hS hF hvc.can (fun u=>hsp u);clear hq hvc hsp a0 a1 a2 a3 a4 a5 a6 a7;rw[show pts19.length=8 from rfl,e1.out,e2.out,e3.out];obtain⟨Y,hY⟩:∃ Y,Y=w1.alloc (.cells #[.int .i64 2,.int .i64 1,.slice A3 0 c3,.int .i64 8,.slice Al 2 2] 27):=⟨_,rfl⟩;have hbY:Below w1.heap.size w1 Y:=by rw[hY]; exact (Below.refl _ _).alloc (Nat.le_refl _) _
 have hbZY:=hb1.trans (hbY.mono hb1.size);have hq2:=hDz Y hbZY;have hbC:Hid (Bxs Y w1.heap.size [.int .i64 2,.int .i64 1,.slice A3 0 c3,.int .i64 8,.slice Al 2 2]):=by rw[hY]; exact Bxs.new w1 _ _
 have hYl:w1.heap.size<Y.heap.size:=by rw[hY]; simp
 obtain⟨a0,a1,a2,a3,a4,a5,a6,a7⟩:=(hbG.out.keep hbZY (by have:=z4; omega)).c8;rw[hY]at a0 a1 a2 a3 a4 a5 a6 a7;obtain⟨pc,hpc⟩:∃ pc,pc=w1.heap.size:=⟨_,rfl⟩;rw[←hpc]at hbC hYl;replace hY:=Lib.hid hY;go_wp2_with (fail);rw[←hY.out];simp only[←hpc];replace hpc:=Lib.hid hpc;(with_reducible refine hq2.out.mono ?_);rintro e w2 ⟨rfl,hb2⟩;obtain⟨c0,c1,c2,c3',c4⟩:=(hbC.out.keep hb2 hYl).c5;clear a0 a1 a2 a3 a4 a5 a6 a7 hq2 hDz;have hfin:Hid (Below w.heap.size w w2):=by
  rw[Hid,hsw.out];exact hB.trans ((hbZY.trans (hb2.mono hbZY.size)).mono (by have:=z4; omega))
 go_wp2_with (fail);go_ret;exact⟨rfl,hfin.out⟩

end
section
open Go.RowKit Cw
open Cw.CField (inv)
theorem wgt_row (D:Desc)(N:Nat)(u:Nat→R D):wgt (rowL D N u)=((List.range N).filter fun j=>ci (u j) !=0).length:=by
 unfold wgt rowL lst;rw[List.filter_map,List.length_map];rfl
section
variable {S F:FD} {r:R F.toDesc} {N t k:Nat} {h:Nat→Nat→R F.toDesc} {u:Nat→R S.toDesc}
theorem meets_weight {x y:Nat→R F.toDesc} (hinj:∀ i j,i<N→j<N→x i=x j→i=j)(hy:∀ j,j<N→y j≠0)(hp:S.p=F.p)(h0:muV S F r=0)(hh:∀ i j,i<t→j<N→h i j=y j*pw (x j) i)
  (hu:∃ j,j<N∧u j≠0) (hm:Meets S F r N t h u):t+1≤wgt (rowL S.toDesc N u):=by
 obtain⟨j0,hj0,hne⟩:=hu;rw[wgt_row];refine van_weight (u:=fun j=>phi S F r (u j)) hinj hy (fun i hi=>?_) (fun j=>ci (u j) !=0) (fun j _ e=>?_) hj0 fun e=>hne ((phi_eq_zero hp h0).1 e)
 ·rw[←hm i hi];exact rsum_congr fun j hj=>by rw[hh i j hi hj]
 ·have e2:ci (u j)=0:=by simpa using e
  have e3:u j=0:=ci_inj (e2.trans ci_zero.symm);rw[e3,phi_zero]
end
section
variable {S F:FD} {r:R F.toDesc} {N t:Nat} {poly pts:List Int} {u:Nat→R S.toDesc}
end
end
section
open Go.RowKit Cw

section
variable {S F:FD} {r:R F.toDesc} {poly pts:List Int} {u:Nat→R S.toDesc}
theorem gop_facts {S':Desc} (hz:gopD S' F.toDesc poly pts=0):∃ n,poly.length=n+1∧cfR F.toDesc poly n≠0∧(∀ j,j<pts.length→pevI F.toDesc poly (eli F.toDesc (pts[j]?.getD 0))≠0)∧∀ i j,i<pts.length→j<pts.length→eli F.toDesc (pts[i]?.getD 0)=eli F.toDesc (pts[j]?.getD 0)→i=j:=by
 obtain⟨-,-,hp1,hp2,htw,hl2,-,htop,hroot⟩:=gopD_zero hz;obtain⟨n,hn⟩:∃ n,poly.length=n+1:=⟨poly.length - 1,by omega⟩;refine⟨n,hn,?_,fun j hj e=>hroot ?_,pts_inj hp1 htw⟩
 ·rw[hn,Nat.add_sub_cancel]at htop;exact eli_ne (elB_iff.1 hp2 n (by omega)) htop
 ·have h9:(valL F.toDesc poly pts)[j]?.getD 0=0:=by unfold valL; rw[lst_get _ hj,e,ci_zero]
  rw[←h9];exact mem_get (by unfold valL; rw[lst_length]; exact hj)
end
theorem meets_two {S F F2:FD} (h:F2.toDesc=F.toDesc){rt rt2:Nat} (h1:IsRt S F rt)(h2:IsRt S F2 rt2){N t:Nat} {p pts:List Int} {u:Nat→R S.toDesc} (hm:Meets S F2 (rel F2.toDesc rt2) N t (gopM F2 p pts) u):Meets S F (rel F.toDesc rt) N t (gopM F p pts) u:=by
 obtain⟨D,g,a,b,c⟩:=F;obtain⟨D2,g2,a2,b2,c2⟩:=F2;have h':D2=D:=h;subst h';have e:rt2=rt:=IsRt.uniq (S:=S) (F:=⟨D2,g2,a2,b2,c2⟩) h2 h1;subst e;exact hm
end
section
open Go.RowKit Cw
open Cw.CField (inv)
section
variable {S F:FD} {r:R F.toDesc} {kn k:Nat} {pts mul wl:List Int} {u:Nat→R S.toDesc}
noncomputable def altH (F:FD)(pts mul:List Int):Nat→Nat→R F.toDesc:=gM F.toDesc pts (dualL F pts mul)
end
end
section
open Go.RowKit Cw
attribute [local go_sem] Oper.semAt_some

set_option maxHeartbeats 1000000 in
theorem few19_any (A:Option Addr)(n c:Nat)(w:World):Calls Tryz.prog 24 #[.slice A n c] w fun e w'=>e=.returned (.bool (decide ((n:Int)≤20)))∧w=w':=by
 go_enter Tryz.func24,Tryz.ntmps24;go_wp2_with (fail);go_ret;exact⟨rfl,rfl⟩
end
section
open Go.RowKit Cw
open CField (inv)
attribute [local go_sem] Oper.semAt_some

def lenOf:Value→Nat
 | .slice _ n _=>n
 | _=>0
end
section
open Go.RowKit Cw
open Cw.CField (inv)
attribute [local go_sem] Oper.semAt_some

theorem Gop_any (P M Q N:Int)(ml nl poly pts:List Int)(A B A1 A2:Option Addr)(c b c1 c2:Nat)(w:World)(hP:I64 P)(hM:I64 M)(hQ:I64 Q)(hN:I64 N)(hl:ml.length≤maxLen)(hn:nl.length≤maxLen)(hr:Rd w w.heap.size A ml)(hrB:Rd w w.heap.size B nl)(hr1:Rd w w.heap.size A1 poly)(hr2:Rd w w.heap.size A2 pts)(hl1:poly.length≤70000)(hl2:pts.length≤maxLen) :
  ∃ E,(∀ W,Below w.heap.size w W→Calls Tryz.prog 26 #[.agg #[.int .i64 P,.int .i64 M,.slice A ml.length c,.int .i64 Q,.int .i64 N,.slice B nl.length b,.slice A1 poly.length c1,.slice A2 pts.length c2]] W fun e w'=>e=.returned (.int .i64 E)∧Below W.heap.size W w') ∧
   (E≠0→∀ W,Below w.heap.size w W→Calls Tryz.prog 89 #[.agg #[.int .i64 P,.int .i64 M,.slice A ml.length c,.int .i64 Q,.int .i64 N,.slice B nl.length b,.slice A1 poly.length c1,.slice A2 pts.length c2]] W fun e w'=>e=.returned (.tuple #[.agg #[.int .i64 0,.int .i64 0,.slice none 0 0,.pointer none,.slice none 0 0,.slice none 0 0,.int .i64 0],.slice none 0 0,.int .i64 E])∧Below W.heap.size W w') ∧
   (E=0→∃ S D:Desc,P=S.p∧M=S.m∧ml=modL S∧Q=D.p∧N=D.m∧nl=modL D∧Good S.p S.m (modL S)∧Good D.p D.m (modL D)∧gopD S D poly pts=0):=by
 by_cases hg1:Good P M ml
 ·by_cases hg2:Good Q N nl
  ·obtain⟨S,rfl,rfl,rfl,hS⟩:=id hg1;obtain⟨D,rfl,rfl,rfl,hD⟩:=id hg2;obtain⟨F,rfl⟩:=good_FD hg1;refine⟨gopD F.toDesc D poly pts,fun W hb=>?_,fun hE W hb=>?_,fun h=>⟨F.toDesc,D,rfl,rfl,rfl,rfl,rfl,rfl,hg1,hg2,h⟩⟩
   ·rw[modL_length,modL_length];exact GopChk_D F.toDesc D poly pts A B A1 A2 c b c1 c2 W ((hr.below hb).more hb.size) ((hrB.below hb).more hb.size) hg1 hg2 ((hr1.below hb).more hb.size) ((hr2.below hb).more hb.size) hl1 hl2
   ·rw[modL_length,modL_length];refine (goppa_D F D poly pts A B A1 A2 c b c1 c2 W ((hr.below hb).more hb.size) ((hrB.below hb).more hb.size) hg1 hg2 ((hr1.below hb).more hb.size) ((hr2.below hb).more hb.size) (by unfold maxLen; omega) hl2).mono ?_;rintro e w' ⟨hb',⟨-,h⟩ | ⟨h,-⟩⟩
    ·exact⟨h,hb'⟩
    ·exact absurd h hE
  ·obtain⟨S,rfl,rfl,rfl,hS⟩:=id hg1;refine⟨1,fun W hb=>?_,fun _ W hb=>?_,fun h=>by cases h⟩
   ·rw[modL_length];exact GopChk_bad2 S Q N nl poly pts A B A1 A2 c b c1 c2 W ((hr.below hb).more hb.size) hg1 hQ hN hn ((hrB.below hb).more hb.size) hg2
   ·rw[modL_length];exact goppa_bad2 S Q N nl poly pts A B A1 A2 c b c1 c2 W ((hr.below hb).more hb.size) hg1 hQ hN hn ((hrB.below hb).more hb.size) hg2
 ·exact⟨1,fun W hb=>GopChk_bad1 P M ml Q N nl poly pts A B A1 A2 c b c1 c2 W hP hM hl ((hr.below hb).more hb.size) hg1,fun _ W hb=>goppa_bad1 P M ml Q N nl poly pts A B A1 A2 c b c1 c2 W hP hM hl ((hr.below hb).more hb.size) hg1,fun h=>by cases h⟩
theorem q_two {S:Desc}:S.q=2↔S.p=2∧S.m=1:=by
 have h1:=S.p2;have h2:=S.m1
 show S.p ^ S.m=2↔_
 constructor
 ·intro h;obtain⟨k,hk⟩:∃ k,S.m=k+1:=⟨S.m - 1,by omega⟩
  cases k with
  | zero=>rw[hk,Nat.pow_succ,Nat.pow_zero,Nat.one_mul]at h; exact⟨h,hk⟩
  | succ k =>
   have h3:2 ^ (k+2)≤S.p ^ (k+2):=Nat.pow_le_pow_left h1 _;have h4:0<2 ^ k:=Nat.pow_pos (by decide);rw[hk]at h;rw[h,Nat.pow_succ,Nat.pow_succ]at h3;omega
 ·rintro⟨h,e⟩;rw[h,e]
end
section
open Go.RowKit Cw
open Cw.CField (inv)

def bkS (l:List Int)(x:Int):Nat→Nat→Int
 | 0,_=>0
 | n+1,i=>if l[i]?.getD 0=x then i else bkS l x n (i+1)
def bkI (l:List Int)(x:Int):Int:=bkS l x l.length 0
theorem bkS_at {l:List Int} {x:Int} {i:Nat} (h:l[i]?.getD 0=x):∀ n i0,i0≤i→i<i0+n→(∀ j,i0≤j→j<i→l[j]?.getD 0≠x)→bkS l x n i0=i
 | 0,i0,h1,h2,_=>absurd h2 (by omega)
 | n+1,i0,h1,h2,hn=>by
  unfold bkS;by_cases e:i0=i
  ·rw[e,if_pos h]
  ·rw[if_neg (hn i0 (Nat.le_refl _) (by omega))];exact bkS_at h n (i0+1) (by omega) (by omega) fun j a b=>hn j (by omega) b
theorem bkS_no {l:List Int} {x:Int}:∀ n i0,(∀ j,i0≤j→j<i0+n→l[j]?.getD 0≠x)→bkS l x n i0=0
 | 0,_,_=>rfl
 | n+1,i0,hn=>by
  unfold bkS;rw[if_neg (hn i0 (Nat.le_refl _) (by omega))];exact bkS_no n (i0+1) fun j a b=>hn j (by omega) (by omega)
theorem bkI_at {l:List Int} {x:Int} {i:Nat} (hi:i<l.length)(h:l[i]?.getD 0=x)(hn:∀ j,j<i→l[j]?.getD 0≠x):bkI l x=i :=
 bkS_at h l.length 0 (by omega) (by omega) fun j _ b=>hn j b
theorem bkI_no {l:List Int} {x:Int} (hn:∀ j,j<l.length→l[j]?.getD 0≠x):bkI l x=0:=bkS_no l.length 0 fun j _ b=>hn j (by omega)
section
variable {S F:FD} {rt:Nat}
theorem bkI_emb (hp:S.p=F.p)(h0:muV S F (rel F.toDesc rt)=0)(y:R F.toDesc):bkI (embL S F rt) (ci y)=ci (bk S F (rel F.toDesc rt) y):=by
 by_cases h:∃ u,phi S F (rel F.toDesc rt) u=y
 ·obtain⟨u,rfl⟩:=h;rw[bk_phi hp h0 u];refine bkI_at (i:=rcode u) (by rw[embL_length]; exact rcode_lt u) (by rw[embL_get S F rt (rcode_lt u),rel_rcode]) fun j hj e=>?_
  have hjq:j<S.q:=Nat.lt_trans hj (rcode_lt u);rw[embL_get S F rt hjq]at e;have h1:=phi_inj (char_two hp) h0 (ci_inj e);have h2:j=rcode u:=by rw[←h1,rcode_rel hjq]
  omega
 ·rw[bk_out h,ci_zero];refine bkI_no fun j hj e=>h ?_
  rw[embL_length]at hj;rw[embL_get S F rt hj]at e;exact⟨_,ci_inj e⟩
noncomputable def trM (S F:FD)(rt:Nat)(h:Nat→Nat→R F.toDesc):Nat→Nat→R S.toDesc:=fun r j=>bk S F (rel F.toDesc rt) (tr S.m (pw (Xc F.toDesc) (r % F.m)*h (r / F.m) j))
theorem orth_tr (hp:S.p=F.p)(h0:muV S F (rel F.toDesc rt)=0)(hd:S.m∣F.m){t N:Nat} {h:Nat→Nat→R F.toDesc} {u:Nat→R S.toDesc}:Orth (t*F.m) N (trM S F rt h) u↔Meets S F (rel F.toDesc rt) N t h u:=by
 obtain⟨n,hn⟩:=hd;have hm1:=F.m1;have hn1:1≤n:=by
  rcases Nat.eq_zero_or_pos n with e | e
  ·rw[e,Nat.mul_zero]at hn; omega
  ·exact e
 constructor
 ·intro H i hi;refine (row_tr hp h0 hn.symm hn1 (h i) u).2 fun k hk=>?_
  have h1:=H (i*F.m+k) (by
   have h2:(i+1)*F.m≤t*F.m:=Nat.mul_le_mul_right _ hi;rw[Nat.succ_mul]at h2;omega)
  rw[←h1];refine rsum_congr fun j _=>?_
  unfold trM;rw[show (i*F.m+k) % F.m=k from by rw[Nat.mul_comm,Nat.mul_add_mod]; exact Nat.mod_eq_of_lt hk,show (i*F.m+k) / F.m=i from by rw[Nat.mul_comm,Nat.mul_add_div (by omega),Nat.div_eq_of_lt hk,Nat.add_zero]]
 ·intro H r hr;have h1:=(row_tr hp h0 hn.symm hn1 (h (r / F.m)) u).1 (H (r / F.m) ((Nat.div_lt_iff_lt_mul (by omega)).2 hr)) (r % F.m) (Nat.mod_lt _ (by omega));exact h1
noncomputable def nuK (S:FD)(n N:Nat)(M:Nat→Nat→R S.toDesc):Nat:=(npv (pvF (elS n M N).2) (rkS S n N M) N).length
noncomputable def nuM (S:FD)(n N:Nat)(M:Nat→Nat→R S.toDesc):Nat→Nat→R S.toDesc:=(elS (nuK S n N M) (nulM (rkS S n N M) N (pvF (elS n M N).2) (elS n M N).1) N).1
theorem nuK_le (n N:Nat)(M:Nat→Nat→R S.toDesc):nuK S n N M≤N:=by
 unfold nuK npv;exact Nat.le_trans (List.length_filter_le _ _) (by rw[List.length_range]; exact Nat.le_refl _)
theorem nu_span {n N:Nat} {M:Nat→Nat→R S.toDesc} (u:Nat→R S.toDesc):Span (rkS S (nuK S n N M) N (nuM S n N M)) N (elS (nuK S n N M) (nuM S n N M) N).1 u↔Orth n N M u:=by
 have h1:=elS_span (nuK S n N M) N (nuM S n N M);have h2:=elS_span (nuK S n N M) N (nulM (rkS S n N M) N (pvF (elS n M N).2) (elS n M N).1);have hi:=nul_indep (F:=R S.toDesc) (m:=N) (r:=rkS S n N M) (p:=pvF (elS n M N).2) (A:=(elS n M N).1);rw[show (elS (nuK S n N M) (nulM (rkS S n N M) N (pvF (elS n M N).2) (elS n M N).1) N).2.length=nuK S n N M from rk_full hi]at h2;have h3:=nul_iff (elS_RR n N M) u;have h4:=Orth.same (elS_span n N M) u;rw[←h4,←h3];exact (same_iff h1 u).trans (same_iff h2 u)
noncomputable def invL (F:FD)(poly pts:List Int):List Int:=lst pts.length fun i=>ci (inv (pevI F.toDesc poly (eli F.toDesc (pts[i]?.getD 0))))
theorem invL_length (F:FD)(poly pts:List Int):(invL F poly pts).length=pts.length:=lst_length _ _
theorem gop_chk {S':Desc} {poly pts:List Int} (hz:gopD S' F.toDesc poly pts=0){K:Nat} (hK:K≤pts.length):gchkD F.toDesc (K:Int) pts (invL F poly pts)=0:=by
 obtain⟨-,⟨hn1,hn64⟩,hp1,hp2,htw,-,-,-,-⟩:=gopD_zero hz;obtain⟨n,-,-,hne,-⟩:=gop_facts hz;unfold gchkD;rw[invL_length,if_neg (by omega),if_neg (by omega),if_neg,if_neg (by rw[htw]; simp),if_neg,if_neg (by omega)]
 ·intro hmem;obtain⟨i,hi,hi2⟩:=List.mem_map.1 (show (0:Int)∈(List.range pts.length).map (fun i=>ci (inv (pevI F.toDesc poly (eli F.toDesc (pts[i]?.getD 0))))) from hmem);exact inv_ne_zero (hne i (List.mem_range.1 hi)) (ci_eq_zero.1 hi2)
 ·rintro (h3 | h3)
  ·rw[hp1]at h3; cases h3
  ·rw[elB_iff.2 fun j hj=>?_]at h3
   ·cases h3
   ·rw[invL_length]at hj;unfold invL;rw[lst_get _ hj];exact⟨ci_nonneg _,ci_lt _⟩
theorem meets_min {S':Desc} {poly pts:List Int} (hp:S.p=F.p)(h0:muV S F (rel F.toDesc rt)=0)(hz:gopD S' F.toDesc poly pts=0){t:Nat} {u:Nat→R S.toDesc} :
  Meets S F (rel F.toDesc rt) pts.length (min t pts.length) (gM F.toDesc pts (invL F poly pts)) u↔Meets S F (rel F.toDesc rt) pts.length t (gopM F poly pts) u:=by
 obtain⟨n,-,-,hne,hinj⟩:=gop_facts hz;have hg:∀ i j,j<pts.length→gM F.toDesc pts (invL F poly pts) i j=gopM F poly pts i j:=fun i j hj=>by
  unfold gM gopM invL;rw[lst_get _ hj,eli_ci,mul_c]
 have hs:∀ i,rsum pts.length (fun j=>gM F.toDesc pts (invL F poly pts) i j*phi S F (rel F.toDesc rt) (u j))=rsum pts.length fun j=>gopM F poly pts i j*phi S F (rel F.toDesc rt) (u j):=fun i=>rsum_congr fun j hj=>by rw[hg i j hj]
 constructor
 ·intro H i hi;by_cases hm:i<min t pts.length
  ·rw[←hs i]; exact H i hm
  ·have hmn:min t pts.length=pts.length:=by omega
   rw[hmn]at H;have hzero:∀ j,j<pts.length→u j=0:=fun j hj=>Classical.byContradiction fun hne2=>by
    have h1:=meets_weight (h:=gopM F poly pts) (x:=fun j=>eli F.toDesc (pts[j]?.getD 0)) (y:=fun j=>inv (pevI F.toDesc poly (eli F.toDesc (pts[j]?.getD 0)))) hinj (fun j hj=>inv_ne_zero (hne j hj)) hp h0 (fun i j _ _=>mul_c _ _) ⟨j,hj,hne2⟩ (fun i hi=>by rw[←hs i]; exact H i hi);have h2:=wgt_le (rowL S.toDesc pts.length u);rw[rowL_length]at h2;omega
   exact rsum_eq_zero fun j hj=>by rw[hzero j hj,phi_zero,mul_zero]
 ·intro H i hi;rw[hs i];exact H i (by omega)
end
end
end Go.Proofs.YtjdoneanohhkmaaGreat

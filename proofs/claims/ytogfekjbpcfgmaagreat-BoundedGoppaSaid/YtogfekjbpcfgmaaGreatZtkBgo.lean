/- Layer 39 of the program: Goppa. -/
import Derived.Test.YtogfekjbpcfgmaaGreatZtkGal
import Derived.Test.YtogfekjbpcfgmaaGreatZtkSqaW
set_option maxRecDepth 100000
set_option maxHeartbeats 16000000
set_option linter.unusedVariables false
namespace Go.Proofs
open Go.RowKit Cw
theorem mk0 (w:World)(N:Nat):∃I J,I=w.alloc (.cells (Array.replicate N (Value.int .i64 0)) 3)∧J=w.heap.size∧Below w.heap.size w I∧IB I J (List.replicate N 0) :=
 ⟨_,_,rfl,rfl,β,IB.newz w N⟩
theorem QlZ {S:FD} {D:Desc} {poly pts er:List Int} {u:Nat→R S.z} {w I:World} {s:Nat} {J Ab:Option Addr} {ca cb:Nat} {ec:Int} {la lb:List Int} (ad:Below w.heap.size w I)(ae:w.heap.size≤s+1)(af:QeI S D poly pts u er ec la lb)(ag:Rd I I.heap.size J la)(ah:Rd I I.heap.size Ab lb)(V:∀a,J=some a→s+1<a.block)(X:∀a,Ab=some a→s+1<a.block) :
  Below w.heap.size w ((I.setCell ⟨s+1,0,none⟩ (.slice J la.length ca)).setCell ⟨s+1,1,none⟩ (.slice Ab lb.length cb))∧∃ (aa ab:Option Addr) (ai aj:Nat) (ac:Int) (T U:List Int),Ending.returned (.tuple #[.agg #[.slice J la.length ca,.slice Ab lb.length cb],.int .i64 ec])=Ending.returned (.tuple #[.agg #[.slice aa T.length ai,.slice ab U.length aj],.int .i64 ac])∧QeI S D poly pts u er ac T U ∧
   Rd ((I.setCell ⟨s+1,0,none⟩ (.slice J la.length ca)).setCell ⟨s+1,1,none⟩ (.slice Ab lb.length cb)) ((I.setCell ⟨s+1,0,none⟩ (.slice J la.length ca)).setCell ⟨s+1,1,none⟩ (.slice Ab lb.length cb)).heap.size aa T∧Rd ((I.setCell ⟨s+1,0,none⟩ (.slice J la.length ca)).setCell ⟨s+1,1,none⟩ (.slice Ab lb.length cb)) ((I.setCell ⟨s+1,0,none⟩ (.slice J la.length ca)).setCell ⟨s+1,1,none⟩ (.slice Ab lb.length cb)).heap.size ab U:=by
 have Y:((I.setCell ⟨s+1,0,none⟩ (.slice J la.length ca)).setCell ⟨s+1,1,none⟩ (.slice Ab lb.length cb)).heap.size=I.heap.size:=by simp[World.setCell]
 refine⟨ad.trans ((QeF _ _).mono ae),J,Ab,ca,cb,ec,la,lb,rfl,af,?_,?_⟩
 ·rw[Y];exact (ag.far (g:=s+1) (fun a e=>by have O:=V a e;omega) 0 _).far (g:=s+1) (fun a e=>by have O:=V a e;omega) 1 _
 ·rw[Y];exact (ah.far (g:=s+1) (fun a e=>by have O:=X a e;omega) 0 _).far (g:=s+1) (fun a e=>by have O:=X a e;omega) 1 _
theorem QsC (P M Q N:Int)(ml O poly pts:List Int)(nw ne:Nat)(A B T U Aw Ae:Option Addr)(c b c1 c2 cw ce:Nat)(w:World)(E:Int)(V:E≠0)(hG:∀W,Below w.heap.size w W→Calls Tryz.prog 124 #[.agg #[.int .i64 P,.int .i64 M,.slice A ml.length c,.int .i64 Q,.int .i64 N,.slice B O.length b,.slice T poly.length c1,.slice U pts.length c2]] W fun e w'=>e=.returned (.tuple #[.agg #[.int .i64 0,.int .i64 0,.slice none 0 0,.pointer none,.slice none 0 0,.slice none 0 0,.int .i64 0],.slice none 0 0,.int .i64 E])∧Below W.heap.size W w') :
  Calls Tryz.prog 20 #[.agg #[.int .i64 P,.int .i64 M,.slice A ml.length c,.int .i64 Q,.int .i64 N,.slice B O.length b,.slice T poly.length c1,.slice U pts.length c2],.slice Aw nw cw,.slice Ae ne ce] w fun e w'=>e=.returned (.tuple #[.agg #[.slice none 0 0,.slice none 0 0],.int .i64 E])∧Below w.heap.size w w':=by
 obtain⟨s,J⟩:=ε (w.heap.size);obtain⟨Z,I⟩:=ε ((w.alloc (.cells #[.int .i64 P,.int .i64 M,.slice A ml.length c,.int .i64 Q,.int .i64 N,.slice B O.length b,.slice T poly.length c1,.slice U pts.length c2] 44)).alloc (.cells #[.slice none 0 0,.slice none 0 0] 52));have X:Below w.heap.size w Z:=by rw[I];exact (β).alloc (by simp) _
 have aj:Hid (Bxs Z s [.int .i64 P,.int .i64 M,.slice A ml.length c,.int .i64 Q,.int .i64 N,.slice B O.length b,.slice T poly.length c1,.slice U pts.length c2]):=by rw[I,J];exact (Bxs.new w _ _).keep (β) (by simp)
 have ak:Hid (Bxs Z (s+1) [.slice none 0 0,.slice none 0 0]):=by rw[I,J];have:=Bxs.new (w.alloc (.cells #[.int .i64 P,.int .i64 M,.slice A ml.length c,.int .i64 Q,.int .i64 N,.slice B O.length b,.slice T poly.length c1,.slice U pts.length c2] 44)) [.slice none 0 0,.slice none 0 0] 52;rw[World.size_alloc]at this;exact this
 have al:s+1<Z.heap.size:=by rw[I,J];simp
 have hq:=η (QlY P M Q N ml O poly pts A B T U c b c1 c2 Z E V fun W hb=>hG W (ζ X hb));have aB:(E !=0)=true:=by rw[bne_iff_ne];exact V
 replace I:=η I;replace V:=η V;clear hG;go_enter Tryz.func20,Tryz.ntmps20;obtain⟨a0,a1,a2,a3,a4,a5,a6,a7⟩:=aj.out.c8;go_wp2_with fail;rw[←I.out];simp only[←J];have aC:w.heap.size≤s:=Nat.le_of_eq J.symm;replace J:=η J;go_wp2_with fail;(with_reducible refine hq.out.mono ?_);rintro e w1 ⟨rfl,ac⟩;clear hq a0 a1 a2 a3 a4 a5 a6 a7;have am:=ζ X ac;have Y:=ak.out.keep ac al;obtain⟨q0,q1⟩:=Y.c2;obtain⟨f0,f1⟩:=Y.f2;have an:=η (am.trans ((QeF (w:=w1) (b:=s+1) (.slice none 0 0) (.slice none 0 0)).mono (by omega)));clear Y;go_wp2_with fail;exact bodyPost_ret (v:=.tuple #[.agg #[.slice none 0 0,.slice none 0 0],.int .i64 E]) (by simp[results,Tryz.results20,go_sem,q0,q1]) rfl ⟨rfl,an.out⟩
def Ql0 (S:FD)(D:Desc)(poly pts wl er:List Int)(w:World)(e:Ending)(w':World):Prop :=
 (Qbo S.z wl pts.length er≠0∧e=.returned (.tuple #[.agg #[.slice none 0 0,.slice none 0 0],.int .i64 (Qbo S.z wl pts.length er)])∧Below w.heap.size w w') ∨
 (Qbo S.z wl pts.length er=0∧Below w.heap.size w w'∧∃ (I Ab:Option Addr) (ca cb:Nat) (ec:Int) (la lb:List Int),e=.returned (.tuple #[.agg #[.slice I la.length ca,.slice Ab lb.length cb],.int .i64 ec])∧QeI S D poly pts (fun j=>eli S.z (wl[j]?.getD 0)) er ec la lb∧Rd w' w'.heap.size I la∧Rd w' w'.heap.size Ab lb)
theorem QuZ (S:FD)(D:Desc)(poly pts wl er:List Int)(A B A1 A2 Aw Ae:Option Addr)(c b c1 c2 cw ce:Nat)(w:World)(hr:Rd w w.heap.size A (Qan S.z))(cT:Rd w w.heap.size B (Qan D))(hS:Qcq S.p S.m (Qan S.z))(hD:Qcq D.p D.m (Qan D))(cU:Rd w w.heap.size A1 poly)(cV:Rd w w.heap.size A2 pts)(du:pts.length≤c2)(dv:c2≤maxLen)(hz:QcP S.z D poly pts=0)(cW:Rd w w.heap.size Aw wl)(cX:Rd w w.heap.size Ae er)(dw:wl.length≤maxLen)(bZ:er.length≤1000000) :
  Calls Tryz.prog 20 #[.agg #[.int .i64 S.p,.int .i64 S.m,.slice A S.mod.length c,.int .i64 D.p,.int .i64 D.m,.slice B D.mod.length b,.slice A1 poly.length c1,.slice A2 pts.length c2],.slice Aw wl.length cw,.slice Ae er.length ce] w (Ql0 S D poly pts wl er w):=by
 obtain⟨dk,⟨eC,cB⟩,-,-,-,eD,eE,-,-⟩:=QbW hz;obtain⟨s,hs⟩:=ε (w.heap.size);obtain⟨Z,hZ⟩:=ε ((w.alloc (.cells #[.int .i64 S.p,.int .i64 S.m,.slice A S.mod.length c,.int .i64 D.p,.int .i64 D.m,.slice B D.mod.length b,.slice A1 poly.length c1,.slice A2 pts.length c2] 44)).alloc (.cells #[.slice none 0 0,.slice none 0 0] 52));have hB:Below w.heap.size w Z:=by rw[hZ];exact (β).alloc (by simp) _
 have b0:Hid (Bxs Z s [.int .i64 S.p,.int .i64 S.m,.slice A S.mod.length c,.int .i64 D.p,.int .i64 D.m,.slice B D.mod.length b,.slice A1 poly.length c1,.slice A2 pts.length c2]):=by rw[hZ,hs];exact (Bxs.new w _ _).keep (β) (by simp)
 have dx:Hid (Bxs Z (s+1) [.slice none 0 0,.slice none 0 0]):=by rw[hZ,hs];have:=Bxs.new (w.alloc (.cells #[.int .i64 S.p,.int .i64 S.m,.slice A S.mod.length c,.int .i64 D.p,.int .i64 D.m,.slice B D.mod.length b,.slice A1 poly.length c1,.slice A2 pts.length c2] 44)) [.slice none 0 0,.slice none 0 0] 52;rw[World.size_alloc]at this;exact this
 have cY:s+1<Z.heap.size:=by rw[hZ,hs];simp
 have b1:=hr.bm hB;have cf:=cT.bm hB;have cg:=cU.bm hB;have ch:=cV.bm hB;have ci:=cW.bm hB;have cj:=cX.bm hB;have I:=η (Qoi S D poly pts A B A1 A2 c b c1 c2 Z b1 cf hS hD cg ch hz);have cZ:=fun W a=>η (QeP S.z A c W a hS)
 obtain⟨d,hd⟩:=ε (Qig S.z D poly);obtain⟨T,hT⟩:=ε (poly.length - 1);have et:1≤T:=by omega
 have eu:T≤64:=by omega
 have cm:(Qsv S.z D poly∧d=2*(T:Int)+1)∨(¬ Qsv S.z D poly∧d=(T:Int)+1):=by
  by_cases h:Qsv S.z D poly
  ·exact .inl ⟨h,by rw[hd,QfX h,hT]⟩
  ·exact .inr ⟨h,by rw[hd,QhZ h,hT]⟩
 have ev:2≤d∧d≤129:=by omega
 rw[←hd]at I;have aN:=η hz;have aO:=η hD;have bz:=η hS;obtain⟨E,hE⟩:=ε (Qbo S.z wl pts.length er);obtain⟨u,hu⟩:∃u:Nat→R S.z,u=fun j=>eli S.z (wl[j]?.getD 0):=⟨_,rfl⟩
 unfold Ql0;rw[←hE,←hu];replace hE:=η hE;replace hu:=η hu;replace hd:=η hd;replace hT:=η hT;replace cm:=η cm;replace hZ:=η hZ;clear hr cT cU cV hz hD;go_enter Tryz.func20,Tryz.ntmps20;obtain⟨O,U,X,Y,a4,a5,a6,a7⟩:=b0.out.c8;go_wp2_with fail;rw[←hZ.out];simp only[←hs];have dy:w.heap.size≤s:=Nat.le_of_eq hs.symm;replace hs:=η hs;go_wp2_with fail;(with_reducible refine I.out.mono ?_);rintro e w1 ⟨rfl,bw⟩;clear I O U X Y a4 a5 a6 a7;have ew:=ζ hB bw;have I:=cZ w1 (b1.bm bw);obtain⟨O,U,X,Y,a4,a5,a6,a7⟩:=(b0.out.keep bw (by omega)).c8;clear cZ;go_wp2_with fail;(with_reducible refine I.out.mono ?_);rintro e w2 ⟨g,S2,cn,rfl,eF,dl,ef⟩;clear I O U X Y a4 a5 a6 a7;have aR:=ζ bw ef;have I:=QkO S2 wl er pts.length cB Aw Ae cw ce g w2 dl (ci.bm aR) (cj.bm aR) dw bZ;rw[cn,←hE.out]at I;replace I:=η I;replace cn:=η cn;obtain⟨O,U,X,Y,a4,a5,a6,a7⟩:=(b0.out.keep aR (by omega)).c8;go_wp2_with fail;(with_reducible refine I.out.mono ?_);rintro e w3 ⟨rfl,eg⟩;clear I O U X Y a4 a5 a6 a7;have aj:=ζ aR eg;have aS:=ζ hB aj;have bB:=dx.out.keep aj cY;by_cases ay:E=0;rotate_left
 ·have dz:(E !=0)=true:=by rw[bne_iff_ne];exact ay
  obtain⟨q0,q1⟩:=bB.c2;obtain⟨f0,f1⟩:=bB.f2;have dA:=η (aS.trans ((QeF (w:=w3) (b:=s+1) (.slice none 0 0) (.slice none 0 0)).mono (by omega)));replace ay:=η ay;clear bB;go_wp2_with fail;exact bodyPost_ret (v:=.tuple #[.agg #[.slice none 0 0,.slice none 0 0],.int .i64 E]) (by simp[results,Tryz.results20,go_sem,q0,q1]) rfl (.inl ⟨ay.out,rfl,dA.out⟩)
 have dz:(E !=0)=false:=by rw[bne_eq_false_iff_eq];exact ay
 obtain⟨b4,dQ,bR,b9⟩:=Qfl (hE.out.symm.trans ay);replace ay:=η ay;have b3:wl=QaK S.z pts.length u:=by rw[hu.out,←b4];exact QfN dQ
 have co:=ci.bm aj;rw[b3]at co;replace b4:=η b4;replace b3:=η b3;obtain⟨aC,aT⟩:=ε (QlN d (er.length:Int));have I:=Qfo d (er.length:Int) w3 ⟨by omega,by omega⟩ ⟨by omega,by omega⟩;rw[←aT]at I;replace I:=η I;replace aT:=η aT;have cr:=b1.bm aj;have c3:=cf.bm aj;have c7:=cg.bm aj;have c9:=ch.bm aj;have da:=cj.bm aj;have b5:s+1<w3.heap.size:=θ cY aj.size;have cs:=η bB;have bC:=η (b0.out.keep aj (show s<Z.heap.size by omega));have dB:Rd w w.heap.size Aw (QaK S.z pts.length u):=by rw[←b3.out];exact cW
 rw[b4.out];clear bB b1 cf cg ch ci cj dl;by_cases az:(pts.length:Int)<d
 ·have dC:decide ((pts.length:Int)<d)=true:=decide_eq_true az;have db:=η az;have ex:=QaC pts.length (by omega);have dc:=fun W (h:Below w3.heap.size w3 W)=>η (Qgo er pts.length cB bR Ae ce W (da.bm h) bZ)
  have dd:=fun (h:¬ aC<((Qbu (List.replicate pts.length 0) (QaK S.z pts.length u) er pts.length).length:Int))=>(show QeI S D poly pts u er 0 (List.replicate pts.length 0) (Qbu (List.replicate pts.length 0) (QaK S.z pts.length u) er pts.length) from Qw6 aN.out (by rw[←hd.out];exact db.out) (by rw[←hd.out,←aT.out];omega))
  have de:=fun (h:aC<((Qbu (List.replicate pts.length 0) (QaK S.z pts.length u) er pts.length).length:Int))=>(show QeI S D poly pts u er 12 [] [] from Qwt aN.out (by rw[←hd.out];exact db.out) (by rw[←hd.out,←aT.out];exact h))
  have dD:∀gz gm W,w3.heap.size≤gz→Below w3.heap.size w3 W→IB W gz (List.replicate pts.length 0)→BB W gm pts.length (fun i=>decide ((i:Int)∈er))→Hid (Calls Tryz.prog 63 #[.slice (some ⟨gz,0,none⟩) pts.length pts.length,.slice Aw pts.length cw,.slice (some ⟨gm,0,none⟩) pts.length pts.length,.int .i64 aC] W fun e w'=>∃ (Aa Ab:Option Addr) (ca cb:Nat) (ec:Int) (la lb:List Int),e=.returned (.tuple #[.agg #[.slice Aa la.length ca,.slice Ab lb.length cb],.int .i64 ec])∧QeI S D poly pts u er ec la lb∧Rd w' w'.heap.size Aa la∧Rd w' w'.heap.size Ab lb∧(∀a,Aa=some a→s+1<a.block)∧(∀a,Ab=some a→s+1<a.block)∧Below W.heap.size W w'):=fun gz gm W x0 x1 x2 x3=>by
   refine (Qfm pts.length (List.replicate pts.length 0) (QaK S.z pts.length u) er aC cB List.length_replicate (Qae _ _ _) (some ⟨gz,0,none⟩) Aw pts.length cw gm W x2.rd (co.bm x1) x3).mono ?_;rintro e w' ⟨hb,⟨eh,ei,ej,rfl,ek,el⟩ |⟨em,rfl⟩⟩
   ·exact⟨some ⟨gz,0,none⟩,ei,pts.length,ej,0,List.replicate pts.length 0,_,by rw[List.length_replicate],dd eh,(x2.below hb x2.lt).rd,ek,fun a e=>by cases e;show s+1<gz;omega,fun a e=>by have h1:=el a e;have h2:=x1.size;omega,hb⟩
   ·exact⟨none,none,0,0,12,[],[],rfl,de em,Rd.nil,Rd.nil,(fun _ e=>by cases e),(fun _ e=>by cases e),hb⟩
  clear dd de;have am:Hid (Below w3.heap.size w3 w3.drew):=κ.drew;obtain⟨O,U,X,Y,a4,a5,a6,a7⟩:=bC.out.c8;go_wp2_with fail;(with_reducible refine I.out.mono ?_);rintro e wq ⟨rfl,rfl⟩;clear I O U X Y a4 a5 a6 a7;replace az:=η az;go_wp2_with fail;have ag:w3.heap.size≤w3.drew.heap.size:=Nat.le_refl _;refine wp_region_held_drew (S:=fun w'=>True) (by kernel_rfl) (by (try dsimp only);all_goals trivial) (fun hHeld=>?_)
  revert ag am hHeld
  generalize w3.drew=wq;intro am ag hHeld;refine tk 0 ?_;simp only[pS]
  refine tk 2 ?_;simp only[pS]
  refine tk 3 ?_;simp only[pS]
  refine tk 4 ?_;simp only[pS]
  refine tk 6 ?_;simp only[pS]
  refine wpAnyH_ready (rs:=[1,5]) (by kernel_rfl) (by simp) ?_;refine AllReadyH.cons (o:=⟨_,_,_,_,_,_⟩) rfl (fun K hK=>?_) ?_
  all_goals first
   |(go_simp
     obtain⟨wz,gz,aD,ae,aF,aK⟩:=mk0 wq pts.length;rw[←aD];simp only[←ae];try replace aJ:=aJ.below aF aJ.lt
     have df:w3.heap.size≤gz:=(by rw[ae];exact ag);replace am:=η (am.out.trans (aF.mono ag));replace ag:=τ ag aF.size;replace aD:=η aD;replace ae:=η ae;clear aF aD ae;refine hK.out _ _ (by (try dsimp only);all_goals trivial) (fun hHeld=>?_);clear hK K;try simp only[pS]
     refine rd 5 fun K hK=>?_
     go_simp;go_at_call 64;(with_reducible refine (dc _ am.out).out.mono ?_);rintro e wq ⟨gm,rfl,en,aJ,bi⟩;try replace aK:=aK.below bi aK.lt
     replace am:=η (am.out.trans (bi.mono ag));replace ag:=τ ag bi.size;go_wp2_with fail)
   |(refine AllReadyH.cons (o:=⟨_,_,_,_,_,_⟩) rfl (fun K hK=>?_) AllReadyH.nil
     go_simp;go_at_call 64;(with_reducible refine (dc _ am.out).out.mono ?_);rintro e wq ⟨gm,rfl,en,aJ,bi⟩;try replace aK:=aK.below bi aK.lt
     replace am:=η (am.out.trans (bi.mono ag));replace ag:=τ ag bi.size;go_wp2_with fail;refine hK.out _ _ (by (try dsimp only);all_goals trivial) (fun hHeld=>?_);clear hK K;try simp only[pS]
     refine rd 1 fun K hK=>?_
     go_simp;obtain⟨wz,gz,aD,ae,aF,aK⟩:=mk0 wq pts.length;rw[←aD];simp only[←ae];try replace aJ:=aJ.below aF aJ.lt
     have df:w3.heap.size≤gz:=(by rw[ae];exact ag);replace am:=η (am.out.trans (aF.mono ag));replace ag:=τ ag aF.size;replace aD:=η aD;replace ae:=η ae;clear aF aD ae)
  all_goals
   refine hK.out _ _ (by (try dsimp only);all_goals trivial) (fun hHeld=>?_);clear hK K;try simp only[pS]
   refine rd 7 fun K hK=>?_
   go_simp;go_at_call 63;(with_reducible refine (dD gz gm _ df am.out aK aJ).out.mono ?_);rintro e w5 ⟨Aa,Ab,ca,cb,ec,la,lb,rfl,bj,aL,aM,bT,bU,bk⟩;have dg:=am.out.trans (bk.mono ag);have aA:=cs.out.keep dg b5;obtain⟨q0,q1⟩:=aA.c2;obtain⟨f0,f1⟩:=aA.f2;have bD:=η (QlZ (ca:=ca) (cb:=cb) (ζ aS dg) (by omega) bj aL aM bT bU);clear aA aL aM;go_wp2_with fail;refine hK.out _ _ (by (try dsimp only);all_goals trivial) (fun hHeld=>?_);clear hK K;try simp only[pS]
   refine tk 8 ?_;simp only[pS]
   refine tk 9 ?_;simp only[pS]
   refine rd 10 fun K hK=>?_
   go_simp;refine hK.out _ _ (by (try dsimp only);all_goals trivial) (fun hHeld=>?_);clear hK K;try simp only[pS]
   refine tk 11 ?_;simp only[pS]
   refine δ ?_;go_wp2_with fail;exact bodyPost_ret (v:=.tuple #[.agg #[.slice Aa la.length ca,.slice Ab lb.length cb],.int .i64 ec]) (by simp[results,Tryz.results20,go_sem,q0,q1]) rfl (.inr ⟨ay.out,bD.out⟩)
 have dC:decide ((pts.length:Int)<d)=false:=decide_eq_false az;have eA:IntKind.i64.wrap (d - 1)=d - 1:=by rw[IntWalk.i64_in _ (by omega)]
 have eB:IntKind.i64.wrap ((poly.length:Int) - 1)=(T:Int):=by rw[IntWalk.i64_in _ (by omega)];have:=hT.out;omega
 have b6:=I;rcases cm.out with ⟨bu,aU⟩ |⟨bu,aU⟩
 ·have dE:decide ((T:Int)<d - 1)=true:=decide_eq_true (by omega);have dF:=η bu;have dG:2*T≤64:=by omega
  have I:=Qor S D poly pts A B A1 A2 c b c1 c2 w3 cr c3 bz.out aO.out c7 c9 aN.out;unfold Qeg at I;rw[←hT.out]at I;obtain⟨p2,b7⟩:=ε (sq2 D poly);rw[←b7]at I;replace I:=η I;replace b7:=η b7;replace aU:=η aU;replace az:=η az;replace bu:=η bu;obtain⟨O,U,X,Y,a4,a5,a6,a7⟩:=bC.out.c8;go_wp2_with fail;(with_reducible refine b6.out.mono ?_);rintro e wq ⟨rfl,rfl⟩;go_wp2_with fail;(with_reducible refine I.out.mono ?_);rintro e w4 ⟨au,⟨dn,-⟩ |⟨dn,Aa,Ab,Ap,Aq,ca,cb,cp,cq,rfl,ra,rb,rp,rq,eo,ep,eq⟩⟩
  ·exact absurd dn (by omega)
  clear I b6 O U X Y a4 a5 a6 a7;have b8:=bC.out.keep au (show s<w3.heap.size by omega);have dh:=cs.out.keep au b5;obtain⟨V,hV⟩:=ε (Qbh w4 s 0 [.int .i64 S.p,.int .i64 S.m,.slice Aa S.mod.length ca,.int .i64 D.p,.int .i64 D.m,.slice Ab D.mod.length cb,.slice Ap p2.length cp,.slice Aq pts.length cq]);have di:Hid (Bxs V s [.int .i64 S.p,.int .i64 S.m,.slice Aa S.mod.length ca,.int .i64 D.p,.int .i64 D.m,.slice Ab D.mod.length cb,.slice Ap p2.length cp,.slice Aq pts.length cq]):=by rw[hV];exact b8.store _ rfl
  have dH:Hid (Bxs V (s+1) [.slice none 0 0,.slice none 0 0]):=by rw[hV];exact dh.farS (by omega) _ 0
  have bE:V.heap.size=w4.heap.size:=by rw[hV];exact Qbv _ 0 _
  have dI:=ζ aS au;have bv:Below w.heap.size w V:=by rw[hV];exact stAll_below (b:=s) dy _ _ _ dI
  have dJ:s+1<V.heap.size:=by rw[bE];exact θ b5 au.size
  have bF:∀a,(Aa=some a∨Ab=some a∨Ap=some a∨Aq=some a)→a.block≠s:=fun a e=>by have:=eo a e;omega
  have dj:Rd V V.heap.size Aa (Qan S.z):=by rw[bE,hV];exact ra.farS (fun a e=>bF a (.inl e)) _ 0
  have dK:Rd V V.heap.size Ab (Qan D):=by rw[bE,hV];exact rb.farS (fun a e=>bF a (.inr (.inl e))) _ 0
  have dL:Rd V V.heap.size Ap p2:=by rw[bE,hV];exact rp.farS (fun a e=>bF a (.inr (.inr (.inl e)))) _ 0
  have dM:Rd V V.heap.size Aq pts:=by rw[bE,hV];exact rq.farS (fun a e=>bF a (.inr (.inr (.inr e)))) _ 0
  have dN:=dB.bm bv;have dO:=cX.bm bv;have bG:Hid (p2=Qix D poly poly∧p2.length=T+T+1):=by
   obtain⟨F0,cE⟩:=QhF aO.out;subst cE;obtain⟨n0,dU,dV,-,-⟩:=QdU aN.out;have e9:T=n0:=by have:=hT.out;omega
   subst e9;rw[Hid,b7.out];exact Qtn dU dV
  have aV:Hid (QcP S.z D p2 pts=0):=by
   obtain⟨F0,cE⟩:=QhF aO.out;subst cE;exact Qws aN.out bG.out.1 (by rw[←hT.out];exact bG.out.2) (by rw[←hT.out];exact dG)
  have aW:Hid (d=((p2.length - 1:Nat):Int)+1):=by rw[Hid,bG.out.2,aU.out];omega
  obtain⟨y0,y1,y2,y3,y4,y5,y6,y7⟩:=b8.c8;obtain⟨g0,g1,g2,g3,g4,g5,g6,g7⟩:=b8.f8;obtain⟨O,U,X,Y,a4,a5,a6,a7⟩:=di.out.c8;have bH:=hV;simp only[Qbh,Nat.reduceAdd]at bH;rw[bH]at O U X Y a4 a5 a6 a7;replace hV:=η hV;replace bH:=η bH;clear dh b8 bF ra rb rp rq;obtain⟨kn,aE⟩:=ε (pts.length - min (p2.length - 1) pts.length);have I:=QqG S D p2 pts Aa Ab Ap Aq ca cb cp cq V dj dK bz.out aO.out dL dM ep eq aV.out;unfold QjL at I;rw[←aE]at I;have an:kn=pts.length - (p2.length - 1):=by rw[aE];omega
  replace aE:=η aE;replace an:=η an;replace I:=η I;have bI:s+1<V.heap.size:=dJ;go_wp2_with fail;rw[←bH.out];(with_reducible refine I.out.mono ?_);rintro e w4 ⟨J,A4,A5,A6,c4,c5,c6,rfl,rfl,cI,cJ,cK,cL,cM,au⟩;clear I O U X Y a4 a5 a6 a7 y0 y1 y2 y3 y4 y5 y6 y7 g0 g1 g2 g3 g4 g5 g6 g7;have bJ:=ζ bv au;obtain⟨Y4,ao⟩:=ε (w4.alloc (.cells #[.int .i64 J.p,.int .i64 J.m,.slice A4 J.mod.length c4,.int .i64 (kn:Int),.slice A5 pts.length c5,.slice A6 pts.length c6] 94));have ah:Below w4.heap.size w4 Y4:=by rw[ao];exact β
  have af:=ζ au ah;have bK:=ζ bJ ah;obtain⟨p4,bS⟩:=ε (w4.heap.size);have ct:Hid (Bxs Y4 p4 [.int .i64 J.p,.int .i64 J.m,.slice A4 J.mod.length c4,.int .i64 (kn:Int),.slice A5 pts.length c5,.slice A6 pts.length c6]):=by rw[ao,bS];exact Bxs.new w4 _ _
  have cu:=cI.bm ah;have cv:=cJ.bm ah;have cx:=cK.bm ah;have cy:=dj.bm af;have cz:=dN.bm af;have cA:=dO.bm af;have bL:p2.length - 1≤pts.length:=by have:=aW.out;have:=az.out;omega
  have bM:=Qh0 aV.out bL;have ae:=Qjp bM;rw[show (pts.length:Int) - ((p2.length - 1:Nat):Int)=(kn:Int) from by have:=an.out;omega]at ae;have bN:∀e:Nat,2*e+er.length+kn≤pts.length→(e:Int)≤aC:=fun e h=>by
   have h9:=(QhX (f:=er.length) (e:=e) (show kn≤pts.length by have:=an.out;omega)).2 h;rw[show (pts.length:Int) - (kn:Int)+1=d from by have:=an.out;have:=aW.out;omega,←aT.out]at h9;exact h9
  have I:=QhY S J.z kn pts (Qck J pts (Qh5 J p2 pts)) er u aC Aa A4 A5 A6 Aw Ae ca c4 c5 c6 cw ce Y4 bz.out aO.out ae dk cy cu cv cx cL cM cz cA bZ bR b9 bN;rw[QbP]at I;unfold Qgp at I;replace I:=η I;have aX:s+1<Y4.heap.size:=θ bI af.size;obtain⟨O,U,X,Y,a4,a5,a6,a7⟩:=(di.out.keep af (show s<V.heap.size by omega)).c8;obtain⟨e0,e1,e2,e3,e4,e5⟩:=ct.out.c6;rw[ao]at O U X Y a4 a5 a6 a7 e0 e1 e2 e3 e4 e5;rw[bS]at e0 e1 e2 e3 e4 e5;have bP:=dH.out.keep af bI;replace ao:=η ao;clear ae bM bN;go_wp2_with fail;rw[←ao.out];(with_reducible refine I.out.mono ?_);rintro e w5 ⟨bk,F1,rt1,cN,cO,bX,bY,ec,la,lb,av,cP,rfl,bj,aL,aM,bT,bU⟩;clear I O U X Y a4 a5 a6 a7 e0 e1 e2 e3 e4 e5;have bQ:QeI S J.z poly pts u er ec la lb:=by
   have h:=Qwu (F1:=F1) (rt1:=rt1) (q:=p2) (poly:=poly) (u:=u) (ec:=ec) (la:=la) (lb:=lb) (by rw[av];exact aV.out) bL cP bR b9 (fun v=>QsB (by rw[av];exact aN.out) (by rw[av];exact dF.out) (by rw[av];exact bG.out.1) (by rw[←hT.out];exact bG.out.2)) (by rw[av,←hd.out];exact aW.out) (by rw[Qh1 av,←an.out];exact bj);rw[av]at h;exact h
  have aA:=bP.keep bk aX;obtain⟨q0,q1⟩:=aA.c2;obtain⟨f0,f1⟩:=aA.f2;have bD:=η (QlZ (ca:=bX) (cb:=bY) (ζ bK bk) (by omega) bQ aL aM (fun a e=>θ aX (bT a e)) (fun a e=>θ aX (bU a e)));clear aA aL aM bP bQ bj;go_wp2_with fail;exact bodyPost_ret (v:=.tuple #[.agg #[.slice cN la.length bX,.slice cO lb.length bY],.int .i64 ec]) (by simp[results,Tryz.results20,go_sem,q0,q1]) rfl (.inr ⟨ay.out,bD.out⟩)
 ·have dE:decide ((T:Int)<d - 1)=false:=decide_eq_false (by omega);have aV:=aN;have aW:Hid (d=((poly.length - 1:Nat):Int)+1):=by rw[Hid,aU,hT.out]
  replace aU:=η aU;replace az:=η az;replace bu:=η bu;obtain⟨O,U,X,Y,a4,a5,a6,a7⟩:=bC.out.c8;go_wp2_with fail;(with_reducible refine b6.out.mono ?_);rintro e wq ⟨rfl,rfl⟩;clear b6 I;obtain⟨kn,aE⟩:=ε (pts.length - min (poly.length - 1) pts.length);have I:=QqG S D poly pts A B A1 A2 c b c1 c2 w3 cr c3 bz.out aO.out c7 c9 du dv aV.out;unfold QjL at I;rw[←aE]at I;have an:kn=pts.length - (poly.length - 1):=by rw[aE];omega
  replace aE:=η aE;replace an:=η an;replace I:=η I;have bI:s+1<w3.heap.size:=b5;go_wp2_with fail;(with_reducible refine I.out.mono ?_);rintro e w4 ⟨J,A4,A5,A6,c4,c5,c6,rfl,rfl,cI,cJ,cK,cL,cM,au⟩;clear I O U X Y a4 a5 a6 a7;have bJ:=ζ aS au;obtain⟨Y4,ao⟩:=ε (w4.alloc (.cells #[.int .i64 J.p,.int .i64 J.m,.slice A4 J.mod.length c4,.int .i64 (kn:Int),.slice A5 pts.length c5,.slice A6 pts.length c6] 94));have ah:Below w4.heap.size w4 Y4:=by rw[ao];exact β
  have af:=ζ au ah;have bK:=ζ bJ ah;obtain⟨p4,bS⟩:=ε (w4.heap.size);have ct:Hid (Bxs Y4 p4 [.int .i64 J.p,.int .i64 J.m,.slice A4 J.mod.length c4,.int .i64 (kn:Int),.slice A5 pts.length c5,.slice A6 pts.length c6]):=by rw[ao,bS];exact Bxs.new w4 _ _
  have cu:=cI.bm ah;have cv:=cJ.bm ah;have cx:=cK.bm ah;have cy:=cr.bm af;have cz:=co.bm af;have cA:=da.bm af;have bL:poly.length - 1≤pts.length:=by have:=aW.out;have:=az.out;omega
  have bM:=Qh0 aV.out bL;have ae:=Qjp bM;rw[show (pts.length:Int) - ((poly.length - 1:Nat):Int)=(kn:Int) from by have:=an.out;omega]at ae;have bN:∀e:Nat,2*e+er.length+kn≤pts.length→(e:Int)≤aC:=fun e h=>by
   have h9:=(QhX (f:=er.length) (e:=e) (show kn≤pts.length by have:=an.out;omega)).2 h;rw[show (pts.length:Int) - (kn:Int)+1=d from by have:=an.out;have:=aW.out;omega,←aT.out]at h9;exact h9
  have I:=QhY S J.z kn pts (Qck J pts (Qh5 J poly pts)) er u aC A A4 A5 A6 Aw Ae c c4 c5 c6 cw ce Y4 bz.out aO.out ae dk cy cu cv cx cL cM cz cA bZ bR b9 bN;rw[QbP]at I;unfold Qgp at I;replace I:=η I;have aX:s+1<Y4.heap.size:=θ bI af.size;obtain⟨O,U,X,Y,a4,a5,a6,a7⟩:=(bC.out.keep af (show s<w3.heap.size by omega)).c8;obtain⟨e0,e1,e2,e3,e4,e5⟩:=ct.out.c6;rw[ao]at O U X Y a4 a5 a6 a7 e0 e1 e2 e3 e4 e5;rw[bS]at e0 e1 e2 e3 e4 e5;have bP:=cs.out.keep af bI;replace ao:=η ao;clear ae bM bN;go_wp2_with fail;rw[←ao.out];(with_reducible refine I.out.mono ?_);rintro e w5 ⟨bk,F1,rt1,cN,cO,bX,bY,ec,la,lb,av,cP,rfl,bj,aL,aM,bT,bU⟩;clear I O U X Y a4 a5 a6 a7 e0 e1 e2 e3 e4 e5;have bQ:QeI S J.z poly pts u er ec la lb:=by
   have h:=Qwu (F1:=F1) (rt1:=rt1) (q:=poly) (poly:=poly) (u:=u) (ec:=ec) (la:=la) (lb:=lb) (by rw[av];exact aV.out) bL cP bR b9 (fun _=>Iff.rfl) (by rw[av,←hd.out];exact aW.out) (by rw[Qh1 av,←an.out];exact bj);rw[av]at h;exact h
  have aA:=bP.keep bk aX;obtain⟨q0,q1⟩:=aA.c2;obtain⟨f0,f1⟩:=aA.f2;have bD:=η (QlZ (ca:=bX) (cb:=bY) (ζ bK bk) (by omega) bQ aL aM (fun a e=>θ aX (bT a e)) (fun a e=>θ aX (bU a e)));clear aA aL aM bP bQ bj;go_wp2_with fail;exact bodyPost_ret (v:=.tuple #[.agg #[.slice cN la.length bX,.slice cO lb.length bY],.int .i64 ec]) (by simp[results,Tryz.results20,go_sem,q0,q1]) rfl (.inr ⟨ay.out,bD.out⟩)
end Go.Proofs

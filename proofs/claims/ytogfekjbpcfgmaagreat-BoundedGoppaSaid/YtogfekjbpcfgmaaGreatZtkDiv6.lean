/- The reference's polynomials: Add, Sub, DivMod, Rem. -/
import Derived.Test.YtogfekjbpcfgmaaGreatZtkDiv5
set_option maxRecDepth 100000
set_option maxHeartbeats 16000000
set_option linter.unusedVariables false
namespace Go.Proofs
open Go.RowKit Cw
open CField (inv)
theorem QuR (D:Desc)(p q:List Int)(U I:Nat)(am:p.length=U)(an:q.length=I)(bb:U<I)(A A1 A2:Option Addr)(c c1 c2:Nat)(w:World)(aT:Rd w w.heap.size A1 p)(aU:Rd w w.heap.size A2 q)(bc:U≤20000)(be:I≤20000) :
  Calls Tryz.prog 234 #[.agg #[.int .i64 D.p,.int .i64 D.m,.slice A D.mod.length c],.slice A1 U c1,.slice A2 I c2] w (Qcj w.heap.size (QnI D p q) w):=by
 have hA:=fun y z W=>η (Qd7 D y z A D.mod.length c W)
 have aA:=fun k W h=>η (Qga D p k A A1 c c1 W h (by omega))
 have aB:=fun k W h=>η (Qga D q k A A2 c c2 W h (by omega))
 have hm:I=max p.length q.length:=by omega
 rw[am]at aA;rw[an]at aB;obtain⟨f,hf⟩:=ε (fun i=>cfR D p i+cfR D q i:Nat→R D)
 have aC:=Qea D f I;rw[show Qep (fun i=>ci (f i)) I=QnI D p q from by rw[hf,hm];rfl]at aC;have bf:=QaC I (by omega);have bg:(U:Int)<(I:Int):=by omega
 have bh:¬ (I:Int)≤(U:Int):=by omega
 have aD:¬ (I:Int)<(U:Int):=by omega
 have bi:(U:Int)≤(I:Int):=by omega
 have hC:=fun A' c' W h=>QaN D (lst I fun i=>ci (f i)) A A' c c' W h (by rw[Qab];omega)
 rw[aC,Qab]at hC;obtain⟨X,hX⟩:=ε (w.alloc (.cells #[.int .i64 D.p,.int .i64 D.m,.slice A D.mod.length c] 24));have aq:Below w.heap.size w X:=by rw[hX];exact β
 have aF:X.heap.size=w.heap.size+1:=by rw[hX];simp
 have aG:Bx X w.heap.size D A D.mod.length c:=by rw[hX];exact Bx.new w D A D.mod.length c _
 obtain⟨g,hg⟩:=ε (w.heap.size+1);obtain⟨Y,hY⟩:=ε (X.alloc (.cells (Array.replicate I (Value.int .i64 0)) 3));have V:IB Y g (upd I 0 fun i=>ci (f i)):=by rw[QaP,hY,hg,←aF];exact IB.newz X I
 have ar:Below X.heap.size X Y:=by rw[hY];exact β
 have aH:=ζ aq ar;have aI:=aG.below ar (by omega);have au:w.heap.size<g:=by omega
 replace hm:=η hm;replace am:=η am;replace an:=η an;replace hf:=η hf;replace hX:=η hX;replace hY:=η hY;clear aG aq aF ar;go_enter Tryz.func234,Tryz.ntmps234;go_wp2_with fail;rw[←hX.out];rw[←hY.out];simp only[←hg];replace hg:=η hg;go_loopw [8] (fun iS wr=>∃i:Nat,i≤I∧iS=.int .i64 i∧Hid (IB wr g (upd I i fun i=>ci (f i)))∧Bx wr w.heap.size D A D.mod.length c∧Below w.heap.size w wr) (fun iS _=>I - (intOf iS).toNat)
 case atStart=>exact⟨0,by omega,rfl,V,aI,aH⟩
 case round =>
  clear V aI aH hX hY;obtain⟨O,rfl⟩:=ε (wr:World);obtain⟨i,hi,rfl,V,aQ,T⟩:=hrel;have aW:=V.out.lt;have av:w.heap.size<O.heap.size:=by omega
  by_cases ba:i<I
  ·have i0:(0:Int)≤(i:Int):=by omega
   have i1:(i:Int)<(I:Int):=by omega
   have aX:Rd O.drew O.drew.heap.size A1 p:=(aT.bm T).drew;have aJ:=aA i O.drew aX;have aK:=fun W h=>aB i W h
   have ad:=fun W=>(hA (ci (cfR D p i)) (ci (cfR D q i)) W).out
   rw[Qam,Qam,show cfR D p i+cfR D q i=f i from by rw[hf.out]]at ad;obtain⟨y1,aj⟩:=ε (ci (cfR D p i));obtain⟨y2,ak⟩:=ε (ci (cfR D q i));obtain⟨v,hv⟩:=ε (ci (f i));rw[←aj]at aJ;rw[←ak]at aK;rw[←aj,←ak,←hv]at ad;have aL:=η aQ.cells;have aY:Hid (i<(upd I i fun i=>ci (f i)).length):=by unfold Hid;rw[Qaz];exact ba
   have aZ:=aU.bm T;replace ad:=fun W=>η (ad W)
   replace aj:=η aj;replace ak:=η ak;replace hv:=η hv;go_wp2_with fail;refine wp_region_held_drew (S:=fun w'=>w'.cell? ⟨w.heap.size,0,none⟩=some (.int .i64 D.p)∧w'.cell? ⟨w.heap.size,1,none⟩=some (.int .i64 D.m)∧w'.cell? ⟨w.heap.size,2,none⟩=some (.slice A D.mod.length c)) (by kernel_rfl) (by (try dsimp only);exact aL.out) (fun hHeld=>?_);refine tk 0 ?_;simp only[pS]
   refine tk 1 ?_;simp only[pS]
   refine tk 2 ?_;simp only[pS]
   refine tk 3 ?_;simp only[pS]
   refine tk 4 ?_;simp only[pS]
   refine tk 5 ?_;simp only[pS]
   refine tk 7 ?_;simp only[pS]
   refine tk 8 ?_;simp only[pS]
   refine tk 9 ?_;simp only[pS]
   refine rd 6 fun K J=>?_
   go_simp;go_at_call 235;(with_reducible refine (aJ).out.mono ?_);rintro e w3 ⟨rfl,aD⟩;have ac:=(Below.refl O.heap.size O).drew.trans aD;have af:=ac.size;have aM:=η (Qau ac av aL.out);have a0:=aK w3 ((aZ.below ac).more af);go_wp2_with fail;refine J.out _ _ aM.out fun hHeld=>?_;clear J K;try simp only[pS]
   refine rd 10 fun K J=>?_
   go_simp;go_at_call 235;(with_reducible refine (a0).out.mono ?_);rintro e w4 ⟨rfl,ay⟩;have aN:=ay.size;have aO:=η (Qau ay (θ av af) aM.out);go_wp2_with fail;refine J.out _ _ aO.out fun hHeld=>?_;clear J K;try simp only[pS]
   refine rd 11 fun K J=>?_
   go_simp;go_at_call 118;(with_reducible refine (ad w4).out.mono ?_);rintro e w5 ⟨rfl,aS⟩;have aw:=η (Qau aS (θ (θ av af) aN) aO.out);have aP:=(ac.trans (ay.mono af)).trans (aS.mono (τ af aN));have ax:=V.out.below aP aW;have a1:=ax.cell aY.out;have a2:=ax.frozen i;go_wp2_with fail;refine J.out _ _ aw.out fun hHeld=>?_;clear J K;try simp only[pS]
   refine tk 12 ?_;simp only[pS]
   refine rd 13 fun K J=>?_
   go_simp;refine J.out _ _ (Qau (B:=g) (κ.setCell (p:=⟨g,i,none⟩) ρ _) au aw.out) fun hHeld=>?_;clear J K;try simp only[pS]
   refine δ ?_;have al:=ax.set_ i v;rw[hv.out,QaY (f:=fun i=>ci (f i)),←hv.out]at al;have a3:Hid (Below w.heap.size w (w5.setCell ⟨g,i,none⟩ (.int .i64 v))):=(ζ T aP).setCell (p:=⟨g,i,none⟩) (Nat.le_of_lt au) _;have a4:Hid (Bx (w5.setCell ⟨g,i,none⟩ (.int .i64 v)) w.heap.size D A D.mod.length c):=Qau (B:=g) (κ.setCell (p:=⟨g,i,none⟩) ρ _) au aw.out;replace al:=η al;clear a1 a2;go_wp2_with fail;go_roundw
   case rel=>exact⟨i+1,by omega,by go_num,al,a4.out,a3.out⟩
   case measure=>simp[intOf];omega
  ·obtain rfl:i=I:=by omega
   rw[QaR]at V;obtain⟨q0,q1,q2⟩:=aQ.cells;have a5:=η (hC (some ⟨g,0,none⟩) i O V.out.rd);go_wp2_with fail;(with_reducible refine a5.out.mono ?_);rintro e w3 ⟨g3,rfl,a7,a8,ac⟩;go_wp2_with fail;go_ret;exact⟨g3,rfl,τ T.size a7,a8,ζ T ac⟩
theorem QuS (D:Desc)(p q:List Int)(I:Nat)(al:p.length=I)(am:q.length=I)(A A1 A2:Option Addr)(c c1 c2:Nat)(w:World)(aR:Rd w w.heap.size A1 p)(aS:Rd w w.heap.size A2 q)(ba:I≤20000) :
  Calls Tryz.prog 234 #[.agg #[.int .i64 D.p,.int .i64 D.m,.slice A D.mod.length c],.slice A1 I c1,.slice A2 I c2] w (Qcj w.heap.size (QnI D p q) w):=by
 have hA:=fun y z W=>η (Qd7 D y z A D.mod.length c W)
 have az:=fun k W h=>η (Qga D p k A A1 c c1 W h (by omega))
 have aA:=fun k W h=>η (Qga D q k A A2 c c2 W h (by omega))
 have hm:I=max p.length q.length:=by omega
 rw[al]at az;rw[am]at aA;obtain⟨f,hf⟩:=ε (fun i=>cfR D p i+cfR D q i:Nat→R D)
 have aB:=Qea D f I;rw[show Qep (fun i=>ci (f i)) I=QnI D p q from by rw[hf,hm];rfl]at aB;have bb:=QaC I (by omega);have hC:=fun A' c' W h=>QaN D (lst I fun i=>ci (f i)) A A' c c' W h (by rw[Qab];omega)
 rw[aB,Qab]at hC;obtain⟨X,V⟩:=ε (w.alloc (.cells #[.int .i64 D.p,.int .i64 D.m,.slice A D.mod.length c] 24));have ap:Below w.heap.size w X:=by rw[V];exact β
 have aD:X.heap.size=w.heap.size+1:=by rw[V];simp
 have aE:Bx X w.heap.size D A D.mod.length c:=by rw[V];exact Bx.new w D A D.mod.length c _
 obtain⟨g,hg⟩:=ε (w.heap.size+1);obtain⟨Y,hY⟩:=ε (X.alloc (.cells (Array.replicate I (Value.int .i64 0)) 3));have U:IB Y g (upd I 0 fun i=>ci (f i)):=by rw[QaP,hY,hg,←aD];exact IB.newz X I
 have aq:Below X.heap.size X Y:=by rw[hY];exact β
 have aF:=ζ ap aq;have aG:=aE.below aq (by omega);have ar:w.heap.size<g:=by omega
 replace hm:=η hm;replace al:=η al;replace am:=η am;replace hf:=η hf;replace V:=η V;replace hY:=η hY;clear aE ap aD aq;go_enter Tryz.func234,Tryz.ntmps234;go_wp2_with fail;rw[←V.out];rw[←hY.out];simp only[←hg];replace hg:=η hg;go_loopw [8] (fun iS wr=>∃i:Nat,i≤I∧iS=.int .i64 i∧Hid (IB wr g (upd I i fun i=>ci (f i)))∧Bx wr w.heap.size D A D.mod.length c∧Below w.heap.size w wr) (fun iS _=>I - (intOf iS).toNat)
 case atStart=>exact⟨0,by omega,rfl,U,aG,aF⟩
 case round =>
  clear U aG aF V hY;obtain⟨O,rfl⟩:=ε (wr:World);obtain⟨i,hi,rfl,U,aO,T⟩:=hrel;have aU:=U.out.lt;have au:w.heap.size<O.heap.size:=by omega
  by_cases a9:i<I
  ·have i0:(0:Int)≤(i:Int):=by omega
   have i1:(i:Int)<(I:Int):=by omega
   have aV:Rd O.drew O.drew.heap.size A1 p:=(aR.bm T).drew;have aH:=az i O.drew aV;have aI:=fun W h=>aA i W h
   have ac:=fun W=>(hA (ci (cfR D p i)) (ci (cfR D q i)) W).out
   rw[Qam,Qam,show cfR D p i+cfR D q i=f i from by rw[hf.out]]at ac;obtain⟨y1,ai⟩:=ε (ci (cfR D p i));obtain⟨y2,aj⟩:=ε (ci (cfR D q i));obtain⟨v,hv⟩:=ε (ci (f i));rw[←ai]at aH;rw[←aj]at aI;rw[←ai,←aj,←hv]at ac;have aJ:=η aO.cells;have aW:Hid (i<(upd I i fun i=>ci (f i)).length):=by unfold Hid;rw[Qaz];exact a9
   have aX:=aS.bm T;replace ac:=fun W=>η (ac W)
   replace ai:=η ai;replace aj:=η aj;replace hv:=η hv;go_wp2_with fail;refine wp_region_held_drew (S:=fun w'=>w'.cell? ⟨w.heap.size,0,none⟩=some (.int .i64 D.p)∧w'.cell? ⟨w.heap.size,1,none⟩=some (.int .i64 D.m)∧w'.cell? ⟨w.heap.size,2,none⟩=some (.slice A D.mod.length c)) (by kernel_rfl) (by (try dsimp only);exact aJ.out) (fun hHeld=>?_);refine tk 0 ?_;simp only[pS]
   refine tk 1 ?_;simp only[pS]
   refine tk 2 ?_;simp only[pS]
   refine tk 3 ?_;simp only[pS]
   refine tk 4 ?_;simp only[pS]
   refine tk 5 ?_;simp only[pS]
   refine tk 7 ?_;simp only[pS]
   refine tk 8 ?_;simp only[pS]
   refine tk 9 ?_;simp only[pS]
   refine rd 6 fun K J=>?_
   go_simp;go_at_call 235;(with_reducible refine (aH).out.mono ?_);rintro e w3 ⟨rfl,a4⟩;have ab:=(Below.refl O.heap.size O).drew.trans a4;have ae:=ab.size;have aK:=η (Qau ab au aJ.out);have aY:=aI w3 ((aX.below ab).more ae);go_wp2_with fail;refine J.out _ _ aK.out fun hHeld=>?_;clear J K;try simp only[pS]
   refine rd 10 fun K J=>?_
   go_simp;go_at_call 235;(with_reducible refine (aY).out.mono ?_);rintro e w4 ⟨rfl,ax⟩;have aL:=ax.size;have aM:=η (Qau ax (θ au ae) aK.out);go_wp2_with fail;refine J.out _ _ aM.out fun hHeld=>?_;clear J K;try simp only[pS]
   refine rd 11 fun K J=>?_
   go_simp;go_at_call 118;(with_reducible refine (ac w4).out.mono ?_);rintro e w5 ⟨rfl,aQ⟩;have av:=η (Qau aQ (θ (θ au ae) aL) aM.out);have aN:=(ab.trans (ax.mono ae)).trans (aQ.mono (τ ae aL));have aw:=U.out.below aN aU;have aZ:=aw.cell aW.out;have a0:=aw.frozen i;go_wp2_with fail;refine J.out _ _ av.out fun hHeld=>?_;clear J K;try simp only[pS]
   refine tk 12 ?_;simp only[pS]
   refine rd 13 fun K J=>?_
   go_simp;refine J.out _ _ (Qau (B:=g) (κ.setCell (p:=⟨g,i,none⟩) ρ _) ar av.out) fun hHeld=>?_;clear J K;try simp only[pS]
   refine δ ?_;have ak:=aw.set_ i v;rw[hv.out,QaY (f:=fun i=>ci (f i)),←hv.out]at ak;have a1:Hid (Below w.heap.size w (w5.setCell ⟨g,i,none⟩ (.int .i64 v))):=(ζ T aN).setCell (p:=⟨g,i,none⟩) (Nat.le_of_lt ar) _;have a2:Hid (Bx (w5.setCell ⟨g,i,none⟩ (.int .i64 v)) w.heap.size D A D.mod.length c):=Qau (B:=g) (κ.setCell (p:=⟨g,i,none⟩) ρ _) ar av.out;replace ak:=η ak;clear aZ a0;go_wp2_with fail;go_roundw
   case rel=>exact⟨i+1,by omega,by go_num,ak,a2.out,a1.out⟩
   case measure=>simp[intOf];omega
  ·obtain rfl:i=I:=by omega
   rw[QaR]at U;obtain⟨q0,q1,q2⟩:=aO.cells;have a3:=η (hC (some ⟨g,0,none⟩) i O U.out.rd);go_wp2_with fail;(with_reducible refine a3.out.mono ?_);rintro e w3 ⟨g3,rfl,a6,a7,ab⟩;go_wp2_with fail;go_ret;exact⟨g3,rfl,τ T.size a6,a7,ζ T ab⟩
theorem QuT (D:Desc)(p q:List Int)(I U:Nat)(am:p.length=I)(an:q.length=U)(bb:U<I)(A A1 A2:Option Addr)(c c1 c2:Nat)(w:World)(aT:Rd w w.heap.size A1 p)(aU:Rd w w.heap.size A2 q)(bc:I≤20000)(be:U≤20000) :
  Calls Tryz.prog 234 #[.agg #[.int .i64 D.p,.int .i64 D.m,.slice A D.mod.length c],.slice A1 I c1,.slice A2 U c2] w (Qcj w.heap.size (QnI D p q) w):=by
 have hA:=fun y z W=>η (Qd7 D y z A D.mod.length c W)
 have aA:=fun k W h=>η (Qga D p k A A1 c c1 W h (by omega))
 have aB:=fun k W h=>η (Qga D q k A A2 c c2 W h (by omega))
 have hm:I=max p.length q.length:=by omega
 rw[am]at aA;rw[an]at aB;obtain⟨f,hf⟩:=ε (fun i=>cfR D p i+cfR D q i:Nat→R D)
 have aC:=Qea D f I;rw[show Qep (fun i=>ci (f i)) I=QnI D p q from by rw[hf,hm];rfl]at aC;have bf:=QaC I (by omega);have bg:(U:Int)<(I:Int):=by omega
 have bh:¬ (I:Int)≤(U:Int):=by omega
 have aD:¬ (I:Int)<(U:Int):=by omega
 have bi:(U:Int)≤(I:Int):=by omega
 have hC:=fun A' c' W h=>QaN D (lst I fun i=>ci (f i)) A A' c c' W h (by rw[Qab];omega)
 rw[aC,Qab]at hC;obtain⟨X,hX⟩:=ε (w.alloc (.cells #[.int .i64 D.p,.int .i64 D.m,.slice A D.mod.length c] 24));have aq:Below w.heap.size w X:=by rw[hX];exact β
 have aF:X.heap.size=w.heap.size+1:=by rw[hX];simp
 have aG:Bx X w.heap.size D A D.mod.length c:=by rw[hX];exact Bx.new w D A D.mod.length c _
 obtain⟨g,hg⟩:=ε (w.heap.size+1);obtain⟨Y,hY⟩:=ε (X.alloc (.cells (Array.replicate I (Value.int .i64 0)) 3));have V:IB Y g (upd I 0 fun i=>ci (f i)):=by rw[QaP,hY,hg,←aF];exact IB.newz X I
 have ar:Below X.heap.size X Y:=by rw[hY];exact β
 have aH:=ζ aq ar;have aI:=aG.below ar (by omega);have au:w.heap.size<g:=by omega
 replace hm:=η hm;replace am:=η am;replace an:=η an;replace hf:=η hf;replace hX:=η hX;replace hY:=η hY;clear aG aq aF ar;go_enter Tryz.func234,Tryz.ntmps234;go_wp2_with fail;rw[←hX.out];rw[←hY.out];simp only[←hg];replace hg:=η hg;go_loopw [8] (fun iS wr=>∃i:Nat,i≤I∧iS=.int .i64 i∧Hid (IB wr g (upd I i fun i=>ci (f i)))∧Bx wr w.heap.size D A D.mod.length c∧Below w.heap.size w wr) (fun iS _=>I - (intOf iS).toNat)
 case atStart=>exact⟨0,by omega,rfl,V,aI,aH⟩
 case round =>
  clear V aI aH hX hY;obtain⟨O,rfl⟩:=ε (wr:World);obtain⟨i,hi,rfl,V,aQ,T⟩:=hrel;have aW:=V.out.lt;have av:w.heap.size<O.heap.size:=by omega
  by_cases ba:i<I
  ·have i0:(0:Int)≤(i:Int):=by omega
   have i1:(i:Int)<(I:Int):=by omega
   have aX:Rd O.drew O.drew.heap.size A1 p:=(aT.bm T).drew;have aJ:=aA i O.drew aX;have aK:=fun W h=>aB i W h
   have ad:=fun W=>(hA (ci (cfR D p i)) (ci (cfR D q i)) W).out
   rw[Qam,Qam,show cfR D p i+cfR D q i=f i from by rw[hf.out]]at ad;obtain⟨y1,aj⟩:=ε (ci (cfR D p i));obtain⟨y2,ak⟩:=ε (ci (cfR D q i));obtain⟨v,hv⟩:=ε (ci (f i));rw[←aj]at aJ;rw[←ak]at aK;rw[←aj,←ak,←hv]at ad;have aL:=η aQ.cells;have aY:Hid (i<(upd I i fun i=>ci (f i)).length):=by unfold Hid;rw[Qaz];exact ba
   have aZ:=aU.bm T;replace ad:=fun W=>η (ad W)
   replace aj:=η aj;replace ak:=η ak;replace hv:=η hv;go_wp2_with fail;refine wp_region_held_drew (S:=fun w'=>w'.cell? ⟨w.heap.size,0,none⟩=some (.int .i64 D.p)∧w'.cell? ⟨w.heap.size,1,none⟩=some (.int .i64 D.m)∧w'.cell? ⟨w.heap.size,2,none⟩=some (.slice A D.mod.length c)) (by kernel_rfl) (by (try dsimp only);exact aL.out) (fun hHeld=>?_);refine tk 0 ?_;simp only[pS]
   refine tk 1 ?_;simp only[pS]
   refine tk 2 ?_;simp only[pS]
   refine tk 3 ?_;simp only[pS]
   refine tk 4 ?_;simp only[pS]
   refine tk 5 ?_;simp only[pS]
   refine tk 7 ?_;simp only[pS]
   refine tk 8 ?_;simp only[pS]
   refine tk 9 ?_;simp only[pS]
   refine rd 6 fun K J=>?_
   go_simp;go_at_call 235;(with_reducible refine (aJ).out.mono ?_);rintro e w3 ⟨rfl,aD⟩;have ac:=(Below.refl O.heap.size O).drew.trans aD;have af:=ac.size;have aM:=η (Qau ac av aL.out);have a0:=aK w3 ((aZ.below ac).more af);go_wp2_with fail;refine J.out _ _ aM.out fun hHeld=>?_;clear J K;try simp only[pS]
   refine rd 10 fun K J=>?_
   go_simp;go_at_call 235;(with_reducible refine (a0).out.mono ?_);rintro e w4 ⟨rfl,ay⟩;have aN:=ay.size;have aO:=η (Qau ay (θ av af) aM.out);go_wp2_with fail;refine J.out _ _ aO.out fun hHeld=>?_;clear J K;try simp only[pS]
   refine rd 11 fun K J=>?_
   go_simp;go_at_call 118;(with_reducible refine (ad w4).out.mono ?_);rintro e w5 ⟨rfl,aS⟩;have aw:=η (Qau aS (θ (θ av af) aN) aO.out);have aP:=(ac.trans (ay.mono af)).trans (aS.mono (τ af aN));have ax:=V.out.below aP aW;have a1:=ax.cell aY.out;have a2:=ax.frozen i;go_wp2_with fail;refine J.out _ _ aw.out fun hHeld=>?_;clear J K;try simp only[pS]
   refine tk 12 ?_;simp only[pS]
   refine rd 13 fun K J=>?_
   go_simp;refine J.out _ _ (Qau (B:=g) (κ.setCell (p:=⟨g,i,none⟩) ρ _) au aw.out) fun hHeld=>?_;clear J K;try simp only[pS]
   refine δ ?_;have al:=ax.set_ i v;rw[hv.out,QaY (f:=fun i=>ci (f i)),←hv.out]at al;have a3:Hid (Below w.heap.size w (w5.setCell ⟨g,i,none⟩ (.int .i64 v))):=(ζ T aP).setCell (p:=⟨g,i,none⟩) (Nat.le_of_lt au) _;have a4:Hid (Bx (w5.setCell ⟨g,i,none⟩ (.int .i64 v)) w.heap.size D A D.mod.length c):=Qau (B:=g) (κ.setCell (p:=⟨g,i,none⟩) ρ _) au aw.out;replace al:=η al;clear a1 a2;go_wp2_with fail;go_roundw
   case rel=>exact⟨i+1,by omega,by go_num,al,a4.out,a3.out⟩
   case measure=>simp[intOf];omega
  ·obtain rfl:i=I:=by omega
   rw[QaR]at V;obtain⟨q0,q1,q2⟩:=aQ.cells;have a5:=η (hC (some ⟨g,0,none⟩) i O V.out.rd);go_wp2_with fail;(with_reducible refine a5.out.mono ?_);rintro e w3 ⟨g3,rfl,a7,a8,ac⟩;go_wp2_with fail;go_ret;exact⟨g3,rfl,τ T.size a7,a8,ζ T ac⟩
theorem Qsw (D:Desc)(p q:List Int)(A I J:Option Addr)(c c1 c2:Nat)(w:World)(O:Rd w w.heap.size I p)(T:Rd w w.heap.size J q)(U:p.length≤20000)(V:q.length≤20000) :
  Calls Tryz.prog 234 #[.agg #[.int .i64 D.p,.int .i64 D.m,.slice A D.mod.length c],.slice I p.length c1,.slice J q.length c2] w (Qcj w.heap.size (QnI D p q) w):=by
 rcases Nat.lt_trichotomy p.length q.length with h |h |h
 ·exact QuR D p q p.length q.length rfl rfl h A I J c c1 c2 w O T U V
 ·rw[←h];exact QuS D p q p.length rfl h.symm A I J c c1 c2 w O T U
 ·exact QuT D p q p.length q.length rfl rfl h A I J c c1 c2 w O T U V
theorem Qsx (D:Desc)(p q:List Int)(A X A2:Option Addr)(c c1 c2:Nat)(w:World)(hr:Rd w w.heap.size A (Qan D))(ar:Rd w w.heap.size X p)(au:Rd w w.heap.size A2 q)(av:p.length≤20000)(ai:q.length≤20000) :
  Calls Tryz.prog 220 #[.agg #[.int .i64 D.p,.int .i64 D.m,.slice A D.mod.length c],.slice X p.length c1,.slice A2 q.length c2] w (Qcj w.heap.size (QnI D p (Qcr D (ci (-(1:R D))) q)) w):=by
 obtain⟨Y,J⟩:=ε (w.alloc (.cells #[.int .i64 D.p,.int .i64 D.m,.slice A D.mod.length c] 24));have aj:=Bx.new w D A D.mod.length c 24;rw[←J]at aj;have hB:Below w.heap.size w Y:=by rw[J];exact β
 have ab:w.heap.size<Y.heap.size:=by rw[J];simp
 have T:=Qhg D 1 A D.mod.length c Y.drew;rw[QcQ]at T;obtain⟨y,hy⟩:=ε (ci (-(1:R D)));rw[←hy]at T ⊢;have V:=fun W a b=>Qgb D y q A A2 c c2 W a b ai
 have hA:=fun A3 c3 W a b=>Qsw D p (Qcr D y q) A X A3 c c1 c3 W a b av (τ (QhA D y q) ai)
 have al:=η aj.cells;unfold Qcj at V;replace T:=η T;replace V:=fun W a b=>η (V W a b)
 replace hA:=fun A3 c3 W a b=>η (hA A3 c3 W a b)
 replace hy:=η hy;replace J:=η J;go_enter Tryz.func220,Tryz.ntmps220;go_wp2_with fail;rw[←J.out];refine wp_region_held_drew (S:=fun w'=>w'.cell? ⟨w.heap.size,0,none⟩=some (.int .i64 D.p)∧w'.cell? ⟨w.heap.size,1,none⟩=some (.int .i64 D.m)∧w'.cell? ⟨w.heap.size,2,none⟩=some (.slice A D.mod.length c)) (by kernel_rfl) (by (try dsimp only);exact al.out) (fun hHeld=>?_);refine tk 0 ?_;simp only[pS]
 refine tk 1 ?_;simp only[pS]
 refine tk 2 ?_;simp only[pS]
 refine tk 3 ?_;simp only[pS]
 refine tk 5 ?_;simp only[pS]
 refine rd 4 fun K I=>?_
 go_simp;go_at_call 101;(with_reducible refine (T).out.mono ?_);rintro e w1 ⟨rfl,az⟩;have ae:=(Below.refl Y.heap.size Y).drew.trans az;have am:=ae.size;have an:=η (Qau ae ab al.out);have O:=ζ hB ae;have aw:=V w1 (hr.bm O) (au.bm O);go_wp2_with fail;refine I.out _ _ an.out fun hHeld=>?_;clear I K;try simp only[pS]
 refine rd 6 fun K I=>?_
 go_simp;go_at_call 222;(with_reducible refine (aw).out.mono ?_);rintro e w2 ⟨g2,rfl,aG,aC,af⟩;have ax:=af.size;have ao:=η (Qau af (θ ab am) an.out);have U:=ζ O af;have ay:=hA (some ⟨g2,0,none⟩) (Qcr D y q).length w2 (ar.bm U) aC.rd;go_wp2_with fail;refine I.out _ _ ao.out fun hHeld=>?_;clear I K;try simp only[pS]
 refine rd 7 fun K I=>?_
 go_simp;go_at_call 234;(with_reducible refine (ay).out.mono ?_);rintro e w3 ⟨g3,rfl,aE,aF,ap⟩;go_wp2_with fail;refine I.out _ _ (Qau ap (θ (θ ab am) ax) ao.out) fun hHeld=>?_;clear I K;try simp only[pS]
 refine tk 8 ?_;simp only[pS]
 refine δ ?_;go_wp2_with fail;go_ret;exact⟨g3,rfl,τ U.size aE,aF,ζ U ap⟩
end Go.Proofs

/- Layer 19 of the reference: a table read backwards, the code of a description. -/
import Derived.Test.YtogfekjbpcfgmaaGreatZtkBgoP
set_option maxRecDepth 100000
set_option maxHeartbeats 16000000
set_option linter.unusedVariables false
namespace Go.Proofs
open Go.RowKit Cw
theorem Qos (l:List Int)(x:Int)(A:Option Addr)(n c:Nat)(w:World)(h:Rd w w.heap.size A l)(O:l.length=n)(hl:n≤1000000) :
  Calls Tryz.prog 139 #[.slice A n c,.int .i64 x] w fun e w'=>e=.returned (.int .i64 (bkI l x))∧Below w.heap.size w w':=by
 replace O:=η O;go_enter Tryz.func139,Tryz.ntmps139;go_wp2_with fail;go_loopw [5] (fun i wr=>∃k:Nat,k≤n∧i=.int .i64 k∧(∀j,j<k→l[j]?.getD 0≠x)∧Below w.heap.size w wr) (fun i _=>n - (intOf i).toNat)
 case atStart=>exact⟨0,by omega,rfl,fun j hj=>absurd hj (Nat.not_lt_zero _),κ⟩
 case round =>
  obtain⟨k,hk,rfl,I,U⟩:=hrel;obtain⟨Y,rfl⟩:=ε (wr:World);by_cases ab:k<n
  ·obtain⟨b1,o1,rfl,ag,X⟩:=h.at_ (by rw[O.out];exact ab);have ac:=(U.cell (p:=⟨b1,o1+k,none⟩) ag).trans X;obtain⟨y,T⟩:=ε (l[k]?.getD 0);rw[←T]at ac;have k0:(0:Int)≤(k:Int):=by omega
   have k1:(k:Int)<(n:Int):=by omega
   by_cases J:y=x
   ·have hz:(y==x)=true:=by rw[beq_iff_eq];exact J
    have V:Hid (bkI l x=(k:Int)):=Qtl (by rw[O.out];exact ab) (by rw[←T];exact J) I;clear X T I J;go_wp2_with fail;go_ret;exact⟨by rw[V.out];rfl,U⟩
   ·have hz:(y==x)=false:=by rw[beq_eq_false_iff_ne];exact J
    have ad:Hid (∀j,j<k+1→l[j]?.getD 0≠x):=fun j hj=>by
     by_cases e:j=k
     ·rw[e,←T];exact J
     ·exact I j (by omega)
    clear X T I J;go_wp2_with fail;go_roundw
    case rel=>exact⟨k+1,by omega,by go_num,ad.out,U⟩
    case measure=>simp[intOf];omega
  ·obtain rfl:k=n:=by omega
   have V:Hid (bkI l x=0):=Qtm (by rw[O.out];exact I);clear I;go_wp2_with fail;go_ret;exact⟨by rw[V.out];rfl,U⟩
theorem Qwv (D:Desc){k:Nat} (I:k<D.m):eli D ((D.p ^ k:Nat):Int)=pw (Xc D) k:=by
 have hp:=D.p2;have O:D.p ^ k<D.q:=Nat.pow_lt_pow_right (by omega) I;rw[Qcy O,pwX I];refine R.ext' fun i J=>?_
 rw[Qnc J,Qb6 J];rcases Nat.lt_trichotomy i k with h |h |h
 ·rw[if_neg (by omega),Nat.pow_div (by omega) (by omega)];obtain⟨d,T⟩:∃d,k - i=d+1:=⟨k - i - 1,by omega⟩;rw[T,Nat.pow_succ];exact QjU (by rw[Nat.mul_mod_left,Nat.zero_mod])
 ·subst h;rw[if_pos rfl,Nat.div_self (Nat.pow_pos (by omega))];exact Ql6
 ·rw[if_neg (by omega),Nat.div_eq_of_lt (Nat.pow_lt_pow_right (by omega) h)];exact Qes
def xvN (D:Desc)(k:Nat):Nat:=D.p ^ min k (D.m - 1)
theorem Qu0 (D:Desc){k:Nat} (I:k<D.m):eli D (xvN D k:Int)=pw (Xc D) k:=by
 unfold xvN;rw[show min k (D.m - 1)=k from by omega];exact Qwv D I
theorem Qww (D:Desc)(k:Nat):xvN D k≤256:=by
 have I:=D.m1;have J:D.p ^ min k (D.m - 1)<D.q:=Nat.pow_lt_pow_right (by have:=D.p2;omega) (by omega);have:=D.q256;unfold xvN;omega
theorem QsD (D:Desc):xvN D 0=1:=by unfold xvN;rw[Nat.zero_min,Nat.pow_zero]
theorem Qu1 (D:Desc){k:Nat} (h:k+1<D.m):xvN D (k+1)=xvN D k*D.p:=by
 unfold xvN;rw[show min (k+1) (D.m - 1)=min k (D.m - 1)+1 from by omega,Nat.pow_succ]
theorem Qwx (D:Desc){k:Nat} (h:¬ k+1<D.m)(I:k<D.m):xvN D (k+1)=xvN D k:=by
 unfold xvN;rw[show min (k+1) (D.m - 1)=min k (D.m - 1) from by omega]
theorem Ql1 {S F:FD} {pts:List Int} {B:Option Addr} {s T V i I O X j b:Nat} {y:Int} {W W':World} {H:Nat} (J:Below H W W')(U:s+1<H)(Y:T<H)(h3:I<H)(h:W.cell? ⟨s,1,none⟩=some (.int .i64 S.m)∧W.cell? ⟨s+1,0,none⟩=some (.int .i64 F.p)∧W.cell? ⟨s+1,1,none⟩=some (.int .i64 F.m)∧W.cell? ⟨s+1,2,none⟩=some (.slice B F.mod.length b)∧W.cell? ⟨T,V+i,none⟩=some (.slice (some ⟨I,O,none⟩) pts.length X)∧W.cell? ⟨I,O+j,none⟩=some (.int .i64 y)):W'.cell? ⟨s,1,none⟩=some (.int .i64 S.m)∧W'.cell? ⟨s+1,0,none⟩=some (.int .i64 F.p)∧W'.cell? ⟨s+1,1,none⟩=some (.int .i64 F.m)∧W'.cell? ⟨s+1,2,none⟩=some (.slice B F.mod.length b)∧W'.cell? ⟨T,V+i,none⟩=some (.slice (some ⟨I,O,none⟩) pts.length X)∧W'.cell? ⟨I,O+j,none⟩=some (.int .i64 y) :=
 ⟨(J.cell (p:=⟨s,1,none⟩) (Nat.lt_of_succ_lt U)).trans h.1,(J.cell (p:=⟨s+1,0,none⟩) U).trans h.2.1,(J.cell (p:=⟨s+1,1,none⟩) U).trans h.2.2.1,(J.cell (p:=⟨s+1,2,none⟩) U).trans h.2.2.2.1,(J.cell (p:=⟨T,V+i,none⟩) Y).trans h.2.2.2.2.1,(J.cell (p:=⟨I,O+j,none⟩) h3).trans h.2.2.2.2.2⟩
theorem Qm7 {S:FD} {A:Option Addr} {s c:Nat} {W W':World} {H:Nat} (I:Below H W W')(J:s<H)(h:W.cell? ⟨s,0,none⟩=some (.int .i64 S.p)∧W.cell? ⟨s,1,none⟩=some (.int .i64 S.m)∧W.cell? ⟨s,2,none⟩=some (.slice A S.mod.length c)):W'.cell? ⟨s,0,none⟩=some (.int .i64 S.p)∧W'.cell? ⟨s,1,none⟩=some (.int .i64 S.m)∧W'.cell? ⟨s,2,none⟩=some (.slice A S.mod.length c) :=
 ⟨(I.cell (p:=⟨s,0,none⟩) J).trans h.1,(I.cell (p:=⟨s,1,none⟩) J).trans h.2.1,(I.cell (p:=⟨s,2,none⟩) J).trans h.2.2⟩
def Qdj (S F:FD)(r:R F.z)(N t:Nat)(h:Nat→Nat→R F.z)(w:World)(e:Ending)(w':World):Prop :=
 ∃ (k:Nat) (C:Nat→Nat→R S.z) (I:Option Addr) (O:Nat) (J:Option Addr) (cl:Nat),e=.returned (.agg #[.int .i64 S.p,.int .i64 S.m,.slice I S.mod.length O,.int .i64 N,.slice J k cl]) ∧
  VC S.p S.m N (Qan S.z) k (Qaw S.z N C) S N C∧(∀u,Qb2 k N C u↔Qcc S F r N t h u)∧Rd w' w'.heap.size I (Qan S.z)∧(∀b,I=some b→w.heap.size≤b.block)∧Qfb w' w.heap.size w'.heap.size J k (Qaw S.z N C)∧Below w.heap.size w w'
theorem Qot (S F:FD)(rt kn:Nat)(pts mul:List Int)(A B A1 A2:Option Addr)(c b c1 c2:Nat)(w:World)(hS:Qcq S.p S.m (Qan S.z))(hp:S.p=F.p)(aW:Qjl S F rt)(b6:S.m∣F.m)(hr:Rd w w.heap.size A (Qan S.z))(aK:Rd w w.heap.size B (Qan F.z))(bp:Rd w w.heap.size A1 pts)(b7:Rd w w.heap.size A2 mul)
  (b8:mul.length=pts.length) (b9:1≤pts.length) (aX:pts.length≤64) (cU:kn≤pts.length) :
  Calls Tryz.prog 79 #[.agg #[.int .i64 S.p,.int .i64 S.m,.slice A S.mod.length c],.agg #[.int .i64 F.p,.int .i64 F.m,.slice B F.mod.length b,.int .i64 (kn:Int),.slice A1 pts.length c1,.slice A2 mul.length c2]] w (Qdj S F (rel F.z rt) pts.length (pts.length - kn) (Qsr F pts mul) w):=by
 have ef:=S.z.q256;have cV:=S.m8;have cW:=S.m1;have cd:=F.m8;have eg:=F.m1;have cX:=F.p256;obtain⟨t,ht⟩:=ε (pts.length - kn);have cf:t≤64:=by omega
 have cg:(pts.length:Int) - (kn:Int)=(t:Int):=by omega
 have bq:=fun W x1 x2 x3=>η (QnS F (kn:Int) pts mul B A1 A2 b c1 c2 W x1 x2 x3 b8 aX (by omega) (by omega))
 have bs:=fun A5 c5 W a b' c'=>η (QnX F.z t pts (Qck F pts mul) B A1 A5 b c1 c5 W a b' c' (QbP F pts mul) aX cf)
 obtain⟨h,hh⟩:=ε (Qsr F pts mul);have cY:Hid (QkE F.z pts (Qck F pts mul)=Qaw F.z pts.length h):=by rw[hh];exact QrZ F.z pts (Qck F pts mul)
 rw[←ht,←hh];rw[cg]at bq;rw[QbP,cY.out]at bs;obtain⟨M,hM⟩:=ε (trM S F rt h);have ch:∀u,QgG (t*F.m) pts.length M u↔Qcc S F (rel F.z rt) pts.length t h u:=fun u=>by rw[hM];exact QuW hp aW.2.1 b6
 obtain⟨K,I⟩:=ε (nuK S (t*F.m) pts.length M);obtain⟨NM,bQ⟩:=ε (nuM S (t*F.m) pts.length M);have eh:t*F.m≤64*8:=Nat.mul_le_mul cf cd;have cj:∀Ar V W,Rd W W.heap.size A (Qan S.z)→RdM W W.heap.size Ar (t*F.m) (Qaw S.z pts.length M)→Hid (Calls Tryz.prog 141 #[.agg #[.int .i64 S.p,.int .i64 S.m,.slice A S.mod.length c],.slice Ar (t*F.m) V,.int .i64 pts.length] W fun e w'=>∃Al cl,e=.returned (.slice Al K cl)∧RdM w' w'.heap.size Al K (Qaw S.z pts.length NM)∧Below W.heap.size W w'):=fun Ar V W a b'=>by
  refine (QqA S (t*F.m) pts.length M A Ar c V W a b' (by omega) (by omega)).mono ?_;rintro e w' ⟨p,rfl,Al,cl,rfl,hb,dN⟩;rw[I,bQ];exact⟨Al,cl,rfl,dN.rdm,hb⟩
 have ei:K≤64:=by rw[I];exact τ (Qwr _ _ _) aX
 obtain⟨T,bh⟩:=ε (rkS S K pts.length NM);obtain⟨C,hC⟩:=ε ((elS K NM pts.length).1);have cZ:Hid (∀u,Qb2 T pts.length C u↔Qcc S F (rel F.z rt) pts.length t h u):=fun u=>by
  rw[bh,hC,bQ,I];exact (QuX u).trans (ch u)
 have c4:Hid (VC S.p S.m pts.length (Qan S.z) T (Qaw S.z pts.length C) S pts.length C):=by
  rw[bh,hC];exact η (Qv7 S hS K pts.length NM b9 aX)
 have c7:∀Ar V W,Rd W W.heap.size A (Qan S.z)→RdM W W.heap.size Ar K (Qaw S.z pts.length NM)→Hid (Calls Tryz.prog 45 #[.agg #[.int .i64 S.p,.int .i64 S.m,.slice A S.mod.length c],.slice Ar K V,.int .i64 pts.length] W fun e w'=>∃A3 c3 Al cl,e=.returned (.agg #[.int .i64 S.p,.int .i64 S.m,.slice A3 S.mod.length c3,.int .i64 pts.length,.slice Al T cl])∧Rd w' w'.heap.size A3 (Qan S.z)∧(∀b,A3=some b→W.heap.size≤b.block)∧Qfb w' W.heap.size w'.heap.size Al T (Qaw S.z pts.length C)∧Below W.heap.size W w'):=fun Ar V W a b'=>by
  rw[bh,hC];exact η (QnO S K pts.length NM A Ar c V W a b' (by omega) (by omega))
 have bt:∀y:R F.z,bkI (Qov S F rt) (ci y)=ci (bk S F (rel F.z rt) y):=fun y=>QuV hp aW.2.1 y
 have cm:=fun W a b'=>η (Qof S F rt A B c b W a b' hp aW)
 have ej:=QaC pts.length (by omega);have ek:=η ht;have c8:=η cW;replace bt:=η bt;clear ch I bQ bh hC b8 cU cg hp aW b6 hS ht hh;obtain⟨s,hs⟩:=ε (w.heap.size);obtain⟨Z,hZ⟩:=ε (((w.alloc (.cells #[.int .i64 S.p,.int .i64 S.m,.slice A S.mod.length c] 24)).alloc (.cells #[.int .i64 F.p,.int .i64 F.m,.slice B F.mod.length b,.int .i64 (kn:Int),.slice A1 pts.length c1,.slice A2 mul.length c2] 94)).alloc (.cells #[.int .i64 0,.int .i64 0,.slice none 0 0,.int .i64 0,.slice none 0 0] 27));have U:Below w.heap.size w Z:=by rw[hZ];exact ((β).alloc (by simp) _).alloc (by simp;omega) _
 have cn:Z.heap.size=s+1+1+1:=by rw[hZ,hs];simp
 have aY:Hid (Bxs Z s [.int .i64 S.p,.int .i64 S.m,.slice A S.mod.length c]):=by rw[hZ,hs];exact ((Bxs.new w _ _).keep (β) (by simp)).keep (β) (by simp;omega)
 have aZ:Hid (Bxs Z (s+1) [.int .i64 F.p,.int .i64 F.m,.slice B F.mod.length b,.int .i64 (kn:Int),.slice A1 pts.length c1,.slice A2 mul.length c2]):=by
  rw[hZ,hs];have h9:=Bxs.new (w.alloc (.cells #[.int .i64 S.p,.int .i64 S.m,.slice A S.mod.length c] 24)) [.int .i64 F.p,.int .i64 F.m,.slice B F.mod.length b,.int .i64 (kn:Int),.slice A1 pts.length c1,.slice A2 mul.length c2] 94;rw[World.size_alloc]at h9;exact h9.keep (β) (by simp)
 have co:Hid (Bxs Z (s+1+1) [.int .i64 0,.int .i64 0,.slice none 0 0,.int .i64 0,.slice none 0 0]):=by
  rw[hZ,hs];have h9:=Bxs.new ((w.alloc (.cells #[.int .i64 S.p,.int .i64 S.m,.slice A S.mod.length c] 24)).alloc (.cells #[.int .i64 F.p,.int .i64 F.m,.slice B F.mod.length b,.int .i64 (kn:Int),.slice A1 pts.length c1,.slice A2 mul.length c2] 94)) [.int .i64 0,.int .i64 0,.slice none 0 0,.int .i64 0,.slice none 0 0] 27;rw[World.size_alloc,World.size_alloc]at h9;exact h9
 have hq:=bq Z (aK.bm U) (bp.bm U) (b7.bm U);have cp:s+1+1<Z.heap.size:=by omega
 replace hZ:=η hZ;replace cn:=η cn;clear bq;unfold Qdj;go_enter Tryz.func79,Tryz.ntmps79;obtain⟨a0,a1,a2⟩:=aY.out.c3;obtain⟨d0,d1,d2,d3,d4,d5⟩:=aZ.out.c6;go_wp2_with fail;rw[←hZ.out];simp only[←hs];have el:w.heap.size≤s:=Nat.le_of_eq hs.symm;replace hs:=η hs;go_wp2_with fail;(with_reducible refine hq.out.mono ?_);rintro e w1 ⟨g1,rfl,cN,bW⟩;clear hq;have a3:=ζ U bW;have hq:=bs (some ⟨g1,0,none⟩) pts.length w1 (aK.bm a3) (bp.bm a3) cN;clear bs cN;go_wp2_with fail;(with_reducible refine hq.out.mono ?_);rintro e w2 ⟨v2,rfl,cO,dQ⟩;obtain⟨Ac,cc,rfl,cI⟩:=cO.rdm;clear hq cO a0 a1 a2 d0 d1 d2 d3 d4 d5;have aM:=ζ bW dQ;have a4:=ζ U aM;have hq:=cm w2 (hr.bm a4) (aK.bm a4);obtain⟨a0,a1,a2⟩:=(aY.out.keep aM (by omega)).c3;obtain⟨d0,d1,d2,d3,d4,d5⟩:=(aZ.out.keep aM (by omega)).c6;clear cm;go_wp2_with fail;(with_reducible refine hq.out.mono ?_);rintro e w3 ⟨v3,rfl,cP,bX⟩;obtain⟨Ae,ce,rfl,cJ,cK,dE⟩:=cP.form;rw[QbT]at cJ ⊢;clear hq cP a0 a1 a2 d0 d1 d2 d3 d4 d5;have aN:=ζ aM bX;have aG:=ζ U aN;obtain⟨L,hL⟩:=ε (w3.heap.size);have cq:=cI.bm bX;have da:s+1+1<L:=by rw[hL];exact θ cp aN.size
 have cs:w.heap.size≤L:=by rw[hL];exact aG.size
 have bu:Hid (Bxs w3 s [.int .i64 S.p,.int .i64 S.m,.slice A S.mod.length c]):=aY.out.keep aN (by omega);have a5:Hid (Bxs w3 (s+1) [.int .i64 F.p,.int .i64 F.m,.slice B F.mod.length b,.int .i64 (kn:Int),.slice A1 pts.length c1,.slice A2 mul.length c2]):=aZ.out.keep aN (by omega);have db:Hid (Bxs w3 (s+1+1) [.int .i64 0,.int .i64 0,.slice none 0 0,.int .i64 0,.slice none 0 0]):=co.out.keep aN cp;have ct:=hr.bm aG;have bv:=aK.bm aG;rw[←hL]at cq cK ct bv;replace hL:=η hL;clear cI hr aK bp b7 aY aZ co dE cJ;obtain⟨d0,d1,d2,d3,d4,d5⟩:=a5.out.c6;go_wp2_with fail;clear d0 d1 d2 d3 d4 d5;go_loopw [9,8,10,11,12,13] (fun iS vS _ _ _ _ wr=>∃i:Nat,i≤t∧iS=.int .i64 i∧Qc4 wr L vS (i*F.m) (Qaw S.z pts.length M)∧Below L w3 wr) (fun iS _ _ _ _ _ _=>t - (intOf iS).toNat)
 case atStart=>exact⟨0,by omega,rfl,by rw[Nat.zero_mul];exact Qc4.nil _ _ _,κ⟩
 case round =>
  obtain⟨i,hi,rfl,aT,ay⟩:=hrel;obtain⟨w4,rfl⟩:=ε (wr:World);have ae:L≤w4.heap.size:=τ (Nat.le_of_eq hL.out) ay.size;by_cases ee:i<t
  ·have em:(0:Int)≤(i:Int):=by omega
   have en:(i:Int)<(t:Int):=by omega
   obtain⟨Av,cv,rfl⟩:=aT.size;have bw:=QsD F.z;replace bw:=η bw;go_wp2_with fail;go_loopw [11,8,10,12,13] (fun kS vS xS _ _ wr=>∃k:Nat,k≤F.m∧kS=.int .i64 k∧xS=.int .i64 (xvN F.z k:Int)∧Qc4 wr L vS (i*F.m+k) (Qaw S.z pts.length M)∧Below L w3 wr) (fun kS _ _ _ _ _=>F.m - (intOf kS).toNat)
   case atStart=>exact⟨0,by omega,rfl,by rw[bw.out];rfl,aT,ay⟩
   case round =>
    clear aT ay ae;obtain⟨k,hk,rfl,rfl,bj,aU⟩:=hrel;obtain⟨w4,rfl⟩:=ε (wr:World);have ae:L≤w4.heap.size:=τ (Nat.le_of_eq hL.out) aU.size;have bx:=η (bu.out.keep aU (by omega));have dc:=η (a5.out.keep aU (by omega));obtain⟨d0,d1,d2,d3,d4,d5⟩:=dc.out.c6;by_cases bm:k<F.m
    ·have eo:(0:Int)≤(k:Int):=by omega
     have ep:(k:Int)<(F.m:Int):=by omega
     obtain⟨bc,oc,Ar,V,rfl,dF,bU,dG,-⟩:=cq.at_ ee;rw[Qba]at bU;have cu:=η bU;obtain⟨br,az,rfl,dH,bV⟩:=dG (by rw[Qba];exact b9);rw[Qba]at bV;obtain⟨g,hg⟩:=ε (w4.heap.size);obtain⟨Y,hY⟩:=ε (w4.alloc (.cells (Array.replicate pts.length (Value.int .i64 0)) 3));obtain⟨X,hX⟩:=ε (xvN F.z k:Nat);have dd:Hid (eli F.z (X:Int)=pw (Xc F.z) k):=by rw[hX];exact Qu0 F.z bm
     have de:X≤256:=by rw[hX];exact Qww F.z k
     obtain⟨f,hf⟩:=ε (fun j=>ci (M (i*F.m+k) j):Nat→Int)
     have df:Hid (∀j,f j=ci (bk S F (rel F.z rt) (tr S.m (pw (Xc F.z) k*h i j)))):=fun j=>by
      rw[hf,hM];unfold trM;rw[Nat.mul_comm i F.m,(QiE bm).1,(QiE bm).2]
     have dg:Hid (lst pts.length f=Qaw S.z pts.length M (i*F.m+k)):=by rw[hf];exact η rfl
     have cw:Below g w4 Y:=by rw[hY,hg];exact β
     have cx:Hid (IB Y g (upd pts.length 0 f)):=by rw[hY,hg,QaP];exact η (IB.newz w4 pts.length)
     have cy:L≤g:=by rw[hg];exact ae
     have bz:=bj;obtain⟨eG,eH,rfl⟩:=bj.size;rw[←hX];replace hY:=η hY;replace hX:=η hX;replace hf:=η hf;clear bU bj;go_wp2_with fail;rw[←hY.out];simp only[←hg];replace hg:=η hg;clear d0 d1 d2 d3 d4 d5;go_loopw [13] (fun jS wr=>∃j:Nat,j≤pts.length∧jS=.int .i64 j∧Hid (IB wr g (upd pts.length j f))∧Below g w4 wr) (fun jS _=>pts.length - (intOf jS).toNat)
     case atStart=>exact⟨0,by omega,rfl,cx,cw⟩
     case round =>
      clear cx cw;obtain⟨j,hj,rfl,aJ,aV⟩:=hrel;obtain⟨J,rfl⟩:=ε (wr:World);have ab:=aU.trans (aV.mono cy);have bA:=aJ.out.lt;by_cases b4:j<pts.length
      ·have eq:(0:Int)≤(j:Int):=by omega
       have es:(j:Int)<(pts.length:Int):=by omega
       have a7:=bV j b4;rw[Qkj _ _ _ b4]at a7;obtain⟨y,hy⟩:=ε (ci (h i j));rw[←hy]at a7;have a8:=fun W a=>Qdb F.z (X:Int) y B b W a
       rw[dd.out,hy,Qam,←hy]at a8;obtain⟨m1,aR⟩:=ε (ci (pw (Xc F.z) k*h i j));rw[←aR]at a8;have a9:=fun W a=>QnC F m1 S.m B b W a c8.out cV
       rw[aR,Qam,←aR]at a9;obtain⟨m2,aS⟩:=ε (ci (tr S.m (pw (Xc F.z) k*h i j)));rw[←aS]at a9;have ba:=fun W a=>Qos (Qov S F rt) m2 Ae S.q ce W a (QbT S F rt) (by omega)
       rw[aS,bt.out,←aS,←df.out j]at ba;obtain⟨z,hz⟩:=ε (f j);rw[←hz]at ba;have dh:=bu.out.keep ab (by omega);have bB:=a5.out.keep ab (by omega);have bb:Hid (J.cell? ⟨s,1,none⟩=some (.int .i64 S.m)∧J.cell? ⟨s+1,0,none⟩=some (.int .i64 F.p)∧J.cell? ⟨s+1,1,none⟩=some (.int .i64 F.m)∧J.cell? ⟨s+1,2,none⟩=some (.slice B F.mod.length b)∧J.cell? ⟨bc,oc+i,none⟩=some (.slice (some ⟨br,az,none⟩) pts.length V)∧J.cell? ⟨br,az+j,none⟩=some (.int .i64 y)):=⟨dh.c3.2.1,bB.c6.1,bB.c6.2.1,bB.c6.2.2.1,(ab.cell (p:=⟨bc,oc+i,none⟩) dF).trans cu.out,(ab.cell (p:=⟨br,az+j,none⟩) dH).trans a7⟩;have aP:L≤J.heap.size:=τ cy (Nat.le_of_lt bA);have aH:=aJ.out.set_ j z;have bC:s+1<J.heap.size:=by omega
       have bD:bc<J.heap.size:=by omega
       have bE:br<J.heap.size:=by omega
       have di:g≠s:=by omega
       have bF:g≠s+1:=by omega
       have dj:g≠bc:=by omega
       have dk:g≠br:=by omega
       have bG:=a8 J.drew ((bv.below ab).more aP);replace bG:=η bG;have dl:=fun W (aF:Below J.heap.size J W)=>η (a9 W ((bv.below (ab.trans (aF.mono aP))).more (τ aP aF.size)))
       have dm:=fun W (aF:Below J.heap.size J W)=>η (ba W ((cK.below (ab.trans (aF.mono aP))).more (τ aP aF.size)))
       replace hy:=η hy;replace aR:=η aR;replace aS:=η aS;replace hz:=η hz;clear a7 a8 a9 ba aH;go_wp2_with fail;refine wp_region_held_drew (S:=fun w'=>w'.cell? ⟨s,1,none⟩=some (.int .i64 S.m)∧w'.cell? ⟨s+1,0,none⟩=some (.int .i64 F.p)∧w'.cell? ⟨s+1,1,none⟩=some (.int .i64 F.m)∧w'.cell? ⟨s+1,2,none⟩=some (.slice B F.mod.length b)∧w'.cell? ⟨bc,oc+i,none⟩=some (.slice (some ⟨br,az,none⟩) pts.length V)∧w'.cell? ⟨br,az+j,none⟩=some (.int .i64 y)) (by kernel_rfl) (by (try dsimp only);exact bb.out) (fun hHeld=>?_);refine tk 0 ?_;simp only[pS]
       refine tk 1 ?_;simp only[pS]
       refine tk 2 ?_;simp only[pS]
       refine tk 3 ?_;simp only[pS]
       refine tk 4 ?_;simp only[pS]
       refine tk 5 ?_;simp only[pS]
       refine tk 6 ?_;simp only[pS]
       refine tk 7 ?_;simp only[pS]
       refine tk 8 ?_;simp only[pS]
       refine tk 9 ?_;simp only[pS]
       refine tk 10 ?_;simp only[pS]
       refine tk 11 ?_;simp only[pS]
       refine tk 12 ?_;simp only[pS]
       refine tk 13 ?_;simp only[pS]
       refine tk 14 ?_;simp only[pS]
       refine tk 16 ?_;simp only[pS]
       refine tk 17 ?_;simp only[pS]
       refine rd 15 fun K I=>?_
       go_simp;go_at_call 57;(with_reducible refine (bG).out.mono ?_);rintro e O ⟨rfl,am⟩;have be:=(Below.refl J.heap.size J).drew.trans am;have dn:=η (Ql1 be bC bD bE bb.out);have dp:=dl O be;go_wp2_with fail;refine I.out _ _ dn.out fun hHeld=>?_;clear I K;try simp only[pS]
       refine rd 18 fun K I=>?_
       go_simp;go_at_call 140;(with_reducible refine (dp).out.mono ?_);rintro e w7 ⟨rfl,dS⟩;have bf:=ζ be dS;have dq:=η (Ql1 bf bC bD bE bb.out);have dr:=dm w7 bf;go_wp2_with fail;refine I.out _ _ dq.out fun hHeld=>?_;clear I K;try simp only[pS]
       refine rd 19 fun K I=>?_
       go_simp;go_at_call 139;(with_reducible refine (dr).out.mono ?_);rintro e w8 ⟨rfl,dU⟩;have bH:=ζ bf dU;have ax:=η (Ql1 bH bC bD bE bb.out);have bI:=aJ.out.below bH bA;have et:=bI.cell (i:=j) (by rw[Qaz];exact b4);have eu:=bI.frozen j;have aH:=bI.set_ j z;rw[hz.out,QaY,←hz.out]at aH;replace aH:=η aH;have ds:=η ((aV.trans (bH.mono (Nat.le_of_lt bA))).setCell (p:=⟨g,j,none⟩) ρ (.int .i64 z));obtain⟨W9,cL⟩:=ε (w8.setCell ⟨g,j,none⟩ (.int .i64 z));have cz:Hid (W9.cell? ⟨s,1,none⟩=some (.int .i64 S.m)∧W9.cell? ⟨s+1,0,none⟩=some (.int .i64 F.p)∧W9.cell? ⟨s+1,1,none⟩=some (.int .i64 F.m)∧W9.cell? ⟨s+1,2,none⟩=some (.slice B F.mod.length b)∧W9.cell? ⟨bc,oc+i,none⟩=some (.slice (some ⟨br,az,none⟩) pts.length V)∧W9.cell? ⟨br,az+j,none⟩=some (.int .i64 y)):=(by rw[cL];exact⟨(World.cell?_setCell_far _ _ _ _ di).trans ax.out.1,(World.cell?_setCell_far _ _ _ _ bF).trans ax.out.2.1,(World.cell?_setCell_far _ _ _ _ bF).trans ax.out.2.2.1,(World.cell?_setCell_far _ _ _ _ bF).trans ax.out.2.2.2.1,(World.cell?_setCell_far _ _ _ _ dj).trans ax.out.2.2.2.2.1,(World.cell?_setCell_far _ _ _ _ dk).trans ax.out.2.2.2.2.2⟩);rw[cL]at cz;go_wp2_with fail;refine I.out _ _ ax.out fun hHeld=>?_;clear I K;try simp only[pS]
       refine tk 20 ?_;simp only[pS]
       refine rd 21 fun K I=>?_
       go_simp;refine I.out _ _ cz.out fun hHeld=>?_;clear I K;try simp only[pS]
       refine δ ?_;go_wp2_with fail;go_roundw
       case rel=>exact⟨j+1,by omega,by go_num,aH,ds.out⟩
       case measure=>simp[intOf];omega
      ·obtain rfl:pts.length=j:=by omega
       rw[QaR,dg.out]at aJ;have cA:=aJ.out.rd;have ac:=aV;rw[hg.out]at ac;have cB:=bz.below ac ρ;have cC:=ac.size;have ev:i*F.m+k≤64*8+8:=by have:=Nat.mul_le_mul (show i≤64 by omega) cd;omega
       have cD:∀a,some (⟨g,0,none⟩:Addr)=some a→w4.heap.size≤a.block:=fun a e=>by cases e;exact Nat.le_of_eq hg.out.symm
       have ew:IntKind.i64.wrap ((k:Int)+1)=(k:Int)+1:=IntWalk.i64_in _ (by omega);have ex:X*F.p≤256*256:=Nat.mul_le_mul de cX;have ey:IntKind.i64.wrap ((X:Int)*(F.p:Int))=((X*F.p:Nat):Int):=by rw[IntWalk.i64_in _ (by rw[←Int.natCast_mul];omega),Int.natCast_mul]
       have cE:=fun (W:World) (aF:Below L J W)=>a5.out.keep (ab.trans aF) (show s+1<L by omega)
       clear aJ bV cu;by_cases cT:k+1<F.m
       ·have du:(k:Int)+1<(F.m:Int):=by omega
        have bJ:Hid (xvN F.z (k+1)=X*F.p):=by rw[hX.out];exact Qu1 F.z cT
        go_wp2_with (at_builtin;refine Qef rfl (.tmp 65) (.tmp 67) rfl L _ (i*F.m+k) _ cB (some ⟨g,0,none⟩) pts.length pts.length cA (Qba _ _ _ _) ρ (by unfold maxLen;omega) w4.heap.size bz.lt0 cD ae rfl rfl rfl (by omega) (τ ae cC) ?_;intro v6 O bY am;obtain⟨d0,d1,d2,d3,d4,d5⟩:=(cE O am).c6);go_roundw
        case rel=>exact⟨k+1,by omega,by go_num,by rw[bJ.out,Int.natCast_mul],bY,ab.trans am⟩
        case measure=>simp[intOf];omega
       ·have du:¬ (k:Int)+1<(F.m:Int):=by omega
        have bJ:Hid (xvN F.z (k+1)=X):=by rw[hX.out];exact Qwx F.z cT bm
        go_wp2_with (at_builtin;refine Qef rfl (.tmp 65) (.tmp 67) rfl L _ (i*F.m+k) _ cB (some ⟨g,0,none⟩) pts.length pts.length cA (Qba _ _ _ _) ρ (by unfold maxLen;omega) w4.heap.size bz.lt0 cD ae rfl rfl rfl (by omega) (τ ae cC) ?_;intro v6 O bY am;obtain⟨d0,d1,d2,d3,d4,d5⟩:=(cE O am).c6);go_roundw
        case rel=>exact⟨k+1,by omega,by go_num,by rw[bJ.out],bY,ab.trans am⟩
        case measure=>simp[intOf];omega
    ·obtain rfl:F.m=k:=by omega
     go_wp2_with fail;go_roundw
     case rel=>exact⟨i+1,by omega,by go_num,by rw[Nat.succ_mul];exact bj,aU⟩
     case measure=>simp[intOf];omega
  ·obtain rfl:t=i:=by omega
   obtain⟨A9,c9,rfl,cM⟩:=aT.rdm;have bx:=bu.out.keep ay (show s<L by omega);have cF:=db.out.keep ay da;have cG:=(ct.below ay).more ae;have dv:=cj A9 c9 w4.drew cG.drew cM.drew;have bK:Hid (w4.cell? ⟨s,0,none⟩=some (.int .i64 S.p)∧w4.cell? ⟨s,1,none⟩=some (.int .i64 S.m)∧w4.cell? ⟨s,2,none⟩=some (.slice A S.mod.length c)):=bx.c3;have bL:s+1+1<w4.heap.size:=by omega
   have dw:=aG.trans (ay.mono cs);have dx:=η cF;clear aT cM cj bx cF;go_wp2_with fail;refine wp_region_held_drew (S:=fun w'=>w'.cell? ⟨s,0,none⟩=some (.int .i64 S.p)∧w'.cell? ⟨s,1,none⟩=some (.int .i64 S.m)∧w'.cell? ⟨s,2,none⟩=some (.slice A S.mod.length c)) (by kernel_rfl) (by (try dsimp only);exact bK.out) (fun hHeld=>?_);refine tk 0 ?_;simp only[pS]
   refine tk 1 ?_;simp only[pS]
   refine tk 2 ?_;simp only[pS]
   refine tk 3 ?_;simp only[pS]
   refine tk 5 ?_;simp only[pS]
   refine rd 4 fun K I=>?_
   go_simp;go_at_call 141;(with_reducible refine (dv).out.mono ?_);rintro e J ⟨dV,dW,rfl,dX,aV⟩;have ac:=(Below.refl w4.heap.size w4).drew.trans aV;have dy:=η (Qm7 ac (Nat.lt_of_succ_lt (Nat.lt_of_succ_lt bL)) bK.out);have dz:=c7 dV dW J (cG.bm ac) dX;go_wp2_with fail;refine I.out _ _ dy.out fun hHeld=>?_;clear I K;try simp only[pS]
   refine rd 6 fun K I=>?_
   go_simp;go_at_call 45;(with_reducible refine (dz).out.mono ?_);rintro e O ⟨A6,c6,aD,aE,rfl,cQ,cR,cS,am⟩;have bM:=ζ ac am;have bg:=η (Qm7 bM (Nat.lt_of_succ_lt (Nat.lt_of_succ_lt bL)) bK.out);have bN:=dx.out.keep bM bL;obtain⟨u0,u1,u2,u3,u4⟩:=bN.c5;obtain⟨v0,v1,v2,v3,v4⟩:=bN.f5;have ez:=ac.size;have dA:Hid ((Qbh O (s+1+1) 0 [.int .i64 S.p,.int .i64 S.m,.slice A6 S.mod.length c6,.int .i64 pts.length,.slice aD T aE]).cell? ⟨s,0,none⟩=some (.int .i64 S.p)∧(Qbh O (s+1+1) 0 [.int .i64 S.p,.int .i64 S.m,.slice A6 S.mod.length c6,.int .i64 pts.length,.slice aD T aE]).cell? ⟨s,1,none⟩=some (.int .i64 S.m)∧(Qbh O (s+1+1) 0 [.int .i64 S.p,.int .i64 S.m,.slice A6 S.mod.length c6,.int .i64 pts.length,.slice aD T aE]).cell? ⟨s,2,none⟩=some (.slice A S.mod.length c)):=⟨(Qbp (by simp;omega) _ 0 O).trans bg.out.1,(Qbp (by simp;omega) _ 0 O).trans bg.out.2.1,(Qbp (by simp;omega) _ 0 O).trans bg.out.2.2⟩;have dB:Hid (Qdj S F (rel F.z rt) pts.length t h w (.returned (.agg #[.int .i64 S.p,.int .i64 S.m,.slice A6 S.mod.length c6,.int .i64 pts.length,.slice aD T aE])) (Qbh O (s+1+1) 0 [.int .i64 S.p,.int .i64 S.m,.slice A6 S.mod.length c6,.int .i64 pts.length,.slice aD T aE])):=(by refine⟨T,C,A6,c6,aD,aE,rfl,c4.out,cZ.out,by rw[Qbv];exact cQ.farS (fun a ha=>by have:=cR a ha;omega) _ 0,fun q hq=>by have:=cR q hq;omega,by rw[Qbv];exact (cS.keepU fun p eL _=>Qbp (by omega) _ 0 O).low (by omega),stAll_below (by omega) _ _ _ (dw.trans (bM.mono (τ cs ae)))⟩);clear cQ cS bN;go_wp2_with fail;refine I.out _ _ bg.out fun hHeld=>?_;clear I K;try simp only[pS]
   refine rd 7 fun K I=>?_
   go_simp;refine I.out _ _ dA.out fun hHeld=>?_;clear I K;try simp only[pS]
   refine δ ?_;go_wp2_with fail;exact bodyPost_ret (v:=.agg #[.int .i64 S.p,.int .i64 S.m,.slice A6 S.mod.length c6,.int .i64 pts.length,.slice aD T aE]) (by simp[results,Tryz.results79,go_sem,u0,u1,u2,u3,u4]) rfl dB.out
end Go.Proofs

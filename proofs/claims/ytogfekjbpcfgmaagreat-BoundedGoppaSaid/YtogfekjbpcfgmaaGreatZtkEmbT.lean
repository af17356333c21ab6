/- The field of 4 elements of the chapters' examples. -/
import Derived.Test.YtogfekjbpcfgmaaGreatZtkB39R
set_option maxRecDepth 100000
set_option maxHeartbeats 16000000
set_option linter.unusedVariables false
namespace Go.Proofs
open Go.RowKit Cw
section
def D4:Desc where
 p:=2
 m:=2
 mod:=[1,1]
 hp:=⟨by decide,fun d I=>by
  have:d≤2:=Nat.le_of_dvd (by decide) I;have:d≠0:=fun h=>by rw[h]at I;have:=Nat.eq_zero_of_zero_dvd I;omega
  omega⟩
 m1:=by decide
 m8:=by decide
 hq:=by decide
 hlen:=by decide
 hmod:=fun j=>by
  match j with
  |0=>decide
  |1=>decide
  |j+2=>simp
theorem Qxh:Qfs D4.p D4.m (fun i=>D4.mod.getD i 0)=true:=by
 have I:∀v:Fin 2,dvB 2 1 2 (dg 2 v.val) (fun i=>D4.mod.getD i 0)=false:=by decide +kernel
 refine QfG fun d V O v T=>?_
 have U:2*d≤2:=O;have J:d=1:=by omega
 subst J;exact I ⟨v,T⟩
theorem Qw1:Qcq D4.p D4.m (Qan D4):=⟨D4,rfl,rfl,rfl,.inr Qxh⟩
end
section
theorem Qfq (l:List Int)(I J:Option Addr)(c1 c2:Nat)(w:World)(T:Rd w w.heap.size I l)(U:Rd w w.heap.size J l)(O:l.length≤1000000) :
  Calls Tryz.prog 59 #[.slice I l.length c1,.slice J l.length c2] w fun e w'=>e=.returned (.bool true)∧Below w.heap.size w w':=by
 have h:=QiK l l I J c1 c2 w T U O O;rw[decide_eq_true rfl]at h;exact h
def Qwl (w:World)(s:Nat)(I v1 u0 u1:Value):Prop:=w.cell? ⟨s,0,none⟩=some I∧w.cell? ⟨s,1,none⟩=some v1∧w.cell? ⟨s+1,0,none⟩=some u0∧w.cell? ⟨s+1,1,none⟩=some u1
theorem Qwl.keep {B s:Nat} {w w1:World} {J v1 u0 u1:Value} (h:Qwl w s J v1 u0 u1)(I:Below B w w1)(O:s+1<B):Qwl w1 s J v1 u0 u1 :=
 ⟨((Qh7 I).1 s 0 (by omega)).trans h.1,((Qh7 I).1 s 1 (by omega)).trans h.2.1,((Qh7 I).1 (s+1) 0 O).trans h.2.2.1,((Qh7 I).1 (s+1) 1 O).trans h.2.2.2⟩
theorem Qoe (n:Nat)(c wl er:List Int)(t:Int)(hn:n≤64)(hc:c.length=n)(hw:wl.length=n)(av:er.length≤1000000)(ht:((Qbu c wl er n).length:Int)≤t)(J O T Ar:Option Addr)(V X Y cr:Nat)(w:World)(am:Rd w w.heap.size J c)(an:Rd w w.heap.size O (Qbu c wl er n))(ao:Rd w w.heap.size T wl)(ap:Rd w w.heap.size Ar er) :
  Calls Tryz.prog 76 #[.agg #[.slice J n V,.slice O (Qbu c wl er n).length X],.agg #[.slice T n Y,.slice Ar er.length cr],.int .i64 t] w fun e w'=>e=.returned (.bool true)∧Below w.heap.size w w':=by
 have aw:=QhI c wl er n;obtain⟨s,hs⟩:=ε (w.heap.size);obtain⟨m,hm⟩:=ε ((Qbu c wl er n).length);obtain⟨Z,U⟩:=ε ((w.alloc (.cells #[.slice J n V,.slice O m X] 52)).alloc (.cells #[.slice T n Y,.slice Ar er.length cr] 46));have I:Below w.heap.size w Z:=by rw[U];exact (β).alloc (by simp) _
 have k0:Hid (Z.cell? ⟨s,0,none⟩=some (.slice J n V)∧Z.cell? ⟨s,1,none⟩=some (.slice O m X)∧Z.cell? ⟨s+1,0,none⟩=some (.slice T n Y)∧Z.cell? ⟨s+1,1,none⟩=some (.slice Ar er.length cr)):=by unfold Hid;rw[U,hs];simp[go_sem]
 have aq:s+1<Z.heap.size:=by rw[U,hs];simp
 have ai:=fun W a b d=>QeG n c wl er hn hc hw av J T Ar V Y cr W a b d
 have ae:=fun A2 c2 W a b=>Qfq (Qbu c wl er n) O A2 X c2 W a b (by omega)
 rw[←hm]at ai ae ht aw;rw[←hm];have aK:decide ((m:Int)≤t)=true:=decide_eq_true ht;have ax:=am.bm I;have ay:=an.bm I;have az:=ao.bm I;have aA:=ap.bm I;have aj:=ai Z.drew ax.drew az.drew aA.drew;replace aj:=η aj;replace ae:=fun A2 c2 W a b=>η (ae A2 c2 W a b)
 replace U:=η U;replace hm:=η hm;replace hc:=η hc;replace hw:=η hw;clear ai am an ao ap;go_enter Tryz.func76,Tryz.ntmps76;obtain⟨q0,q1,q2,q3⟩:=k0.out;go_wp2_with fail;rw[←U.out];simp only[←hs];replace hs:=η hs;clear q0 q1 q2 q3;go_wp2_with fail;refine wp_region_held_drew (S:=fun w'=>w'.cell? ⟨s,0,none⟩=some (.slice J n V)∧w'.cell? ⟨s,1,none⟩=some (.slice O m X)∧w'.cell? ⟨s+1,0,none⟩=some (.slice T n Y)∧w'.cell? ⟨s+1,1,none⟩=some (.slice Ar er.length cr)) (by kernel_rfl) (by (try dsimp only);exact k0.out) (fun hHeld=>?_);refine tk 0 ?_;simp only[pS]
 refine tk 1 ?_;simp only[pS]
 refine tk 2 ?_;simp only[pS]
 refine tk 3 ?_;simp only[pS]
 refine tk 4 ?_;simp only[pS]
 refine tk 5 ?_;simp only[pS]
 refine tk 6 ?_;simp only[pS]
 refine tk 7 ?_;simp only[pS]
 refine tk 8 ?_;simp only[pS]
 refine tk 9 ?_;simp only[pS]
 refine tk 10 ?_;simp only[pS]
 refine tk 11 ?_;simp only[pS]
 refine tk 12 ?_;simp only[pS]
 refine tk 13 ?_;simp only[pS]
 refine tk 14 ?_;simp only[pS]
 refine tk 15 ?_;simp only[pS]
 refine rd 16 fun K hK=>?_
 go_simp;go_at_call 78;(with_reducible refine (aj).out.mono ?_);rintro e w1 ⟨A1,c1,rfl,aH,aI⟩;have ac:Below Z.heap.size Z w1:=(Below.refl _ Z).drew.trans aI;have aB:=ae A1 c1 w1 (ay.bm ac) aH;go_wp2_with fail;refine hK.out _ _ (Qwl.keep k0.out ac aq) fun hHeld=>?_;clear hK K;try simp only[pS]
 refine rd 17 fun K hK=>?_
 go_simp;go_at_call 59;(with_reducible refine (aB).out.mono ?_);rintro e w2 ⟨rfl,aJ⟩;have ar:=ζ ac aJ;go_wp2_with fail;refine hK.out _ _ (Qwl.keep k0.out ar aq) fun hHeld=>?_;clear hK K;try simp only[pS]
 refine tk 18 ?_;simp only[pS]
 refine tk 19 ?_;simp only[pS]
 refine tk 20 ?_;simp only[pS]
 refine tk 21 ?_;simp only[pS]
 refine tk 22 ?_;simp only[pS]
 refine tk 23 ?_;simp only[pS]
 refine tk 24 ?_;simp only[pS]
 refine tk 25 ?_;simp only[pS]
 refine tk 26 ?_;simp only[pS]
 refine δ ?_;go_wp2_with fail;go_ret;exact⟨rfl,ζ I ar⟩
def QdT:List Int:=[0,1,2,3]
def Qeo:List Int:=[1,1,1,1]
def QmU:List Int:=[1,1,1,0]
theorem Qw2:gchkD D4 2 QdT Qeo=0:=by decide +kernel
theorem Qxi:elB D4 QmU=true:=by decide +kernel
theorem Qw3:QcO D4 2 QdT Qeo QmU []=0:=by
 unfold QcO;rw[if_neg (fun h=>h Qw2)];exact QhS rfl Qxi (fun x I=>by cases I) List.nodup_nil
theorem Qxj:¬ QgF D4 2 QdT Qeo QmU []:=fun h=>by
 have I:=h [1,0] (by decide);have J:¬ (4:Nat)<2*(Qbu (Qa5 D4 QdT Qeo [1,0]) QmU [] 4).length+0+2:=by decide +kernel
 exact J I
def Qwm (x y:Nat):Bool:=!decide (2*(Qbu (Qa5 D4 QdT Qeo [(x:Int),(y:Int)]) QmU [] 4).length+0+2≤4) || (decide (Qa5 D4 QdT Qeo [(x:Int),(y:Int)]=[1,1,1,1])&&decide (Qbu (Qa5 D4 QdT Qeo [(x:Int),(y:Int)]) QmU [] 4=[3]))
theorem Qw4:∀x y:Fin 4,Qwm x.val y.val=true:=by decide +kernel
theorem q39:(D4.q:Int)=4:=by decide +kernel
theorem Qsk (a b:Int)(J:0≤a∧a<4)(O:0≤b∧b<4)(I:2*(Qbu (Qa5 D4 QdT Qeo [a,b]) QmU [] 4).length+0+2≤4):Qa5 D4 QdT Qeo [a,b]=[1,1,1,1]∧Qbu (Qa5 D4 QdT Qeo [a,b]) QmU [] 4=[3]:=by
 obtain⟨x,rfl⟩:∃x:Fin 4,a=(x.val:Int):=⟨⟨a.toNat,by omega⟩,by show a=((a.toNat:Nat):Int);omega⟩;obtain⟨y,rfl⟩:∃y:Fin 4,b=(y.val:Int):=⟨⟨b.toNat,by omega⟩,by show b=((b.toNat:Nat):Int);omega⟩;have k:=Qw4 x y;unfold Qwm at k;generalize Qa5 D4 QdT Qeo [(x.val:Int),(y.val:Int)]=u at *;rw[decide_eq_true I]at k;simp only[Bool.not_true,Bool.false_or,Bool.and_eq_true,decide_eq_true_eq]at k;exact k
theorem QuA (I:List Int)(h:I.length=2):I=[I[0]?.getD 0,I[1]?.getD 0]:=by
 match I,h with
 | [a,b],_=>rfl
theorem Qxk {I:List Int} (h:QfU D4 2 QdT Qeo QmU [] I):Qa5 D4 QdT Qeo I=[1,1,1,1]∧Qbu (Qa5 D4 QdT Qeo I) QmU [] 4=[3]:=by
 obtain⟨V,U,J⟩:=h;have O:=QaJ.1 U 0 (by omega);have T:=QaJ.1 U 1 (by omega);rw[q39]at O T;have e:=QuA I V;generalize I[0]?.getD 0=a at *;generalize I[1]?.getD 0=b at *;rw[e]at J ⊢;rw[show QdT.length=4 from rfl,show ([]:List Int).length=0 from rfl]at J;exact Qsk a b O T J
theorem QkR (W:World)(l:List Int):Rd (W.alloc (.cells (l.map (Value.int .i64)).toArray 3)) (W.heap.size+1) (some ⟨W.heap.size,0,none⟩) l:=by
 have h:=Qml W l;rw[World.size_alloc]at h;exact h
theorem QlO (w:World):Calls Tryz.prog 18 #[] w fun e w'=>e=.returned (.bool true)∧Below w.heap.size w w':=by
 obtain⟨s,V⟩:=ε (w.heap.size);obtain⟨J,ai⟩:=ε (w.alloc (.cells #[.int .i64 1,.int .i64 1] 3));obtain⟨O,aj⟩:=ε (J.alloc (.cells #[.int .i64 0,.int .i64 1,.int .i64 2,.int .i64 3] 3));obtain⟨X,ak⟩:=ε (O.alloc (.cells #[.int .i64 1,.int .i64 1,.int .i64 1,.int .i64 1] 3));obtain⟨Y,ax⟩:=ε (X.alloc (.cells #[.int .i64 2,.int .i64 2,.slice (some ⟨s,0,none⟩) 2 2,.int .i64 2,.slice (some ⟨s+1,0,none⟩) 4 4,.slice (some ⟨s+2,0,none⟩) 4 4] 94));obtain⟨I,al⟩:=ε (Y.alloc (.cells #[.int .i64 1,.int .i64 1,.int .i64 1,.int .i64 0] 3));have z1:J.heap.size=s+1:=by rw[ai,V];simp
 have z2:O.heap.size=s+2:=by rw[aj];simp[z1]
 have z3:X.heap.size=s+3:=by rw[ak];simp[z2]
 have z4:Y.heap.size=s+4:=by rw[ax];simp[z3]
 have U:I.heap.size=s+5:=by rw[al];simp[z4]
 have b1:Below s w J:=by rw[ai];exact κ.alloc (Nat.le_of_eq V) _
 have b2:Below (s+1) J O:=by rw[aj];exact κ.alloc (Nat.le_of_eq z1.symm) _
 have b3:Below (s+2) O X:=by rw[ak];exact κ.alloc (Nat.le_of_eq z2.symm) _
 have b4:Below (s+3) X Y:=by rw[ax];exact κ.alloc (Nat.le_of_eq z3.symm) _
 have b5:Below (s+4) Y I:=by rw[al];exact κ.alloc (Nat.le_of_eq z4.symm) _
 have r1:Rd J (s+1) (some ⟨s,0,none⟩) [1,1]:=by have h:=QkR w [1,1];rw[ai,V];exact h
 have r2:Rd O (s+2) (some ⟨s+1,0,none⟩) QdT:=by have h:=QkR J QdT;rw[z1]at h;rw[aj];exact h
 have r3:Rd X (s+3) (some ⟨s+2,0,none⟩) Qeo:=by have h:=QkR O Qeo;rw[z2]at h;rw[ak];exact h
 have r5:Rd I (s+5) (some ⟨s+4,0,none⟩) QmU:=by have h:=QkR Y QmU;rw[z4]at h;rw[al];exact h
 have az:=b4.trans (b5.mono (show s+3≤s+4 by omega));have aA:=b3.trans (az.mono (show s+2≤s+3 by omega));have aB:=b2.trans (aA.mono (show s+1≤s+2 by omega));have hB:Below s w I:=b1.trans (aB.mono (show s≤s+1 by omega));have a9:Qan D4=[1,1]:=by decide
 have hG:Calls Tryz.prog 58 #[.agg #[.int .i64 2,.int .i64 2,.slice (some ⟨s,0,none⟩) 2 2,.int .i64 2,.slice (some ⟨s+1,0,none⟩) 4 4,.slice (some ⟨s+2,0,none⟩) 4 4],.slice (some ⟨s+4,0,none⟩) 4 4,.slice none 0 0] I (QcC D4 2 QdT Qeo QmU [] I) :=
  Qwk D4 2 QdT Qeo (some ⟨s,0,none⟩) (some ⟨s+1,0,none⟩) (some ⟨s+2,0,none⟩) 2 4 4 QmU [] (some ⟨s+4,0,none⟩) none 4 0 I (by rw[a9,U];exact (r1.below aB).more (by omega)) Qw1 (by rw[U];exact (r2.below aA).more (by omega)) (by rw[U];exact (r3.below az).more (by omega)) (by decide) (by decide) (by decide) (by rw[U];exact r5) (Rd.nil) (by decide) (by decide)
 replace hG:=η hG;clear r1 r2 r3 r5 az aA aB b1 b2 b3 b4 b5 z1 z2 z3 z4;go_enter Tryz.func18,Tryz.ntmps18;go_wp2_with fail;rw[←ai];simp only[←V];rw[←aj,←ak,show s+1+1=s+2 from rfl,←ax,←al,show s+2+1+1=s+4 from rfl];replace V:=η V;replace U:=η U;(with_reducible refine hG.out.mono ?_);rintro e w1 ⟨aH,⟨bg,rfl⟩ |⟨-,bh,rfl⟩ |⟨-,bk,Ac,cc,Ae,ce,a7,rfl,aM,aN,-,-⟩⟩
 ·exact absurd Qw3 bg
 ·exact absurd bh Qxj
 obtain⟨e1,e2⟩:=Qxk a7;rw[show QdT.length=4 from rfl,e2]at aN ⊢;rw[e1]at aM;rw[show ([3]:List Int).length=1 from rfl];clear a7 e1 e2 ai aj ak ax al;obtain⟨b,ag⟩:=ε (w1.heap.size);obtain⟨W2,ac⟩:=ε (w1.alloc (.cells #[.slice Ac 4 cc,.slice Ae 1 ce] 52));have d2:Duo W2 b (.slice Ac 4 cc) (.slice Ae 1 ce):=by rw[ac,ag];exact Duo.new w1 _ _ _
 have s2:W2.heap.size=b+1:=by rw[ac,ag];simp
 have aX:Below w1.heap.size w1 W2:=by rw[ac];exact β
 obtain⟨T,ad⟩:=ε (W2.alloc (.cells #[.int .i64 1,.int .i64 1,.int .i64 1,.int .i64 1] 3));have r3:Rd T (b+2) (some ⟨b+1,0,none⟩) [1,1,1,1]:=by have h:=QkR W2 [1,1,1,1];rw[s2]at h;rw[ad];exact h
 have s3:T.heap.size=b+2:=by rw[ad];simp[s2]
 have aD:Below (b+1) W2 T:=by rw[ad];exact κ.alloc (Nat.le_of_eq s2.symm) _
 have bb:w1.heap.size≤b+1:=by omega
 have ab:=aX.trans (aD.mono bb);have hS:=Qfq [1,1,1,1] Ac (some ⟨b+1,0,none⟩) cc 4 T (aM.bm ab) (by rw[s3];exact r3) (by decide);rw[show ([1,1,1,1]:List Int).length=4 from rfl]at hS;have d3:=η (d2.keep aD (Nat.lt_succ_self b));have aY:b+1<T.heap.size:=by omega
 have aZ:s≤I.heap.size:=by have:=U.out;omega
 have a0:Below s w T:=hB.trans ((aH.mono aZ).trans (ab.mono (τ aZ aH.size)));have aE:Hid (s=w.heap.size):=V;have a1:=aN.bm ab;replace hS:=η hS;obtain⟨q0,q1,-,-⟩:=d2;replace ac:=η ac;replace ad:=η ad;clear r3 aX aD ab aM aN aH hG;go_wp2_with fail;rw[←ag,←ac.out];replace ag:=η ag;go_wp2_with fail;rw[←ad.out];clear q0 q1;(with_reducible refine hS.out.mono ?_);rintro e w4 ⟨rfl,aO⟩;have ar:=aO;have s4:b+1<w4.heap.size:=θ aY aO.size;obtain⟨m,hm⟩:=ε (w4.heap.size);obtain⟨W5,ah⟩:=ε (w4.alloc (.cells #[.int .i64 3] 3));have r5:Rd W5 W5.heap.size (some ⟨m,0,none⟩) [3]:=by rw[ah,hm];exact Qml w4 [3]
 have a2:Below w4.heap.size w4 W5:=by rw[ah];exact β
 have au:=ζ ar a2;have av:=Qfq [3] Ae (some ⟨m,0,none⟩) ce 1 W5 (a1.bm au) r5 (by decide);rw[show ([3]:List Int).length=1 from rfl]at av;replace av:=η av;have hR:=fun W=>η (Qfo 3 0 W (by unfold I64;decide) (by unfold I64;decide))
 rw[show QlN 3 0=1 from by decide]at hR;have a4:Below s w W5:=a0.trans (au.mono (τ (Nat.le_of_eq aE.out) a0.size));obtain⟨q0,q1,-,-⟩:=d3.out.keep ar (Nat.lt_of_succ_lt aY);replace ah:=η ah;clear a1 r5 a2 au s4 aO ar;go_wp2_with fail;rw[←hm,←ah.out];replace hm:=η hm;clear q0 q1;(with_reducible refine av.out.mono ?_);rintro e w6 ⟨rfl,bj⟩;go_wp2_with fail;(with_reducible refine (hR _).out.mono ?_);rintro e w7 ⟨rfl,rfl⟩;have bf:Below s w w6:=a4.trans (bj.mono (τ (Nat.le_of_eq aE.out) (by have:=a4.size;omega)));go_wp2_with fail;go_ret;exact⟨rfl,aE.out ▸ bf⟩
end
section
theorem Qqq {B I O J T:Nat} {W w1:World} {U v1:Value} (V:Below B W w1)(X:I<B)(Y:J<B)(h:W.cell? ⟨I,O,none⟩=some U∧W.cell? ⟨J,T,none⟩=some v1) :
  w1.cell? ⟨I,O,none⟩=some U∧w1.cell? ⟨J,T,none⟩=some v1 :=
 ⟨(V.cell (p:=⟨I,O,none⟩) X).trans h.1,(V.cell (p:=⟨J,T,none⟩) Y).trans h.2⟩
theorem QmV (D:FD)(a b:List Int)(n:Nat)(U:a.length=n)(V:b.length=n)(A1 A2:Option Addr)(c1 c2 g:Nat)(w:World)(I:GF w w.heap.size g D)(ax:Rd w w.heap.size A1 a)(ay:Rd w w.heap.size A2 b)(hn:n≤maxLen) :
  Calls Tryz.prog 170 #[.pointer (some ⟨g,0,none⟩),.slice A1 n c1,.slice A2 n c2] w fun e w'=>e=.returned (.int .i64 (ci (Qat n fun i=>eli D.z (a[i]?.getD 0)*eli D.z (b[i]?.getD 0))))∧Below w.heap.size w w':=by
 unfold maxLen at hn;have hM:=fun y z W I=>η (QbZ D y z g W I)
 have hA:=fun y z W I=>η (Qcf D y z g W I)
 have aH:min (n:Int) (n:Int)=(n:Int):=Int.min_self _;replace U:=η U;replace V:=η V;go_enter Tryz.func170,Tryz.ntmps170;go_wp2_with fail;go_loopw [14,7] (fun i o wr=>∃k:Nat,k≤n∧i=.int .i64 k∧o=.int .i64 (ci (Qat k fun i=>eli D.z (a[i]?.getD 0)*eli D.z (b[i]?.getD 0)))∧Below w.heap.size w wr) (fun i _ _=>n - (intOf i).toNat)
 case atStart=>exact⟨0,by omega,rfl,by rw[QaG,QaF],κ⟩
 case round =>
  obtain⟨k,hk,rfl,rfl,J⟩:=hrel;by_cases aw:k<n
  ·have aI:(0:Int)≤(k:Int):=by omega
   have aJ:(k:Int)<(n:Int):=by omega
   obtain⟨X,o1,rfl,ao,ap⟩:=ax.at_ (by rw[U.out];exact aw:k<a.length);obtain⟨Y,o2,rfl,ar,au⟩:=ay.at_ (by rw[V.out];exact aw:k<b.length);have af:=(J.cell (p:=⟨X,o1+k,none⟩) ao).trans ap;have ag:=(J.cell (p:=⟨Y,o2+k,none⟩) ar).trans au;obtain⟨x,hx⟩:=ε (a[k]?.getD 0);obtain⟨y,hy⟩:=ε (b[k]?.getD 0);rw[←hx]at af;rw[←hy]at ag;have O:=fun W I=>(hA (ci (Qat k fun i=>eli D.z (a[i]?.getD 0)*eli D.z (b[i]?.getD 0))) (ci (eli D.z x*eli D.z y)) W I).out
   have hs:Qat k (fun i=>eli D.z (a[i]?.getD 0)*eli D.z (b[i]?.getD 0))+eli D.z x*eli D.z y=Qat (k+1) (fun i=>eli D.z (a[i]?.getD 0)*eli D.z (b[i]?.getD 0)):=by rw[Qaj,hx,hy]
   rw[Qam,Qam,hs]at O;replace O:=fun W I=>η (O W I)
   have aC:=fun W I=>hM x y W I
   have aD:=I.bm J;have ai:X<wr.heap.size:=θ ao J.size;have aj:Y<wr.heap.size:=θ ar J.size;have ak:=η (show _∧_ from ⟨af,ag⟩);clear ap au hs hx hy;go_wp2_with fail;go_region_held3 (fun w'=>w'.cell? ⟨X,o1+k,none⟩=some (.int .i64 x)∧w'.cell? ⟨Y,o2+k,none⟩=some (.int .i64 y)) (first |exact ak.out |exact am.out |exact aG.out)
    (first
     |(go_at_call 90;(with_reducible refine (aC _ aD.drew).out.mono ?_);rintro e w1 ⟨rfl,ac⟩;have al:wr.heap.size≤w1.heap.size:=ac.size;have T:=(J.drew).trans (ac.mono J.size);have am:=η (Qqq ac ai aj ak.out);have aE:=I.bm T)
     |(go_at_call 91;(with_reducible refine (O _ aE).out.mono ?_);rintro e w2 ⟨rfl,av⟩;have aF:=ζ T av;have aG:=η (Qqq av (θ ai al) (θ aj al) am.out)))
   go_wp2_with fail;go_roundw
   case rel=>exact⟨k+1,by omega,by go_num,rfl,aF⟩
   case measure=>simp[intOf];omega
  ·obtain rfl:k=n:=by omega
   go_wp2_with fail;go_ret;exact⟨rfl,J⟩
theorem QhT (D:FD)(x:Int)(g:Nat)(w:World)(I:GF w w.heap.size g D) :
  Calls Tryz.prog 171 #[.pointer (some ⟨g,0,none⟩),.int .i64 x] w fun e w'=>∃gb,e=.returned (.slice (some ⟨gb,0,none⟩) D.m D.m)∧w.heap.size≤gb∧IB w' gb (dl (eli D.z x))∧Below w.heap.size w w':=by
 have T:=fun W I=>η (QeA D x g W I)
 have U:=fun W=>η (Qd9 D.z (eli D.z x) W)
 have k0:=η (show _∧_ from ⟨I.c0,I.c1⟩);have J:=I.lt;go_enter Tryz.func171,Tryz.ntmps171;go_wp2_with fail;go_region_held3 (fun w'=>w'.cell? ⟨g,0,none⟩=some (.int .i64 D.p)∧w'.cell? ⟨g,1,none⟩=some (.int .i64 D.m)) (first |exact k0.out |exact V.out)
  (first
   |(go_at_call 152;(with_reducible refine (T _ I.drew).out.mono ?_);rintro e w1 ⟨rfl,rfl⟩)
   |(go_at_call 198;(with_reducible refine (U _).out.mono ?_);rintro e w2 ⟨gb,rfl,X,Y,O⟩;have V:=η (Qqq O J J k0.out)))
 go_wp2_with fail;go_ret;exact⟨gb,rfl,X,Y,(Below.refl _ w).drew.trans O⟩
end
section
noncomputable def Qwn (F:FD)(K:Int)(pts mul wl:List Int):List Int:=lst ((pts.length:Int) - K).toNat fun i=>ci (Qat pts.length fun j=>eli F.z ((Qaw F.z pts.length (gM F.z pts (Qck F pts mul)) i)[j]?.getD 0)*eli F.z (wl[j]?.getD 0))
def Qqr (D:Desc)(K:Int)(pts mul wl:List Int)(w:World)(e:Ending)(w':World):Prop :=
 Below w.heap.size w w'∧((QcO D K pts mul wl []≠0∧e=.returned (.tuple #[.slice none 0 0,.int .i64 (QcO D K pts mul wl [])])) ∨
  (QcO D K pts mul wl []=0∧∃F:FD,F.z=D∧∃A c,e=.returned (.tuple #[.slice A ((pts.length:Int) - K).toNat c,.int .i64 0])∧Rd w' w'.heap.size A (Qwn F K pts mul wl)))
theorem Qqr.err {D:Desc} {K:Int} {pts mul wl:List Int} {w w':World} (I:Below w.heap.size w w'){E:Int} (h:QcO D K pts mul wl []=E)(h0:E≠0):Qqr D K pts mul wl w (.returned (.tuple #[.slice none 0 0,.int .i64 E])) w':=⟨I,.inl ⟨by rw[h];exact h0,by rw[h]⟩⟩
end
section
noncomputable def inB (F:FD)(kn:Nat)(pts mul word:List Int):Bool:=QqK (QaK F.z pts.length (Qec kn (fun i=>fnz (Qaw F.z pts.length (elS kn (gM F.z pts mul) pts.length).1 i)) (elS kn (gM F.z pts mul) pts.length).1 (fun j=>eli F.z (word[j]?.getD 0))))
section
variable {F:FD} {kn:Nat} {pts mul word:List Int}
theorem QuB (hz:gchkD F.z kn pts mul=0){i:Nat} (J:i<kn):fnz (Qaw F.z pts.length (elS kn (gM F.z pts mul) pts.length).1 i)=pvF (elS kn (gM F.z pts mul) pts.length).2 i∧pvF (elS kn (gM F.z pts mul) pts.length).2 i<pts.length:=by
 have O:=QpR hz;rw[Int.toNat_natCast]at O;unfold rkS at O;have I:=Qgv kn pts.length (gM F.z pts mul);rw[O]at I;have T:=I.lt i J;refine⟨Qky _ _ (by rw[Qaw,Qae];omega) (fun j U=>?_) (.inr ?_),T⟩
 ·rw[Qaw,Qa0 _ _ (by omega),I.low i J j U];exact QaF
 ·rw[Qaw,Qa0 _ _ T,I.one i J];intro e;exact QbD (Qaq.1 e)
theorem QlP (hz:gchkD F.z kn pts mul=0):inB F kn pts mul word=true↔Qb2 kn pts.length (gM F.z pts mul) (fun j=>eli F.z (word[j]?.getD 0)):=by
 have U:=QpR hz;rw[Int.toNat_natCast]at U;have V:=U;unfold rkS at V;have X:=Qgv kn pts.length (gM F.z pts mul);have O:=Qcz kn pts.length (gM F.z pts mul);rw[V]at X O;have aa:inB F kn pts mul word=true↔∀j,j<pts.length→Qec kn (fun i=>fnz (Qaw F.z pts.length (elS kn (gM F.z pts mul) pts.length).1 i)) (elS kn (gM F.z pts mul) pts.length).1 (fun j=>eli F.z (word[j]?.getD 0)) j=0:=by
  unfold inB QqK;rw[decide_eq_true_iff];constructor
  ·intro h j I;exact Qaq.1 (h _ (List.mem_map.2 ⟨j,List.mem_range.2 I,rfl⟩))
  ·intro h x hx;obtain⟨j,I,rfl⟩:=List.mem_map.1 hx;exact Qaq.2 (h j (List.mem_range.1 I))
 rw[aa];constructor
 ·intro h;refine Qb2.trans (B:=(elS kn (gM F.z pts mul) pts.length).1) (n':=kn) ⟨fun i=>eli F.z (word[fnz (Qaw F.z pts.length (elS kn (gM F.z pts mul) pts.length).1 i)]?.getD 0),fun j I=>?_⟩ O.1;have J:=h j I;unfold Qec at J;dsimp only at J ⊢;rw[Qaa fun i _=>Qbb _ _,QcU]at J;exact Qbg J
 ·intro h j I;obtain⟨c,T⟩:=h.trans O.2;dsimp only at T;unfold Qec;dsimp only;rw[Qaa (g:=fun i=>-(c i*(elS kn (gM F.z pts mul) pts.length).1 i j)) fun i Y=>by
   rw[(QuB hz Y).1,Qbb]
   congr 2
   exact X.coef (v:=fun j=>eli F.z (word[j]?.getD 0)) T Y,QcU,←T j I,QaU]
end
end
end Go.Proofs
namespace Cw
section lagsyn
variable {F:Type} [CField F]
open CField (inv)
theorem Qsl {n:Nat} (I:1≤n)(a:Nat→F)(J:∀i j,i<n→j<n→a i=a j→i=j):Qat n (fun i=>pw (a i) (n - 1)*inv (Qel a i (a i) n))=1:=by
 have h:=QoZ I a J (fun t=>if t=n - 1 then 1 else 0);rw[if_pos rfl]at h;rw[←h];exact Qaa fun i _=>by
  rw[Qak (k:=n - 1) (by omega) (fun t _ O=>by rw[if_neg O,Qah]),if_pos rfl,Qav]
def Qu8 (a y:Nat→F)(n t:Nat):F:=Qat n fun i=>y i*inv (Qel a i (a i) n)*lcf a i n t
theorem Qsm {n:Nat} (a y:Nat→F)(O:∀i j,i<n→j<n→a i=a j→i=j){k:Nat} (I:k<n):Qat n (fun t=>Qu8 a y n t*pw (a k) t)=y k:=by
 have T:∀t,t<n→Qu8 a y n t*pw (a k) t=Qat n fun i=>y i*inv (Qel a i (a i) n)*(lcf a i n t*pw (a k) t):=fun t _=>by
  unfold Qu8;rw[←Qar];exact Qaa fun i _=>by rw[Qa6]
 rw[Qaa T,QaX];have U:∀i,i<n→Qat n (fun t=>y i*inv (Qel a i (a i) n)*(lcf a i n t*pw (a k) t))=y i*inv (Qel a i (a i) n)*Qel a i (a k) n:=fun i J=>by
  rw[Qal,Qhb a i (a k) n n (by unfold Qi0;rw[if_pos J];omega)]
 rw[Qaa U,Qak I (fun i J V=>by rw[QfA a (fun e=>V e.symm) n I,Qac]),Qa6,QbH (Qi2 a O I n ρ),Qax]
theorem QmW {n N i:Nat} (a y c:Nat→F)(h:∀j,j<n→y j=Qat N fun t=>c t*pw (a j) t) :
  Qat n (fun j=>inv (Qel a j (a j) n)*(pw (a j) i*y j))=Qat N fun t=>c t*Qat n fun j=>pw (a j) (i+t)*inv (Qel a j (a j) n):=by
 have I:∀j,j<n→inv (Qel a j (a j) n)*(pw (a j) i*y j)=Qat N fun t=>c t*(pw (a j) (i+t)*inv (Qel a j (a j) n)):=fun j J=>by
  rw[h j J,←Qal,←Qal];exact Qaa fun t _=>by rw[QcL];ac_rfl
 rw[Qaa I,QaX];exact Qaa fun t _=>by rw[Qal]
theorem QuC {n kn:Nat} (X:kn≤n)(Y:1≤n)(a y:Nat→F)(I:∀i j,i<n→j<n→a i=a j→i=j) :
  (∀i,i<n - kn→Qat n (fun j=>inv (Qel a j (a j) n)*(pw (a j) i*y j))=0)↔∃c:Nat→F,∀j,j<n→y j=Qat kn fun t=>c t*pw (a j) t:=by
 constructor
 ·intro h;have U:=fun j (T:j<n)=>(Qsm a y I T).symm
  have hz:∀d,d<n - kn→Qu8 a y n (n - 1 - d)=0:=by
   intro d
   induction d using Nat.strongRecOn with
   |_ d ih =>
    intro hd;have J:=h d hd;rw[QmW a y (Qu8 a y n) U,Qak (k:=n - 1 - d) (by omega) (fun t ht ae=>?_),show d+(n - 1 - d)=n - 1 by omega,Qsl Y a I,Qax]at J
    ·exact J
    ·by_cases af:t<n - 1 - d
     ·rw[Qo0 (by omega) a I,Qac]
     ·have O:=ih (n - 1 - t) (by omega) (by omega);rw[show n - 1 - (n - 1 - t)=t by omega]at O;rw[O,Qah]
  refine⟨Qu8 a y n,fun j T=>?_⟩;rw[U j T];refine QfP X fun t J O=>?_
  have V:=hz (n - 1 - t) (by omega);rw[show n - 1 - (n - 1 - t)=t by omega]at V;rw[V,Qah]
 ·rintro⟨c,hc⟩ i hi;rw[QmW a y c hc];exact Qag fun t ht=>by rw[Qo0 (by omega) a I,Qac]
end lagsyn
end Cw
namespace Go.Proofs
open Go.RowKit Cw
section
open Cw.CField (inv)
theorem QgA (l:List Int):wgt l=0↔∀x∈l,x=0:=by
 constructor
 ·intro h x O;unfold wgt at h;have I:=List.length_eq_zero_iff.1 h;have J:=List.filter_eq_nil_iff.1 I x O
  simpa using J
 ·exact QrS
theorem QuD {F:FD} {kn:Nat} {pts mul wl:List Int} (hz:gchkD F.z kn pts mul=0) :
  (decide (wgt (Qwn F kn pts mul wl)=0))=inB F kn pts mul wl:=by
 obtain⟨ag,-,ak,hp,hm,ht,h0,al,am⟩:=Qbn hz;have ab:=QlE hp ht;have X:∀i,i<pts.length→eli F.z (mul[i]?.getD 0)≠0:=fun i J=>QhC (QaJ.1 hm i (by omega)) fun e=>h0 (e ▸ Qcm (by omega))
 have ac:∀i,i<pts.length→eli F.z ((Qck F pts mul)[i]?.getD 0)=inv (eli F.z (mul[i]?.getD 0))*inv (Qel (fun j=>eli F.z (pts[j]?.getD 0)) i (eli F.z (pts[i]?.getD 0)) pts.length):=fun i J=>by
  rw[QhE J];unfold QeW;rw[Qam,QdR,Qge,QjP]
 have ad:=QuC (F:=R F.z) (n:=pts.length) (kn:=kn) (by omega) ag (fun j=>eli F.z (pts[j]?.getD 0)) (fun j=>inv (eli F.z (mul[j]?.getD 0))*eli F.z (wl[j]?.getD 0)) ab;have Y:∀i,Qat pts.length (fun j=>eli F.z ((Qaw F.z pts.length (gM F.z pts (Qck F pts mul)) i)[j]?.getD 0)*eli F.z (wl[j]?.getD 0))=Qat pts.length fun j=>inv (Qel (fun j=>eli F.z (pts[j]?.getD 0)) j (eli F.z (pts[j]?.getD 0)) pts.length)*(pw (eli F.z (pts[j]?.getD 0)) i*(inv (eli F.z (mul[j]?.getD 0))*eli F.z (wl[j]?.getD 0))):=fun i=>by
  refine Qaa fun j I=>?_
  rw[Qaw,Qa0 _ _ I,Qam];unfold gM;rw[ac j I]
  ac_rfl
 have h1:wgt (Qwn F kn pts mul wl)=0↔∀i,i<pts.length - kn→Qat pts.length (fun j=>inv (Qel (fun j=>eli F.z (pts[j]?.getD 0)) j (eli F.z (pts[j]?.getD 0)) pts.length)*(pw (eli F.z (pts[j]?.getD 0)) i*(inv (eli F.z (mul[j]?.getD 0))*eli F.z (wl[j]?.getD 0))))=0:=by
  rw[QgA];have hL:((pts.length:Int) - (kn:Int)).toNat=pts.length - kn:=by omega
  unfold Qwn;rw[hL];constructor
  ·intro h i J;rw[←Y i];exact Qaq.1 (h _ (List.mem_map.2 ⟨i,List.mem_range.2 J,rfl⟩))
  ·intro h x hx;obtain⟨i,J,rfl⟩:=List.mem_map.1 hx;have T:=h i (List.mem_range.1 J);rw[←Y i]at T;exact Qaq.2 T
 have T:(∃c:Nat→R F.z,∀j,j<pts.length→inv (eli F.z (mul[j]?.getD 0))*eli F.z (wl[j]?.getD 0)=Qat kn fun t=>c t*pw (eli F.z (pts[j]?.getD 0)) t)↔Qb2 kn pts.length (gM F.z pts mul) (fun j=>eli F.z (wl[j]?.getD 0)):=by
  have hg:∀ (c:Nat→R F.z) j,Qat kn (fun i=>c i*gM F.z pts mul i j)=eli F.z (mul[j]?.getD 0)*Qat kn fun t=>c t*pw (eli F.z (pts[j]?.getD 0)) t:=fun c j=>by
   rw[←Qal];exact Qaa fun t _=>by unfold gM;ac_rfl
  constructor
  ·rintro⟨c,U⟩;refine⟨c,fun j I=>?_⟩;rw[hg,←U j I,←Qa6,Qd0 (X j I),Qav]
  ·rintro⟨c,U⟩;refine⟨c,fun j I=>?_⟩;have O:=U j I;dsimp only at O;rw[O,hg,←Qa6,QbH (X j I),Qav]
 have O:=(h1.trans ad).trans (T.trans (QlP hz).symm)
 cases V:inB F kn pts mul wl with
 |true=>exact decide_eq_true (O.2 V)
 |false=>exact decide_eq_false fun h=>by rw[O.1 h]at V;cases V
end
section
open Go.Shelf
def ewl {D:FD} (r:R D.z)(n:Nat):List Int:=lst n fun i=>ci (pw r i)
theorem QcJ {D:FD} (r:R D.z)(n:Nat):(ewl r n).length=n:=Qab _ _
theorem Qqs {D:FD} (r:R D.z){n i:Nat} (h:i<n):(ewl r n)[i]?.getD 0=ci (pw r i):=Qas _ h
theorem QmX {D:FD} (r:R D.z)(n:Nat):ewl r (n+1)=ewl r n ++ [ci (pw r n)]:=Qdo _ _
theorem QuE {D:FD} (r:R D.z):ewl r 1=[1]:=by
 rw[QmX,QbK,Qei];rfl
theorem Qqt (S F:FD)(hp:S.p=F.p)(r:R F.z)(u:R S.z):(Qat S.m fun i=>eli F.z ((dl u)[i]?.getD 0)*eli F.z ((ewl r S.m)[i]?.getD 0))=phi S F r u :=
 Qaa fun i I=>by rw[QvY S F hp u I,Qqs r I,Qam]
theorem Qqu (S F:FD)(A:Option Addr)(c g:Nat)(w:World)(Y:GF w w.heap.size g F)(hr:Rd w w.heap.size A (Qan S.z))(hS:Qcq S.p S.m (Qan S.z))(ac:¬ (S.p=F.p∧Qia F.m S.m=true)) :
  Calls Tryz.prog 113 #[.agg #[.int .i64 S.p,.int .i64 S.m,.slice A S.mod.length c],.pointer (some ⟨g,0,none⟩)] w fun e w'=>e=.returned (.tuple #[.slice none 0 0,.int .i64 10])∧Below w.heap.size w w':=by
 have O:Below w.heap.size w (w.alloc (.cells #[.int .i64 S.p,.int .i64 S.m,.slice A S.mod.length c] 24)):=β;have af:=Bx.new w S.z A S.mod.length c 24;have hN:=η (QeP S.z A c _ (hr.bm O) hS);have av:=Y.lt;by_cases hp:S.p=F.p
 ·have hd:Qia F.m S.m=false:=by rw[←Bool.not_eq_true];exact fun h=>ac ⟨hp,h⟩
  have hI:=fun W h=>QcN F S.m g W h
  rw[hd]at hI;replace hI:=fun W h=>η (hI W h)
  have an:((S.p:Int) !=(F.p:Int))=false:=by rw[hp];simp
  clear hS ac hd hp;go_enter Tryz.func113,Tryz.ntmps113;go_wp2_with fail;(with_reducible refine hN.out.mono ?_);rintro e w1 ⟨g1,H,U,rfl,V,ar,J⟩;replace U:=η U;have I:=ζ O J;have V:=Y.bm I;have hT:=η (Qc6 F g w1 V);go_wp2_with fail;(with_reducible refine hT.out.mono ?_);rintro e w2 ⟨rfl,X⟩;have T:=ζ I X;have ao:=Y.bm T;have ae:w.heap.size<w1.heap.size:=by have:=J.size;simp only[World.size_alloc]at this;omega
  obtain⟨q0,q1,q2⟩:=((af.below J (by simp)).below X ae).cells;have ap:=hI w2 ao;go_wp2_with fail;(with_reducible refine ap.out.mono ?_);rintro e w3 ⟨rfl,au⟩;clear q0 q1 q2;go_wp2_with fail;go_ret2;exact⟨rfl,ζ T au⟩
 ·have an:((S.p:Int) !=(F.p:Int))=true:=by rw[bne_iff_ne];omega
  clear hS ac hp;go_enter Tryz.func113,Tryz.ntmps113;go_wp2_with fail;(with_reducible refine hN.out.mono ?_);rintro e w1 ⟨g1,H,U,rfl,V,ar,J⟩;replace U:=η U;have I:=ζ O J;have V:=Y.bm I;have hT:=η (Qc6 F g w1 V);go_wp2_with fail;(with_reducible refine hT.out.mono ?_);rintro e w2 ⟨rfl,X⟩;have T:=ζ I X;have ae:w.heap.size<w1.heap.size:=by have:=J.size;simp only[World.size_alloc]at this;omega
  obtain⟨q0,q1,q2⟩:=((af.below J (by simp)).below X ae).cells;go_wp2_with fail;go_ret2;exact⟨rfl,T⟩
theorem QiL (S F:FD)(rt:Nat)(A:Option Addr)(c g:Nat)(w:World)(hg:GF w w.heap.size g F)(hr:Rd w w.heap.size A (Qan S.z))(hS:Qcq S.p S.m (Qan S.z))(hp:S.p=F.p)(hd:Qia F.m S.m=true)(aY:Qjl S F rt) :
  Calls Tryz.prog 113 #[.agg #[.int .i64 S.p,.int .i64 S.m,.slice A S.mod.length c],.pointer (some ⟨g,0,none⟩)] w fun e w'=>∃v,e=.returned (.tuple #[v,.int .i64 0])∧Own w' w.heap.size v (Qov S F rt)∧Below w.heap.size w w':=by
 have cS:=S.m8;have cv:=S.m1;have cT:=S.q256;have cU:=QaC S.q (by omega);obtain⟨f,hf⟩:=ε (fun x=>ci (phi S F (rel F.z rt) (rel S.z x)):Nat→Int)
 replace hf:=η hf;have hB:Below w.heap.size w (w.alloc (.cells #[.int .i64 S.p,.int .i64 S.m,.slice A S.mod.length c] 24)):=β;have bQ:=Bx.new w S.z A S.mod.length c 24;have hN:=η (QeP S.z A c _ (hr.bm hB) hS);have cV:=hg.lt;have hI:=fun W h=>QcN F S.m g W h
 rw[hd]at hI;replace hI:=fun W h=>η (hI W h)
 have cW:((S.p:Int) !=(F.p:Int))=false:=by rw[hp];simp
 replace hp:=η hp;clear hS hd;go_enter Tryz.func113,Tryz.ntmps113;go_wp2_with fail;(with_reducible refine hN.out.mono ?_);rintro e w1 ⟨g1,H,hH,rfl,dd,cq,bc⟩;have aA:Hid (H.q=S.q):=by unfold Hid;show H.z.q=S.z.q;rw[hH]
 replace hH:=η hH;have aJ:=ζ hB bc;have bS:=hg.bm aJ;have hT:=η (Qc6 F g w1 bS);go_wp2_with fail;(with_reducible refine hT.out.mono ?_);rintro e w2 ⟨rfl,aC⟩;have aK:=ζ aJ aC;have bU:=hg.bm aK;have bV:w.heap.size<w1.heap.size:=by have:=bc.size;simp only[World.size_alloc]at this;omega
 have bW:w.heap.size<w2.heap.size:=θ bV aC.size;have bg:=(bQ.below bc (by simp)).below aC bV;have bX:=cq.bm aC;obtain⟨q0,q1,q2⟩:=bg.cells;have bY:=hI w2 bU;go_wp2_with fail;(with_reducible refine bY.out.mono ?_);rintro e w3 ⟨rfl,aD⟩;clear q0 q1 q2;have ab:=ζ aK aD;have bh:w.heap.size<w3.heap.size:=θ bW aD.size;have bi:=bg.below aD bW;have bZ:=bX.bm aD;have bj:=hg.bm ab;obtain⟨X,U⟩:=ε (w3.alloc (.cells #[.int .i64 1] 3));have aZ:X.heap.size=w3.heap.size+1:=by rw[U];simp
 have ar:Below w3.heap.size w3 X:=by rw[U];exact β
 have bk:Own X w3.heap.size (.slice (some ⟨w3.heap.size,0,none⟩) 1 1) (ewl (rel F.z rt) 1):=by
  rw[QuE,U];exact Own.of_IB (IB.new w3 [1]) ρ (by simp[maxLen])
 have b0:=bi.below ar bh;obtain⟨q0,q1,q2⟩:=b0.cells;rw[U]at q0 q1 q2;replace U:=η U;clear bQ bg hN hI bY hT cq bX bS bU bc aC aD hB aJ aK;by_cases hm:S.m=1
 ·have cw:decide (1<(S.m:Int))=false:=by simp;omega
  go_wp2_with fail;rw[←U.out];clear q0 q1 q2;have a0:Own X w3.heap.size (.slice (some ⟨w3.heap.size,0,none⟩) 1 1) (ewl (rel F.z rt) S.m):=by rw[hm];exact bk
  replace hm:=η hm;generalize (Value.slice (some ⟨w3.heap.size,0,none⟩) 1 1)=oT at *;obtain⟨I,rfl⟩:=ε (X:World);have J:=ar;have au:=ζ ab J;clear bk b0 ar aZ U;have aL:=bj.bm J;have aM:=bZ.bm J;have hO:=Qc5 H g1 I aM;rw[aA.out]at hO;replace hO:=η hO;obtain⟨Ap,cp,rfl,-,aV,-⟩:=a0.form;rw[QcJ];replace aA:=aA;obtain⟨Y,hY⟩:=ε (I.alloc (.cells (Array.replicate S.q (Value.int .i64 0)) 3));have aN:IB Y I.heap.size (upd S.q 0 f):=by rw[QaP,hY];exact IB.newz I S.q
  have aO:Below I.heap.size I Y:=by rw[hY];exact β
  replace hY:=η hY;go_wp2_with fail;(with_reducible refine hO.out.mono ?_);rintro e wz ⟨rfl,rfl⟩;go_wp2_with fail;rw[←hY.out];go_loopw [82] (fun i wr=>∃k:Nat,k≤S.q∧i=.int .i64 k∧IB wr I.heap.size (upd S.q k f)∧Below I.heap.size I wr) (fun i _=>S.q - (intOf i).toNat)
  case atStart=>exact⟨0,by omega,rfl,aN,aO⟩
  case round =>
   obtain⟨k,hk,rfl,ap,af⟩:=hrel;obtain⟨w8,rfl⟩:=ε (wr:World);clear aN aO;by_cases aE:k<S.q
   ·have b1:(0:Int)≤(k:Int):=by omega
    have b2:(k:Int)<(S.q:Int):=by omega
    have hD:=QhT H k g1 w8 (aM.bm af);rw[hH.out,Qcy (D:=S.z) aE]at hD;have ae:=fun A' c' W a b d=>QmV F (dl (rel S.z k)) (ewl (rel F.z rt) S.m) S.m (QcA _) (QcJ _ _) A' Ap c' cp g W a b d (by unfold maxLen;omega)
    rw[Qqt S F hp.out,show ci (phi S F (rel F.z rt) (rel S.z k))=f k from by rw[hf.out]]at ae;replace hD:=η hD;replace ae:=fun A' c' W a b d=>η (ae A' c' W a b d)
    obtain⟨y,O⟩:=ε (f k);have aP:=ap.lt;rw[←O]at ae;replace O:=η O;go_wp2_with fail;(with_reducible refine hD.out.mono ?_);rintro e w9 ⟨gb,rfl,cK,bI,ax⟩;have V:=ζ af ax;have bl:=ae (some ⟨gb,0,none⟩) S.m w9 (aL.bm V) bI.rd (aV.bm V);go_wp2_with fail;(with_reducible refine bl.out.mono ?_);rintro e bJ ⟨rfl,aX⟩;have bm:=ζ V aX;have av:=(ap.below ax aP).below aX (θ aP ax.size);have aQ:k<(upd S.q k f).length:=by rw[Qaz];exact aE
    have cx:=av.cell aQ;have cy:=av.frozen k;have al:=av.set_ k y;rw[O.out,QaY,←O.out]at al;replace al:=η al;have bo:Below I.heap.size I (bJ.setCell ⟨I.heap.size,k,none⟩ (.int .i64 y)):=bm.setCell (p:=⟨I.heap.size,k,none⟩) ρ _;clear aQ;go_wp2_with fail;go_roundw
    case rel=>exact⟨k+1,by omega,by go_num,al.out,bo⟩
    case measure=>simp[intOf];omega
   ·obtain rfl:k=S.q:=by omega
    rw[QaR]at ap;go_wp2_with fail;go_ret2;have aR:=Own.of_IB ap (B:=w.heap.size) (τ au.size ρ) (by rw[Qab];unfold maxLen;omega);rw[Qab]at aR;refine⟨_,rfl,?_,ζ au af⟩;unfold Qov;rw[←hf.out];exact aR
 ·have cw:decide (1<(S.m:Int))=true:=by simp;omega
  have aS:=S.hlen;rw[if_neg hm]at aS;have bq:(Qan S.z).length=S.mod.length:=Qaf _;have hR:=fun A5 c5 W a b=>QnJ F (Qjj S) A5 c5 g W a b (by rw[Qhy S hm];omega) (QrH S F hm)
  obtain⟨t,ht⟩:=QnH hp.out hm aY;rw[show upI F.q=lst F.q (fun i=>(i:Int)) from rfl,ht]at hR;obtain⟨T,aT⟩:=ε ((rt:Int) :: t);rw[←aT]at hR;have b3:Hid (T[0]?.getD 0=(rt:Int)):=by rw[aT];rfl
  have br:0<T.length:=by rw[aT];simp
  have cX:((T.length:Int)==0)=false:=by rw[beq_eq_false_iff_ne];omega
  have bs:Own (X.alloc (.cells #[] 3)) X.heap.size (.slice (some ⟨w3.heap.size+1,0,none⟩) 0 0) []:=by
   rw[←aZ];exact Own.of_IB (IB.new X []) ρ (by simp[maxLen])
  have aB:Below X.heap.size X (X.alloc (.cells #[] 3)):=β;have cz:=(ζ ab ar).trans (aB.mono (τ ab.size ar.size));have bt:=hr.below cz;have a2:=aB.size;rw[U.out]at bs aB bt a2;replace aT:=η aT;replace ht:=η ht;replace aS:=η aS;replace hm:=η hm;replace aZ:=η aZ;go_wp2_with (first
   |(at_builtin;refine Qda rfl _ _ rfl X.heap.size _ [] w.heap.size A c (Qan S.z) (by rw[U.out];exact bs) bt rfl rfl bq.symm (by rw[bq,aS.out];simp;omega) (by rw[U.out];exact a2) ?_;intro v4 w4 cs bf _ _;rw[List.nil_append]at cs)
   |(at_builtin;refine Qbs rfl _ _ rfl X.heap.size _ _ _ cs rfl rfl rfl (by rw[bq,aS.out];omega) (τ (by rw[U.out];exact a2) bf.size) ?_;intro v5 w5 bM ct _ _;rw[show Qan S.z ++ [1]=Qjj S from rfl]at bM))
  rw[←U.out]at bf aB;have b4:=(aB.trans bf).trans ct;have a3:=ζ ar b4;have b5:=ζ ab a3;have bv:=bk.below b4 ρ;obtain⟨A5,c5,rfl,-,ch,-⟩:=bM.form;have b7:=η (hR A5 c5 w5 (hg.bm b5) ch);clear hR bs bt a2 aB bf ct q0 q1 q2;(with_reducible refine b7.out.mono ?_);rintro e w6 ⟨v6,rfl,be,bK⟩;have bw:=ζ a3 bK;have b8:=bv.below bK ρ;obtain⟨A6,c6,rfl,-,cj,cI⟩:=be.form;obtain⟨b6,o6,rfl,-,-⟩:=cj.at_ br;have b9:Dis (.slice (some ⟨w3.heap.size,0,none⟩) 1 1) (.slice (some ⟨b6,o6,none⟩) T.length c6):=fun k h1 h2=>by
   have:=bv.lt k h1;have:=be.lt k h2;omega
  have cc:Own w6 w3.heap.size (.slice (some ⟨b6,o6,none⟩) T.length c6) T:=be.base a3.size;clear b7 bM ch bv cj cI bK be;obtain⟨q0,q1,q2⟩:=(bi.below bw bh).cells;go_wp2_with fail;generalize (Value.slice (some ⟨w3.heap.size,0,none⟩) 1 1)=o0 at *;clear q0 q1 q2;go_loopw [10,13] (fun o i wr=>∃k:Nat,1≤k∧k≤S.m∧i=.int .i64 k∧Own wr w3.heap.size o (ewl (rel F.z rt) k)∧Own wr w3.heap.size (.slice (some ⟨b6,o6,none⟩) T.length c6) T∧Dis o (.slice (some ⟨b6,o6,none⟩) T.length c6)∧Below w3.heap.size w3 wr) (fun _ i _=>S.m - (intOf i).toNat)
  case atStart=>exact⟨1,by omega,cv,rfl,b8,cc,b9,bw⟩
  case round =>
   obtain⟨k,b2,c9,rfl,aW,a9,ba,J⟩:=hrel;obtain⟨I,rfl⟩:=ε (wr:World);clear b8 cc b9 bw;obtain⟨q0,q1,q2⟩:=(bi.below J bh).cells;by_cases aE:k<S.m
   ·obtain⟨k',a4⟩:∃k',k=k'+1:=⟨k - 1,by omega⟩;have cY:=Qkt a4 (by omega);have b1:(0:Int)≤(k:Int):=by omega
    have cZ:(k:Int)<(S.m:Int):=by omega
    have c3:(0:Int)≤(k':Int):=by omega
    have c4:(k':Int)<(k:Int):=by omega
    have c7:(0:Int)<(T.length:Int):=by omega
    obtain⟨Ap,cp,rfl,-,aV,-⟩:=aW.form;rw[QcJ]at ba aW ⊢;have cA:k'<(ewl (rel F.z rt) k).length:=by rw[QcJ];omega
    obtain⟨bp,op,rfl,dc,cm⟩:=aV.at_ cA;rw[Qqs _ (by omega)]at cm;have bx:I.cell? ⟨b6,o6,none⟩=some (.int .i64 (T[0]?.getD 0)):=a9.cell0 br;rw[b3.out]at bx;have aU:=fun W h=>QbZ F (ci (pw (rel F.z rt) k')) (rt:Int) g W h
    rw[Qam,Qcy (D:=F.z) aY.1,←Qbi,←a4]at aU;obtain⟨y1,bB⟩:=ε (ci (pw (rel F.z rt) k'));obtain⟨y,O⟩:=ε (ci (pw (rel F.z rt) k));rw[←bB]at aU cm;rw[←O]at aU;have aL:=bj.bm J;have cB:=η (aU I.drew aL.drew);have cC:(ewl (rel F.z rt) k).length+[y].length≤1000000000:=by rw[QcJ];simp;omega
    have bz:ewl (rel F.z rt) k ++ [y]=ewl (rel F.z rt) (k+1):=by rw[O,QmX]
    have cd:b6<I.heap.size:=(a9.lt b6 rfl).2;have bA:=η bx;replace a4:=η a4;replace bB:=η bB;replace O:=η O;replace bz:=η bz;replace aY:=η aY;clear aU bx;go_wp2_with fail;refine wp_region_held_drew (S:=fun w'=>w'.cell? ⟨b6,o6,none⟩=some (.int .i64 (rt:Int))) (by kernel_rfl) (by (try dsimp only);exact bA.out) (fun hHeld=>?_);refine tk 0 ?_;simp only[pS]
    refine tk 1 ?_;simp only[pS]
    refine tk 2 ?_;simp only[pS]
    refine tk 3 ?_;simp only[pS]
    refine tk 4 ?_;simp only[pS]
    refine tk 5 ?_;simp only[pS]
    refine tk 7 ?_;simp only[pS]
    refine tk 8 ?_;simp only[pS]
    refine tk 9 ?_;simp only[pS]
    refine rd 6 fun K hK=>?_
    go_simp;refine hK.out _ _ bA.out fun hHeld=>?_;clear hK K;try simp only[pS]
    refine rd 10 fun K hK=>?_
    go_simp;go_at_call 90;(with_reducible refine (cB).out.mono ?_);rintro e w7 ⟨rfl,bL⟩;have ce:Hid (w7.cell? ⟨b6,o6,none⟩=some (.int .i64 (rt:Int))):=η ((bL.cell (p:=⟨b6,o6,none⟩) cd).trans bA.out);have bC:I.heap.size≤w7.heap.size:=bL.size;have bD:Below w7.heap.size w7 (w7.alloc (.cells #[.int .i64 y] 3)):=β;have bE:=(Below.refl I.heap.size I).drew.trans (bL.trans (bD.mono bC));have cD:=aW.below bE ρ;have cf:=a9.below bE ρ;have cE:Rd (w7.alloc (.cells #[.int .i64 y] 3)) (w7.heap.size+1) (some ⟨w7.heap.size,0,none⟩) [y]:=by have:=(IB.new w7 [y]).rd;rw[World.size_alloc]at this;exact this
    go_wp2_with fail;refine hK.out _ _ ce.out fun hHeld=>?_;clear hK K;try simp only[pS]
    refine rd 11 fun K hK=>?_
    go_simp;refine hK.out _ _ ((bD.cell (p:=⟨b6,o6,none⟩) (θ cd bC)).trans ce.out) fun hHeld=>?_;clear hK K;try simp only[pS]
    refine rd 12 fun K hK=>?_
    refine QaL (n2:=1) rfl (.tmp 64) (.tmp 75) rfl w3.heap.size _ (ewl (rel F.z rt) k) (w7.heap.size+1) (some ⟨w7.heap.size,0,none⟩) 1 [y] cD cE (by rfl) (by rfl) (by rfl) cC (τ J.size (τ bC bD.size)) ?_;intro v8 w8 cu cN cO cP;have cg:=cf.kept cO ba.symm.ne;have a5:w8.cell? ⟨b6,o6,none⟩=some (.int .i64 (T[0]?.getD 0)):=cg.cell0 br;rw[b3.out]at a5;replace a5:=η a5;refine hK.out _ _ a5.out fun hHeld=>?_;clear hK K;try simp only[pS]
    refine tk 13 ?_;simp only[pS]
    refine δ ?_;rw[bz.out]at cu;have cF:=ba.step (fun k h=>cf.lt k h) cP;have cG:=J.trans ((bE.mono J.size).trans cN);clear q0 q1 q2;go_wp2_with fail;go_roundw
    case rel=>exact⟨k+1,by omega,by omega,by go_num,cu,cg,cF,cG⟩
    case measure=>simp[intOf];omega
   ·obtain co:k=S.m:=by omega
    have a0:=aW;rw[co]at a0 ⊢;have au:=ζ ab J;replace hm:=hm;clear aW co ba a9;have aL:=bj.bm J;have aM:=bZ.bm J;have hO:=Qc5 H g1 I aM;rw[aA.out]at hO;replace hO:=η hO;obtain⟨Ap,cp,rfl,-,aV,-⟩:=a0.form;rw[QcJ];replace aA:=aA;obtain⟨Y,hY⟩:=ε (I.alloc (.cells (Array.replicate S.q (Value.int .i64 0)) 3));have aN:IB Y I.heap.size (upd S.q 0 f):=by rw[QaP,hY];exact IB.newz I S.q
    have aO:Below I.heap.size I Y:=by rw[hY];exact β
    replace hY:=η hY;go_wp2_with fail;(with_reducible refine hO.out.mono ?_);rintro e wz ⟨rfl,rfl⟩;go_wp2_with fail;rw[←hY.out];go_loopw [82] (fun i wr=>∃k:Nat,k≤S.q∧i=.int .i64 k∧IB wr I.heap.size (upd S.q k f)∧Below I.heap.size I wr) (fun i _=>S.q - (intOf i).toNat)
    case atStart=>exact⟨0,by omega,rfl,aN,aO⟩
    case round =>
     obtain⟨k,hk,rfl,ap,af⟩:=hrel;obtain⟨w8,rfl⟩:=ε (wr:World);clear aN aO;by_cases aE:k<S.q
     ·have b1:(0:Int)≤(k:Int):=by omega
      have b2:(k:Int)<(S.q:Int):=by omega
      have hD:=QhT H k g1 w8 (aM.bm af);rw[hH.out,Qcy (D:=S.z) aE]at hD;have ae:=fun A' c' W a b d=>QmV F (dl (rel S.z k)) (ewl (rel F.z rt) S.m) S.m (QcA _) (QcJ _ _) A' Ap c' cp g W a b d (by unfold maxLen;omega)
      rw[Qqt S F hp.out,show ci (phi S F (rel F.z rt) (rel S.z k))=f k from by rw[hf.out]]at ae;replace hD:=η hD;replace ae:=fun A' c' W a b d=>η (ae A' c' W a b d)
      obtain⟨y,O⟩:=ε (f k);have aP:=ap.lt;rw[←O]at ae;replace O:=η O;go_wp2_with fail;(with_reducible refine hD.out.mono ?_);rintro e w9 ⟨gb,rfl,cK,bI,ax⟩;have V:=ζ af ax;have bl:=ae (some ⟨gb,0,none⟩) S.m w9 (aL.bm V) bI.rd (aV.bm V);go_wp2_with fail;(with_reducible refine bl.out.mono ?_);rintro e bJ ⟨rfl,aX⟩;have bm:=ζ V aX;have av:=(ap.below ax aP).below aX (θ aP ax.size);have aQ:k<(upd S.q k f).length:=by rw[Qaz];exact aE
      have cx:=av.cell aQ;have cy:=av.frozen k;have al:=av.set_ k y;rw[O.out,QaY,←O.out]at al;replace al:=η al;have bo:Below I.heap.size I (bJ.setCell ⟨I.heap.size,k,none⟩ (.int .i64 y)):=bm.setCell (p:=⟨I.heap.size,k,none⟩) ρ _;clear aQ;go_wp2_with fail;go_roundw
      case rel=>exact⟨k+1,by omega,by go_num,al.out,bo⟩
      case measure=>simp[intOf];omega
     ·obtain rfl:k=S.q:=by omega
      rw[QaR]at ap;go_wp2_with fail;go_ret2;have aR:=Own.of_IB ap (B:=w.heap.size) (τ au.size ρ) (by rw[Qab];unfold maxLen;omega);rw[Qab]at aR;refine⟨_,rfl,?_,ζ au af⟩;unfold Qov;rw[←hf.out];exact aR
end
section
def Qu9 (w:World)(s:Nat)(I v1 v2 J O T u0 u1:Value):Prop :=
 (w.cell? ⟨s,0,none⟩=some I∧w.cell? ⟨s,1,none⟩=some v1∧w.cell? ⟨s,2,none⟩=some v2∧w.cell? ⟨s,3,none⟩=some J∧w.cell? ⟨s,4,none⟩=some O∧w.cell? ⟨s,5,none⟩=some T)∧w.cell? ⟨s+1,0,none⟩=some u0∧w.cell? ⟨s+1,1,none⟩=some u1
theorem Qu9.keep {w w1:World} {s B:Nat} {O v1 v2 T U V u0 u1:Value} (h:Qu9 w s O v1 v2 T U V u0 u1)(I:Below B w w1)(J:s+1<B):Qu9 w1 s O v1 v2 T U V u0 u1 :=
 ⟨QbS I (Nat.lt_of_succ_lt J) h.1,((Qh7 I).1 (s+1) 0 J).trans h.2.1,((Qh7 I).1 (s+1) 1 J).trans h.2.2⟩
theorem Qu9.new (w:World)(I v1 v2 J O T u0 u1:Value)(t U:TypeId):Qu9 ((w.alloc (.cells #[I,v1,v2,J,O,T] t)).alloc (.cells #[u0,u1] U)) w.heap.size I v1 v2 J O T u0 u1:=by
 unfold Qu9;simp[go_sem]
theorem QcC.form {D:Desc} {kn:Nat} {pts mul wl er:List Int} {w:World} {e:Ending} {w':World} (h:QcC D (kn:Int) pts mul wl er w e w')(h0:QcO D (kn:Int) pts mul wl er=0) :
    Below w.heap.size w w'∧∃J na ca Ab nb cb ec,e=.returned (.tuple #[.agg #[.slice J na ca,.slice Ab nb cb],.int .i64 ec]) ∧
      ((ec=12∧na=0∧nb=0∧J=none∧Ab=none∧QgF D kn pts mul wl er) ∨
       (ec=0∧na=pts.length∧∃I,nb=(Qbu (Qa5 D pts mul I) wl er pts.length).length∧QfU D kn pts mul wl er I∧Rd w' w'.heap.size J (Qa5 D pts mul I)∧Rd w' w'.heap.size Ab (Qbu (Qa5 D pts mul I) wl er pts.length) ∧
         (∀a,J=some a→w.heap.size≤a.block)∧(∀a,Ab=some a→w.heap.size≤a.block))):=by
  obtain⟨O,⟨V,-⟩ |⟨-,T,rfl⟩ |⟨-,I,Ac,cc,Ae,ce,U,rfl,X,Y,h3,h4⟩⟩:=h
  · exact absurd h0 V
  · rw[Int.toNat_natCast]at T;exact⟨O,_,_,_,_,_,_,_,rfl,.inl ⟨rfl,rfl,rfl,rfl,rfl,T⟩⟩
  · rw[Int.toNat_natCast]at U;exact⟨O,_,_,_,_,_,_,_,rfl,.inr ⟨rfl,rfl,I,rfl,U,X,Y,h3,h4⟩⟩
section
variable {F:FD} {kn:Nat} {pts mul wl er:List Int}
end
end
section
theorem Duo.put {b:Nat} {w:World} {I v1:Value} (h:Duo w b I v1)(u0 u1:Value):Duo ((w.setCell ⟨b,0,none⟩ u0).setCell ⟨b,1,none⟩ u1) b u0 u1:=by
 obtain⟨J,O,T,U⟩:=h;unfold Duo;simp[go_sem,J,O,T,U]
theorem Rd.apart {w:World} {B b:Nat} {A:Option Addr} {l:List Int} (h:Rd w B A l)(J:∀a,A=some a→b<a.block)(u0 u1:Value):Rd ((w.setCell ⟨b,0,none⟩ u0).setCell ⟨b,1,none⟩ u1) B A l:=fun hp=>by
 obtain⟨k,o,rfl,T,U⟩:=h hp;have O:=J _ rfl;have I:b≠k:=by have:b<k:=O;omega
 refine⟨k,o,rfl,T,fun j V=>?_⟩;exact ((World.cell?_setCell_far _ ⟨b,1,none⟩ ⟨k,o+j,none⟩ u1 I).trans (World.cell?_setCell_far w ⟨b,0,none⟩ ⟨k,o+j,none⟩ u0 I)).trans (U j V)
end
end Go.Proofs

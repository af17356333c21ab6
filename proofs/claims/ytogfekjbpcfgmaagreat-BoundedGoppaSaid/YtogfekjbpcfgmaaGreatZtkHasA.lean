/- The reference: Canon of rows, copies of fields, equal rows. -/
import Derived.Test.YtogfekjbpcfgmaaGreatZtkMatE
set_option maxRecDepth 100000
set_option maxHeartbeats 16000000
set_option linter.unusedVariables false
namespace Go.Proofs
open Go.RowKit Cw
section
theorem QnM (F:FD)(m I:Nat)(M:Nat→Nat→R F.z)(A Ar:Option Addr)(c O:Nat)(w:World)(hc:I≤70000) :
  Calls Tryz.prog 159 #[.agg #[.int .i64 F.p,.int .i64 F.m,.slice A F.mod.length c],.slice Ar 0 O,.int .i64 I] w (Qjn F 0 m I M w):=by
 have T:=fun W=>η (Qkx 0 (Qaw F.z m M) Ar O W RdM.zero (by omega) (fun i hi=>absurd hi (by omega)))
 have J:Below w.heap.size w (w.alloc (.cells #[.int .i64 F.p,.int .i64 F.m,.slice A F.mod.length c] 24)):=β;have U:Hid (elS 0 M I=(M,[])):=by
  have:=Qja (n:=0) (A:=M) (c:=0) (Nat.zero_le _) I
  rwa [Nat.zero_add]at this
 go_enter Tryz.func159,Tryz.ntmps159;go_wp2_with fail;(with_reducible refine (T _).out.mono ?_);rintro e w1 ⟨v,rfl,-,X,Y⟩;have V:=ζ J X;obtain rfl:=Y rfl;clear Y X T J;go_wp2_with fail;go_loopw [11,10,9,12,13] (fun cS aS pS _ _ wr=>cS=.int .i64 0∧aS=.int .i64 0∧pS=.slice none 0 0∧wr=w1) (fun _ _ _ _ _ _=>0)
 case atStart=>exact⟨rfl,rfl,rfl,rfl⟩
 case round =>
  obtain⟨rfl,rfl,rfl,rfl⟩:=hrel;by_cases h0:I=0
  ·subst h0;go_wp2_with fail;go_ret2;exact⟨none,0,.slice none 0 0,rfl,V,Nat.zero_le _,Nat.zero_le _,by rw[U.out];exact Own.nil _ _,fun h=>absurd h (by omega),fun _=>⟨rfl,rfl⟩⟩
  ·have h1:(0:Int)<(I:Int):=by omega
   go_wp2_with fail;go_ret2;exact⟨none,0,.slice none 0 0,rfl,V,Nat.zero_le _,Nat.zero_le _,by rw[U.out];exact Own.nil _ _,fun h=>absurd h (by omega),fun _=>⟨rfl,rfl⟩⟩
theorem QpL (F:FD)(n m I:Nat)(M:Nat→Nat→R F.z)(A Ar:Option Addr)(c J:Nat)(w:World)(O:Rd w w.heap.size A (Qan F.z))(T:RdM w w.heap.size Ar n (Qaw F.z m M))(U:n≤1000000)(V:m≤70000)(X:I≤m) :
  Calls Tryz.prog 159 #[.agg #[.int .i64 F.p,.int .i64 F.m,.slice A F.mod.length c],.slice Ar n J,.int .i64 I] w (Qjn F n m I M w):=by
 by_cases h:0<n
 ·exact QpK F n m I M A Ar c J w O T U V X h
 ·obtain rfl:n=0:=by omega
  exact QnM F m I M A Ar c J w (by omega)
noncomputable def rkS (F:FD)(n I:Nat)(M:Nat→Nat→R F.z):Nat:=(elS n M I).2.length
def QfM (F:FD)(n m I:Nat)(M:Nat→Nat→R F.z)(w:World)(e:Ending)(w':World):Prop :=
 ∃J cl O T,e=.returned (.tuple #[.slice J (rkS F n I M) cl,.slice O (rkS F n I M) T])∧Below w.heap.size w w'∧Qfb w' w.heap.size w'.heap.size J (rkS F n I M) (Qaw F.z m (elS n M I).1)∧Rd w' w'.heap.size O (Qid (elS n M I).2)∧rkS F n I M≤cl∧cl≤maxLen∧(∀a,J=some a→w.heap.size≤a.block)
theorem Qgd (F:FD)(n m I:Nat)(M:Nat→Nat→R F.z)(A Ar:Option Addr)(c X:Nat)(w:World)(hr:Rd w w.heap.size A (Qan F.z))(ak:RdM w w.heap.size Ar n (Qaw F.z m M))(hn:n≤1000000)(hm:m≤70000)(an:I≤m) :
  Calls Tryz.prog 102 #[.agg #[.int .i64 F.p,.int .i64 F.m,.slice A F.mod.length c],.slice Ar n X,.int .i64 I] w (QfM F n m I M w):=by
 have U:=fun W h1 h2=>η (QpL F n m I M A Ar c X W h1 h2 hn hm an)
 have J:Below w.heap.size w (w.alloc (.cells #[.int .i64 F.p,.int .i64 F.m,.slice A F.mod.length c] 24)):=β;have Y:=(Qgu n M I).1;go_enter Tryz.func102,Tryz.ntmps102;go_wp2_with fail;(with_reducible refine (U _ (hr.bm J) (ak.bm J)).out.mono ?_);rintro e w1 ⟨Al,cl,vp,rfl,ar,au,av,aw,V,hz⟩;have aa:=ζ J ar;have T:(Qid (elS n M I).2).length=rkS F n I M:=by unfold Qid rkS;rw[List.length_map]
 obtain⟨Ap,cp,rfl,af,ag,az⟩:=aw.form;rw[T]at af ⊢;have ab:rkS F n I M≤cl:=τ Y au;have ao:(0:Int)≤((rkS F n I M:Nat):Int):=by omega
 have ap:((rkS F n I M:Nat):Int)≤(cl:Int):=by omega
 by_cases h0:0<n
 ·obtain⟨g,rfl,hg,ai⟩:=V h0;have ac:=(ai.rdmU hg).less (m:=rkS F n I M) Y;have aq:Qfb w1 w.heap.size w1.heap.size (some ⟨g,0,none⟩) (rkS F n I M) (Qaw F.z m (elS n M I).1):=ac.low (by rw[World.size_alloc];omega);rw[World.size_alloc]at hg;replace T:=η T;clear V ai U ac;go_wp2_with fail;go_ret2;exact⟨some ⟨g,0,none⟩,cl,Ap,cp,rfl,aa,aq,ag,ab,av,fun a e=>by cases e;show w.heap.size≤g;omega⟩
 ·obtain rfl:n=0:=by omega
  obtain⟨rfl,rfl⟩:=hz rfl;have O:rkS F 0 I M=0:=by unfold rkS;omega
  rw[O]at af ab ⊢;replace O:=η O;replace T:=η T;clear V U ao ap hz;go_wp2_with fail;go_ret2;exact⟨none,0,Ap,cp,by rw[O.out];rfl,aa,by rw[O.out];exact Qfb.zero,ag,by rw[O.out];exact Nat.le_refl _,Nat.zero_le _,fun a e=>by cases e⟩
theorem Qlz (l:List Int)(J O:Option Addr)(c1 c2:Nat)(w:World)(h1:Rd w w.heap.size J l)(h2:Rd w w.heap.size O l)(hl:l.length≤1000000) :
  Calls Tryz.prog 160 #[.slice J l.length c1,.slice O l.length c2] w fun e w'=>e=.returned (.bool true)∧Below w.heap.size w w':=by
 go_enter Tryz.func160,Tryz.ntmps160;go_wp2_with fail;go_loopw [5] (fun i wr=>∃k:Nat,k≤l.length∧i=.int .i64 k∧Below w.heap.size w wr) (fun i _=>l.length - (intOf i).toNat)
 case atStart=>exact⟨0,by omega,rfl,κ⟩
 case round =>
  obtain⟨k,hk,rfl,I⟩:=hrel;obtain⟨T,rfl⟩:=ε (wr:World);by_cases aa:k<l.length
  ·obtain⟨b1,o1,rfl,ah,U⟩:=h1.at_ aa;obtain⟨b2,o2,rfl,ak,V⟩:=h2.at_ aa;have ad:=(I.cell (p:=⟨b1,o1+k,none⟩) ah).trans U;have ae:=(I.cell (p:=⟨b2,o2+k,none⟩) ak).trans V;obtain⟨X,Y⟩:=ε (l[k]?.getD 0);rw[←Y]at ad ae;have hz:(X !=X)=false:=by simp
   clear U V Y;go_wp2_with fail;go_quiet (fail);go_wp2_with fail;go_roundw
   case rel=>exact⟨k+1,by omega,by go_num,⟨I.os,I.tape,I.output,I.size,I.block⟩⟩
   case measure=>simp[intOf];omega
  ·obtain rfl:k=l.length:=by omega
   go_wp2_with fail;go_ret;exact⟨rfl,I⟩
theorem QlA (n:Nat)(rows:Nat→List Int)(A1 A2:Option Addr)(c1 c2:Nat)(w:World)(h1:RdM w w.heap.size A1 n rows)(h2:RdM w w.heap.size A2 n rows)(hn:n≤1000000)(hl:∀i,i<n→(rows i).length≤1000000) :
  Calls Tryz.prog 104 #[.slice A1 n c1,.slice A2 n c2] w fun e w'=>e=.returned (.bool true)∧Below w.heap.size w w':=by
 have hS:=fun i hi J T O U W a b=>η (Qlz (rows i) J T O U W a b (hl i hi))
 go_enter Tryz.func104,Tryz.ntmps104;go_wp2_with fail;go_loopw [5] (fun i wr=>∃k:Nat,k≤n∧i=.int .i64 k∧Below w.heap.size w wr) (fun i _=>n - (intOf i).toNat)
 case atStart=>exact⟨0,by omega,rfl,κ⟩
 case round =>
  obtain⟨k,hk,rfl,I⟩:=hrel;obtain⟨X,rfl⟩:=ε (wr:World);by_cases ae:k<n
  ·have aB:(0:Int)≤(k:Int):=by omega
   have aC:(k:Int)<(n:Int):=by omega
   obtain⟨Y,o1,J,O,rfl,aj,ak,ax,-,-⟩:=h1.at_ ae;obtain⟨b2,o2,T,U,rfl,al,am,ay,-,-⟩:=h2.at_ ae;have ah:=(I.cell (p:=⟨Y,o1+k,none⟩) aj).trans ak;have ai:=(I.cell (p:=⟨b2,o2+k,none⟩) al).trans am;have au:=hS k ae J T O U X.drew (ax.bm I).drew (ay.bm I).drew;have V:=η (show _∧_ from ⟨ah,ai⟩);have av:=θ aj I.size;have aw:=θ al I.size;clear ak am ah ai;go_wp2_with fail;refine wp_region_held_drew (S:=fun w'=>w'.cell? ⟨Y,o1+k,none⟩=some (.slice J (rows k).length O)∧w'.cell? ⟨b2,o2+k,none⟩=some (.slice T (rows k).length U)) (by kernel_rfl) (by (try dsimp only);exact V.out) (fun hHeld=>?_);refine tk 0 ?_;simp only[pS]
   refine tk 1 ?_;simp only[pS]
   refine tk 2 ?_;simp only[pS]
   refine tk 3 ?_;simp only[pS]
   refine tk 4 ?_;simp only[pS]
   refine tk 5 ?_;simp only[pS]
   refine tk 6 ?_;simp only[pS]
   refine tk 7 ?_;simp only[pS]
   refine rd 8 fun K hK=>?_
   go_simp;go_at_call 160;(with_reducible refine (au).out.mono ?_);rintro e w3 ⟨rfl,ad⟩;go_wp2_with fail;refine hK.out _ _ (by (try dsimp only);exact⟨(ad.cell (p:=⟨Y,o1+k,none⟩) av).trans V.out.1,(ad.cell (p:=⟨b2,o2+k,none⟩) aw).trans V.out.2⟩) (fun hHeld=>?_);clear hK K;try simp only[pS]
   refine tk 9 ?_;simp only[pS]
   refine δ ?_;go_wp2_with fail;go_roundw
   case rel=>exact⟨k+1,by omega,by go_num,I.drew.trans (ad.mono I.size)⟩
   case measure=>simp[intOf];omega
  ·obtain rfl:k=n:=by omega
   go_wp2_with fail;go_ret;exact⟨rfl,I⟩
end
section
theorem QlB (D:Desc)(A:Option Addr)(c:Nat)(w:World)(ar:Rd w w.heap.size A (Qan D)) :
  Calls Tryz.prog 103 #[.agg #[.int .i64 D.p,.int .i64 D.m,.slice A D.mod.length c]] w fun e w'=>∃J T,e=.returned (.agg #[.int .i64 D.p,.int .i64 D.m,.slice J D.mod.length T]) ∧
   Rd w' w'.heap.size J (Qan D)∧(∀b,J=some b→w.heap.size≤b.block)∧Below w.heap.size w w':=by
 have aR:D.mod.length≤8:=by have:=D.hlen;have:=D.m8;rw[D.hlen];split <;> omega
 obtain⟨X,U⟩:=ε (w.alloc (.cells #[.int .i64 D.p,.int .i64 D.m,.slice A D.mod.length c] 24));have af:Below w.heap.size w X:=by rw[U];exact β
 have V:X.heap.size=w.heap.size+1:=by rw[U];simp
 have kx:X.cell? ⟨w.heap.size,0,none⟩=some (.int .i64 D.p)∧X.cell? ⟨w.heap.size,1,none⟩=some (.int .i64 D.m)∧X.cell? ⟨w.heap.size,2,none⟩=some (.slice A D.mod.length c):=by rw[U];exact Qb9 _ _ _ _ _
 obtain⟨Z,O⟩:=ε (X.alloc (.cells #[.int .i64 0,.int .i64 0,.slice none 0 0] 24));have Y:Below X.heap.size X Z:=by rw[O];exact β
 have au:Below w.heap.size w Z:=af.trans (Y.mono (by omega));have ah:Z.heap.size=w.heap.size+1+1:=by rw[O];simp[V]
 have av:w.heap.size<X.heap.size:=by omega
 have kz:=η (Qau Y av kx);have o1:Hid (Own (Z.alloc (.cells #[] 3)).drew (w.heap.size+1+1) (.slice (some ⟨w.heap.size+1+1,0,none⟩) 0 0) []):=Qa9 (by have:=heap_alloc_new Z (.cells #[] 3);rw[ah]at this;exact this) ρ;have hX:Below w.heap.size w (Z.alloc (.cells #[] 3)).drew:=(au.alloc (by omega) _).drew;have ax:Below Z.heap.size Z (Z.alloc (.cells #[] 3)).drew:=(β).drew;have k1:=η (Qau ax (by omega) kz.out);have r1:Hid (Rd (Z.alloc (.cells #[] 3)).drew w.heap.size A (Qan D)):=ar.below hX;have az:Hid (D.mod.length=(Qan D).length):=(Qaf D).symm;have aA:Hid ((([]:List Int) ++ Qan D).length=D.mod.length):=by unfold Hid;rw[List.nil_append,Qaf]
 have aB:([]:List Int).length+(Qan D).length≤1000000000:=by rw[Qaf];simp;omega
 have b1:w.heap.size+1+1≤(Z.alloc (.cells #[] 3)).drew.heap.size:=by simp[ah]
 have al:∀i,i<3→∃v,Z.cell? ⟨w.heap.size+1,i,none⟩=some v:=fun i hi=>by
  rw[O,←V]
  match i,hi with
  |0,_=>exact⟨_,(Qb9 _ _ _ _ _).1⟩
  |1,_=>exact⟨_,(Qb9 _ _ _ _ _).2.1⟩
  |2,_=>exact⟨_,(Qb9 _ _ _ _ _).2.2⟩
 have am:∀i,Z.frozen? ⟨w.heap.size+1,i,none⟩=false:=fun i=>by rw[O,←V];exact World.frozen?_alloc_at _ _ _ _ rfl
 have an:w.heap.size+1<Z.heap.size:=by omega
 have aa:∀i,i<3→∃v,(Z.alloc (.cells #[] 3)).drew.cell? ⟨w.heap.size+1,i,none⟩=some v:=fun i hi=>by
  obtain⟨v,hv⟩:=al i hi;exact⟨v,(((Below.refl Z.heap.size Z).alloc ρ _).cell (p:=⟨w.heap.size+1,i,none⟩) an).trans hv⟩
 have ab:∀i,(Z.alloc (.cells #[] 3)).drew.frozen? ⟨w.heap.size+1,i,none⟩=false:=fun i =>
  (((Below.refl Z.heap.size Z).alloc ρ (.cells #[] 3)).frozen (p:=⟨w.heap.size+1,i,none⟩) an).trans (am i)
 rw[U]at O;replace O:=η O;replace aa:=η aa;replace ab:=η ab;clear al am kx U Y af;go_enter Tryz.func103,Tryz.ntmps103;go_wp2_with fail;rw[←O.out];go_region_held3 (fun w'=>w'.cell? ⟨w.heap.size,0,none⟩=some (.int .i64 D.p)∧w'.cell? ⟨w.heap.size,1,none⟩=some (.int .i64 D.m)∧w'.cell? ⟨w.heap.size,2,none⟩=some (.slice A D.mod.length c))
  (first |exact kz.out |exact k1.out |exact y.out |exact Qau (b:=w.heap.size) (QwA (b:=w.heap.size+1) _ _ _) (Nat.lt_succ_self _) y.out)
  (first
   |(refine QaL rfl (.tmp 7) (.tmp 9) rfl (w.heap.size+1+1) _ [] w.heap.size A c (Qan D) o1.out r1.out rfl rfl az.out aB b1 ?_;intro v3 w3 aN ad a0 a1;obtain⟨J,T,rfl,aS,ao,ap⟩:=aN.form;rw[aA.out];have y:=η (Qau (b:=w.heap.size) ad (Nat.lt_succ_of_lt (Nat.lt_succ_self _)) k1.out);obtain⟨z0,z1,z2,q0,q1,q2,q3,q4,q5⟩:=Qxc aa.out ab.out ad (Nat.lt_succ_self _)))
 go_wp2_with fail;rw[List.nil_append]at ao;have aD:Below w.heap.size w (((w3.setCell ⟨w.heap.size+1,0,none⟩ (.int .i64 D.p)).setCell ⟨w.heap.size+1,1,none⟩ (.int .i64 D.m)).setCell ⟨w.heap.size+1,2,none⟩ (.slice J D.mod.length T)):=(hX.trans (ad.mono (by omega))).trans ((QwA _ _ _).mono (by omega));have aE:Rd (((w3.setCell ⟨w.heap.size+1,0,none⟩ (.int .i64 D.p)).setCell ⟨w.heap.size+1,1,none⟩ (.int .i64 D.m)).setCell ⟨w.heap.size+1,2,none⟩ (.slice J D.mod.length T)) w3.heap.size J (Qan D):=fun hn=>by
  obtain⟨b,aq,e,aL,aM⟩:=ao hn;have h8:=(ap _ e).1;refine⟨b,aq,e,aL,fun j hj=>?_⟩;have ne:∀i,(⟨b,aq+j,none⟩:Addr)≠⟨w.heap.size+1,i,none⟩:=fun i I=>by
   have h9:=congrArg Addr.block I;simp at h9 h8;omega
  rw[World.cell?_setCell_other _ _ _ _ (fun I=>ne 2 (by first |exact I |exact I.symm)),World.cell?_setCell_other _ _ _ _ (fun I=>ne 1 (by first |exact I |exact I.symm)),World.cell?_setCell_other _ _ _ _ (fun I=>ne 0 (by first |exact I |exact I.symm))];exact aM j hj
 refine bodyPost_ret (v:=.agg #[.int .i64 D.p,.int .i64 D.m,.slice J D.mod.length T]) (by simp[results,Tryz.results103,go_sem,q0,q1,q2]) rfl ⟨J,T,rfl,aE.more (by simp[World.setCell]),fun b hb=>by have:=(ap b hb).1;omega,aD⟩
def QhB (w:World)(b:Nat)(I v1 v2 J O:Value):Prop :=
 w.cell? ⟨b,0,none⟩=some I∧w.cell? ⟨b,1,none⟩=some v1∧w.cell? ⟨b,2,none⟩=some v2∧w.cell? ⟨b,3,none⟩=some J∧w.cell? ⟨b,4,none⟩=some O ∧
 w.frozen? ⟨b,0,none⟩=false∧w.frozen? ⟨b,1,none⟩=false∧w.frozen? ⟨b,2,none⟩=false∧w.frozen? ⟨b,3,none⟩=false∧w.frozen? ⟨b,4,none⟩=false
theorem QhB.keep {B b:Nat} {w w1:World} {O v1 v2 T U:Value} (h:QhB w b O v1 v2 T U)(I:Below B w w1)(J:b<B):QhB w1 b O v1 v2 T U:=by
 obtain⟨V,X,Y,a3,a4,f0,f1,f2,f3,f4⟩:=h;exact⟨(I.cell (p:=⟨b,0,none⟩) J).trans V,(I.cell (p:=⟨b,1,none⟩) J).trans X,(I.cell (p:=⟨b,2,none⟩) J).trans Y,(I.cell (p:=⟨b,3,none⟩) J).trans a3,(I.cell (p:=⟨b,4,none⟩) J).trans a4,
  (I.frozen (p:=⟨b,0,none⟩) J).trans f0,(I.frozen (p:=⟨b,1,none⟩) J).trans f1,(I.frozen (p:=⟨b,2,none⟩) J).trans f2,(I.frozen (p:=⟨b,3,none⟩) J).trans f3,(I.frozen (p:=⟨b,4,none⟩) J).trans f4⟩
theorem QhB.new (w:World)(I v1 v2 J O:Value)(t:TypeId):QhB (w.alloc (.cells #[I,v1,v2,J,O] t)) w.heap.size I v1 v2 J O:=by
 unfold QhB;simp[go_sem]
theorem Qv0 {w3:World} {b:Nat} (u0 u1 u2 u3 I:Value):Below b w3 (((((w3.setCell ⟨b,0,none⟩ u0).setCell ⟨b,1,none⟩ u1).setCell ⟨b,2,none⟩ u2).setCell ⟨b,3,none⟩ u3).setCell ⟨b,4,none⟩ I) :=
 ((((κ.setCell (p:=⟨b,0,none⟩) ρ _).setCell (p:=⟨b,1,none⟩) ρ _).setCell (p:=⟨b,2,none⟩) ρ _).setCell (p:=⟨b,3,none⟩) ρ _).setCell (p:=⟨b,4,none⟩) ρ _
end
section
theorem Rd.set5 {w:World} {B b:Nat} {A:Option Addr} {l:List Int} (h:Rd w B A l)(I:∀a,A=some a→a.block≠b)(u0 u1 u2 u3 J:Value):Rd (((((w.setCell ⟨b,0,none⟩ u0).setCell ⟨b,1,none⟩ u1).setCell ⟨b,2,none⟩ u2).setCell ⟨b,3,none⟩ u3).setCell ⟨b,4,none⟩ J) B A l :=
 ((((h.farN (fun _=>I) 0 u0).farN (fun _=>I) 1 u1).farN (fun _=>I) 2 u2).farN (fun _=>I) 3 u3).farN (fun _=>I) 4 J
theorem QnN {w:World} {b L:Nat} (O:b<L)(u0 u1 u2 u3 J:Value)(p:Addr)(hp:L≤p.block):(((((w.setCell ⟨b,0,none⟩ u0).setCell ⟨b,1,none⟩ u1).setCell ⟨b,2,none⟩ u2).setCell ⟨b,3,none⟩ u3).setCell ⟨b,4,none⟩ J).cell? p=w.cell? p:=by
 have I:b≠p.block:=by omega
 rw[World.cell?_setCell_far _ _ _ _ I,World.cell?_setCell_far _ _ _ _ I,World.cell?_setCell_far _ _ _ _ I,World.cell?_setCell_far _ _ _ _ I,World.cell?_setCell_far _ _ _ _ I]
def QrN (F:FD)(n m:Nat)(M:Nat→Nat→R F.z)(w:World)(e:Ending)(w':World):Prop :=
 ∃I O J cl,e=.returned (.agg #[.int .i64 F.p,.int .i64 F.m,.slice I F.mod.length O,.int .i64 m,.slice J (rkS F n m M) cl])∧Rd w' w'.heap.size I (Qan F.z)∧(∀b,I=some b→w.heap.size≤b.block)∧Qfb w' w.heap.size w'.heap.size J (rkS F n m M) (Qaw F.z m (elS n M m).1)∧Below w.heap.size w w'
theorem QnO (F:FD)(n m:Nat)(M:Nat→Nat→R F.z)(A Ar:Option Addr)(c cr:Nat)(w:World)(hr:Rd w w.heap.size A (Qan F.z))(aj:RdM w w.heap.size Ar n (Qaw F.z m M))(hn:n≤1000000)(hm:m≤70000) :
  Calls Tryz.prog 45 #[.agg #[.int .i64 F.p,.int .i64 F.m,.slice A F.mod.length c],.slice Ar n cr,.int .i64 m] w (QrN F n m M w):=by
 have hC:=fun W h1 h2=>η (Qgd F n m m M A Ar c cr W h1 h2 hn hm ρ)
 have hF:=fun W h=>η (QlB F.z A c W h)
 obtain⟨Z,J⟩:=ε ((w.alloc (.cells #[.int .i64 F.p,.int .i64 F.m,.slice A F.mod.length c] 24)).alloc (.cells #[.int .i64 0,.int .i64 0,.slice none 0 0,.int .i64 0,.slice none 0 0] 27));have I:Below w.heap.size w Z:=by rw[J];exact (β).alloc (by simp) _
 have aD:Z.heap.size=w.heap.size+2:=by rw[J];simp
 have kz:=η (show Z.cell? ⟨w.heap.size,0,none⟩=some (.int .i64 F.p)∧Z.cell? ⟨w.heap.size,1,none⟩=some (.int .i64 F.m)∧Z.cell? ⟨w.heap.size,2,none⟩=some (.slice A F.mod.length c) from by rw[J];simp[go_sem]);have f5:QhB Z (w.heap.size+1) (.int .i64 0) (.int .i64 0) (.slice none 0 0) (.int .i64 0) (.slice none 0 0):=by
  rw[J];have:=QhB.new (w.alloc (.cells #[.int .i64 F.p,.int .i64 F.m,.slice A F.mod.length c] 24)) (.int .i64 0) (.int .i64 0) (.slice none 0 0) (.int .i64 0) (.slice none 0 0) 27;rw[World.size_alloc]at this;exact this
 replace J:=η J;go_enter Tryz.func45,Tryz.ntmps45;go_wp2_with fail;rw[←J.out];(with_reducible refine (hC Z (hr.bm I) (aj.bm I)).out.mono ?_);rintro e w1 ⟨T,cl,Ap,cp,rfl,U,aa,-,-,-,-⟩;have aE:=U.size;have O:=ζ I U;have ao:=f5.keep U (by omega);obtain⟨q0,q1,q2⟩:=Qau U (by omega) kz.out;go_wp2_with fail;(with_reducible refine (hF w1 (hr.bm O)).out.mono ?_);rintro e w2 ⟨A3,c3,rfl,Y,ai,V⟩;have aF:=V.size;obtain⟨a0,a1,a2,a3,a4,g0,g1,g2,g3,g4⟩:=ao.keep V (by omega);have X:Qfb w2 Z.heap.size w1.heap.size T (rkS F n m M) (Qaw F.z m (elS n M m).1):=aa.keepU fun p _ hp=>V.cell hp
 have ap:Hid (Qfb (((((w2.setCell ⟨w.heap.size+1,0,none⟩ (.int .i64 F.p)).setCell ⟨w.heap.size+1,1,none⟩ (.int .i64 F.m)).setCell ⟨w.heap.size+1,2,none⟩ (.slice A3 F.mod.length c3)).setCell ⟨w.heap.size+1,3,none⟩ (.int .i64 m)).setCell ⟨w.heap.size+1,4,none⟩ (.slice T (rkS F n m M) cl)) Z.heap.size w1.heap.size T (rkS F n m M) (Qaw F.z m (elS n M m).1)) :=
  X.keepU fun p hp _=>QnN (b:=w.heap.size+1) (L:=Z.heap.size) (by omega) _ _ _ _ _ p hp
 replace Y:=η Y;replace aa:=η aa;replace X:=η X;clear hF hC q0 q1 q2;go_wp2_with fail;refine bodyPost_ret (v:=.agg #[.int .i64 F.p,.int .i64 F.m,.slice A3 F.mod.length c3,.int .i64 m,.slice T (rkS F n m M) cl]) (by simp[results,Tryz.results45,go_sem,a0,a1,a2,a3,a4]) rfl ⟨A3,c3,T,cl,rfl,?_,fun b hb=>by have:=ai b hb;have:=O.size;omega,?_,(ζ O V).trans ((Qv0 _ _ _ _ _).mono (Nat.le_succ _))⟩
 ·exact (Y.out.set5 (fun a e=>by have:=ai a e;omega) _ _ _ _ _).more (by simp[World.setCell])
 ·exact (ap.out.low I.size).more (by simp[World.setCell];omega)
end
section
def fnz:List Int→Nat
 | []=>0
 |x :: l=>if x=0 then fnz l+1 else 0
theorem Qky:∀ (l:List Int) (c:Nat),c≤l.length→(∀j,j<c→l[j]?.getD 0=0)→(c=l.length∨l[c]?.getD 0≠0)→fnz l=c
 | [],c,h,_,_=>by simp at h;rw[h];rfl
 |x :: l,c,h,h1,I=>by
  cases c with
  |zero =>
   rcases I with I |I
   ·simp at I
   ·exact if_neg (by simpa using I)
  |succ c =>
   have J:x=0:=by simpa using h1 0 (by omega)
   rw[show fnz (x :: l)=fnz l+1 from if_pos J,Qky l c (by simpa using h) (fun j O=>by simpa using h1 (j+1) (by omega)) (I.imp (fun e=>by simpa using e) (fun e=>by simpa using e))]
def QqK (l:List Int):Bool:=decide (∀x∈l,x=0)
def elE (D:Desc)(l:List Int):Int:=if elB D l=false then 2 else 0
theorem QpM {l:List Int} {k:Nat} (J:k<l.length)(h:∀x∈l.take k,x=0)(O:l[k]?.getD 0=0):∀x∈l.take (k+1),x=0:=by
 rw[List.take_succ_eq_append_getElem J];rw[List.getElem?_eq_getElem J,Option.getD_some]at O;intro x T;rcases List.mem_append.1 T with I |I
 ·exact h x I
 ·rw[List.mem_singleton.1 I];exact O
theorem QnP (l:List Int)(A:Option Addr)(c:Nat)(w:World)(U:Rd w w.heap.size A l)(hl:l.length≤1000000) :
  Calls Tryz.prog 107 #[.slice A l.length c] w fun e w'=>e=.returned (.bool (QqK l))∧w=w':=by
 go_enter Tryz.func107,Tryz.ntmps107;go_wp2_with fail;go_loop [3] (fun i=>∃k:Nat,k≤l.length∧i=.int .i64 k∧∀x∈l.take k,x=0) (fun i=>l.length - (intOf i).toNat)
 case atStart=>exact⟨0,by omega,rfl,fun x hx=>by simp at hx⟩
 case round =>
  obtain⟨k,hk,rfl,hz⟩:=hrel;by_cases T:k<l.length
  ·obtain⟨b,o,rfl,-,hc⟩:=U.at_ T;obtain⟨y,J⟩:=ε (l[k]?.getD 0);have O:y∈l:=by rw[J,List.getElem?_eq_getElem T];exact List.getElem_mem _
   rw[←J]at hc;have ad:(0:Int)≤(k:Int):=by omega
   have ae:(k:Int)<(l.length:Int):=by omega
   by_cases I:y=0
   ·have V:(y !=0)=false:=by rw[bne_eq_false_iff_eq];exact I
    have X:Hid (∀x∈l.take (k+1),x=0):=QpM T hz (by rw[←J];exact I);clear J I hz O;go_wp2_with fail;go_round
    case rel=>exact⟨k+1,by omega,by go_num,X.out⟩
    case measure=>simp[intOf];omega
   ·have V:(y !=0)=true:=by rw[bne_iff_ne];exact I
    have Y:Hid (QqK l=false):=decide_eq_false fun h=>I (h y O)
    clear J I hz O;go_wp2_with fail;go_ret;exact⟨by rw[Y.out];rfl,rfl⟩
  ·obtain rfl:k=l.length:=by omega
   rw[List.take_length]at hz;replace hz:=η hz;go_wp2_with fail;go_ret;exact⟨by rw[show QqK l=true from decide_eq_true hz.out];rfl,rfl⟩
theorem Qkz (n:Nat)(rows:Nat→List Int)(A:Option Addr)(c:Nat)(w:World)(hr:RdM w w.heap.size A n rows)(hn:n≤1000)(hl:∀i,i<n→(rows i).length≤1000000) :
  Calls Tryz.prog 100 #[.slice A n c] w fun e w'=>∃v,e=.returned v∧Own w' w.heap.size v (lst n fun i=>(fnz (rows i):Int))∧Below w.heap.size w w':=by
 go_enter Tryz.func100,Tryz.ntmps100;go_wp2_with fail;go_loopw [4,3] (fun i v wr=>∃k:Nat,k≤n∧i=.int .i64 k∧Own wr w.heap.size v (lst k fun i=>(fnz (rows i):Int))∧Below w.heap.size w wr) (fun i _ _=>n - (intOf i).toNat)
 case atStart=>exact⟨0,by omega,rfl,Own.nil _ _,κ⟩
 case round =>
  obtain⟨k,hk,rfl,T,I⟩:=hrel;obtain⟨w3,rfl⟩:=ε (wr:World);by_cases ah:k<n
  ·have aA:(0:Int)≤(k:Int):=by omega
   have aB:(k:Int)<(n:Int):=by omega
   obtain⟨b,o,Ak,ck,rfl,hb,hc,af,-,-⟩:=hr.at_ ah;have ak:=hl k ah;have hd:=(I.cell (p:=⟨b,o+k,none⟩) hb).trans hc;have ad:=af.bm I;obtain⟨row,O⟩:=ε (rows k);rw[←O]at hd ad ak;replace O:=η O;clear hc af;go_wp2_with fail;go_loop [5] (fun j=>∃j':Nat,j'≤row.length∧j=.int .i64 j'∧∀t,t<j'→row[t]?.getD 0=0) (fun j=>row.length - (intOf j).toNat)
   case atStart=>exact⟨0,by omega,rfl,fun t ht=>absurd ht (Nat.not_lt_zero _)⟩
   case round =>
    obtain⟨j,hj,rfl,hz⟩:=hrel;have aC:(0:Int)≤(j:Int):=by omega
    by_cases ay:j<row.length
    ·have aD:(j:Int)<(row.length:Int):=by omega
     obtain⟨br,aG,rfl,-,aq⟩:=ad.at_ ay;obtain⟨y,U⟩:=ε (row[j]?.getD 0);rw[←U]at aq;by_cases J:y=0
     ·have am:(y==0)=true:=by rw[beq_iff_eq];exact J
      have an:Hid (∀t,t<j+1→row[t]?.getD 0=0):=fun t ht=>by
       by_cases e:t=j
       ·rw[e,←U];exact J
       ·exact hz t (by omega)
      clear U J hz;go_wp2_with fail;go_round
      case rel=>exact⟨j+1,by omega,by go_num,an.out⟩
      case measure=>simp[intOf];omega
     ·have am:(y==0)=false:=by rw[beq_eq_false_iff_ne];exact J
      have X:=η (Qky row j hj hz (.inr (by rw[←U];exact J)));have Y:(lst k fun i=>(fnz (rows i):Int)).length≤1000000:=by rw[Qab];omega
      have aa:=I.size;obtain⟨Au,cu,rfl,-,-,-⟩:=T.form;clear U J hz;go_wp2_with (at_builtin;refine Qbs rfl (.tmp 31) (.tmp 33) rfl w.heap.size _ _ _ T rfl rfl rfl Y aa ?_;intro v' w' V ab aw ax);rw[←X.out,O.out,←Qdo]at V;go_roundw
      case rel=>exact⟨k+1,by omega,by go_num,V,I.trans ab⟩
      case measure=>simp[intOf];omega
    ·obtain rfl:j=row.length:=by omega
     have X:=η (Qky row row.length ρ hz (.inl rfl));have Y:(lst k fun i=>(fnz (rows i):Int)).length≤1000000:=by rw[Qab];omega
     have aa:=I.size;obtain⟨Au,cu,rfl,-,-,-⟩:=T.form;clear hz;go_wp2_with (at_builtin;refine Qbs rfl (.tmp 31) (.tmp 33) rfl w.heap.size _ _ _ T rfl rfl rfl Y aa ?_;intro v' w' V ab aw ax);rw[←X.out,O.out,←Qdo]at V;go_roundw
     case rel=>exact⟨k+1,by omega,by go_num,V,I.trans ab⟩
     case measure=>simp[intOf];omega
  ·obtain rfl:k=n:=by omega
   go_wp2_with fail;go_ret;exact⟨_,rfl,T,I⟩
theorem Qgz (D:Desc)(l:List Int)(A A1:Option Addr)(c c1:Nat)(w:World)(an:Rd w w.heap.size A1 l)(hl:l.length≤1000000) :
  Calls Tryz.prog 162 #[.agg #[.int .i64 D.p,.int .i64 D.m,.slice A D.mod.length c],.slice A1 l.length c1] w fun e w'=>e=.returned (.int .i64 (elE D l))∧Below w.heap.size w w':=by
 have hI:=fun y W=>Qmd D y A D.mod.length c W
 have hB:Below w.heap.size w (w.alloc (.cells #[.int .i64 D.p,.int .i64 D.m,.slice A D.mod.length c] 24)):=β;have k0:=η (Qb9 w (.int .i64 D.p) (.int .i64 D.m) (.slice A D.mod.length c) 24);have ad:w.heap.size<(w.alloc (.cells #[.int .i64 D.p,.int .i64 D.m,.slice A D.mod.length c] 24)).heap.size:=by simp
 obtain⟨Z,hZ⟩:=ε (w.alloc (.cells #[.int .i64 D.p,.int .i64 D.m,.slice A D.mod.length c] 24));rw[←hZ]at hB k0 ad;replace hZ:=η hZ;go_enter Tryz.func162,Tryz.ntmps162;go_wp2_with fail;rw[←hZ.out];go_loopw [5] (fun i wr=>∃k:Nat,k≤l.length∧i=.int .i64 k∧(∀j,j<k→0≤l[j]?.getD 0∧l[j]?.getD 0<(D.q:Int))∧Below Z.heap.size Z wr) (fun i _=>l.length - (intOf i).toNat)
 case atStart=>exact⟨0,by omega,rfl,fun j hj=>absurd hj (Nat.not_lt_zero _),κ⟩
 case round =>
  obtain⟨k,hk,rfl,T,X⟩:=hrel;obtain⟨w3,rfl⟩:=ε (wr:World);have V:=ζ hB X;by_cases am:k<l.length
  ·have ar:(0:Int)≤(k:Int):=by omega
   have au:(k:Int)<(l.length:Int):=by omega
   obtain⟨b,o,rfl,hb,hc⟩:=an.at_ am;have hd:=(V.cell (p:=⟨b,o+k,none⟩) hb).trans hc;obtain⟨y,Y⟩:=ε (l[k]?.getD 0);rw[←Y]at hd;have O:=η (show _∧_ from ⟨Qau X ad k0.out,hd⟩);have ah:b<w3.heap.size:=θ hb V.size;have ai:w.heap.size<w3.heap.size:=θ ad X.size;have I:=hI y w3.drew;clear hc hd;by_cases U:0≤y∧y<(D.q:Int)
   ·rw[decide_eq_true U]at I;replace I:=η I;have ap:Hid (∀j,j<k+1→0≤l[j]?.getD 0∧l[j]?.getD 0<(D.q:Int)):=fun j hj=>by
     by_cases e:j=k
     ·rw[e,←Y];exact U
     ·exact T j (by omega)
    clear T U Y;go_wp2_with fail;refine wp_region_held_drew (S:=fun w'=>(w'.cell? ⟨w.heap.size,0,none⟩=some (.int .i64 D.p)∧w'.cell? ⟨w.heap.size,1,none⟩=some (.int .i64 D.m)∧w'.cell? ⟨w.heap.size,2,none⟩=some (.slice A D.mod.length c))∧w'.cell? ⟨b,o+k,none⟩=some (.int .i64 y)) (by kernel_rfl) (by (try dsimp only);exact O.out) (fun hHeld=>?_);refine tk 0 ?_;simp only[pS]
    refine tk 1 ?_;simp only[pS]
    refine tk 2 ?_;simp only[pS]
    refine tk 3 ?_;simp only[pS]
    refine tk 4 ?_;simp only[pS]
    refine rd 5 fun K hK=>?_
    go_simp;go_at_call 70;(with_reducible refine (I).out.mono ?_);rintro e w4 ⟨rfl,J⟩;go_wp2_with fail;refine hK.out _ _ (by (try dsimp only);exact⟨Qau J ai O.out.1,(J.cell (p:=⟨b,o+k,none⟩) ah).trans O.out.2⟩) (fun hHeld=>?_);clear hK K;try simp only[pS]
    refine tk 6 ?_;simp only[pS]
    refine δ ?_;go_wp2_with fail;go_roundw
    case rel=>exact⟨k+1,by omega,by go_num,ap.out,X.drew.trans (J.mono X.size)⟩
    case measure=>simp[intOf];omega
   ·rw[decide_eq_false U]at I;replace I:=η I;have af:elB D l=false:=by
     cases h:elB D l with
     |false=>rfl
     |true=>exact absurd (by rw[Y];exact QaJ.1 h k am) U
    replace af:=η af;clear T U Y;go_wp2_with fail;refine wp_region_held_drew (S:=fun w'=>(w'.cell? ⟨w.heap.size,0,none⟩=some (.int .i64 D.p)∧w'.cell? ⟨w.heap.size,1,none⟩=some (.int .i64 D.m)∧w'.cell? ⟨w.heap.size,2,none⟩=some (.slice A D.mod.length c))∧w'.cell? ⟨b,o+k,none⟩=some (.int .i64 y)) (by kernel_rfl) (by (try dsimp only);exact O.out) (fun hHeld=>?_);refine tk 0 ?_;simp only[pS]
    refine tk 1 ?_;simp only[pS]
    refine tk 2 ?_;simp only[pS]
    refine tk 3 ?_;simp only[pS]
    refine tk 4 ?_;simp only[pS]
    refine rd 5 fun K hK=>?_
    go_simp;go_at_call 70;(with_reducible refine (I).out.mono ?_);rintro e w4 ⟨rfl,J⟩;go_wp2_with fail;refine hK.out _ _ (by (try dsimp only);exact⟨Qau J ai O.out.1,(J.cell (p:=⟨b,o+k,none⟩) ah).trans O.out.2⟩) (fun hHeld=>?_);clear hK K;try simp only[pS]
    refine tk 6 ?_;simp only[pS]
    refine δ ?_;go_wp2_with fail;go_ret;exact⟨by rw[show elE D l=2 from if_pos af.out];rfl,V.drew.trans (J.mono V.size)⟩
  ·obtain rfl:k=l.length:=by omega
   replace T:=η T;go_wp2_with fail;go_ret;exact⟨by rw[show elE D l=0 from if_neg (by rw[QaJ.2 T.out];simp)];rfl,V⟩
end
end Go.Proofs

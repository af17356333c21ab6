/- Plain: interleaved rows, product rows, bursts. -/
import Derived.Laws.MakeOwn
import Derived.Outline
import Derived.Test.YtogfekjbpcfgmaaGreatZtkCodC
set_option maxRecDepth 100000
set_option maxHeartbeats 16000000
set_option linter.unusedVariables false
namespace Cw
section cmb
variable {F:Type} [CField F]
open CField (inv)
def iv (s k:Nat)(u:Nat→F):Nat→F:=fun t=>if t % s=k then u (t / s) else 0
theorem QiE {b x y:Nat} (I:y<b):(b*x+y) / b=x∧(b*x+y) % b=y:=by
 constructor
 ·rw[Nat.mul_add_div (by omega),Nat.div_eq_of_lt I,Nat.add_zero]
 ·rw[Nat.mul_add_mod,Nat.mod_eq_of_lt I]
end cmb
section burst
variable {F:Type} [CField F] [DecidableEq F]
end burst
end Cw
namespace Go.Proofs
open Go.RowKit Cw
section
def Qn3 {X:Type} (n:Nat)(u v:Nat→X):Nat→X:=fun j=>if j<n then u j else v (j - n)
def Qdx {X:Type} (K:Nat)(A B:Nat→X):Nat→X:=fun i=>if i<K then A i else B (i - K)
theorem QhM {X:Type} {K i:Nat} (A B:Nat→X)(h:i<K):Qdx K A B i=A i:=if_pos h
theorem QhN {X:Type} {K i:Nat} (A B:Nat→X):Qdx K A B (K+i)=B i:=by unfold Qdx;rw[if_neg (by omega),Nat.add_sub_cancel_left]
def QwY {F:Type} [CField F] (K n:Nat)(A B:Nat→Nat→F):Nat→Nat→F:=Qdx K (fun i=>Qn3 n (A i) fun _=>0) (fun i=>Qn3 n (fun _=>0) (B i))
def Qxd {F:Type} [CField F] (K n:Nat)(A B:Nat→Nat→F):Nat→Nat→F:=Qdx K (fun i=>Qn3 n (A i) (A i)) (fun i=>Qn3 n (fun _=>0) (B i))
end
section
end
section
def cmb {D:Desc} (n:Nat)(g:Nat→R D)(M:Nat→Nat→R D):Nat→R D:=fun j=>Qat n fun i=>g i*M i j
theorem Qn4 (D:Desc)(n:Nat):List.replicate n (0:Int)=QaK D n (fun _=>0):=by
 unfold QaK;rw[Qd2];exact Qay fun j _=>QaF.symm
theorem QkI (D:Desc)(n m:Nat)(g:Nat→R D)(M:Nat→Nat→R D)(A A1 Ar:Option Addr)(c c1 cr:Nat)(w:World)(hr:Rd w w.heap.size A (Qan D))(aH:Rd w w.heap.size A1 (QaK D n g))(aI:RdM w w.heap.size Ar n (Qaw D m M))(hn:n≤1000)(hm:m≤70000) :
  Calls Tryz.prog 43 #[.agg #[.int .i64 D.p,.int .i64 D.m,.slice A D.mod.length c],.slice A1 n c1,.slice Ar n cr,.int .i64 m] w fun e w'=>∃A2 c2,e=.returned (.slice A2 m c2)∧Rd w' w'.heap.size A2 (QaK D m (cmb n g M))∧(∀a,A2=some a→w.heap.size≤a.block)∧m≤c2∧c2≤maxLen∧Below w.heap.size w w':=by
 have aJ:=fun f h a A1 A2 c1 c2 W x y z=>Qgc D m f h a A A1 A2 c c1 c2 W x y z hm
 have aV:=QaC m hm;obtain⟨Z,T⟩:=ε (w.alloc (.cells #[.int .i64 D.p,.int .i64 D.m,.slice A D.mod.length c] 24));have hB:Below w.heap.size w Z:=by rw[T];exact β
 have k0:=η (show Z.cell? ⟨w.heap.size,0,none⟩=some (.int .i64 D.p)∧Z.cell? ⟨w.heap.size,1,none⟩=some (.int .i64 D.m)∧Z.cell? ⟨w.heap.size,2,none⟩=some (.slice A D.mod.length c) from by rw[T];exact Qb9 w _ _ _ _);have al:Z.heap.size=w.heap.size+1:=by rw[T];simp
 obtain⟨Y,U⟩:=ε (Z.alloc (.cells (Array.replicate m (Value.int .i64 0)) 3));have am:Below Z.heap.size Z Y:=by rw[U];exact β
 have au:=ζ hB am;have av:w.heap.size<Y.heap.size:=by have:=am.size;omega
 have kY:=η (Qau am (by omega) k0.out);have aL:Rd Y Y.heap.size (some ⟨w.heap.size+1,0,none⟩) (QaK D m (cmb 0 g M)):=by
  rw[show QaK D m (cmb 0 g M)=List.replicate m 0 from (Qn4 D m).symm,U,←al];exact (IB.newz Z m).rd
 rw[T]at U;replace T:=η T;replace U:=η U;replace al:=η al;go_enter Tryz.func43,Tryz.ntmps43;go_wp2_with fail;rw[←U.out];go_loopw [10,9] (fun iS v wr=>∃ (k:Nat) (J:Option Addr) (O:Nat),k≤n∧iS=.int .i64 k∧v=.slice J m O∧Rd wr wr.heap.size J (QaK D m (cmb k g M))∧(∀a,J=some a→w.heap.size≤a.block)∧m≤O∧O≤maxLen∧Below Y.heap.size Y wr) (fun iS _ _=>n - (intOf iS).toNat)
 case atStart=>exact⟨0,some ⟨w.heap.size+1,0,none⟩,m,by omega,rfl,rfl,aL,(fun a e=>by cases e;exact Nat.le_succ _),Nat.le_refl _,by unfold maxLen;omega,κ⟩
 case round =>
  obtain⟨k,J,O,hk,rfl,rfl,ag,az,aA,aB,V⟩:=hrel;obtain⟨w3,rfl⟩:=ε (wr:World);have I:=ζ au V;by_cases ap:k<n
  ·have aW:(0:Int)≤(k:Int):=by omega
   have aX:(k:Int)<(n:Int):=by omega
   obtain⟨b,o,Ak,ck,rfl,hb,hc,aQ,-,-⟩:=aI.at_ ap;obtain⟨b1,o1,rfl,aD,aj⟩:=aH.at_ (show k<(QaK D n g).length by rw[Qae];exact ap);rw[Qa0 D g ap]at aj;rw[show (Qaw D m M k).length=m from Qae _ _ _]at hc;have hd:=(I.cell (p:=⟨b,o+k,none⟩) hb).trans hc;have aw:=(I.cell (p:=⟨b1,o1+k,none⟩) aD).trans aj;have ad:eli D (ci (g k))=g k:=Qam _;have ae:cmb (k+1) g M=fun j=>cmb k g M j+g k*M k j:=funext fun j=>Qaj _ _
   by_cases hz:ci (g k)=0
   ·have aM:(ci (g k) !=0)=false:=by rw[bne_eq_false_iff_eq];exact hz
    have aN:Hid (QaK D m (cmb (k+1) g M)=QaK D m (cmb k g M)):=by
     unfold Hid;rw[ae,←ad,hz,QbC]
     congr 1
     exact funext fun j=>by rw[Qah,Qad]
    rw[←aN.out]at ag;generalize ci (g k)=y at *;clear ad ae hz hc aj hd;go_wp2_with fail;go_roundw
    case rel=>exact⟨k+1,J,O,by omega,by go_num,rfl,ag,az,aA,aB,V⟩
    case measure=>simp[intOf];omega
   ·have aM:(ci (g k) !=0)=true:=by rw[bne_iff_ne];exact hz
    have X:=aJ (cmb k g M) (M k) (ci (g k)) J Ak O ck w3.drew (hr.bm I).drew ag.drew (aQ.bm I).drew;rw[ad,←ae]at X;unfold Qcj at X;replace X:=η X;generalize hy:ci (g k)=y at *;replace hy:=η hy;have kk:=η (show (w3.cell? ⟨w.heap.size,0,none⟩=some (.int .i64 D.p)∧w3.cell? ⟨w.heap.size,1,none⟩=some (.int .i64 D.m)∧w3.cell? ⟨w.heap.size,2,none⟩=some (.slice A D.mod.length c))∧w3.cell? ⟨b,o+k,none⟩=some (.slice Ak m ck)∧w3.cell? ⟨b1,o1+k,none⟩=some (.int .i64 y) from ⟨Qau V av kY.out,hd,aw⟩);have x1:w.heap.size<w3.heap.size:=θ av V.size;have x2:b<w3.heap.size:=θ hb I.size;have x3:b1<w3.heap.size:=θ aD I.size;clear ad ae hz hc aj;go_wp2_with fail;clear hd aw;refine wp_region_held_drew (S:=fun w'=>(w'.cell? ⟨w.heap.size,0,none⟩=some (.int .i64 D.p)∧w'.cell? ⟨w.heap.size,1,none⟩=some (.int .i64 D.m)∧w'.cell? ⟨w.heap.size,2,none⟩=some (.slice A D.mod.length c))∧w'.cell? ⟨b,o+k,none⟩=some (.slice Ak m ck)∧w'.cell? ⟨b1,o1+k,none⟩=some (.int .i64 y)) (by kernel_rfl) (by (try dsimp only);exact kk.out) (fun hHeld=>?_);refine tk 0 ?_;simp only[pS]
    refine tk 1 ?_;simp only[pS]
    refine tk 2 ?_;simp only[pS]
    refine tk 3 ?_;simp only[pS]
    refine tk 4 ?_;simp only[pS]
    refine tk 5 ?_;simp only[pS]
    refine tk 6 ?_;simp only[pS]
    refine tk 7 ?_;simp only[pS]
    refine tk 8 ?_;simp only[pS]
    refine tk 9 ?_;simp only[pS]
    refine rd 10 fun K hK=>?_
    go_simp;go_at_call 99;(with_reducible refine (X).out.mono ?_);rintro e w4 ⟨g4,rfl,aS,aT,ak⟩;rw[Qae];go_wp2_with fail;refine hK.out _ _ (by (try dsimp only);exact⟨Qau ak x1 kk.out.1,(ak.cell (p:=⟨b,o+k,none⟩) x2).trans kk.out.2.1,(ak.cell (p:=⟨b1,o1+k,none⟩) x3).trans kk.out.2.2⟩) (fun hHeld=>?_);clear hK K;try simp only[pS]
    refine tk 11 ?_;simp only[pS]
    refine δ ?_;go_wp2_with fail;go_roundw
    case rel=>exact⟨k+1,some ⟨g4,0,none⟩,m,by omega,by go_num,rfl,aT.rd,(fun a e=>by cases e;exact τ (Nat.le_of_lt x1) aS),Nat.le_refl _,by unfold maxLen;omega,V.drew.trans (ak.mono V.size)⟩
    case measure=>simp[intOf];omega
  ·obtain rfl:n=k:=by omega
   go_wp2_with fail;go_ret;exact⟨J,O,rfl,ag,az,aA,aB,I⟩
end
section
end
section
end
section
def Qum (w:World)(b:Nat)(I v1 v2 J:Value):Prop :=
 (w.cell? ⟨b,0,none⟩=some I∧w.cell? ⟨b,1,none⟩=some v1∧w.cell? ⟨b,2,none⟩=some v2∧w.cell? ⟨b,3,none⟩=some J) ∧
 w.frozen? ⟨b,0,none⟩=false∧w.frozen? ⟨b,1,none⟩=false∧w.frozen? ⟨b,2,none⟩=false∧w.frozen? ⟨b,3,none⟩=false
theorem Qum.keep {B b:Nat} {w w1:World} {O v1 v2 T:Value} (h:Qum w b O v1 v2 T)(I:Below B w w1)(J:b<B):Qum w1 b O v1 v2 T:=by
 obtain⟨⟨U,V,X,Y⟩,f0,f1,f2,f3⟩:=h;exact⟨⟨(I.cell (p:=⟨b,0,none⟩) J).trans U,(I.cell (p:=⟨b,1,none⟩) J).trans V,(I.cell (p:=⟨b,2,none⟩) J).trans X,(I.cell (p:=⟨b,3,none⟩) J).trans Y⟩,
  (I.frozen (p:=⟨b,0,none⟩) J).trans f0,(I.frozen (p:=⟨b,1,none⟩) J).trans f1,(I.frozen (p:=⟨b,2,none⟩) J).trans f2,(I.frozen (p:=⟨b,3,none⟩) J).trans f3⟩
theorem Qum.set_ {w:World} {b:Nat} {I v1 v2 J:Value} (h:Qum w b I v1 v2 J)(u0 u1 u2 u3:Value):Qum ((((w.setCell ⟨b,0,none⟩ u0).setCell ⟨b,1,none⟩ u1).setCell ⟨b,2,none⟩ u2).setCell ⟨b,3,none⟩ u3) b u0 u1 u2 u3:=by
 obtain⟨⟨O,T,U,V⟩,X,Y,f2,f3⟩:=h;unfold Qum;simp[go_sem,O,T,U,V,X,Y,f2,f3]
end
section
def QwZ (P M N:Int)(ml:List Int)(n:Nat)(rows:Nat→List Int)(E:Int)(w:World)(e:Ending)(w':World):Prop :=
 ∃A c I cl,e=.returned (.tuple #[.agg #[.int .i64 P,.int .i64 M,.slice A ml.length c,.int .i64 N,.slice I n cl],.int .i64 E])∧Rd w' w'.heap.size A ml∧(∀b,A=some b→w.heap.size≤b.block)∧Qfb w' w.heap.size w'.heap.size I n rows∧Below w.heap.size w w'
theorem QhB.set_ {w:World} {b:Nat} {J v1 v2 O T:Value} (h:QhB w b J v1 v2 O T)(u0 u1 u2 u3 I:Value):QhB (((((w.setCell ⟨b,0,none⟩ u0).setCell ⟨b,1,none⟩ u1).setCell ⟨b,2,none⟩ u2).setCell ⟨b,3,none⟩ u3).setCell ⟨b,4,none⟩ I) b u0 u1 u2 u3 I:=by
 obtain⟨U,V,X,Y,a4,f0,f1,f2,f3,f4⟩:=h;unfold QhB;simp[go_sem,U,V,X,Y,a4,f0,f1,f2,f3,f4]
end
section
theorem Qc4.lt0 {w:World} {B n:Nat} {v:Value} {rows:Nat→List Int} (h:Qc4 w B v n rows):∀k,v.ownBlock=some k→k<w.heap.size:=fun k e=>by
 obtain⟨J,-,I,-⟩:=h;exact (World.ownsRow.lt I k e).2
theorem Qef {w:World} {ops:Array Oper} {rest:List Oper} {o:Oper} {a:Act} {Q:Exit→Act→World→Prop} (T:o.guard=none)(s x:Operand)
  (U:o.op=.call { callee:=.builtin .append,args:=#[s,x],argTypes:=#[25,25] })
  (B:Nat) (v:Value) (n:Nat) (rows:Nat→List Int) (V:Qc4 w B v n rows) (Ak:Option Addr) (L ck:Nat) (X:Rd w w.heap.size Ak (rows n)) (Y:(rows n).length=L) (hl:L≤ck) (hc:ck≤maxLen)
  (J:Nat) (ab:∀k,v.ownBlock=some k→k<J) (O:∀a,Ak=some a→J≤a.block) (ac:B≤J)
  (hs:a.eval s=v) {H:Nat} (hx:a.eval x=.slice (some ⟨H,0,none⟩) 1 1) (hH:w.heap.size=H) (hn:n≤1000000) (hB:B≤w.heap.size)
  (h:∀I w',Qc4 w' B I (n+1) rows→Below B w w'→wpList Tryz.prog ops Q rest (a.put o.dst I) w') :
  wpList Tryz.prog ops Q (o :: rest) a (w.alloc (.cells #[.slice Ak L ck] 22)):=by
 obtain⟨ah,e1,e2,e3⟩:=V;refine Qgw T s x U B v ah _ rfl e2 hs hx hH (by omega) hB fun I w' al hb hg hv=>?_
 refine h I w' (Qc4.snoc e1 e3 X (by omega) hc (fun _ a e=>⟨fun e4=>?_,τ ac (O a e)⟩) (by rw[Y];exact al) hg hv) hb;have h1:=O a e;have h2:=ab _ e4;omega
theorem Qc4.rdm {w:World} {B n:Nat} {v:Value} {rows:Nat→List Int} (h:Qc4 w B v n rows):∃A c,v=.slice A n c∧RdM w w.heap.size A n rows:=by
 obtain⟨A,c,rfl⟩:=h.size;refine⟨A,c,rfl,?_⟩;by_cases h0:0<n
 ·obtain⟨g,c',e,J,-,-,O⟩:=h.mb h0;have I:A=some ⟨g,0,none⟩:=by injection e
  rw[I];exact (O.rdmU J).rdm
 ·obtain rfl:n=0:=by omega
  exact RdM.zero
end
section
theorem VC.rdm {P M N:Int} {ml:List Int} {n:Nat} {rows:Nat→List Int} {F:FD} {m:Nat} {A:Nat→Nat→R F.z} (h:VC P M N ml n rows F m A){w:World} {B:Nat} {Ar:Option Addr} (I:RdM w B Ar n rows):RdM w B Ar n (Qaw F.z m A):=I.congr h.hr
end
end Go.Proofs
namespace Cw
open Go.Proofs (Qn3)
open Go.Proofs (Qdx QwY Qxd)
section pl
variable {F:Type} [CField F]
def NZ (m:Nat)(u:Nat→F):Prop:=∃j,j<m∧u j≠0
theorem NZ.congr {m:Nat} {u v:Nat→F} (h:NZ m u)(e:∀j,j<m→u j=v j):NZ m v:=by
 obtain⟨j,I,J⟩:=h;exact⟨j,I,by rw[←e j I];exact J⟩
end pl
section wt
variable {F:Type} [CField F] [DecidableEq F]
end wt
end Cw
namespace Go.Proofs
open Go.RowKit Cw
section
section rank
variable {F:Type} [CField F]
theorem RR.congr {m r:Nat} {p:Nat→Nat} {A B:Nat→Nat→F} (h:RR m r p A)(e:∀i,i<r→∀j,j<m→A i j=B i j):RR m r p B where
 lt:=h.lt
 mono:=h.mono
 one:=fun i I=>by rw[←e i I _ (h.lt i I)];exact h.one i I
 zero:=fun i j I J O=>by rw[←e i I _ (h.lt j J)];exact h.zero i j I J O
 low:=fun i I j J=>by rw[←e i I j (Nat.lt_trans J (h.lt i I))];exact h.low i I j J
end rank
theorem Qun {F:FD} {n m:Nat} {M:Nat→Nat→R F.z} (h:QqL F n m M):∃p,RR m n p M:=by
 have I:=Qgv n m M;have J:(elS n M m).2.length=n:=h.1;rw[J]at I;exact⟨_,RR.congr I fun i O j T=>QmC (D:=F.z) (h.2 i O) T⟩
section words
variable {F:FD} {n m:Nat} {M:Nat→Nat→R F.z}
end words
end
section
theorem Qv7 (F:FD)(I:Qcq F.p F.m (Qan F.z))(n m:Nat)(M:Nat→Nat→R F.z)(J:1≤m)(O:m≤64):VC F.p F.m m (Qan F.z) (rkS F n m M) (Qaw F.z m (elS n M m).1) F m (elS n M m).1 :=
 ⟨rfl,rfl,rfl,I,rfl,J,O,fun _ _=>rfl,QrP F n m M⟩
theorem Quo {F:FD} {n m:Nat} {M:Nat→Nat→R F.z} (h:Qe9 n m M):rkS F n m M=n:=QgQ h
end
section
section res
variable {F:FD} {n m:Nat} {M:Nat→Nat→R F.z}
end res
end
section
end
section
theorem QiF (F:FD)(V:Qcq F.p F.m (Qan F.z))(n m:Nat)(M:Nat→Nat→R F.z)(X:QqL F n m M)(A Ar:Option Addr)(c O:Nat)(w:World)(Y:Rd w w.heap.size A (Qan F.z))(ah:RdM w w.heap.size Ar n (Qaw F.z m M))(hn:n≤256)(ap:1≤m)(hm:m≤64) :
  Calls Tryz.prog 39 #[.agg #[.int .i64 F.p,.int .i64 F.m,.slice A F.mod.length c,.int .i64 m,.slice Ar n O]] w fun e w'=>e=.returned (.int .i64 0)∧Below w.heap.size w w':=by
 have ar:=F.p256;have au:=F.m8;have aj:(Qan F.z).length≤maxLen:=by have:=F.hlen;have:=F.m8;rw[Qaf,F.hlen];unfold maxLen;split <;> omega
 have T:=fun W a=>Qdd F.p F.m (Qan F.z) A c W (by omega) (by omega) aj a
 rw[QdB V,Qaf]at T;replace T:=fun W a=>η (T W a)
 have ak:=fun W a b=>η (QnR F V n m M X A Ar c O W a b hn (by omega))
 obtain⟨Z,I⟩:=ε (w.alloc (.cells #[.int .i64 F.p,.int .i64 F.m,.slice A F.mod.length c,.int .i64 m,.slice Ar n O] 27));have U:Below w.heap.size w Z:=by rw[I];exact β
 have al:w.heap.size<Z.heap.size:=by rw[I];simp
 have f5:=QhB.new w (.int .i64 F.p) (.int .i64 F.m) (.slice A F.mod.length c) (.int .i64 m) (.slice Ar n O) 27;have am:Hid (QhB Z w.heap.size (.int .i64 F.p) (.int .i64 F.m) (.slice A F.mod.length c) (.int .i64 m) (.slice Ar n O)):=by rw[I];exact f5
 have an:=T Z (Y.bm U);replace I:=η I;clear X V;go_enter Tryz.func39,Tryz.ntmps39;obtain⟨a0,a1,a2,a3,a4,-⟩:=f5;go_wp2_with fail;rw[←I.out];(with_reducible refine an.out.mono ?_);rintro e w1 ⟨rfl,ag⟩;have J:=ζ U ag;clear a0 a1 a2 a3 a4;obtain⟨a0,a1,a2,a3,a4,-⟩:=am.out.keep ag al;have av:¬ (m:Int)<1:=by omega
 have aw:¬ (64:Int)<(m:Int):=by omega
 go_wp2_with fail;(with_reducible refine (ak w1 (Y.bm J) (ah.bm J)).out.mono ?_);rintro e w2 ⟨rfl,ao⟩;go_wp2_with fail;go_ret;exact⟨rfl,ζ J ao⟩
theorem QiG (D:Desc)(l:List Int)(N:Int)(A T:Option Addr)(c c1:Nat)(w:World)(V:Rd w w.heap.size T l)(X:l.length≤1000000) :
  Calls Tryz.prog 106 #[.agg #[.int .i64 D.p,.int .i64 D.m,.slice A D.mod.length c],.slice T l.length c1,.int .i64 N] w fun e w'=>e=.returned (.int .i64 (Qb1 D l N 4))∧Below w.heap.size w w':=by
 have U:=fun W a=>η (Qgz D l A T c c1 W a X)
 obtain⟨Z,O⟩:=ε (w.alloc (.cells #[.int .i64 D.p,.int .i64 D.m,.slice A D.mod.length c] 24));have J:Below w.heap.size w Z:=by rw[O];exact β
 obtain⟨q0,q1,q2⟩:=Qb9 w (.int .i64 D.p) (.int .i64 D.m) (.slice A D.mod.length c) 24;have Y:=U Z (V.bm J);replace O:=η O;clear U;by_cases I:(l.length:Int)≠N
 ·rw[show Qb1 D l N 4=4 from if_pos I];have hb:((l.length:Int) !=N)=true:=by rw[bne_iff_ne];exact I
  replace I:=η I;go_enter Tryz.func106,Tryz.ntmps106;go_wp2_with fail;go_ret;rw[←O.out];exact⟨rfl,J⟩
 ·rw[show Qb1 D l N 4=elE D l from if_neg I];have hb:((l.length:Int) !=N)=false:=by rw[bne_eq_false_iff_eq];exact Classical.not_not.1 I
  replace I:=η I;go_enter Tryz.func106,Tryz.ntmps106;go_wp2_with fail;rw[←O.out];(with_reducible refine Y.out.mono ?_);rintro e w1 ⟨rfl,ab⟩;go_wp2_with fail;go_ret;exact⟨rfl,ζ J ab⟩
theorem Qn5 (F:FD)(V:Qcq F.p F.m (Qan F.z))(n m:Nat)(M:Nat→Nat→R F.z)(X:QqL F n m M)(A Ar:Option Addr)(c O:Nat)(l:List Int)(U:Option Addr)(c1:Nat)(w:World)(hr:Rd w w.heap.size A (Qan F.z))(ai:RdM w w.heap.size Ar n (Qaw F.z m M))(hn:n≤256)(ak:1≤m)(hm:m≤64)(am:Rd w w.heap.size U l)(hl:l.length≤1000000) :
  Calls Tryz.prog 50 #[.agg #[.int .i64 F.p,.int .i64 F.m,.slice A F.mod.length c,.int .i64 m,.slice Ar n O],.slice U l.length c1] w fun e w'=>e=.returned (.int .i64 (Qb1 F.z l m 4))∧Below w.heap.size w w':=by
 have Y:=fun W a b=>η (QiF F V n m M X A Ar c O W a b hn ak hm)
 have hL:=fun W a=>η (QiG F.z l m A U c c1 W a hl)
 obtain⟨Z,J⟩:=ε (w.alloc (.cells #[.int .i64 F.p,.int .i64 F.m,.slice A F.mod.length c,.int .i64 m,.slice Ar n O] 27));have I:Below w.heap.size w Z:=by rw[J];exact β
 have ap:w.heap.size<Z.heap.size:=by rw[J];simp
 have f5:=QhB.new w (.int .i64 F.p) (.int .i64 F.m) (.slice A F.mod.length c) (.int .i64 m) (.slice Ar n O) 27;have aq:Hid (QhB Z w.heap.size (.int .i64 F.p) (.int .i64 F.m) (.slice A F.mod.length c) (.int .i64 m) (.slice Ar n O)):=by rw[J];exact f5
 have ar:=Y Z (hr.bm I) (ai.bm I);replace J:=η J;clear X V Y;go_enter Tryz.func50,Tryz.ntmps50;obtain⟨a0,a1,a2,a3,a4,-⟩:=f5;go_wp2_with fail;rw[←J.out];(with_reducible refine ar.out.mono ?_);rintro e w1 ⟨rfl,ag⟩;have T:=ζ I ag;clear a0 a1 a2 a3 a4;obtain⟨a0,a1,a2,a3,a4,-⟩:=aq.out.keep ag ap;go_wp2_with fail;(with_reducible refine (hL w1 (am.bm T)).out.mono ?_);rintro e w2 ⟨rfl,au⟩;go_wp2_with fail;go_ret;exact⟨rfl,ζ T au⟩
theorem Qp6 (F:FD)(X:Qcq F.p F.m (Qan F.z))(n m:Nat)(M:Nat→Nat→R F.z)(Y:QqL F n m M)(A Ar:Option Addr)(c O:Nat)(u:Nat→R F.z)(V:Option Addr)(c1:Nat)(w:World)(hr:Rd w w.heap.size A (Qan F.z))(ab:RdM w w.heap.size Ar n (Qaw F.z m M))(hn:n≤256)(al:1≤m)(hm:m≤64)(ac:Rd w w.heap.size V (QaK F.z m u))(hp:∀i,i<n→fnz (Qaw F.z m M i)<m) :
  Calls Tryz.prog 14 #[.agg #[.int .i64 F.p,.int .i64 F.m,.slice A F.mod.length c,.int .i64 m,.slice Ar n O],.slice V m c1] w fun e w'=>e=.returned (.tuple #[.bool (QqK (QaK F.z m (Qec n (fun i=>fnz (Qaw F.z m M i)) M u))),.int .i64 0])∧Below w.heap.size w w':=by
 have U:=fun W a b d=>Qn5 F X n m M Y A Ar c O (QaK F.z m u) V c1 W a b hn al hm d (by rw[Qae];omega)
 rw[show Qb1 F.z (QaK F.z m u) m 4=0 from by unfold Qb1;rw[Qae,if_neg (by simp),if_neg (by rw[QgS];simp)],Qae]at U;replace U:=fun W a b d=>η (U W a b d)
 have hI:=fun W a b d=>η (QrO F.z n m M u A Ar V c O c1 W a b d (by omega) (by omega) hp)
 obtain⟨Z,T⟩:=ε (w.alloc (.cells #[.int .i64 F.p,.int .i64 F.m,.slice A F.mod.length c,.int .i64 m,.slice Ar n O] 27));have I:Below w.heap.size w Z:=by rw[T];exact β
 have ao:w.heap.size<Z.heap.size:=by rw[T];simp
 have f5:=QhB.new w (.int .i64 F.p) (.int .i64 F.m) (.slice A F.mod.length c) (.int .i64 m) (.slice Ar n O) 27;have ap:Hid (QhB Z w.heap.size (.int .i64 F.p) (.int .i64 F.m) (.slice A F.mod.length c) (.int .i64 m) (.slice Ar n O)):=by rw[T];exact f5
 have aq:=U Z (hr.bm I) (ab.bm I) (ac.bm I);replace T:=η T;clear Y X U hp;go_enter Tryz.func14,Tryz.ntmps14;obtain⟨a0,a1,a2,a3,a4,-⟩:=f5;go_wp2_with fail;rw[←T.out];(with_reducible refine aq.out.mono ?_);rintro e w1 ⟨rfl,aj⟩;have J:=ζ I aj;clear a0 a1 a2 a3 a4;obtain⟨a0,a1,a2,a3,a4,-⟩:=ap.out.keep aj ao;have ar:=hI w1 (hr.bm J) (ab.bm J) (ac.bm J);go_wp2_with fail;(with_reducible refine ar.out.mono ?_);rintro e w2 ⟨rfl,au⟩;go_wp2_with fail;go_ret2;exact⟨rfl,ζ J au⟩
end
section
noncomputable def spB {D:Type} [CField D] (n m:Nat)(M:Nat→Nat→D)(u:Nat→D):Bool:=@decide (Qb2 n m M u) (Classical.propDecidable _)
theorem Qp7 {D:Type} [CField D] {n m:Nat} {M:Nat→Nat→D} {u:Nat→D}:spB n m M u=true↔Qb2 n m M u :=
 @decide_eq_true_iff _ (Classical.propDecidable _)
theorem Qta {F:FD} {n m:Nat} {M:Nat→Nat→R F.z} {p:Nat→Nat} (h:RR m n p M){i:Nat} (I:i<n):fnz (Qaw F.z m M i)=p i:=by
 have J:=h.lt i I;refine Qky _ _ (by rw[Qaw,Qae];omega) (fun j O=>?_) (.inr ?_)
 ·rw[Qaw,Qa0 _ _ (by omega),h.low i I j O];exact QaF
 ·rw[Qaw,Qa0 _ _ J,h.one i I];intro e;exact QbD (Qaq.1 e)
theorem Qp8 {F:FD} {n m:Nat} {M:Nat→Nat→R F.z} {p:Nat→Nat} (h:RR m n p M)(u:Nat→R F.z):QqK (QaK F.z m (Qec n (fun i=>fnz (Qaw F.z m M i)) M u))=spB n m M u:=by
 rw[Bool.eq_iff_iff,Qp7];have U:QqK (QaK F.z m (Qec n (fun i=>fnz (Qaw F.z m M i)) M u))=true↔∀j,j<m→Qec n (fun i=>fnz (Qaw F.z m M i)) M u j=0:=by
  unfold QqK;rw[decide_eq_true_iff];constructor
  ·intro h j I;exact Qaq.1 (h _ (List.mem_map.2 ⟨j,List.mem_range.2 I,rfl⟩))
  ·intro h x V;obtain⟨j,I,rfl⟩:=List.mem_map.1 V;exact Qaq.2 (h j (List.mem_range.1 I))
 rw[U];constructor
 ·intro h;refine⟨fun i=>u (fnz (Qaw F.z m M i)),fun j I=>?_⟩;have J:=h j I;unfold Qec at J;dsimp only at J ⊢;rw[Qaa fun i _=>Qbb _ _,QcU]at J;exact Qbg J
 ·intro X j I;obtain⟨c,O⟩:=X;unfold Qec;dsimp only;rw[Qaa (g:=fun i=>-(c i*M i j)) fun i T=>by
   rw[Qta h T,Qbb]
   congr 2
   exact h.coef O T,QcU,←O j I,QaU]
theorem Qr7 {P M N:Int} {ml:List Int} {n:Nat} {rows:Nat→List Int} {F:FD} {m:Nat} {B:Nat→Nat→R F.z} (I:VC P M N ml n rows F m B)(u:Nat→R F.z)(A Ar J:Option Addr)(c T c1:Nat)(w:World)(Y:Rd w w.heap.size A ml)(U:RdM w w.heap.size Ar n rows)(aa:Rd w w.heap.size J (QaK F.z m u)) :
  Calls Tryz.prog 14 #[.agg #[.int .i64 P,.int .i64 M,.slice A ml.length c,.int .i64 N,.slice Ar n T],.slice J m c1] w fun e w'=>e=.returned (.tuple #[.bool (spB n m B u),.int .i64 0])∧Below w.heap.size w w':=by
 have eP:=I.hP;have eM:=I.hM;have eL:=I.hl;have eN:=I.hN;have h1:=I.le;have h2:=I.m64;have h3:=I.m1;have ah:=U.congr I.hr;have ai:=I.good;have V:=I.can;obtain⟨p,O⟩:=Qun V;clear I U;subst eP eM eL eN;rw[Qaf,←Qp8 O u];exact Qp6 F ai n m B V A Ar c T u J c1 w Y ah (by omega) h3 h2 aa (fun i X=>by rw[Qta O X];exact O.lt i X)
end
section
theorem QhO (F:FD)(ag:Qcq F.p F.m (Qan F.z))(n m:Nat)(M:Nat→Nat→R F.z)(ah:QqL F n m M)(A Ar:Option Addr)(c J:Nat)(g:Nat→R F.z)(V:Option Addr)(c1:Nat)(w:World)(hr:Rd w w.heap.size A (Qan F.z))(aj:RdM w w.heap.size Ar n (Qaw F.z m M))(hn:n≤256)(au:1≤m)(hm:m≤64)(ak:Rd w w.heap.size V (QaK F.z n g)) :
  Calls Tryz.prog 77 #[.agg #[.int .i64 F.p,.int .i64 F.m,.slice A F.mod.length c,.int .i64 m,.slice Ar n J],.slice V n c1] w fun e w'=>∃U c2,e=.returned (.tuple #[.slice U m c2,.int .i64 0])∧Rd w' w'.heap.size U (QaK F.z m (cmb n g M))∧(∀a,U=some a→w.heap.size≤a.block)∧Below w.heap.size w w':=by
 have hC:=fun W a b=>η (QiF F ag n m M ah A Ar c J W a b hn au hm)
 have X:=fun W a=>QiG F.z (QaK F.z n g) n A V c c1 W a (by rw[Qae];omega)
 rw[show Qb1 F.z (QaK F.z n g) n 4=0 from by unfold Qb1;rw[Qae,if_neg (by simp),if_neg (by rw[QgS];simp)],Qae]at X;replace X:=fun W a=>η (X W a)
 have aw:=fun W a b d=>η (QkI F.z n m g M A V Ar c c1 J W a b d (by omega) (by omega))
 obtain⟨Z,T⟩:=ε (w.alloc (.cells #[.int .i64 F.p,.int .i64 F.m,.slice A F.mod.length c,.int .i64 m,.slice Ar n J] 27));have O:Below w.heap.size w Z:=by rw[T];exact β
 have am:w.heap.size<Z.heap.size:=by rw[T];simp
 have f5:=QhB.new w (.int .i64 F.p) (.int .i64 F.m) (.slice A F.mod.length c) (.int .i64 m) (.slice Ar n J) 27;have ao:Hid (QhB Z w.heap.size (.int .i64 F.p) (.int .i64 F.m) (.slice A F.mod.length c) (.int .i64 m) (.slice Ar n J)):=by rw[T];exact f5
 have ax:=hC Z (hr.bm O) (aj.bm O);replace T:=η T;clear ah ag hC;go_enter Tryz.func77,Tryz.ntmps77;obtain⟨a0,a1,a2,a3,a4,-⟩:=f5;go_wp2_with fail;rw[←T.out];(with_reducible refine ax.out.mono ?_);rintro e w1 ⟨rfl,af⟩;have Y:=ζ O af;clear a0 a1 a2 a3 a4;obtain⟨a0,a1,a2,a3,a4,-⟩:=ao.out.keep af am;have ay:=X w1 (ak.bm Y);go_wp2_with fail;(with_reducible refine ay.out.mono ?_);rintro e w2 ⟨rfl,ap⟩;have I:=ζ Y ap;have az:=ζ af ap;clear a0 a1 a2 a3 a4;obtain⟨a0,a1,a2,a3,a4,-⟩:=ao.out.keep az am;have aA:=aw w2 (hr.bm I) (ak.bm I) (aj.bm I);go_wp2_with fail;(with_reducible refine aA.out.mono ?_);rintro e w3 ⟨U,c2,rfl,aD,aq,-,-,aE⟩;have aB:∀a,U=some a→w.heap.size≤a.block:=fun a e=>τ I.size (aq a e)
 clear aq;go_wp2_with fail;go_ret2;exact⟨U,c2,rfl,aD,aB,ζ I aE⟩
end
end Go.Proofs
namespace Cw
section
variable {F:Type} [CField F]
def QgG (K m:Nat)(A:Nat→Nat→F)(u:Nat→F):Prop:=∀i,i<K→Qat m (fun j=>A i j*u j)=0
theorem QgG.span {K m:Nat} {A:Nat→Nat→F} {u v:Nat→F} (h:QgG K m A u)(I:Qb2 K m A v):Qat m (fun j=>v j*u j)=0:=by
 obtain⟨c,J⟩:=I;rw[Qaa (g:=fun j=>Qat K fun i=>c i*(A i j*u j)) fun j O=>by
  rw[J j O,←Qar];exact Qaa fun i _=>Qa6 _ _ _,QaX]
 exact Qag fun i T=>by rw[Qal,h i T,Qac]
theorem QgG.same {K J m:Nat} {A B:Nat→Nat→F} (O:Qbd K J m A B)(u:Nat→F):QgG K m A u↔QgG J m B u :=
 ⟨fun h i I=>h.span (O.2 i I),fun h i I=>h.span (O.1 i I)⟩
theorem QgG.congr {K m:Nat} {A:Nat→Nat→F} {u v:Nat→F} (h:QgG K m A u)(e:∀j,j<m→v j=u j):QgG K m A v:=fun i I=>by
 rw[Qaa (g:=fun j=>A i j*u j) fun j J=>by rw[e j J]];exact h i I
def npv (p:Nat→Nat)(r m:Nat):List Nat:=(List.range m).filter fun c=>!decide (∃i,i<r∧p i=c)
theorem QgV (p:Nat→Nat)(r m:Nat):npv p r (m+1)=npv p r m ++ if ∃i,i<r∧p i=m then [] else [m]:=by
 unfold npv;rw[List.range_succ,List.filter_append]
 congr 1
 by_cases h:∃i,i<r∧p i=m
 ·rw[if_pos h];simp[h]
 ·rw[if_neg h];simp[h]
theorem Qp9 {p:Nat→Nat} {r m c:Nat}:c∈npv p r m↔c<m∧∀i,i<r→p i≠c:=by
 unfold npv;rw[List.mem_filter,List.mem_range];simp
theorem QmO {p:Nat→Nat} {r:Nat} (X:∀i j,i<r→j<r→p i=p j→i=j)(f:Nat→F) :
  ∀m,Qat m f=Qat r (fun i=>if p i<m then f (p i) else 0)+Qat (npv p r m).length (fun t=>f ((npv p r m)[t]?.getD 0))
 |0=>by
  rw[Qag (n:=r) fun i _=>if_neg (Nat.not_lt_zero _)]
  show (0:F)=0+0
  rw[Qai]
 |m+1=>by
  rw[Qaj,QmO X f m,QgV];by_cases h:∃i,i<r∧p i=m
  ·rw[if_pos h,List.append_nil];obtain⟨k,Y,e⟩:=h;have J:Qat r (fun i=>if p i<m+1 then f (p i) else 0)=Qat r (fun i=>if p i<m then f (p i) else 0)+f m:=by
    have O:Qat r (fun i=>if i=k then f m else 0)=f m:=by rw[Qak Y fun i _ T=>if_neg T,if_pos rfl]
    rw[←O,←Qbc];refine Qaa fun i V=>?_
    by_cases g:i=k
    ·subst g;rw[if_pos (by omega),if_neg (by omega),if_pos rfl,e,Qai]
    ·have T:p i≠m:=fun U=>g (X i k V Y (U.trans e.symm))
     rw[if_neg g,Qad];by_cases I:p i<m
     ·rw[if_pos I,if_pos (by omega)]
     ·rw[if_neg I,if_neg (by omega)]
   rw[J];ac_rfl
  ·rw[if_neg h,List.length_append,List.length_singleton,Qaj];have J:Qat r (fun i=>if p i<m+1 then f (p i) else 0)=Qat r (fun i=>if p i<m then f (p i) else 0):=Qaa fun i V=>by
    have T:p i≠m:=fun e=>h ⟨i,V,e⟩
    by_cases I:p i<m
    ·rw[if_pos I,if_pos (by omega)]
    ·rw[if_neg I,if_neg (by omega)]
   have O:Qat (npv p r m).length (fun t=>f ((npv p r m ++ [m])[t]?.getD 0))=Qat (npv p r m).length (fun t=>f ((npv p r m)[t]?.getD 0)):=Qaa fun t ht=>by rw[List.getElem?_append_left ht]
   have U:f ((npv p r m ++ [m])[(npv p r m).length]?.getD 0)=f m:=by rw[List.getElem?_append_right ρ,Nat.sub_self];rfl
   rw[J,O,U];ac_rfl
theorem Qjx {p:Nat→Nat} {r m t:Nat} (I:t<(npv p r m).length):(npv p r m)[t]?.getD 0<m∧∀i,i<r→p i≠(npv p r m)[t]?.getD 0:=by
 have e:(npv p r m)[t]?.getD 0∈npv p r m:=by rw[List.getElem?_eq_getElem I];exact List.getElem_mem I
 exact Qp9.1 e
def Qu6 (r:Nat)(p:Nat→Nat)(A:Nat→Nat→F)(c:Nat):Nat→F:=fun j=>(if j=c then 1 else 0) - Qat r fun i=>if j=p i then A i c else 0
theorem QmP {m r:Nat} {p:Nat→Nat} {A:Nat→Nat→F} (h:RR m r p A){c i:Nat} (I:i<r)(O:p i≠c):Qu6 r p A c (p i)=- A i c:=by
 unfold Qu6;rw[if_neg O,Qak I fun k T U=>if_neg fun e=>?_,if_pos rfl]
 ·rw[QcK]
 ·have J:=h.one i I;rw[e,h.zero i k I T U.symm]at J;exact QbD J.symm
theorem QeU {r:Nat} {p:Nat→Nat} (A:Nat→Nat→F){c j:Nat} (I:∀i,i<r→p i≠j):Qu6 r p A c j=if j=c then 1 else 0:=by
 unfold Qu6;rw[Qag fun i J=>if_neg fun e=>I i J e.symm,Qa3]
theorem RR.inj {m r:Nat} {p:Nat→Nat} {A:Nat→Nat→F} (h:RR m r p A):∀i j,i<r→j<r→p i=p j→i=j:=fun i j I J e=>by
 rcases Nat.lt_trichotomy i j with g |g |g
 ·have:=h.mono i j g J;omega
 ·exact g
 ·have:=h.mono j i g I;omega
theorem Qqa (p:Nat→Nat)(r m:Nat):(npv p r m).Nodup:=List.Pairwise.filter _ List.nodup_range
theorem QlF {p:Nat→Nat} {r m s t:Nat} (I:s<(npv p r m).length)(J:t<(npv p r m).length)(e:(npv p r m)[s]?.getD 0=(npv p r m)[t]?.getD 0):s=t:=by
 rw[List.getElem?_eq_getElem I,List.getElem?_eq_getElem J]at e;have O:=List.pairwise_iff_getElem.1 (Qqa p r m);have T:(npv p r m)[s]=(npv p r m)[t]:=e;rcases Nat.lt_trichotomy s t with g |g |g
 ·exact absurd T (O s t I J g)
 ·exact g
 ·exact absurd T.symm (O t s J I g)
def QhP (r m:Nat)(p:Nat→Nat)(A:Nat→Nat→F):Nat→Nat→F:=fun t=>Qu6 r p A ((npv p r m)[t]?.getD 0)
theorem Qjy {a b:F} (h:a+b=0):a=-b:=by
 have I:a+b+-b=-b:=by rw[h,Qai]
 rwa [QcD,QaU,Qad]at I
theorem Qqb {m r:Nat} {p:Nat→Nat} {A:Nat→Nat→F} (h:RR m r p A)(u:Nat→F):Qb2 (npv p r m).length m (QhP r m p A) u↔QgG r m A u:=by
 have aa:∀f:Nat→F,Qat m f=Qat r (fun i=>f (p i))+Qat (npv p r m).length (fun t=>f ((npv p r m)[t]?.getD 0)):=fun f=>by
  rw[QmO h.inj f m]
  congr 1
  exact Qaa fun i I=>if_pos (h.lt i I)
 constructor
 ·intro V i I;have ae:∀t,t<(npv p r m).length→Qat m (fun j=>A i j*QhP r m p A t j)=0:=fun t J=>by
   obtain⟨hc,T⟩:=Qjx J;rw[aa,Qak (k:=i) I fun k X O=>by rw[h.zero i k I X O.symm,Qah],Qak (k:=t) J fun s U O=>?_]
   ·unfold QhP;rw[QmP h I (T i I),QeU A T,if_pos rfl,h.one i I,Qav,Qax,Qcu]
   ·unfold QhP;rw[QeU A (Qjx U).2,if_neg (fun e=>O (QlF U J e)),Qac]
  obtain⟨c,hc⟩:=V;rw[Qaa (g:=fun j=>Qat (npv p r m).length fun t=>c t*(A i j*QhP r m p A t j)) fun j Y=>by
   rw[hc j Y,←Qal];exact Qaa fun t _=>by ac_rfl,QaX]
  exact Qag fun t J=>by rw[Qal,ae t J,Qac]
 ·intro V;refine⟨fun t=>u ((npv p r m)[t]?.getD 0),fun j Y=>?_⟩;by_cases g:∃i,i<r∧p i=j
  ·obtain⟨i,I,rfl⟩:=g;have h1:=V i I;rw[aa,Qak (k:=i) I fun k X O=>by rw[h.zero i k I X O.symm,Qah],h.one i I,Qav]at h1;rw[Qaa (g:=fun t=>-(A i ((npv p r m)[t]?.getD 0)*u ((npv p r m)[t]?.getD 0))) fun t J=>by
    unfold QhP;rw[QmP h I ((Qjx J).2 i I),Qe3,Qb3],QcU]
   exact Qjy h1
  ·have T:∀i,i<r→p i≠j:=fun i I e=>g ⟨i,I,e⟩
   have hm:j∈npv p r m:=Qp9.2 ⟨Y,T⟩;obtain⟨t,J,e⟩:=List.getElem_of_mem hm;have e':(npv p r m)[t]?.getD 0=j:=by rw[List.getElem?_eq_getElem J];exact e
   rw[Qak (k:=t) J fun s U O=>?_]
   ·unfold QhP;dsimp only;rw[QeU A T,e',if_pos rfl,Qax]
   ·unfold QhP;rw[QeU A T,if_neg (fun e2=>O (QlF U J (e2.symm.trans e'.symm))),Qac]
theorem QhQ {m r:Nat} {p:Nat→Nat} {A:Nat→Nat→F}:Qe9 (npv p r m).length m (QhP r m p A):=fun c U t J=>by
 obtain⟨T,O⟩:=Qjx J;have I:=U _ T;rw[Qak (k:=t) J fun s V X=>by unfold QhP;rw[QeU A O,if_neg (fun e=>X (QlF V J e.symm)),Qac]]at I;unfold QhP at I;rw[QeU A O,if_pos rfl,Qax]at I;exact I
end
end Cw
namespace Cw
theorem Qqc {p:Nat→Nat} {r c:Nat}:∀ {m:Nat},c≤m→∃l,npv p r m=npv p r c ++ l
 |0,h=>⟨[],by rw[show c=0 by omega,List.append_nil]⟩
 |m+1,h=>by
  by_cases e:c=m+1
  ·exact⟨[],by rw[e,List.append_nil]⟩
  ·obtain⟨l,I⟩:=Qqc (p:=p) (r:=r) (m:=m) (show c≤m by omega);exact⟨l ++ _,by rw[QgV,I,List.append_assoc]⟩
theorem Qv8 {p:Nat→Nat} {r c m:Nat} (J:c<m)(O:¬ ∃i,i<r∧p i=c):(npv p r m)[(npv p r c).length]?.getD 0=c∧(npv p r (c+1)).length=(npv p r c).length+1:=by
 have I:npv p r (c+1)=npv p r c ++ [c]:=by rw[QgV,if_neg O]
 obtain⟨l,T⟩:=Qqc (p:=p) (r:=r) (show c+1≤m from J);refine⟨?_,by rw[I,List.length_append,List.length_singleton]⟩;rw[T,I,List.append_assoc,List.getElem?_append_right ρ,Nat.sub_self];rfl
theorem Qr8 {p:Nat→Nat} {r c:Nat} (I:∃i,i<r∧p i=c):npv p r (c+1)=npv p r c:=by
 rw[QgV,if_pos I,List.append_nil]
def Qoy (p:Nat→Nat):Nat→Nat→Int
 |0,_=>-1
 |k+1,c=>if p k=c then (k:Int) else Qoy p k c
theorem QmQ (p:Nat→Nat)(c:Nat):∀k,0≤Qoy p k c↔∃i,i<k∧p i=c
 |0=>⟨fun h=>absurd h (by unfold Qoy;decide),fun⟨_,h,_⟩=>absurd h (Nat.not_lt_zero _)⟩
 |k+1=>by
  unfold Qoy;by_cases e:p k=c
  ·rw[if_pos e];exact⟨fun _=>⟨k,by omega,e⟩,fun _=>by omega⟩
  ·rw[if_neg e,QmQ p c k];exact⟨fun⟨i,J,I⟩=>⟨i,by omega,I⟩,fun⟨i,J,I⟩=>⟨i,by
    by_cases g:i=k
    ·subst g;exact absurd I e
    ·omega,I⟩⟩
theorem Qr9 (p:Nat→Nat){m k:Nat}:(lst m (Qoy p k)).set (p k) (k:Int)=lst m (Qoy p (k+1)):=by
 apply List.ext_getElem
 ·rw[List.length_set,Qab,Qab]
 ·intro i I J;rw[List.getElem_set];simp only[lst,List.getElem_map,List.getElem_range,Qoy]
section
variable {F:Type} [CField F]
def Qv9 (p:Nat→Nat)(A:Nat→Nat→F)(c k:Nat):Nat→F:=fun j=>(if j=c then 1 else 0) - Qat k fun i=>if j=p i then A i c else 0
theorem Qqd {m r:Nat} {p:Nat→Nat} {A:Nat→Nat→F} (h:RR m r p A){c k:Nat} (J:k<r)(O:p k≠c)(j:Nat):Qv9 p A c (k+1) j=if j=p k then - A k c else Qv9 p A c k j:=by
 unfold Qv9;rw[Qaj];by_cases e:j=p k
 ·rw[if_pos e,if_pos e,if_neg (fun I=>O (e.symm.trans I)),Qag (n:=k) fun i T=>if_neg fun I=>?_,Qai,QcK];have:=h.inj i k (by omega) J (I.symm.trans e);omega
 ·rw[if_neg e,if_neg e,Qad]
end
end Cw
namespace Cw
open Go.Proofs (QwY)
section
variable {F:Type} [CField F]
theorem QgW {n n' m:Nat} {A B:Nat→Nat→F} (h:Qbd n n' m A B)(u:Nat→F):Qb2 n m A u↔Qb2 n' m B u :=
 ⟨fun g=>g.trans h.1,fun g=>g.trans h.2⟩
end
end Cw
namespace Go.Proofs
open Go.RowKit Cw
section
variable {F:FD}
end
end Go.Proofs
namespace Cw
end Cw
namespace Cw
open Go.Proofs (Qn3)
open Go.Proofs (Qdx QwY Qxd QhM QhN)
section
variable {F:Type} [CField F]
theorem Qn6 {I T m:Nat} {A B:Nat→Nat→F} {u:Nat→F}:QgG (I+T) m (Qdx I A B) u↔QgG I m A u∧QgG T m B u:=by
 constructor
 ·intro h;refine⟨fun i O=>?_,fun i O=>?_⟩
  ·have J:=h i (by omega);rw[QhM A B O]at J;exact J
  ·have J:=h (I+i) (by omega);rw[QhN A B]at J;exact J
 ·rintro⟨J,V⟩ i O;by_cases g:i<I
  ·rw[QhM A B g];exact J i g
  ·have U:=V (i - I) (by omega);rw[←QhN A B (K:=I),show I+(i - I)=i by omega]at U;exact U
def Qup (I K m:Nat)(D A:Nat→Nat→F):Prop:=∀u,Qb2 I m D u↔QgG K m A u
theorem Qup.same {I K J m:Nat} {D A B:Nat→Nat→F} (h:Qup I K m D A)(O:Qbd J K m B A):Qup I J m D B:=fun u=>(h u).trans (QgG.same O u).symm
end
end Cw
namespace Go.Proofs
open Go.RowKit Cw
section
theorem Qn7 {w:World} {L B n:Nat} {A:Option Addr} {rows I:Nat→List Int} (h:Qfb w L B A n rows)(T:∀i,i<n→rows i=I i):Qfb w L B A n I:=fun hn=>by
 obtain⟨b,U,e,V,X,Y⟩:=h hn;refine⟨b,U,e,V,X,fun i O=>?_⟩;have J:=Y i O;rw[T i O]at J;exact J
theorem QwZ.congr {P M N I M' J E:Int} {ml O:List Int} {n n':Nat} {rows T:Nat→List Int} (h:P=I∧M=M'∧N=J∧ml=O∧n=n'∧∀i,i<n→rows i=T i){w:World} {e:Ending} {w':World} (U:QwZ P M N ml n rows E w e w'):QwZ I M' J O n' T E w e w':=by
 obtain⟨rfl,rfl,rfl,rfl,rfl,h⟩:=h;obtain⟨A,c,V,cl,rfl,X,Y,k3,k4⟩:=U;exact⟨A,c,V,cl,rfl,X,Y,Qn7 k3 h,k4⟩
section
variable {Pa Ma Na:Int} {mla:List Int} {na:Nat} {rowsa:Nat→List Int} {Pb Mb Nb:Int} {mlb:List Int} {nb:Nat} {rowsb:Nat→List Int} {Pd Md Nd:Int} {mld:List Int} {nd:Nat} {rowsd:Nat→List Int} {F:FD} {m1 m2 m3:Nat} {M1 M2 M3:Nat→Nat→R F.z}
end
end
section
theorem Qu7 {w:World} {b:Nat} (u0 u1 u2 u3 J:Value){p:Addr} (h:p.block≠b):(((((w.setCell ⟨b,0,none⟩ u0).setCell ⟨b,1,none⟩ u1).setCell ⟨b,2,none⟩ u2).setCell ⟨b,3,none⟩ u3).setCell ⟨b,4,none⟩ J).cell? p=w.cell? p:=by
 have I:∀k,(⟨b,k,none⟩:Addr).block≠p.block:=fun k=>Ne.symm h
 rw[World.cell?_setCell_far _ _ _ _ (I 4),World.cell?_setCell_far _ _ _ _ (I 3),World.cell?_setCell_far _ _ _ _ (I 2),World.cell?_setCell_far _ _ _ _ (I 1),World.cell?_setCell_far _ _ _ _ (I 0)]
theorem Qwa (w:World)(b:Nat)(u0 u1 u2 u3 I:Value):(((((w.setCell ⟨b,0,none⟩ u0).setCell ⟨b,1,none⟩ u1).setCell ⟨b,2,none⟩ u2).setCell ⟨b,3,none⟩ u3).setCell ⟨b,4,none⟩ I).heap.size=w.heap.size:=by simp[World.setCell]
theorem QhB.farS {w:World} {b O:Nat} {T v1 v2 U V:Value} (h:QhB w O T v1 v2 U V)(J:O≠b)(u0 u1 u2 u3 I:Value):QhB (((((w.setCell ⟨b,0,none⟩ u0).setCell ⟨b,1,none⟩ u1).setCell ⟨b,2,none⟩ u2).setCell ⟨b,3,none⟩ u3).setCell ⟨b,4,none⟩ I) O T v1 v2 U V:=by
 obtain⟨X,Y,a2,a3,a4,f0,f1,f2,f3,f4⟩:=h;refine⟨(Qu7 u0 u1 u2 u3 I J).trans X,(Qu7 u0 u1 u2 u3 I J).trans Y,(Qu7 u0 u1 u2 u3 I J).trans a2,(Qu7 u0 u1 u2 u3 I J).trans a3,(Qu7 u0 u1 u2 u3 I J).trans a4,?_,?_,?_,?_,?_⟩ <;> simp[go_sem,f0,f1,f2,f3,f4]
structure InM (W:World) (L:Nat) (A:Option Addr) (ml:List Int) (Ar:Option Addr) (n:Nat) (rows:Nat→List Int):Prop where
 rd:Rd W W.heap.size A ml
 lo:∀b,A=some b→L≤b.block
 rm:Qfb W L W.heap.size Ar n rows
section
variable {W W2:World} {L:Nat} {A:Option Addr} {ml:List Int} {Ar:Option Addr} {n:Nat} {rows:Nat→List Int}
theorem InM.below (h:InM W L A ml Ar n rows)(I:Below W.heap.size W W2):InM W2 L A ml Ar n rows :=
 ⟨h.rd.bm I,h.lo,(h.rm.keepU fun _ _ hp=>I.cell hp).more I.size⟩
theorem InM.low {L':Nat} (h:InM W L A ml Ar n rows)(I:L'≤L):InM W L' A ml Ar n rows :=
 ⟨h.rd,fun b e=>τ I (h.lo b e),h.rm.low I⟩
theorem InM.store (h:InM W L A ml Ar n rows){b:Nat} (J:b<L)(u0 u1 u2 u3 I:Value):InM (((((W.setCell ⟨b,0,none⟩ u0).setCell ⟨b,1,none⟩ u1).setCell ⟨b,2,none⟩ u2).setCell ⟨b,3,none⟩ u3).setCell ⟨b,4,none⟩ I) L A ml Ar n rows :=
 ⟨by rw[Qwa];exact h.rd.set5 (fun a e=>by have:=h.lo a e;omega) u0 u1 u2 u3 I,h.lo,by rw[Qwa];exact h.rm.keepU fun p hp _=>Qu7 u0 u1 u2 u3 I (by omega)⟩
end
end
end Go.Proofs

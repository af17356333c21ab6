/- Plain law of layer 39: results of decoders that are right for a code. -/
import Derived.Test.YtogfekjbpcfgmaaGreatZtkWin
import Derived.Test.YtogfekjbpcfgmaaGreatZtkGopD
import Derived.Test.YtogfekjbpcfgmaaGreatZtkGcd5
set_option maxRecDepth 100000
set_option maxHeartbeats 16000000
set_option linter.unusedVariables false
namespace Go.Proofs
open Go.RowKit Cw
section
open Cw.CField (inv)
theorem QsA {n m:Nat} (h:QqO n m=true):n≤20∧m≤30:=by
 unfold QqO at h
 simpa using h
theorem QqE {S F:FD} {rt kn k:Nat} {pts mul er:List Int} {u:Nat→R S.z} {C:Nat→Nat→R S.z} {ec:Int} {la lb:List Int} (hp:S.p=F.p)(h0:muV S F (rel F.z rt)=0)(hz:gchkD F.z kn pts mul=0)(hr:∀x∈er,0≤x∧x<(pts.length:Int))(hd:er.Nodup)
  (J:∀v,Qb2 k pts.length C v↔Qcc S F (rel F.z rt) pts.length (pts.length - kn) (Qsr F pts mul) v) (h:QqC S F rt kn pts mul er u ec la lb):Qsn S pts.length k C u er (QlN ((pts.length:Int) - (kn:Int)+1) (er.length:Int)) ec la lb:=by
 obtain⟨-,-,-,-,-,-,-,-,ah⟩:=Qbn hz;have O:kn≤pts.length:=by omega
 rcases h with ⟨T,U,V,ac⟩ |⟨T,v,U,V,X⟩
 ·refine .inl ⟨T,U,V,fun I Y=>?_⟩;have h4:=ac I ((J I).1 Y);refine Classical.byContradiction fun h5=>?_
  have h6:=(QhX (f:=er.length) (e:=(Qbu (QaK S.z pts.length I) (QaK S.z pts.length u) er pts.length).length) O).1 (by omega);omega
 ·refine .inr ⟨T,v,U,V,(J v).2 X.1,(QhX O).2 X.2,fun I Y ad=>?_⟩;exact Qay fun j hj=>by rw[QuQ hp h0 hz hr hd X ⟨(J I).1 Y,(QhX O).1 ad⟩ j hj]
end
section
open Cw.CField (inv)
def bkS (l:List Int)(x:Int):Nat→Nat→Int
 |0,_=>0
 |n+1,i=>if l[i]?.getD 0=x then i else bkS l x n (i+1)
def bkI (l:List Int)(x:Int):Int:=bkS l x l.length 0
theorem Qtj {l:List Int} {x:Int} {i:Nat} (h:l[i]?.getD 0=x):∀n I,I≤i→i<I+n→(∀j,I≤j→j<i→l[j]?.getD 0≠x)→bkS l x n I=i
 |0,I,h1,h2,_=>absurd h2 (by omega)
 |n+1,I,h1,h2,hn=>by
  unfold bkS;by_cases e:I=i
  ·rw[e,if_pos h]
  ·rw[if_neg (hn I ρ (by omega))];exact Qtj h n (I+1) (by omega) (by omega) fun j a b=>hn j (by omega) b
theorem Qtk {l:List Int} {x:Int}:∀n I,(∀j,I≤j→j<I+n→l[j]?.getD 0≠x)→bkS l x n I=0
 |0,_,_=>rfl
 |n+1,I,hn=>by
  unfold bkS;rw[if_neg (hn I ρ (by omega))];exact Qtk n (I+1) fun j a b=>hn j (by omega) (by omega)
theorem Qtl {l:List Int} {x:Int} {i:Nat} (J:i<l.length)(h:l[i]?.getD 0=x)(I:∀j,j<i→l[j]?.getD 0≠x):bkI l x=i :=
 Qtj h l.length 0 (by omega) (by omega) fun j _ b=>I j b
theorem Qtm {l:List Int} {x:Int} (I:∀j,j<l.length→l[j]?.getD 0≠x):bkI l x=0:=Qtk l.length 0 fun j _ b=>I j (by omega)
section
variable {S F:FD} {rt:Nat}
theorem QuV (hp:S.p=F.p)(h0:muV S F (rel F.z rt)=0)(y:R F.z):bkI (Qov S F rt) (ci y)=ci (bk S F (rel F.z rt) y):=by
 by_cases h:∃u,phi S F (rel F.z rt) u=y
 ·obtain⟨u,rfl⟩:=h;rw[Qtd hp h0 u];refine Qtl (i:=QaA u) (by rw[QbT];exact QaM u) (by rw[QeR S F rt (QaM u),QaT]) fun j I e=>?_
  have J:j<S.q:=Nat.lt_trans I (QaM u);rw[QeR S F rt J]at e;have O:=Qfc (Qc0 hp) h0 (Qeh e);have T:j=QaA u:=by rw[←O,QbA J]
  omega
 ·rw[Qtf h,QaF];refine Qtm fun j I e=>h ?_
  rw[QbT]at I;rw[QeR S F rt I]at e;exact⟨_,Qeh e⟩
noncomputable def trM (S F:FD)(rt:Nat)(h:Nat→Nat→R F.z):Nat→Nat→R S.z:=fun r j=>bk S F (rel F.z rt) (tr S.m (pw (Xc F.z) (r % F.m)*h (r / F.m) j))
theorem QuW (hp:S.p=F.p)(h0:muV S F (rel F.z rt)=0)(U:S.m∣F.m){t N:Nat} {h:Nat→Nat→R F.z} {u:Nat→R S.z}:QgG (t*F.m) N (trM S F rt h) u↔Qcc S F (rel F.z rt) N t h u:=by
 obtain⟨n,J⟩:=U;have aa:=F.m1;have O:1≤n:=by
  rcases Nat.eq_zero_or_pos n with e |e
  ·rw[e,Nat.mul_zero]at J;omega
  ·exact e
 constructor
 ·intro H i X;refine (Qtg hp h0 J.symm O (h i) u).2 fun k T=>?_
  have I:=H (i*F.m+k) (by
   have V:(i+1)*F.m≤t*F.m:=Nat.mul_le_mul_right _ X;rw[Nat.succ_mul]at V;omega)
  rw[←I];refine Qaa fun j _=>?_
  unfold trM;rw[show (i*F.m+k) % F.m=k from by rw[Nat.mul_comm,Nat.mul_add_mod];exact Nat.mod_eq_of_lt T,show (i*F.m+k) / F.m=i from by rw[Nat.mul_comm,Nat.mul_add_div (by omega),Nat.div_eq_of_lt T,Nat.add_zero]]
 ·intro H r Y;have I:=(Qtg hp h0 J.symm O (h (r / F.m)) u).1 (H (r / F.m) ((Nat.div_lt_iff_lt_mul (by omega)).2 Y)) (r % F.m) (Nat.mod_lt _ (by omega));exact I
noncomputable def nuK (S:FD)(n N:Nat)(M:Nat→Nat→R S.z):Nat:=(npv (pvF (elS n M N).2) (rkS S n N M) N).length
noncomputable def nuM (S:FD)(n N:Nat)(M:Nat→Nat→R S.z):Nat→Nat→R S.z:=(elS (nuK S n N M) (QhP (rkS S n N M) N (pvF (elS n M N).2) (elS n M N).1) N).1
theorem Qwr (n N:Nat)(M:Nat→Nat→R S.z):nuK S n N M≤N:=by
 unfold nuK npv;exact τ (List.length_filter_le _ _) (by rw[List.length_range];exact Nat.le_refl _)
theorem QuX {n N:Nat} {M:Nat→Nat→R S.z} (u:Nat→R S.z):Qb2 (rkS S (nuK S n N M) N (nuM S n N M)) N (elS (nuK S n N M) (nuM S n N M) N).1 u↔QgG n N M u:=by
 have J:=Qcz (nuK S n N M) N (nuM S n N M);have I:=Qcz (nuK S n N M) N (QhP (rkS S n N M) N (pvF (elS n M N).2) (elS n M N).1);have O:=QhQ (F:=R S.z) (m:=N) (r:=rkS S n N M) (p:=pvF (elS n M N).2) (A:=(elS n M N).1);rw[show (elS (nuK S n N M) (QhP (rkS S n N M) N (pvF (elS n M N).2) (elS n M N).1) N).2.length=nuK S n N M from Quo O]at I;have T:=Qqb (Qgv n N M) u;have U:=QgG.same (Qcz n N M) u;rw[←U,←T];exact (QgW J u).trans (QgW I u)
noncomputable def Qh5 (F:FD)(poly pts:List Int):List Int:=lst pts.length fun i=>ci (inv (QaW F.z poly (eli F.z (pts[i]?.getD 0))))
theorem Qcn (F:FD)(poly pts:List Int):(Qh5 F poly pts).length=pts.length:=Qab _ _
theorem Qh0 {O:Desc} {poly pts:List Int} (hz:QcP O F.z poly pts=0){K:Nat} (hK:K≤pts.length):gchkD F.z (K:Int) pts (Qh5 F poly pts)=0:=by
 obtain⟨-,⟨ac,ad⟩,T,ae,U,-,-,-,-⟩:=QbW hz;obtain⟨n,-,-,V,-⟩:=QdU hz;unfold gchkD;rw[Qcn,if_neg (by omega),if_neg (by omega),if_neg,if_neg (by rw[U];simp),if_neg,if_neg (by omega)]
 ·intro aa;obtain⟨i,X,Y⟩:=List.mem_map.1 (show (0:Int)∈(List.range pts.length).map (fun i=>ci (inv (QaW F.z poly (eli F.z (pts[i]?.getD 0))))) from aa);exact Qby (V i (List.mem_range.1 X)) (Qaq.1 Y)
 ·rintro (I |I)
  ·rw[T]at I;cases I
  ·rw[QaJ.2 fun j J=>?_]at I
   ·cases I
   ·rw[Qcn]at J;unfold Qh5;rw[Qas _ J];exact⟨Qa8 _,Qeu _⟩
theorem QkW {T:Desc} {poly pts:List Int} (hp:S.p=F.p)(h0:muV S F (rel F.z rt)=0)(hz:QcP T F.z poly pts=0){t:Nat} {u:Nat→R S.z} :
  Qcc S F (rel F.z rt) pts.length (min t pts.length) (gM F.z pts (Qh5 F poly pts)) u↔Qcc S F (rel F.z rt) pts.length t (QgH F poly pts) u:=by
 obtain⟨n,-,-,aa,ab⟩:=QdU hz;have U:∀i j,j<pts.length→gM F.z pts (Qh5 F poly pts) i j=QgH F poly pts i j:=fun i j I=>by
  unfold gM QgH Qh5;rw[Qas _ I,Qam,Qb3]
 have J:∀i,Qat pts.length (fun j=>gM F.z pts (Qh5 F poly pts) i j*phi S F (rel F.z rt) (u j))=Qat pts.length fun j=>QgH F poly pts i j*phi S F (rel F.z rt) (u j):=fun i=>Qaa fun j I=>by rw[U i j I]
 constructor
 ·intro H i O;by_cases hm:i<min t pts.length
  ·rw[←J i];exact H i hm
  ·have V:min t pts.length=pts.length:=by omega
   rw[V]at H;have X:∀j,j<pts.length→u j=0:=fun j I=>Classical.byContradiction fun ac=>by
    have h1:=QeH (h:=QgH F poly pts) (x:=fun j=>eli F.z (pts[j]?.getD 0)) (y:=fun j=>inv (QaW F.z poly (eli F.z (pts[j]?.getD 0)))) ab (fun j I=>Qby (aa j I)) hp h0 (fun i j _ _=>Qb3 _ _) ⟨j,I,ac⟩ (fun i O=>by rw[←J i];exact H i O);have Y:=Qs8 (QaK S.z pts.length u);rw[Qae]at Y;omega
   exact Qag fun j I=>by rw[X j I,QcZ,Qac]
 ·intro H i O;rw[J i];exact H i (by omega)
end
end
section
open Cw.CField (inv)
theorem QuY (P M Q N:Int)(ml J poly pts:List Int)(A B T U:Option Addr)(c b c1 c2:Nat)(w:World)(hP:I64 P)(hM:I64 M)(hQ:I64 Q)(hN:I64 N)(hl:ml.length≤maxLen)(hn:J.length≤maxLen)(V:Rd w w.heap.size A ml)(Y:Rd w w.heap.size B J)(ag:Rd w w.heap.size T poly)(ah:Rd w w.heap.size U pts)(aj:poly.length≤70000)(ai:pts.length≤maxLen) :
  ∃E,(∀W,Below w.heap.size w W→Calls Tryz.prog 21 #[.agg #[.int .i64 P,.int .i64 M,.slice A ml.length c,.int .i64 Q,.int .i64 N,.slice B J.length b,.slice T poly.length c1,.slice U pts.length c2]] W fun e w'=>e=.returned (.int .i64 E)∧Below W.heap.size W w') ∧
   (E≠0→∀W,Below w.heap.size w W→Calls Tryz.prog 124 #[.agg #[.int .i64 P,.int .i64 M,.slice A ml.length c,.int .i64 Q,.int .i64 N,.slice B J.length b,.slice T poly.length c1,.slice U pts.length c2]] W fun e w'=>e=.returned (.tuple #[.agg #[.int .i64 0,.int .i64 0,.slice none 0 0,.pointer none,.slice none 0 0,.slice none 0 0,.int .i64 0],.slice none 0 0,.int .i64 E])∧Below W.heap.size W w') ∧
   (E=0→∃S D:Desc,P=S.p∧M=S.m∧ml=Qan S∧Q=D.p∧N=D.m∧J=Qan D∧Qcq S.p S.m (Qan S)∧Qcq D.p D.m (Qan D)∧QcP S D poly pts=0):=by
 by_cases O:Qcq P M ml
 ·by_cases X:Qcq Q N J
  ·obtain⟨S,rfl,rfl,rfl,hS⟩:=id O;obtain⟨D,rfl,rfl,rfl,hD⟩:=id X;obtain⟨F,rfl⟩:=QhF O;refine⟨QcP F.z D poly pts,fun W I=>?_,fun hE W I=>?_,fun h=>⟨F.z,D,rfl,rfl,rfl,rfl,rfl,rfl,O,X,h⟩⟩
   ·rw[Qaf,Qaf];exact Qsq F.z D poly pts A B T U c b c1 c2 W (V.bm I) (Y.bm I) O X (ag.bm I) (ah.bm I) aj ai
   ·rw[Qaf,Qaf];refine (QjG F D poly pts A B T U c b c1 c2 W (V.bm I) (Y.bm I) O X (ag.bm I) (ah.bm I) (by unfold maxLen;omega) ai).mono ?_;rintro e w' ⟨al,⟨-,h⟩ |⟨h,-⟩⟩
    ·exact⟨h,al⟩
    ·exact absurd h hE
  ·obtain⟨S,rfl,rfl,rfl,hS⟩:=id O;refine⟨1,fun W I=>?_,fun _ W I=>?_,fun h=>by cases h⟩
   ·rw[Qaf];exact QlV S Q N J poly pts A B T U c b c1 c2 W (V.bm I) O hQ hN hn (Y.bm I) X
   ·rw[Qaf];exact Qoh S Q N J poly pts A B T U c b c1 c2 W (V.bm I) O hQ hN hn (Y.bm I) X
 ·exact⟨1,fun W I=>QlU P M ml Q N J poly pts A B T U c b c1 c2 W hP hM hl (V.bm I) O,fun _ W I=>Qog P M ml Q N J poly pts A B T U c b c1 c2 W hP hM hl (V.bm I) O,fun h=>by cases h⟩
theorem QlY (P M Q N:Int)(ml O poly pts:List Int)(A B T U:Option Addr)(c b c1 c2:Nat)(w:World)(E:Int)(V:E≠0)(hG:∀W,Below w.heap.size w W→Calls Tryz.prog 124 #[.agg #[.int .i64 P,.int .i64 M,.slice A ml.length c,.int .i64 Q,.int .i64 N,.slice B O.length b,.slice T poly.length c1,.slice U pts.length c2]] W fun e w'=>e=.returned (.tuple #[.agg #[.int .i64 0,.int .i64 0,.slice none 0 0,.pointer none,.slice none 0 0,.slice none 0 0,.int .i64 0],.slice none 0 0,.int .i64 E])∧Below W.heap.size W w') :
  Calls Tryz.prog 61 #[.agg #[.int .i64 P,.int .i64 M,.slice A ml.length c,.int .i64 Q,.int .i64 N,.slice B O.length b,.slice T poly.length c1,.slice U pts.length c2]] w fun e w'=>e=.returned (.tuple #[.int .i64 0,.int .i64 E])∧Below w.heap.size w w':=by
 obtain⟨s,J⟩:=ε (w.heap.size);obtain⟨Z,I⟩:=ε (w.alloc (.cells #[.int .i64 P,.int .i64 M,.slice A ml.length c,.int .i64 Q,.int .i64 N,.slice B O.length b,.slice T poly.length c1,.slice U pts.length c2] 44));have X:Below w.heap.size w Z:=by rw[I];exact β
 have ad:Hid (Bxs Z s [.int .i64 P,.int .i64 M,.slice A ml.length c,.int .i64 Q,.int .i64 N,.slice B O.length b,.slice T poly.length c1,.slice U pts.length c2]):=by rw[I,J];exact Bxs.new w _ _
 have hq:=η (hG Z X);have an:(E !=0)=true:=by rw[bne_iff_ne];exact V
 replace I:=η I;replace V:=η V;clear hG;go_enter Tryz.func61,Tryz.ntmps61;obtain⟨a0,a1,a2,a3,a4,a5,a6,a7⟩:=ad.out.c8;go_wp2_with fail;rw[←I.out];simp only[←J];have ao:w.heap.size≤s:=Nat.le_of_eq J.symm;replace J:=η J;go_wp2_with fail;(with_reducible refine hq.out.mono ?_);rintro e w1 ⟨rfl,am⟩;clear hq a0 a1 a2 a3 a4 a5 a6 a7;have ac:=ζ X am;have Y:Below w.heap.size w (w1.alloc (.cells #[.int .i64 0,.int .i64 0,.slice none 0 0,.pointer none,.slice none 0 0,.slice none 0 0,.int .i64 0] 154)):=ac.trans (((Below.refl _ w1).alloc ρ _).mono ac.size);replace Y:=η Y;go_wp2_with fail;go_ret2;exact⟨rfl,Y.out⟩
theorem Qh6 {S:Desc}:S.q=2↔S.p=2∧S.m=1:=by
 have J:=S.p2;have T:=S.m1
 show S.p ^ S.m=2↔_
 constructor
 ·intro h;obtain⟨k,I⟩:∃k,S.m=k+1:=⟨S.m - 1,by omega⟩
  cases k with
  |zero=>rw[I,Nat.pow_succ,Nat.pow_zero,Nat.one_mul]at h;exact⟨h,I⟩
  |succ k =>
   have O:2 ^ (k+2)≤S.p ^ (k+2):=Nat.pow_le_pow_left J _;have U:0<2 ^ k:=Nat.pow_pos (by decide);rw[I]at h;rw[h,Nat.pow_succ,Nat.pow_succ]at O;omega
 ·rintro⟨h,e⟩;rw[h,e]
theorem QqF (S F:FD)(poly pts:List Int)(A B X A2:Option Addr)(c b c1 c2:Nat)(w:World)(aj:Rd w w.heap.size B (Qan F.z))(ak:Rd w w.heap.size X poly)(aN:1≤poly.length)(hl:poly.length≤1000) :
  Calls Tryz.prog 24 #[.agg #[.int .i64 S.p,.int .i64 S.m,.slice A S.mod.length c,.int .i64 F.p,.int .i64 F.m,.slice B F.mod.length b,.slice X poly.length c1,.slice A2 pts.length c2]] w fun e w'=>e=.returned (.int .i64 (Qig S.z F.z poly))∧Below w.heap.size w w':=by
 have az:=S.p256;have aA:=S.m8;have aB:=S.q256;obtain⟨s,I⟩:=ε (w.heap.size);obtain⟨Z,V⟩:=ε (w.alloc (.cells #[.int .i64 S.p,.int .i64 S.m,.slice A S.mod.length c,.int .i64 F.p,.int .i64 F.m,.slice B F.mod.length b,.slice X poly.length c1,.slice A2 pts.length c2] 44));have J:Below w.heap.size w Z:=by rw[V];exact β
 have al:Hid (Bxs Z s [.int .i64 S.p,.int .i64 S.m,.slice A S.mod.length c,.int .i64 F.p,.int .i64 F.m,.slice B F.mod.length b,.slice X poly.length c1,.slice A2 pts.length c2]):=by rw[V,I];exact Bxs.new w _ _
 have aC:s<Z.heap.size:=by rw[V,I];simp
 have U:=QdI S.p S.m A S.mod.length c Z (by omega) (by omega);rw[Qi6]at U;replace U:=η U;have aD:=fun W h1 O=>η (QqD F poly B X b c1 W h1 O hl)
 have aE:=aj.bm J;have aF:=ak.bm J;have aG:IntKind.i64.wrap ((poly.length:Int) - 1)=((poly.length - 1:Nat):Int):=by rw[IntWalk.i64_in _ (by omega)];omega
 obtain⟨t,ht⟩:=ε (poly.length - 1);have aO:t≤1000:=by omega
 rw[←ht]at aG;have aP:IntKind.i64.wrap (2*(t:Int))=2*(t:Int):=by rw[IntWalk.i64_in _ (by omega)]
 have aQ:IntKind.i64.wrap (2*(t:Int)+1)=2*(t:Int)+1:=by rw[IntWalk.i64_in _ (by omega)]
 have aR:IntKind.i64.wrap ((t:Int)+1)=(t:Int)+1:=by rw[IntWalk.i64_in _ (by omega)]
 have am:=η (fun h=>@QfX S.z F.z poly h);have af:=η (fun h=>@QhZ S.z F.z poly h);rw[←ht]at am af;have an:Hid (Qti F poly=true↔Cop (plI F.z poly) (plI F.z (Qh3 F.z poly))):=by rw[Hid,Qjz];exact Qm5
 have ag:=η (@Qh6 S.z);obtain⟨q,hq⟩:=ε (S.z.q);rw[←hq]at U ag aB;replace ht:=η ht;replace V:=η V;replace hq:=η hq;clear aj ak az aA;go_enter Tryz.func24,Tryz.ntmps24;obtain⟨a0,a1,a2,a3,a4,a5,a6,a7⟩:=al.out.c8;by_cases O:q=2
 ·have aH:((q:Int)==2)=true:=by rw[beq_iff_eq];omega
  have aI:=η (ag.out.1 O);replace O:=η O;go_wp2_with fail;rw[←V.out];simp only[←I];have aJ:w.heap.size≤s:=Nat.le_of_eq I.symm;replace I:=η I;go_wp2_with fail;(with_reducible refine U.out.mono ?_);rintro e w1 ⟨rfl,T⟩;clear U a0 a1 a2 a3 a4 a5 a6 a7;have ab:=ζ J T;have ac:=aD w1 (aE.bm T) (aF.bm T);obtain⟨a0,a1,a2,a3,a4,a5,a6,a7⟩:=(al.out.keep T aC).c8;by_cases ad:Qti F poly=true
  ·have Y:Hid (Qig S.z F.z poly=2*(t:Int)+1):=am.out ⟨aI.out,an.out.1 ad⟩;rw[ad]at ac;go_wp2_with fail;(with_reducible refine ac.out.mono ?_);rintro e w2 ⟨rfl,ai⟩;go_wp2_with fail;go_ret;exact⟨by rw[Y.out];rfl,ζ ab ai⟩
  ·have Y:Hid (Qig S.z F.z poly=(t:Int)+1):=af.out fun h=>ad (an.out.2 h.2)
   have aK:Qti F poly=false:=by cases h:Qti F poly with |true=>exact absurd h ad |false=>rfl
   rw[aK]at ac;go_wp2_with fail;(with_reducible refine ac.out.mono ?_);rintro e w2 ⟨rfl,ai⟩;go_wp2_with fail;go_ret;exact⟨by rw[Y.out];rfl,ζ ab ai⟩
 ·have aH:((q:Int)==2)=false:=by rw[beq_eq_false_iff_ne];omega
  have Y:Hid (Qig S.z F.z poly=(t:Int)+1):=af.out fun h=>O (ag.out.2 h.1)
  replace O:=η O;go_wp2_with fail;rw[←V.out];simp only[←I];have aJ:w.heap.size≤s:=Nat.le_of_eq I.symm;replace I:=η I;go_wp2_with fail;(with_reducible refine U.out.mono ?_);rintro e w1 ⟨rfl,T⟩;go_wp2_with fail;go_ret;exact⟨by rw[Y.out];rfl,ζ J T⟩
theorem Qop {S F:FD} {r:R F.z} {poly pts:List Int} {u:Nat→R S.z} (hz:QcP S.z F.z poly pts=0)(h0:muV S F r=0)(V:∃j,j<pts.length∧u j≠0)(T:Qcc S F r pts.length (poly.length - 1) (QgH F poly pts) u):Qig S.z F.z poly≤(wgt (QaK S.z pts.length u):Int):=by
 obtain⟨n,h1,h2,I,Y⟩:=QdU hz;obtain⟨ac,-⟩:=QbW hz;have hp:=(Qdz.1 ac).1;have U:poly.length - 1=n:=by omega
 rw[U]at T;by_cases O:Qsv S.z F.z poly
 ·rw[QfX O,U];have X:=O.2;rw[Qjz]at X;have:=QeH (x:=fun j=>eli F.z (pts[j]?.getD 0)) (y:=fun j=>inv (QaW F.z poly (eli F.z (pts[j]?.getD 0))*QaW F.z poly (eli F.z (pts[j]?.getD 0)))) Y (fun j J=>Qby (QaS (I j J) (I j J))) hp h0 (fun i j _ _=>rfl) V (QgB (Qh6.2 O.1) hp h1 h2 X I T);omega
 ·rw[QhZ O,U];have:=QeH (x:=fun j=>eli F.z (pts[j]?.getD 0)) (y:=fun j=>inv (QaW F.z poly (eli F.z (pts[j]?.getD 0)))) Y (fun j J=>Qby (I j J)) hp h0 (fun i j _ _=>Qb3 _ _) V T;omega
end
section
open Cw.CField (inv)
theorem QkX {F:FD} {p q:List Int} {n m:Nat} (hp:(QaD F.z p).length=n+1)(I:(QaD F.z q).length=m+1):QaD F.z (QbL F.z p q)=QbL F.z p q∧(QbL F.z p q).length=n+m+1:=by
 have e:QbL F.z p q=lst (n+m+1) fun t=>ci (conv (cfR F.z p) (cfR F.z q) t):=by
  unfold QbL;rw[if_neg (by omega),hp,I,show n+1+(m+1) - 1=n+m+1 by omega]
 have O:=QaZ F.z p;have T:=QaZ F.z q;have U:cfR F.z p n≠0:=by have:=Qa1 O hp;rwa [Qbe]at this
 have V:cfR F.z q m≠0:=by have:=Qa1 T I;rwa [Qbe]at this
 have X:conv (cfR F.z p) (cfR F.z q) (n+m)=cfR F.z p n*cfR F.z q m:=by
  exact Qdh (fun t Y=>Qdw F.z (by omega)) fun t Y=>Qdw F.z (by omega)
 rw[e,Qab];refine⟨?_,rfl⟩;rw[Qea F.z (fun t=>conv (cfR F.z p) (cfR F.z q) t) (n+m+1),QfB (f:=fun t=>ci (conv (cfR F.z p) (cfR F.z q) t)) (n:=n+m) fun h=>by
  have J:=Qaq.1 h;rw[X]at J;exact QaS U V J]
theorem QkY (D:Desc)(p q:List Int):QaD D (Qix D p q)=Qix D p q:=Qdv (fun t=>conv (cfR D p) (cfR D q) t) _ fun t J=>Qb8 (fun s I=>Qao D I) (fun s I=>Qao D I) (by omega)
def sq2 (D:Desc)(p:List Int):List Int:=QbL D (QbL D [1] p) p
theorem Qtn {F:FD} {p:List Int} {n:Nat} (hp:p.length=n+1)(h0:cfR F.z p n≠0):sq2 F.z p=Qix F.z p p∧(sq2 F.z p).length=n+n+1:=by
 have I:=QfO F.z hp h0;have J:(QaD F.z [1]).length=0+1:=QfO F.z (p:=[1]) rfl (by show eli F.z 1≠0;rw[QcQ];exact QbD);obtain⟨O,T⟩:=QkX J I;obtain⟨U,V⟩:=QkX (p:=QbL F.z [1] p) (q:=p) (n:=n) (m:=n) (by rw[O,T];omega) I;refine⟨Quj U (QkY _ _ _) fun s=>?_,V⟩;unfold sq2;rw[QdQ,QdQ,QfJ];have e:conv (cfR F.z [1]) (cfR F.z p)=cfR F.z p:=funext fun t=>QmF F.z _ t
 rw[e]
theorem QsB {S F:FD} {rt:Nat} {poly pts I:List Int} {u:Nat→R S.z} (hz:QcP S.z F.z poly pts=0)(T:Qsv S.z F.z poly)(U:I=Qix F.z poly poly)(O:I.length=poly.length - 1+(poly.length - 1)+1) :
  Qcc S F (rel F.z rt) pts.length (I.length - 1) (QgH F I pts) u↔Qcc S F (rel F.z rt) pts.length (poly.length - 1) (QgH F poly pts) u:=by
 obtain⟨n,h1,h0,J,-⟩:=QdU hz;obtain⟨ae,-⟩:=QbW hz;have hp:=(Qdz.1 ae).1;have hn:poly.length - 1=n:=by omega
 rw[hn]at O ⊢;have V:plI F.z I=plI F.z poly*plI F.z poly:=by rw[U,Qm3]
 have X:∀x,QaW F.z I x=QaW F.z poly x*QaW F.z poly x:=fun x=>by rw[←QeE,V,QiD,QeE]
 have ad:cfR F.z I (n+n)=cfR F.z poly n*cfR F.z poly n:=by
  rw[U,QfJ];exact Qdh (fun t ht=>Qao F.z (by omega)) fun t ht=>Qao F.z (by omega)
 rw[O,Nat.add_sub_cancel];constructor
 ·intro h;exact QkU h1 h0 J O (by rw[ad];exact QaS h0 h0) (fun j hj=>by rw[X];exact QaS (J j hj) (J j hj)) ⟨plI F.z poly,V⟩ h
 ·intro h i hi;have Y:=T.2;rw[Qjz]at Y;rw[←QgB (Qh6.2 T.1) hp h1 h0 Y J h i hi];refine Qaa fun j _=>?_
  unfold QgH;rw[X,Qb3 (pw _ _)]
theorem Qws {S:Desc} {F:FD} {poly pts I:List Int} (hz:QcP S F.z poly pts=0)(J:I=Qix F.z poly poly)(hl:I.length=poly.length - 1+(poly.length - 1)+1)(aj:2*(poly.length - 1)≤64):QcP S F.z I pts=0:=by
 obtain⟨ae,⟨al,am⟩,af,an,ag,ao,ap,aq,ah⟩:=QbW hz;have O:QaD F.z I=I:=by rw[J];exact QkY _ _ _
 have Y:∀x,QaW F.z I x=QaW F.z poly x*QaW F.z poly x:=fun x=>by rw[←QeE,show plI F.z I=plI F.z poly*plI F.z poly by rw[J,Qm3],QiD,QeE]
 have aa:I=QaK F.z I.length fun j=>cfR F.z I j:=by
  have T:QaD F.z I=lst (QaD F.z I).length (cfI F.z I):=by unfold QaD;rw[QaH];rfl
  rw[O]at T;exact T
 have ab:elB F.z I=true:=by rw[aa];exact QgS _ _ _
 refine QlS ae (by omega) (by rw[af,ab];decide) ag ?_ fun X=>?_
 ·rintro (h |h |h)
  ·omega
  ·omega
  ·have h4:=Qa1 O (n:=I.length - 1) (by omega);apply h4;unfold cfR;rw[h,QbC]
 ·unfold QfW at X;obtain⟨j,V,e⟩:=List.mem_map.1 X;have U:=Qaq.1 e;rw[Y]at U;refine ah ?_;have ak:=List.mem_range.1 V;have h6:QaW F.z poly (eli F.z (pts[j]?.getD 0))=0:=Classical.byContradiction fun h=>QaS h h U
  unfold QfW;exact List.mem_map.2 ⟨j,V,by rw[h6,QaF]⟩
end
section
open Cw.CField (inv)
theorem Qh1 {F I:FD} (h:I.z=F.z)(poly pts:List Int):Qck I pts (Qh5 I poly pts)=Qck F pts (Qh5 F poly pts):=by
 obtain⟨D,g,a,b,c⟩:=F;obtain⟨J,O,T,U,c2⟩:=I;dsimp only at h;subst h;rfl
def QeI (S:FD)(D:Desc)(poly pts:List Int)(u:Nat→R S.z)(er:List Int)(ec:Int)(la lb:List Int):Prop :=
 ∀ (F:FD) (rt k:Nat) (C:Nat→Nat→R S.z),F.z=D→Qjl S F rt→(∀v,Qb2 k pts.length C v↔Qcc S F (rel F.z rt) pts.length (poly.length - 1) (QgH F poly pts) v)→Qsn S pts.length k C u er (QlN (Qig S.z D poly) (er.length:Int)) ec la lb
section
variable {S:FD} {D:Desc} {poly pts er:List Int} {u:Nat→R S.z}
theorem Qm6 {F:FD} {rt:Nat} (hz:QcP S.z F.z poly pts=0)(h0:muV S F (rel F.z rt)=0)(U:(pts.length:Int)<Qig S.z F.z poly){v:Nat→R S.z} (I:Qcc S F (rel F.z rt) pts.length (poly.length - 1) (QgH F poly pts) v):∀j,j<pts.length→v j=0:=fun j O=>Classical.byContradiction fun T=>by
 have V:=Qop hz h0 ⟨j,O,T⟩ I;have J:=Qs8 (QaK S.z pts.length v);rw[Qae]at J;omega
theorem QiO (D:Desc)(N:Nat):QaK D N (fun _=>(0:R D))=List.replicate N 0:=by
 show (List.range N).map (fun _=>ci (0:R D))=_
 rw[QaF];apply List.ext_getElem
 ·simp
 ·intro i I J;simp
theorem Qw6 (hz:QcP S.z D poly pts=0)(I:(pts.length:Int)<Qig S.z D poly)(h:((Qbu (List.replicate pts.length 0) (QaK S.z pts.length u) er pts.length).length:Int)≤QlN (Qig S.z D poly) (er.length:Int)) :
  QeI S D poly pts u er 0 (List.replicate pts.length 0) (Qbu (List.replicate pts.length 0) (QaK S.z pts.length u) er pts.length):=by
 rintro F rt k C rfl O T;rw[←QiO S.z]at h ⊢;refine .inr ⟨rfl,fun _=>0,rfl,rfl,⟨fun _=>0,fun j _=>(Qag fun i _=>Qah _).symm⟩,h,fun U V _=>?_⟩;have J:=Qm6 hz O.2.1 I ((T U).1 V);exact Qay fun j X=>by rw[J j X]
theorem Qwt (hz:QcP S.z D poly pts=0)(J:(pts.length:Int)<Qig S.z D poly)(h:QlN (Qig S.z D poly) (er.length:Int)<((Qbu (List.replicate pts.length 0) (QaK S.z pts.length u) er pts.length).length:Int)) :
  QeI S D poly pts u er 12 [] []:=by
 rintro F rt k C rfl T U;rw[←QiO S.z]at h;refine .inl ⟨rfl,rfl,rfl,fun I V=>?_⟩;have O:=Qm6 hz T.2.1 J ((U I).1 V);rw[show QaK S.z pts.length I=QaK S.z pts.length (fun _=>(0:R S.z)) from Qay fun j X=>by rw[O j X]];exact h
theorem Qwu {F1:FD} {rt1:Nat} {q:List Int} {ec:Int} {la lb:List Int} (J:QcP S.z F1.z q pts=0)(Y:q.length - 1≤pts.length)(I:Qjl S F1 rt1)(hr:∀x∈er,0≤x∧x<(pts.length:Int))(ab:er.Nodup)
  (ac:∀v,Qcc S F1 (rel F1.z rt1) pts.length (q.length - 1) (QgH F1 q pts) v↔Qcc S F1 (rel F1.z rt1) pts.length (poly.length - 1) (QgH F1 poly pts) v)
  (hd:Qig S.z F1.z poly=((q.length - 1:Nat):Int)+1) (h:QqC S F1 rt1 (pts.length - (q.length - 1)) pts (Qck F1 pts (Qh5 F1 q pts)) er u ec la lb):QeI S F1.z poly pts u er ec la lb:=by
 intro F rt k C V X af;obtain⟨ae,-⟩:=QbW J;have hp:=(Qdz.1 ae).1;have hm:min (q.length - 1) pts.length=q.length - 1:=by omega
 have O:=Qh0 J Y;have T:=Qjp O;rw[show (pts.length:Int) - ((q.length - 1:Nat):Int)=((pts.length - (q.length - 1):Nat):Int) from by omega]at T;have U:=QqE (k:=k) (C:=C) hp I.2.1 T hr ab (fun v=>?_) h
 ·rw[hd];rw[show (pts.length:Int) - ((pts.length - (q.length - 1):Nat):Int)+1=((q.length - 1:Nat):Int)+1 from by omega]at U;exact U
 ·unfold Qsr;rw[QkD O,show pts.length - (pts.length - (q.length - 1))=min (q.length - 1) pts.length from by omega,QkW hp I.2.1 J,ac v,af v];exact⟨fun h=>QkV V I X h,fun h=>QkV V.symm X I h⟩
end
end
end Go.Proofs

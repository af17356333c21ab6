/- Order and the program's Eval. -/
import Derived.Deep.Slices
import Derived.Test.YtogfekjbpcfgmaaGreatZtkRowL
import Derived.Test.YtogfekjbpcfgmaaGreatZtkNewL
set_option maxRecDepth 100000
set_option maxHeartbeats 16000000
set_option linter.unusedVariables false
namespace Go.Proofs
open Go.RowKit Cw
section
def Dis (v1 v2:Value):Prop:=∀k,v1.ownBlock=some k→v2.ownBlock≠some k
theorem Dis.nil:Dis (.slice none 0 0) (.slice none 0 0):=fun k h=>by simp[Value.ownBlock]at h
theorem Dis.symm {v1 v2:Value} (h:Dis v1 v2):Dis v2 v1:=fun k I J=>h k J I
theorem Dis.step {v1 v2 u:Value} {B N:Nat} (h:Dis v1 v2)(O:∀k,v2.ownBlock=some k→B≤k∧k<N)(T:u.ownBlock=v1.ownBlock∨∀k,u.ownBlock=some k→N≤k):Dis u v2:=fun k I J=>by
 rcases T with e |e
 ·exact h k (e ▸ I) J
 ·have:=e k I;have:=(O k J).2;omega
theorem Dis.ne {v1 v2:Value} (h:Dis v1 v2):v1.ownBlock=none∨v1.ownBlock≠v2.ownBlock:=by
 cases e:v1.ownBlock with
 |none=>exact .inl rfl
 |some k=>exact .inr fun I=>h k e I.symm
theorem Own.farB {w:World} {g:Nat} {v:Value} {l:List Int} (h:Own w (g+1) v l)(i:Nat)(u:Value):Own (w.setCell ⟨g,i,none⟩ u) (g+1) v l:=h.far (fun e=>by have:=(h.lt g e).1;omega) u
theorem Own.cap {w:World} {B n c:Nat} {A:Option Addr} {l:List Int} (h:Own w B (.slice A n c) l):c≤maxLen:=by
 rcases h.2 with ⟨e,-⟩ |⟨g,cap,O,I,T,U,V,J,_⟩
 ·cases e;exact Nat.zero_le _
 ·cases I;exact J
theorem Rd.far {w:World} {B g:Nat} {A:Option Addr} {l:List Int} (h:Rd w B A l)(O:∀b,A=some b→b.block≠g)(i:Nat)(u:Value):Rd (w.setCell ⟨g,i,none⟩ u) B A l:=fun X=>by
 obtain⟨b,J,e,U,V⟩:=h X;have T:=O _ e;refine⟨b,J,e,U,fun j Y=>?_⟩;have I:(⟨b,J+j,none⟩:Addr)≠⟨g,i,none⟩:=fun e2=>T (congrArg Addr.block e2)
 rw[World.cell?_setCell_other _ _ _ _ (by first |exact I |exact I.symm)];exact V j Y
theorem Own.base {w:World} {B B':Nat} {v:Value} {l:List Int} (h:Own w B v l)(I:B'≤B):Own w B' v l:=by
 refine⟨h.1,?_⟩;rcases h.2 with J |⟨g,cap,O,rfl,T,rest⟩
 ·exact .inl J
 ·exact .inr ⟨g,cap,O,rfl,τ I T,rest⟩
theorem Own.cell0 {w:World} {B b o n c k:Nat} {l:List Int} (h:Own w B (.slice (some ⟨b,o,none⟩) n c) l)(I:k<l.length):w.cell? ⟨b,o+k,none⟩=some (.int .i64 (l[k]?.getD 0)):=by
 obtain⟨U,c',e,-,J,-⟩:=h.form
 cases e
 obtain⟨b',V,O,-,T⟩:=J.at_ I
 cases O
 exact T
theorem Qc5 (D:FD)(g:Nat)(w:World)(I:GF w w.heap.size g D) :
  Calls Tryz.prog 114 #[.pointer (some ⟨g,0,none⟩)] w fun e w'=>e=.returned (.int .i64 D.q)∧w=w':=by
 have J:=I.c3;clear I;go_enter Tryz.func114,Tryz.ntmps114;go_wp2_with fail;go_ret;exact⟨rfl,rfl⟩
theorem Qml (W:World)(l:List Int):Rd (W.alloc (.cells (l.map (Value.int .i64)).toArray 3)) (W.alloc (.cells (l.map (Value.int .i64)).toArray 3)).heap.size (some ⟨W.heap.size,0,none⟩) l:=(IB.new W l).rd
def QaW (D:Desc)[CRing (R D)] (l:List Int)(u:R D):R D:=Qat l.length fun i=>eli D (l[i]?.getD 0)*pw u i
def QfH (D:Desc)(l:List Int)(u:R D):Nat→R D
 |0=>0
 |t+1=>QfH D l u t*u+eli D (l[l.length - (t+1)]?.getD 0)
theorem Qkk (D:Desc)(l:List Int)(u:R D):∀t,t≤l.length→QfH D l u t=Qat t (fun i=>eli D (l[l.length - t+i]?.getD 0)*pw u i)
 |0,_=>rfl
 |t+1,h=>by
  show QfH D l u t*u+_=_
  rw[Qkk D l u t (by omega),QaE,Nat.add_zero,QbK,Qax,QdV,←Qar]
  congr 1
  refine Qaa fun i I=>?_
  rw[show l.length - (t+1)+(i+1)=l.length - t+i by omega,Qa6];rfl
theorem Qlm (D:Desc)(l:List Int)(u:R D):QfH D l u l.length=QaW D l u:=by
 rw[Qkk D l u _ ρ,Nat.sub_self];exact Qaa fun i _=>by rw[Nat.zero_add]
theorem QdL (D:FD)(l:List Int)(x:Int)(A:Option Addr)(c g:Nat)(w:World)(I:GF w w.heap.size g D)(hr:Rd w w.heap.size A l)(hl:l.length≤maxLen) :
  Calls Tryz.prog 180 #[.pointer (some ⟨g,0,none⟩),.slice A l.length c,.int .i64 x] w fun e w'=>e=.returned (.int .i64 (ci (QaW D.z l (eli D.z x))))∧Below w.heap.size w w':=by
 unfold maxLen at hl;have hM:=fun y W I=>η (QbZ D y x g W I)
 have hA:=fun y z W I=>η (Qcf D y z g W I)
 have ao:=η (Qlm D.z l (eli D.z x));go_enter Tryz.func180,Tryz.ntmps180;go_wp2_with fail;go_loopw [7,8] (fun y i wr=>∃t:Nat,t≤l.length∧i=.int .i64 ((l.length:Int) - 1 - t)∧y=.int .i64 (ci (QfH D.z l (eli D.z x) t))∧Below w.heap.size w wr) (fun _ i _=>(intOf i+1).toNat)
 case atStart=>exact⟨0,by omega,by go_num,by show _=Value.int .i64 (ci (0:R D.z));rw[QaF],κ⟩
 case round =>
  obtain⟨t,ht,rfl,rfl,O⟩:=hrel;by_cases aA:t<l.length
  ·have X:decide ((0:Int)≤(l.length:Int) - 1 - t)=true:=by simp;omega
   obtain⟨k,hk⟩:=ε (l.length - (t+1):Nat);have J:(l.length:Int) - 1 - t=(k:Int):=by omega
   rw[J];have ap:k<l.length:=by omega
   have aw:(0:Int)≤(k:Int):=by omega
   have ax:(k:Int)<(l.length:Int):=by omega
   obtain⟨b,o,rfl,hb,hc⟩:=hr.at_ ap;have ab:=(O.cell (p:=⟨b,o+k,none⟩) hb).trans hc;have Y:QfH D.z l (eli D.z x) (t+1)=QfH D.z l (eli D.z x) t*eli D.z x+eli D.z (l[k]?.getD 0):=by rw[hk];rfl
   obtain⟨y,hy⟩:=ε (l[k]?.getD 0);rw[←hy]at ab Y;have U:=fun W I=>(hM (ci (QfH D.z l (eli D.z x) t)) W I).out
   rw[Qam]at U;replace U:=fun W I=>η (U W I)
   have V:=fun W I=>(hA (ci (QfH D.z l (eli D.z x) t*eli D.z x)) y W I).out
   rw[Qam,←Y]at V;replace V:=fun W I=>η (V W I)
   have aq:=I.bm O;have ac:=η ab;replace J:=η J;have ad:k+t+1=l.length:=by omega
   replace ad:=η ad;clear hc Y hy X hk;go_wp2_with fail;go_region_held3 (fun w'=>w'.cell? ⟨b,o+k,none⟩=some (.int .i64 y)) (first |exact ac.out |exact ae.out |exact av.out)
    (first
     |(go_at_call 90;(with_reducible refine (U _ aq.drew).out.mono ?_);rintro e w1 ⟨rfl,ai⟩;have T:=(O.drew).trans (ai.mono O.size);have ae:=η ((ai.cell (p:=⟨b,o+k,none⟩) (θ hb O.size)).trans ac.out);have ar:=I.bm T)
     |(go_at_call 91;(with_reducible refine (V _ ar).out.mono ?_);rintro e w2 ⟨rfl,aj⟩;have au:=ζ T aj;have av:=η ((aj.cell (p:=⟨b,o+k,none⟩) (θ hb T.size)).trans ae.out)))
   go_wp2_with fail;go_roundw
   case rel=>exact⟨t+1,by omega,by rw[←J.out];go_num,rfl,au⟩
   case measure=>rw[←J.out];simp[intOf];omega
  ·obtain rfl:t=l.length:=by omega
   have X:decide ((0:Int)≤(l.length:Int) - 1 - (l.length:Int))=false:=by simp;omega
   have J:(l.length:Int) - 1 - (l.length:Int)=-1:=by omega
   rw[J];clear X;go_wp2_with fail;go_ret;exact⟨Qa2 (by rw[ao.out]),O⟩
end
section
def elB (D:Desc)(l:List Int):Bool:=decide (∀x∈l,0≤x∧x<(D.q:Int))
theorem QaJ {D:Desc} {l:List Int}:elB D l=true↔∀j,j<l.length→0≤l[j]?.getD 0∧l[j]?.getD 0<(D.q:Int):=by
 unfold elB;rw[decide_eq_true_iff];constructor
 ·intro h j I;rw[List.getElem?_eq_getElem I];exact h _ (List.getElem_mem _)
 ·intro h x J;obtain⟨j,I,rfl⟩:=List.getElem_of_mem J;have:=h j I
  rwa [List.getElem?_eq_getElem I]at this
theorem Qiu {D:Desc} {l:List Int} {j:Nat} (I:j<l.length)(h:¬ (0≤l[j]?.getD 0∧l[j]?.getD 0<(D.q:Int))):elB D l=false:=by
 rw[←Bool.not_eq_true,QaJ];exact fun J=>h (J j I)
def Qb1 (D:Desc)(I:List Int)(K e:Int):Int:=if (I.length:Int)≠K then e else if elB D I=false then 2 else 0
theorem QeV {B b I O:Nat} {W w1:World} {T v1 v2 U:Value} (V:Below B W w1)(X:b<B)(Y:I<B)(J:W.cell? ⟨b,0,none⟩=some T∧W.cell? ⟨b,1,none⟩=some v1∧W.cell? ⟨b,2,none⟩=some v2∧W.cell? ⟨I,O,none⟩=some U) :
  w1.cell? ⟨b,0,none⟩=some T∧w1.cell? ⟨b,1,none⟩=some v1∧w1.cell? ⟨b,2,none⟩=some v2∧w1.cell? ⟨I,O,none⟩=some U :=
 have k:=Qau V X ⟨J.1,J.2.1,J.2.2.1⟩
 ⟨k.1,k.2.1,k.2.2,(V.cell (p:=⟨I,O,none⟩) Y).trans J.2.2.2⟩
theorem Bx.cells {w:World} {b:Nat} {D:Desc} {A:Option Addr} {n c:Nat} (h:Bx w b D A n c):w.cell? ⟨b,0,none⟩=some (.int .i64 D.p)∧w.cell? ⟨b,1,none⟩=some (.int .i64 D.m)∧w.cell? ⟨b,2,none⟩=some (.slice A n c):=h
end
section
def twB (l:List Int):Bool:=decide (¬ l.Nodup)
theorem Qje {l:List Int} {i j:Nat} (J:j<i)(I:i<l.length)(h:l[i]?.getD 0=l[j]?.getD 0):twB l=true:=by
 unfold twB;rw[decide_eq_true_iff];intro O;rw[List.getElem?_eq_getElem I,List.getElem?_eq_getElem (by omega:j<l.length)]at h;exact List.pairwise_iff_getElem.1 O j i (by omega) I J h.symm
theorem QsY {l:List Int} (h:∀i j,j<i→i<l.length→l[i]?.getD 0≠l[j]?.getD 0):twB l=false:=by
 unfold twB;rw[decide_eq_false_iff_not,Classical.not_not];refine List.pairwise_iff_getElem.2 fun i j J I O e=>h j i O I ?_
 rw[List.getElem?_eq_getElem J,List.getElem?_eq_getElem I];exact e.symm
theorem Qf7 (D:FD)(l:List Int)(A:Option Addr)(c g:Nat)(w:World)(X:GF w w.heap.size g D)(Y:Rd w w.heap.size A l)(hl:l.length≤maxLen) :
  Calls Tryz.prog 212 #[.pointer (some ⟨g,0,none⟩),.slice A l.length c] w fun e w'=>e=.returned (.bool (elB D.z l))∧w=w':=by
 unfold maxLen at hl;have hI:=fun x=>η (Qhi D x g w X)
 go_enter Tryz.func212,Tryz.ntmps212;go_wp2_with fail;go_loop [9,6] (fun i _=>∃k:Nat,k≤l.length∧i=.int .i64 k∧Hid (∀j,j<k→0≤l[j]?.getD 0∧l[j]?.getD 0<(D.q:Int))) (fun i _=>l.length - (intOf i).toNat)
 case atStart=>exact⟨0,by omega,rfl,fun j U=>absurd U (by omega)⟩
 case round =>
  obtain⟨k,hk,rfl,T⟩:=hrel;by_cases V:k<l.length
  ·obtain⟨b,o,rfl,-,hc⟩:=Y.at_ V;have J:=hI (l[k]?.getD 0);by_cases I:0≤l[k]?.getD 0∧l[k]?.getD 0<(D.q:Int)
   ·rw[decide_eq_true I]at J;have ac:Hid (∀j,j<k+1→0≤l[j]?.getD 0∧l[j]?.getD 0<(D.q:Int)):=fun j U=>by
     by_cases e:j=k
     ·subst e;exact I
     ·exact T.out j (by omega)
    clear I;generalize l[k]?.getD 0=y at *;go_wp2_with fail;(with_reducible refine J.out.mono ?_);rintro e w1 ⟨rfl,rfl⟩;go_wp2_with fail;go_round
    case rel=>exact⟨k+1,by omega,by go_num,ac⟩
    case measure=>simp[intOf];omega
   ·have O:=η (Qiu V I);rw[decide_eq_false I]at J;clear I;generalize l[k]?.getD 0=y at *;go_wp2_with fail;(with_reducible refine J.out.mono ?_);rintro e w1 ⟨rfl,rfl⟩;go_wp2_with fail;go_ret;exact⟨QaB O.out.symm,rfl⟩
  ·obtain rfl:k=l.length:=by omega
   have O:=η (QaJ.2 T.out);go_wp2_with fail;go_ret;exact⟨QaB O.out.symm,rfl⟩
theorem Qnv (l:List Int)(A:Option Addr)(c:Nat)(w:World)(U:Rd w w.heap.size A l)(ak:l.length≤c)(hl:c≤maxLen) :
  Calls Tryz.prog 213 #[.slice A l.length c] w fun e w'=>e=.returned (.bool (twB l))∧w=w':=by
 unfold maxLen at hl;go_enter Tryz.func213,Tryz.ntmps213;go_wp2_with fail;go_loop [9,3,4] (fun i _ _=>∃k:Nat,k≤l.length∧i=.int .i64 k∧Hid (∀i j,j<i→i<k→l[i]?.getD 0≠l[j]?.getD 0)) (fun i _ _=>l.length - (intOf i).toNat)
 case atStart=>exact⟨0,by omega,rfl,fun i j T Y=>absurd Y (by omega)⟩
 case round =>
  obtain⟨k,hk,rfl,V⟩:=hrel;by_cases ab:k<l.length
  ·obtain⟨b,o,rfl,-,hc⟩:=U.at_ ab;obtain⟨y,J⟩:=ε (l[k]?.getD 0);rw[←J]at hc;replace J:=η J;go_wp2_with fail;go_loop [18,6] (fun i _=>∃j:Nat,j≤k∧i=.int .i64 j∧Hid (∀t,t<j→y≠l[t]?.getD 0)) (fun i _=>k - (intOf i).toNat)
   case atStart=>exact⟨0,by omega,rfl,fun t ht=>absurd ht (by omega)⟩
   case round =>
    obtain⟨j,hj,rfl,X⟩:=hrel;by_cases aj:j<k
    ·obtain⟨b2,o2,e2,-,ai⟩:=U.at_ (by omega:j<l.length)
     cases e2
     obtain⟨z,hz⟩:=ε (l[j]?.getD 0);rw[←hz]at ai;replace hz:=η hz;by_cases I:y=z
     ·have O:=η (Qje aj ab (by rw[←J.out,←hz.out,I]));have hb:(y==z)=true:=beq_iff_eq.2 I;clear I;go_wp2_with fail;go_ret;exact⟨QaB O.out.symm,rfl⟩
     ·have hb:(y==z)=false:=beq_eq_false_iff_ne.2 I;have ae:Hid (∀t,t<j+1→y≠l[t]?.getD 0):=fun t ht=>by
       by_cases e:t=j
       ·subst e;rw[←hz.out];exact I
       ·exact X.out t (by omega)
      clear I;go_wp2_with fail;go_round
      case rel=>exact⟨j+1,by omega,by go_num,ae⟩
      case measure=>simp[intOf];omega
    ·obtain rfl:j=k:=by omega
     have af:Hid (∀i t,t<i→i<j+1→l[i]?.getD 0≠l[t]?.getD 0):=fun i t T Y=>by
      by_cases e:i=j
      ·subst e;rw[←J.out];exact X.out t T
      ·exact V.out i t T (by omega)
     go_wp2_with fail;go_round
     case rel=>exact⟨j+1,by omega,by go_num,af⟩
     case measure=>simp[intOf];omega
  ·obtain rfl:k=l.length:=by omega
   have O:=η (QsY V.out);go_wp2_with fail;go_ret;exact⟨QaB O.out.symm,rfl⟩
end
section
open Go.ChangeShapes Go.WideShapes Go.ChangeAt Go.Joins Go.Deep
section
variable {H:Type} {enc:TypeId×Value→H} {W:World} {base:Nat}
theorem Qde:Tryz.prog.cellsOf 22=1:=by kernel_rfl
end
end
section
theorem QbS {B b:Nat} {W w1:World} {O v1 v2 T U V:Value} (I:Below B W w1)(J:b<B)(h:W.cell? ⟨b,0,none⟩=some O∧W.cell? ⟨b,1,none⟩=some v1∧W.cell? ⟨b,2,none⟩=some v2∧W.cell? ⟨b,3,none⟩=some T∧W.cell? ⟨b,4,none⟩=some U∧W.cell? ⟨b,5,none⟩=some V) :
  w1.cell? ⟨b,0,none⟩=some O∧w1.cell? ⟨b,1,none⟩=some v1∧w1.cell? ⟨b,2,none⟩=some v2∧w1.cell? ⟨b,3,none⟩=some T∧w1.cell? ⟨b,4,none⟩=some U∧w1.cell? ⟨b,5,none⟩=some V :=
 ⟨(I.cell (p:=⟨b,0,none⟩) J).trans h.1,(I.cell (p:=⟨b,1,none⟩) J).trans h.2.1,(I.cell (p:=⟨b,2,none⟩) J).trans h.2.2.1,(I.cell (p:=⟨b,3,none⟩) J).trans h.2.2.2.1,(I.cell (p:=⟨b,4,none⟩) J).trans h.2.2.2.2.1,(I.cell (p:=⟨b,5,none⟩) J).trans h.2.2.2.2.2⟩
theorem Qiv (w:World)(I v1 v2 J O T:Value)(t:TypeId):(w.alloc (.cells #[I,v1,v2,J,O,T] t)).cell? ⟨w.heap.size,0,none⟩=some I∧(w.alloc (.cells #[I,v1,v2,J,O,T] t)).cell? ⟨w.heap.size,1,none⟩=some v1∧(w.alloc (.cells #[I,v1,v2,J,O,T] t)).cell? ⟨w.heap.size,2,none⟩=some v2 ∧
  (w.alloc (.cells #[I,v1,v2,J,O,T] t)).cell? ⟨w.heap.size,3,none⟩=some J∧(w.alloc (.cells #[I,v1,v2,J,O,T] t)).cell? ⟨w.heap.size,4,none⟩=some O∧(w.alloc (.cells #[I,v1,v2,J,O,T] t)).cell? ⟨w.heap.size,5,none⟩=some T:=by
 simp[go_sem]
def gchkD (D:Desc)(K:Int)(pts mul:List Int):Int :=
 if pts.length<1∨64<pts.length then 4 else if mul.length≠pts.length then 10 else if elB D pts=false∨elB D mul=false then 2
 else if twB pts=true then 18 else if (0:Int)∈mul then 7 else if K<0∨(pts.length:Int)<K then 6 else 0
def Qmm (D:Desc)(K:Int)(pts mul:List Int)(w:World)(e:Ending)(w':World):Prop :=
 Below w.heap.size w w'∧∃g,∃F:FD,F.z=D∧GF w' w'.heap.size g F∧w.heap.size≤g ∧
  ((gchkD D K pts mul=0∧e=.returned (.tuple #[.pointer (some ⟨g,0,none⟩),.int .i64 0]))∨(gchkD D K pts mul≠0∧e=.returned (.tuple #[.pointer none,.int .i64 (gchkD D K pts mul)])))
theorem Qln (D:Desc)(K:Int)(pts mul:List Int)(A A1 A2:Option Addr)(c c1 c2:Nat)(w:World)(hr:Rd w w.heap.size A (Qan D))(hg:Qcq D.p D.m (Qan D))(aC:Rd w w.heap.size A1 pts)(aD:Rd w w.heap.size A2 mul)(h1:pts.length≤c1)(ao:c1≤maxLen)(h2:mul.length≤maxLen) :
  Calls Tryz.prog 174 #[.agg #[.int .i64 D.p,.int .i64 D.m,.slice A D.mod.length c,.int .i64 K,.slice A1 pts.length c1,.slice A2 mul.length c2]] w (Qmm D K pts mul w):=by
 have hN:=fun W h=>η (QeP D A c W h hg)
 have k0:=η (Qiv w (.int .i64 D.p) (.int .i64 D.m) (.slice A D.mod.length c) (.int .i64 K) (.slice A1 pts.length c1) (.slice A2 mul.length c2) 94);have hB:Below w.heap.size w (w.alloc (.cells #[.int .i64 D.p,.int .i64 D.m,.slice A D.mod.length c,.int .i64 K,.slice A1 pts.length c1,.slice A2 mul.length c2] 94)):=β;have au:=hN _ (hr.bm hB);have hm:c1≤maxLen:=ao;unfold maxLen at hm;have aF:=h2;unfold maxLen at aF;clear hN hg;unfold Qmm;go_enter Tryz.func174,Tryz.ntmps174;go_wp2_with fail;(with_reducible refine au.out.mono ?_);rintro e w1 ⟨g,F,rfl,rfl,ay,V,an⟩;have T:=ζ hB an;have U:∀ (O:World) (e:Ending),GF O O.heap.size g F→Below w.heap.size w O→((gchkD F.z K pts mul=0∧e=.returned (.tuple #[.pointer (some ⟨g,0,none⟩),.int .i64 0]))∨(gchkD F.z K pts mul≠0∧e=.returned (.tuple #[.pointer none,.int .i64 (gchkD F.z K pts mul)]))) →
   Below w.heap.size w O∧∃g,∃F':FD,F'.z=F.z∧GF O O.heap.size g F'∧w.heap.size≤g∧((gchkD F.z K pts mul=0∧e=.returned (.tuple #[.pointer (some ⟨g,0,none⟩),.int .i64 0]))∨(gchkD F.z K pts mul≠0∧e=.returned (.tuple #[.pointer none,.int .i64 (gchkD F.z K pts mul)]))) :=
  fun O e h1 h2 h3=>⟨h2,g,F,rfl,h1,τ hB.size ay,h3⟩
 have av:=aC.bm T;have aw:=aD.bm T;have ad:=η (Qf7 F pts A1 c1 g w1 V av (τ h1 ao));have ah:=η (Qf7 F mul A2 c2 g w1 V aw h2);have hT:=η (Qnv pts A1 c1 w1 av h1 ao);have aN:w.heap.size<w1.heap.size:=by have:=an.size;simp only[World.size_alloc]at this;omega
 obtain⟨q0,q1,q2,q3,q4,q5⟩:=QbS an (by simp) k0.out;replace U:=η U;clear an au k0 hB ay;by_cases aJ:pts.length<1
 ·have I:Hid (gchkD F.z K pts mul=4):=if_pos (.inl aJ);go_wp2_with fail;go_ret2;exact U.out _ _ V T (.inr ⟨by rw[I.out];decide,by rw[I.out];rfl⟩)
 by_cases aK:64<pts.length
 ·have I:Hid (gchkD F.z K pts mul=4):=if_pos (.inr aK);go_wp2_with fail;go_ret2;exact U.out _ _ V T (.inr ⟨by rw[I.out];decide,by rw[I.out];rfl⟩)
 have J:gchkD F.z K pts mul=if mul.length≠pts.length then 10 else if elB F.z pts=false∨elB F.z mul=false then 2
   else if twB pts=true then 18 else if (0:Int)∈mul then 7 else if K<0∨(pts.length:Int)<K then 6 else 0:=if_neg (by omega)
 by_cases am:mul.length=pts.length;rotate_left
 ·have I:Hid (gchkD F.z K pts mul=10):=J.trans (if_pos am);have hz:((mul.length:Int) !=(pts.length:Int))=true:=by rw[bne_iff_ne];omega
  clear J;go_wp2_with fail;go_ret2;exact U.out _ _ V T (.inr ⟨by rw[I.out];decide,by rw[I.out];rfl⟩)
 have aO:((mul.length:Int) !=(pts.length:Int))=false:=by rw[bne_eq_false_iff_eq];omega
 rw[if_neg (not_not_intro am)]at J;replace am:=η am;by_cases X:elB F.z pts=true;rotate_left
 ·rw[Bool.not_eq_true]at X;have I:Hid (gchkD F.z K pts mul=2):=J.trans (if_pos (.inl X));rw[X]at ad;clear J X;go_wp2_with fail;(with_reducible refine ad.out.mono ?_);rintro e O ⟨rfl,rfl⟩;go_wp2_with fail;go_ret2;exact U.out _ _ V T (.inr ⟨by rw[I.out];decide,by rw[I.out];rfl⟩)
 rw[X]at ad;by_cases Y:elB F.z mul=true;rotate_left
 ·rw[Bool.not_eq_true]at Y;have I:Hid (gchkD F.z K pts mul=2):=J.trans (if_pos (.inr Y));rw[Y]at ah;clear J Y X;go_wp2_with fail;(with_reducible refine ad.out.mono ?_);rintro e O ⟨rfl,rfl⟩;go_wp2_with fail;(with_reducible refine ah.out.mono ?_);rintro e O ⟨rfl,rfl⟩;go_wp2_with fail;go_ret2;exact U.out _ _ V T (.inr ⟨by rw[I.out];decide,by rw[I.out];rfl⟩)
 rw[Y]at ah;rw[if_neg (by rw[X,Y];simp)]at J;clear X Y;by_cases aa:twB pts=true
 ·have I:Hid (gchkD F.z K pts mul=18):=J.trans (if_pos aa);rw[aa]at hT;clear J aa;go_wp2_with fail;(with_reducible refine ad.out.mono ?_);rintro e O ⟨rfl,rfl⟩;go_wp2_with fail;(with_reducible refine ah.out.mono ?_);rintro e O ⟨rfl,rfl⟩;go_wp2_with fail;(with_reducible refine hT.out.mono ?_);rintro e O ⟨rfl,rfl⟩;go_wp2_with fail;go_ret2;exact U.out _ _ V T (.inr ⟨by rw[I.out];decide,by rw[I.out];rfl⟩)
 rw[if_neg aa]at J;rw[Bool.not_eq_true]at aa;rw[aa]at hT;clear aa;replace J:=η J;go_wp2_with fail;(with_reducible refine ad.out.mono ?_);rintro e O ⟨rfl,rfl⟩;go_wp2_with fail;(with_reducible refine ah.out.mono ?_);rintro e O ⟨rfl,rfl⟩;go_wp2_with fail;(with_reducible refine hT.out.mono ?_);rintro e O ⟨rfl,rfl⟩;go_wp2_with fail;go_loop [53,8] (fun i _=>∃k:Nat,k≤mul.length∧i=.int .i64 k∧Hid (∀j,j<k→mul[j]?.getD 0≠0)) (fun i _=>mul.length - (intOf i).toNat)
 case atStart=>exact⟨0,by omega,rfl,fun j hj=>absurd hj (by omega)⟩
 case round =>
  obtain⟨k,hk,rfl,ax⟩:=hrel;by_cases aA:k<mul.length
  ·obtain⟨b,o,rfl,-,hc⟩:=aw.at_ aA;have ap:mul[k]?.getD 0∈mul:=by rw[List.getElem?_eq_getElem aA];exact List.getElem_mem _
   by_cases hy:mul[k]?.getD 0=0
   ·have I:Hid (gchkD F.z K pts mul=7):=J.out.trans (if_pos (hy ▸ ap));rw[hy]at hc;clear ap hy;go_wp2_with fail;go_ret2;exact U.out _ _ V T (.inr ⟨by rw[I.out];decide,by rw[I.out];rfl⟩)
   ·have aG:Hid (∀j,j<k+1→mul[j]?.getD 0≠0):=fun j hj=>by
     by_cases e:j=k
     ·subst e;exact hy
     ·exact ax.out j (by omega)
    clear ap;generalize mul[k]?.getD 0=y at *;have aP:(y==0)=false:=beq_eq_false_iff_ne.2 hy;clear hy;go_wp2_with fail;go_round
    case rel=>exact⟨k+1,by omega,by go_num,aG⟩
    case measure=>simp[intOf];omega
  ·obtain rfl:k=mul.length:=by omega
   have ae:¬ (0:Int)∈mul:=fun h=>by
    obtain⟨j,hj,e⟩:=List.getElem_of_mem h;refine ax.out j hj ?_;rw[List.getElem?_eq_getElem hj];exact e
   by_cases aL:K<0
   ·have I:Hid (gchkD F.z K pts mul=6):=J.out.trans ((if_neg ae).trans (if_pos (.inl aL)));clear ae;go_wp2_with fail;go_ret2;exact U.out _ _ V T (.inr ⟨by rw[I.out];decide,by rw[I.out];rfl⟩)
   by_cases aM:(pts.length:Int)<K
   ·have I:Hid (gchkD F.z K pts mul=6):=J.out.trans ((if_neg ae).trans (if_pos (.inr aM)));clear ae;go_wp2_with fail;go_ret2;exact U.out _ _ V T (.inr ⟨by rw[I.out];decide,by rw[I.out];rfl⟩)
   have I:Hid (gchkD F.z K pts mul=0):=J.out.trans ((if_neg ae).trans (if_neg (by omega)));clear ae;go_wp2_with fail;go_ret2;exact U.out _ _ V T (.inl ⟨I.out,rfl⟩)
end
section
open Go.ChangeShapes Go.WideShapes Go.ChangeAt Go.Joins Go.Deep
section
variable {H:Type} {enc:TypeId×Value→H} {W:World} {base:Nat}
theorem QtX {α:Type} {I:Array α} (h:I.size=3):∃c0 c1 c2,I=#[c0,c1,c2]:=by
 obtain⟨l⟩:=I
 match l,h with
 | [c0,c1,c2],_=>exact⟨c0,c1,c2,rfl⟩
theorem QtY:∃I J:Field,Tryz.prog.underlying 48=some (.struct #[I,J])∧(I.type=22∧I.offset=0)∧(J.type=46∧J.offset=1) :=
 ⟨_,_,Tryz.underlying48,⟨rfl,rfl⟩,⟨rfl,rfl⟩⟩
theorem Qri:∃I J:Field,Tryz.prog.underlying 46=some (.struct #[I,J])∧(I.type=22∧I.offset=0)∧(J.type=22∧J.offset=1) :=
 ⟨_,_,Tryz.underlying46,⟨rfl,rfl⟩,⟨rfl,rfl⟩⟩
theorem Qnw:Tryz.prog.cellsOf 48=3:=by kernel_rfl
theorem Qlo:Tryz.prog.cellsOf 46=2:=by kernel_rfl
theorem Qlp {n:Nat} {c1 c2:Value} {y:DataW H×List MemPlace} (h:DataW.trod enc Tryz.prog W 0 (fun _=>true) true n 46 [c1,c2]=some y)(V:∀x∈y.2,x.block<W.heap.size) :
  ∃ (J O:Option Addr) (l1 l2:List Int) (T U:Nat),c1=.slice J l1.length T∧c2=.slice O l2.length U∧l1.length≤maxLen∧l2.length≤maxLen∧Rd W W.heap.size J l1∧Rd W W.heap.size O l2:=by
 obtain⟨f0,f1,hs,⟨t0,o0⟩,⟨t1,o1⟩⟩:=Qri;obtain⟨d,p⟩:=y;obtain⟨xs,n,_,I,_,aj,hg⟩:=DataW.trod_struct hs h
 match xs,aj with
 | [y0,y1],_ =>
  have X:=hg 0 f0 rfl;have Y:=hg 1 f1 rfl;rw[t0,o0,Qde]at X;rw[t1,o1,Qde]at Y;simp only[Prod.mk.injEq]at I;have hp:=I.2;obtain⟨J,l1,T,rfl,a1,b1,-,r1⟩:=QdH (v:=c1) X fun x I=>V x (by rw[hp];simp[I])
  obtain⟨O,l2,U,rfl,a2,b2,-,r2⟩:=QdH (v:=c2) Y fun x I=>V x (by rw[hp];simp[I])
  exact⟨J,O,l1,l2,T,U,rfl,rfl,by omega,by omega,r1,r2⟩
theorem Qrj {v:Value} {d:DataW H} {p:List MemPlace} (hv:Value.okWide Tryz.prog W .any base 48 v)(h:DataW.Trod enc Tryz.prog W 0 (fun _=>true) true 48 v d p)(V:∀x∈p,x.block<W.heap.size) :
  ∃ (J l1 l2:List Int) (O T U:Option Addr) (c0 c1 c2:Nat),v=.agg #[.slice O J.length c0,.slice T l1.length c1,.slice U l2.length c2]∧J.length≤maxLen∧l1.length≤maxLen∧l2.length≤maxLen∧Rd W W.heap.size O J∧Rd W W.heap.size T l1∧Rd W W.heap.size U l2:=by
 obtain⟨f0,f1,hs,⟨t0,o0⟩,⟨t1,o1⟩⟩:=QtY;obtain⟨cs,rfl,aj⟩:=okWide_struct hs hv;obtain⟨c0,c1,c2,rfl⟩:=QtX (aj.trans Qnw);obtain⟨ax,hf⟩:=h;obtain⟨xs,n,_,I,_,am,hg⟩:=DataW.trod_struct hs hf
 match xs,am with
 | [y0,y1],_ =>
  have X:=hg 0 f0 rfl;have Y:=hg 1 f1 rfl;rw[t0,o0,Qde]at X;rw[t1,o1,Qlo]at Y;simp only[Prod.mk.injEq]at I;have hp:=I.2;obtain⟨O,J,k0,rfl,a0,b0,-,r0⟩:=QdH (v:=c0) X fun x I=>V x (by rw[hp];simp[I])
  obtain⟨T,U,l1,l2,k1,k2,rfl,rfl,h1,h2,r1,r2⟩:=Qlp (c1:=c1) (c2:=c2) Y fun x I=>V x (by rw[hp];simp[I])
  exact⟨J,l1,l2,O,T,U,k0,k1,k2,rfl,by omega,h1,h2,r0,r1,r2⟩
end
end
section
open Go.ChangeShapes Go.WideShapes Go.ChangeAt Go.Joins Go.Deep
section
variable {H:Type} {enc:TypeId×Value→H} {W:World} {base:Nat}
theorem Qgx {n:Nat} {c0 c1 c2:Value} {y:DataW H×List MemPlace} (h:DataW.trod enc Tryz.prog W 0 (fun _=>true) true n 24 [c0,c1,c2]=some y)(U:∀x∈y.2,x.block<W.heap.size) :
  ∃ (p m:Int) (A:Option Addr) (l:List Int) (c:Nat),c0=.int .i64 p∧c1=.int .i64 m∧c2=.slice A l.length c∧I64 p∧I64 m∧l.length≤maxLen∧Rd W W.heap.size A l:=by
 obtain⟨V,X,Y,hs,t0,t1,t2,I,hC⟩:=Qq7;obtain⟨o0,k0⟩:=hone_of I 0 V rfl;obtain⟨o1,k1⟩:=hone_of I 1 X rfl;obtain⟨o2,k2⟩:=hone_of I 2 Y rfl;obtain⟨y0,y1,y2,n',J,-,h0,O,T⟩:=trod_struct3 hs h;simp only[o0,o1,o2,k0,k1,k2]at h0 O T;rw[t0]at h0;rw[t1]at O;rw[t2]at T;subst J;obtain⟨x0,rfl,i0⟩:=Qmc (v:=c0) h0;obtain⟨x1,rfl,i1⟩:=Qmc (v:=c1) O;obtain⟨A,l,c,rfl,hl,hm,hi,hr⟩:=QdH (v:=c2) T fun x J=>U x (by simp[J])
 exact⟨x0,x1,A,l,c,rfl,rfl,rfl,i0,i1,by omega,hr⟩
theorem QfI:Tryz.prog.cellsOf 24=3:=by kernel_rfl
end
end
section
open Go.ChangeShapes Go.WideShapes Go.ChangeAt Go.Joins Go.Deep
section
variable {H:Type} {enc:TypeId×Value→H} {W:World} {base:Nat}
theorem Qvt {α:Type} {I:Array α} (h:I.size=8):∃c0 c1 c2 J O T U V,I=#[c0,c1,c2,J,O,T,U,V]:=by
 obtain⟨l⟩:=I
 match l,h with
 | [c0,c1,c2,J,O,T,U,V],_=>exact⟨c0,c1,c2,J,O,T,U,V,rfl⟩
theorem Qvu:∃I J O T:Field,Tryz.prog.underlying 44=some (.struct #[I,J,O,T])∧(I.type=24∧I.offset=0)∧(J.type=24∧J.offset=3)∧(O.type=22∧O.offset=6)∧(T.type=22∧T.offset=7) :=
 ⟨_,_,_,_,Tryz.underlying44,⟨rfl,rfl⟩,⟨rfl,rfl⟩,⟨rfl,rfl⟩,⟨rfl,rfl⟩⟩
theorem Qpo:Tryz.prog.cellsOf 44=8:=by kernel_rfl
theorem QtZ {v:Value} {d:DataW H} {p:List MemPlace} (hv:Value.okWide Tryz.prog W .any base 44 v)(h:DataW.Trod enc Tryz.prog W 0 (fun _=>true) true 44 v d p)(O:∀x∈p,x.block<W.heap.size) :
  ∃ (P M Q N:Int) (A B C D:Option Addr) (ml J poly pts:List Int) (c b k e:Nat),v=.agg #[.int .i64 P,.int .i64 M,.slice A ml.length c,.int .i64 Q,.int .i64 N,.slice B J.length b,.slice C poly.length k,.slice D pts.length e] ∧
   I64 P∧I64 M∧I64 Q∧I64 N∧ml.length≤maxLen∧J.length≤maxLen∧(poly.length≤k∧k≤maxLen)∧(pts.length≤e∧e≤maxLen)∧(∀x∈poly,I64 x)∧(∀x∈pts,I64 x)∧Rd W W.heap.size A ml∧Rd W W.heap.size B J∧Rd W W.heap.size C poly∧Rd W W.heap.size D pts:=by
 obtain⟨f0,f1,f2,f3,hs,⟨t0,o0⟩,⟨t1,o1⟩,⟨t2,o2⟩,⟨t3,o3⟩⟩:=Qvu;obtain⟨cs,rfl,ao⟩:=okWide_struct hs hv;obtain⟨c0,c1,c2,c3,c4,c5,c6,c7,rfl⟩:=Qvt (ao.trans Qpo);obtain⟨aQ,hf⟩:=h;obtain⟨xs,n,_,I,_,ay,T⟩:=DataW.trod_struct hs hf
 match xs,ay with
 | [y0,y1,y2,y3],_ =>
  have U:=T 0 f0 rfl;have V:=T 1 f1 rfl;have X:=T 2 f2 rfl;have Y:=T 3 f3 rfl;rw[t0,o0,QfI]at U;rw[t1,o1,QfI]at V;rw[t2,o2,Qde]at X;rw[t3,o3,Qde]at Y;simp only[Prod.mk.injEq]at I;have hp:=I.2;obtain⟨P,M,A,ml,c,rfl,rfl,rfl,i0,i1,hl,hr⟩:=Qgx (c0:=c0) (c1:=c1) (c2:=c2) U fun x I=>O x (by rw[hp];simp[I])
  obtain⟨Q,N,B,J,b,rfl,rfl,rfl,i2,i3,aF,aG⟩:=Qgx (c0:=c3) (c1:=c4) (c2:=c5) V fun x I=>O x (by rw[hp];simp[I])
  obtain⟨C,poly,k,rfl,a1,b1,d1,r1⟩:=QdH (v:=c6) X fun x I=>O x (by rw[hp];simp[I])
  obtain⟨D,pts,e,rfl,a2,b2,d2,r2⟩:=QdH (v:=c7) Y fun x I=>O x (by rw[hp];simp[I])
  exact⟨P,M,Q,N,A,B,C,D,ml,J,poly,pts,c,b,k,e,rfl,i0,i1,i2,i3,hl,aF,⟨a1,b1⟩,⟨a2,b2⟩,d1,d2,hr,aG,r1,r2⟩
end
end
end Go.Proofs

/- Layers 5 and 38 of the program: Mul of two factors, Degree, Sub, euclid. -/
import Derived.Test.YtogfekjbpcfgmaaGreatZtkGcdW
set_option maxRecDepth 100000
set_option maxHeartbeats 16000000
set_option linter.unusedVariables false
namespace Go.Proofs
open Go.RowKit Cw
section
open Cw.CField (inv)
theorem QmG.can {D:Desc} {p q I J:List Int} (h:QmG D p q I J):QmG D (QaD D p) (QaD D q) I J :=
 ⟨h.cq,h.cr,fun s=>by rw[Qbe,Qbe];exact h.eq s,by rw[QaZ];exact h.lt⟩
theorem QlL (F:FD)(p:List Int)(J:Option Addr)(c1 g:Nat)(w:World)(T:GF w w.heap.size g F)(U:Rd w w.heap.size J p)(V:p.length≤70000) :
  Calls Tryz.prog 232 #[.pointer (some ⟨g,0,none⟩),.slice J p.length c1] w fun e w'=>e=.returned (.int .i64 (((QaD F.z p).length:Int) - 1))∧Below w.heap.size w w':=by
 have O:=η (Qcl F p J c1 g w T U V);have X:=Qa4 F.z p;obtain⟨n,I⟩:=ε ((QaD F.z p).length);unfold QeB at O;rw[←I]at O X;rw[←I];have hw:IntKind.i64.wrap ((n:Int) - 1)=(n:Int) - 1:=IntWalk.i64_in _ (by omega);replace I:=η I;go_enter Tryz.func232,Tryz.ntmps232;go_wp2_with fail;(with_reducible refine O.out.mono ?_);rintro e w1 ⟨A',c',rfl,-,-,-,-,Y⟩;go_wp2_with fail;go_ret;exact⟨rfl,Y⟩
theorem Qql (F:FD)(p q:List Int)(T U:Option Addr)(c1 c2 g:Nat)(w:World)(V:GF w w.heap.size g F)(Y:Rd w w.heap.size T p)(aa:Rd w w.heap.size U q)(ab:p.length≤70000)(ac:q.length≤70000) :
  Calls Tryz.prog 233 #[.pointer (some ⟨g,0,none⟩),.slice T p.length c1,.slice U q.length c2] w (Qkv (QeC F.z p (ci (-(1:R F.z))) q) w):=by
 have J:=QgM F 1 g w V;rw[QcQ]at J;obtain⟨m,O⟩:=ε (ci (-(1:R F.z)));rw[←O]at J;rw[←O];have X:=fun W a b c=>η (Qkw F p q m T U c1 c2 g W a b c ab ac)
 replace J:=η J;replace O:=η O;unfold Qkv at X ⊢;go_enter Tryz.func233,Tryz.ntmps233;go_wp2_with fail;(with_reducible refine J.out.mono ?_);rintro e w1 ⟨rfl,I⟩;have ad:=X w1 (V.bm I) (Y.bm I) (aa.bm I);go_wp2_with fail;(with_reducible refine ad.out.mono ?_);rintro e w2 ⟨A',c',rfl,ho,ag⟩;go_wp2_with fail;go_ret;exact⟨A',c',rfl,ho.base I.size,ζ I ag⟩
def Qk1 (D:Desc)(p q:List Int):Nat→List Int
 |0=>[1]
 |1=>QbL D [1] p
 |_+2=>QbL D (QbL D [1] p) q
theorem Qqm (D:Desc)(p q:List Int)(k:Nat):(Qk1 D p q k).length≤p.length+q.length+1:=by
 have I:=QfS D [1] p;have J:=QfS D (QbL D [1] p) q
 match k with
 |0=>simp[Qk1]
 |1=>simp[Qk1]at *;omega
 |k+2=>simp[Qk1]at *;omega
theorem QkM (F:FD)(p q:List Int)(A1 A2:Option Addr)(c1 c2 g b:Nat)(w:World)(hg:GF w w.heap.size g F)(ar:Rd w w.heap.size A1 p)(au:Rd w w.heap.size A2 q)(aA:p.length≤9000)(aB:q.length≤9000)(hb:b<w.heap.size)(V:w.cell? ⟨b,0,none⟩=some (.slice A1 p.length c1))(aa:w.cell? ⟨b,1,none⟩=some (.slice A2 q.length c2)) :
  Calls Tryz.prog 128 #[.pointer (some ⟨g,0,none⟩),.slice (some ⟨b,0,none⟩) 2 2] w (QeB (QbL F.z (QbL F.z [1] p) q) w):=by
 have ab:=fun A c W a d e f h=>QfL F (Qk1 F.z p q 0) p A A1 c c1 g W a d e f h
 have ac:=fun A c W a d e f h=>QfL F (Qk1 F.z p q 1) q A A2 c c2 g W a d e f h
 rw[show QbL F.z (Qk1 F.z p q 0) p=Qk1 F.z p q 1 from rfl]at ab;rw[show QbL F.z (Qk1 F.z p q 1) q=Qk1 F.z p q 2 from rfl]at ac;rw[show QbL F.z (QbL F.z [1] p) q=Qk1 F.z p q 2 from rfl];have an:=Qqm F.z p q;obtain⟨Y,T⟩:=ε (w.alloc (.cells #[.int .i64 1] 3));have hB:Below w.heap.size w Y:=by rw[T];exact β
 have O:Rd Y Y.heap.size (some ⟨w.heap.size,0,none⟩) (Qk1 F.z p q 0):=by rw[T];exact (IB.new w [1]).rd
 have U:(Qk1 F.z p q 0).length=1:=rfl;have aC:(Qk1 F.z p q 2).length≤maxLen:=by have:=an 2;unfold maxLen;omega
 generalize Qk1 F.z p q=X at *;replace T:=η T;unfold QeB at *;replace ab:=fun A c W a d e f h=>η (ab A c W a d e f h)
 replace ac:=fun A c W a d e f h=>η (ac A c W a d e f h)
 go_enter Tryz.func128,Tryz.ntmps128;go_wp2_with fail;rw[←T.out];go_loopw [11,5] (fun i v wr=>∃k:Nat,k≤2∧i=.int .i64 k∧(∃J c',v=.slice J (X k).length c'∧Rd wr wr.heap.size J (X k)∧(X k).length≤c'∧c'≤maxLen∧(∀a,J=some a→w.heap.size≤a.block))∧Below w.heap.size w wr) (fun i _ _=>2 - (intOf i).toNat)
 case atStart=>exact⟨0,by omega,rfl,⟨_,_,by rw[U],O,by rw[U];exact Nat.le_refl _,by unfold maxLen;omega,fun a e=>by cases e;exact Nat.le_refl _⟩,hB⟩
 case round =>
  clear O hB T;obtain⟨w2,rfl⟩:=ε (wr:World);obtain⟨k,hk,rfl,⟨J,c',rfl,O,av,aw,ax⟩,I⟩:=hrel;have ap:=hg.bm I;have aD:=(I.cell (p:=⟨b,0,none⟩) hb).trans V;have aE:=(I.cell (p:=⟨b,1,none⟩) hb).trans aa;have aF:=an k;rcases (show k=0∨k=1∨k=2 by omega) with rfl |rfl |rfl
  ·have hM:=ab J c' w2 ap O (ar.bm I) (by omega) (by omega);clear V aa U;go_wp2_with fail;(with_reducible refine hM.out.mono ?_);rintro e w4 ⟨A4,c4,rfl,ah,ai,aj,ak,al⟩;go_wp2_with fail;go_roundw
   case rel=>exact⟨1,by omega,by go_num,⟨_,_,rfl,ah,ai,aj,fun a e=>τ I.size (ak a e)⟩,ζ I al⟩
   case measure=>simp[intOf]
  ·have hM:=ac J c' w2 ap O (au.bm I) (by omega) (by omega);clear V aa U;go_wp2_with fail;(with_reducible refine hM.out.mono ?_);rintro e w4 ⟨A4,c4,rfl,ah,ai,aj,ak,al⟩;go_wp2_with fail;go_roundw
   case rel=>exact⟨2,by omega,by go_num,⟨_,_,rfl,ah,ai,aj,fun a e=>τ I.size (ak a e)⟩,ζ I al⟩
   case measure=>simp[intOf]
  ·clear V aa U;go_wp2_with fail;go_ret;exact⟨J,c',rfl,O,av,aw,ax,I⟩
end
section
open Cw.CField (inv)
def Qqn (F:FD)(n k:Nat)(X Y:Nat→R F.z)(w:World)(e:Ending)(w':World):Prop :=
 ∃a b J t Ab cb I O,e=.returned (.tuple #[.slice Ab b.length cb,.slice I t.length O])∧EI F n k X Y a (QaD F.z b) J t∧2*(QaD F.z b).length≤n+k+1∧Rd w' w'.heap.size Ab b∧Rd w' w'.heap.size I t∧b.length≤1000∧t.length≤1000∧Below w.heap.size w w'
theorem QlM (F:FD)(n k:Nat)(X Y:Nat→R F.z)(a b:List Int)(O:EI F n k X Y (QaD F.z a) (QaD F.z b) [] [1])(ha:a.length≤1000)(an:b.length≤1000)(hn:n≤64)(hk:k≤64)(A1 A2:Option Addr)(c1 c2 g:Nat)(w:World)(hg:GF w w.heap.size g F)(aR:Rd w w.heap.size A1 a)(aS:Rd w w.heap.size A2 b) :
  Calls Tryz.prog 215 #[.pointer (some ⟨g,0,none⟩),.slice A1 a.length c1,.slice A2 b.length c2,.int .i64 ((n:Int)+(k:Int))] w (Qqn F n k X Y w):=by
 obtain⟨bd,ao⟩:=ε ((n:Int)+(k:Int):Int);rw[←ao];obtain⟨Z,hZ⟩:=ε ((w.alloc (.cells #[] 3)).alloc (.cells #[.int .i64 1] 3));have hB:Below w.heap.size w Z:=by rw[hZ];exact (β).alloc (by simp) _
 have aj:Rd Z Z.heap.size (some ⟨w.heap.size+1,0,none⟩) [1]:=by
  have h:=(IB.new (w.alloc (.cells #[] 3)) [1]).rd;rw[hZ]
  simpa using h
 obtain⟨s,hs⟩:=ε (w.heap.size);replace O:=η O;replace hZ:=η hZ;replace ao:=η ao;unfold Qqn;go_enter Tryz.func215,Tryz.ntmps215;go_wp2_with fail;rw[←hZ.out];simp only[←hs];rw[←hs]at aj;replace hs:=η hs;go_loopw [1,2,9,10] (fun v1 v2 v9 bv wr=>∃ (a b J t:List Int) (Aa Ab Ao At:Option Addr) (ca cb co ct:Nat),v1=.slice Aa a.length ca∧v2=.slice Ab b.length cb∧v9=.slice At t.length ct∧bv=.slice Ao J.length co∧Hid (EI F n k X Y (QaD F.z a) (QaD F.z b) J t)∧a.length≤1000∧b.length≤1000∧Rd wr wr.heap.size Aa a∧Rd wr wr.heap.size Ab b∧Rd wr wr.heap.size Ao J∧Rd wr wr.heap.size At t∧Below w.heap.size w wr) (fun _ v _ _ _=>Qou v)
 case atStart=>exact⟨a,b,[],[1],A1,A2,_,_,c1,c2,_,_,rfl,rfl,rfl,rfl,O,ha,an,aR.bm hB,aS.bm hB,Rd.nil,aj,hB⟩
 case round =>
  clear aj O hZ hB aR aS ha an;obtain⟨w2,rfl⟩:=ε (wr:World);obtain⟨a,b,J,t,Aa,Ab,Ao,At,ca,cb,co,ct,rfl,rfl,rfl,rfl,O,ha,an,bg,aB,bh,aj,am⟩:=hrel;have aG:=hg.bm am;have U:=QlL F b Ab cb g w2 aG aB (by omega);have ap:=Qa4 F.z b;have ac:t.length≤n+1∧J.length≤n+1:=by have h1:=O.out.sum;have h2:=O.out.lab;have h3:=O.out.lot;omega
  obtain⟨N,hN⟩:=ε ((QaD F.z b).length);rw[←hN]at U;have hw:IntKind.i64.wrap (2*((N:Int) - 1))=2*((N:Int) - 1):=IntWalk.i64_in _ (by omega);by_cases hc:n+k+2≤2*N
  ·have a6:bd≤2*((N:Int) - 1):=by rw[ao.out];omega
   obtain⟨d,hd⟩:∃d,N=d+1:=⟨N - 1,by omega⟩;have aq:=fun W x y z=>Qfk F a b d (by rw[←hN,hd]) Aa Ab ca cb g W x y z (by omega) (by omega)
   unfold QjA at aq;replace aq:=fun W x y z=>η (aq W x y z)
   replace U:=η U;replace hd:=η hd;replace ap:=η ap;replace ac:=η ac;rw[hN]at hc;replace hc:=η hc;replace hN:=η hN;go_wp2_with fail;(with_reducible refine U.out.mono ?_);rintro e w3 ⟨rfl,I⟩;have aT:=aq w3 (aG.bm I) (bg.bm I) (aB.bm I);go_wp2_with fail;(with_reducible refine aT.out.mono ?_);rintro e w4 ⟨q,r,Aq,cq,Ar,cr,rfl,a0,bj,av,bk⟩;have T:=ζ I bk;have a7:Rd w4 w4.heap.size Aq q:=by obtain⟨A',c',e',-,h',-⟩:=a0.form;cases e';exact h'
   have aI:=O.out.step hc.out av.can;have aJ:r.length<(QaD F.z b).length:=by have:=av.lt;exact this
   have ax:q.length≤1000:=by
    have h1:=av.can.deg (QaZ _ _) (QaZ _ _) (by have:=hc.out;omega) (by have:=O.out.lab;omega);have h2:=Qa4 F.z a;omega
   rw[←av.cr]at aI;have a8:Hid (EI F n k X Y (QaD F.z b) (QaD F.z r) t (QgE F.z J q t)):=by have h:=aI;rw[av.cr]at h ⊢;exact h
   clear aI;have a9:=aB.bm T;have aU:=aj.bm T;have ba:=bh.bm T;have aV:=aG.bm T;have aW:=ζ am T;have aX:Hid (r.length<b.length):=θ aJ ap.out;replace aJ:=η aJ;replace ax:=η ax;obtain⟨V,hV⟩:=ε (w4.alloc (.cells #[.slice Aq q.length cq,.slice At t.length ct] 22));have aa:Below w4.heap.size w4 V:=by rw[hV];exact β
   have aY:V.cell? ⟨w4.heap.size,0,none⟩=some (.slice Aq q.length cq):=by rw[hV];simp[go_sem]
   have aZ:V.cell? ⟨w4.heap.size,1,none⟩=some (.slice At t.length ct):=by rw[hV];simp[go_sem]
   have bb:w4.heap.size<V.heap.size:=by rw[hV];simp
   have hM:=QkM F q t Aq At cq ct g w4.heap.size V (aV.bm aa) (a7.bm aa) (aU.bm aa) (by have:=ax.out;omega) (by have:=ac.out;omega) bb aY aZ;have aK:(QbL F.z (QbL F.z [1] q) t).length≤70000:=by have:=Qqm F.z q t 2;simp only[Qk1]at this;have:=ac.out;have:=ax.out;omega
   have hS:=fun A' c' W x y z=>Qql F J (QbL F.z (QbL F.z [1] q) t) Ao A' co c' g W x y z (by have:=ac.out;omega) aK
   rw[show QeC F.z J (ci (-(1:R F.z))) (QbL F.z (QbL F.z [1] q) t)=QgE F.z J q t from rfl]at hS;unfold QeB at hM;unfold Qkv at hS;replace hM:=η hM;replace hS:=fun A' c' W x y z=>η (hS A' c' W x y z)
   replace aK:=η aK;replace hV:=η hV;clear aY aZ U aT aq a0;go_wp2_with fail;rw[←hV.out];(with_reducible refine hM.out.mono ?_);rintro e w5 ⟨A5,c5,rfl,bp,-,-,-,bq⟩;have al:=ζ aa bq;have bc:=hS A5 c5 w5 (aV.bm al) (ba.bm al) bp;go_wp2_with fail;(with_reducible refine bc.out.mono ?_);rintro e w6 ⟨A6,c6,rfl,bs,bt⟩;have be:Rd w6 w6.heap.size A6 (QgE F.z J q t):=by obtain⟨A',c',e',-,h',-⟩:=bs.form;cases e';exact h'
   have ag:=ζ al bt;go_wp2_with fail;go_roundw
   case rel=>exact⟨b,r,t,QgE F.z J q t,Ab,Ar,At,A6,cb,cr,ct,c6,rfl,rfl,rfl,rfl,a8,an,by have:=aX.out;omega,a9.bm ag,bj.bm ag,aU.bm ag,be,ζ aW ag⟩
   case measure=>simp[Qou];exact aX.out
  ·have a6:¬ bd≤2*((N:Int) - 1):=by rw[ao.out];omega
   replace U:=η U;have aL:2*(QaD F.z b).length≤n+k+1:=by omega
   have bf:t.length≤1000:=by omega
   replace hN:=η hN;replace ap:=η ap;replace ac:=η ac;replace hc:=η hc;replace aL:=η aL;go_wp2_with fail;(with_reducible refine U.out.mono ?_);rintro e w3 ⟨rfl,I⟩;go_wp2_with fail;go_ret2;exact⟨QaD F.z a,b,J,t,Ab,cb,At,ct,rfl,O.out,aL.out,aB.bm I,aj.bm I,an,bf,ζ am I⟩
end
section
open Cw.CField (inv)
theorem Qsg (D:Desc):QaD D [1]=[1]:=by
 have h:cfI D [1]=fun i=>if i=0 then 1 else 0:=funext fun i=>by
  unfold cfI;rw[Qjt];by_cases e:i=0
  ·rw[if_pos e,if_pos e,Qei]
  ·rw[if_neg e,if_neg e,QaF]
 unfold QaD;rw[h,List.length_singleton,QfB (by simp)];rfl
theorem EI.start {F:FD} {n k:Nat} {I l:List Int} {Y:Nat→R F.z} (O:I.length=n)(hk:k≤n)(U:LI F.z (fun i=>eli F.z (I[i]?.getD 0)) Y n l) :
  EI F n k (fun i=>eli F.z (I[i]?.getD 0)) Y (QaD F.z (frK F I n)) (QaD F.z l) [] [1]:=by
 obtain⟨h1,h2,X⟩:=U;have h4:=Qa4 F.z l;have V:(QaD F.z (frK F I n)).length=n+1:=QfO F.z (Qc7 F I n) (by
  rw[Qjq F I (by omega),O];have h:=Qf6 (cfR F.z I) n n;rw[Qgf (Nat.le_refl n)]at h;rw[h];exact QbD)
 refine⟨QaZ _ _,QaZ _ _,Qsg _,by omega,by simp,by rw[V];simp;omega,by omega,fun i J=>?_,fun i J=>?_⟩
 ·rw[Qhz,QrT (frK F I n)];have T:=Quf I (eli F.z (I[i]?.getD 0));rw[O]at T;rw[T,(Qgg (f:=cfR F.z I) (N:=n) (x:=eli F.z (I[i]?.getD 0)) n (Nat.le_refl n)).2 ⟨i,J,rfl⟩]
  show Qat 0 _*_=_
  rw[QaG,Qah]
 ·rw[Qhz,X i J,QmH,Qav]
def Qqo (F:FD)(n k:Nat)(X Y:Nat→R F.z)(w:World)(e:Ending)(w':World):Prop :=
 Below w.heap.size w w'∧((∃m A c,e=.returned (.tuple #[.slice A m.length c,.int .i64 0])∧Qr5 F.z n k X Y m∧Own w' w.heap.size (.slice A m.length c) m)∨(e=.returned (.tuple #[.slice none 0 0,.int .i64 12])∧QpW F.z n k X Y))
def wrK (D:Desc)(X Y:Nat→R D)(m:List Int)(j:Nat):Nat:=((List.range j).filter fun i=>ci (QaW D m (X i)) !=ci (Y i)).length
theorem Qux {D:Desc} {X Y:Nat→R D} {m:List Int} {j:Nat} (h:(ci (QaW D m (X j)) !=ci (Y j))=true):wrK D X Y m (j+1)=wrK D X Y m j+1:=by
 unfold wrK;rw[List.range_succ,List.filter_append,List.length_append];simp[h]
theorem Qwj {D:Desc} {X Y:Nat→R D} {m:List Int} {j:Nat} (h:(ci (QaW D m (X j)) !=ci (Y j))=false):wrK D X Y m (j+1)=wrK D X Y m j:=by
 unfold wrK;rw[List.range_succ,List.filter_append,List.length_append];simp[h]
theorem Qth (D:Desc)(X Y:Nat→R D)(m:List Int)(j:Nat):wrK D X Y m j≤j:=by
 unfold wrK;have:=List.length_filter_le (fun i=>ci (QaW D m (X i)) !=ci (Y i)) (List.range j);rwa [List.length_range]at this
theorem Qsh (F:FD)(n k:Nat)(I V:List Int)(aj:I.length=n)(aB:V.length=n)(hn:n≤64)(hk:k≤n)(hd:∀i j,i<n→j<n→eli F.z (I[i]?.getD 0)=eli F.z (I[j]?.getD 0)→i=j)(A1 A2:Option Addr)(c1 c2 g:Nat)(w:World)(hg:GF w w.heap.size g F)(aN:Rd w w.heap.size A1 I)(bj:Rd w w.heap.size A2 V) :
  Calls Tryz.prog 176 #[.pointer (some ⟨g,0,none⟩),.slice A1 n c1,.slice A2 n c2,.int .i64 (k:Int)] w (Qqo F n k (fun i=>eli F.z (I[i]?.getD 0)) (fun i=>eli F.z (V[i]?.getD 0)) w):=by
 have hI:=Qp2 F I V n A1 A2 c1 c2 g w hg aN bj aj aB hn (fun i j hi hj e=>by have:=hd i j hi (by omega) e;omega);have ap:=fun W a b=>Qie F I A1 c1 g W a b (by omega)
 rw[aj]at ap;have aO:=Qc7 F I n;have aP:=fun l (h:LI F.z (fun i=>eli F.z (I[i]?.getD 0)) (fun i=>eli F.z (V[i]?.getD 0)) n l)=>EI.start (k:=k) aj hk h
 obtain⟨X,hX⟩:∃X:Nat→R F.z,X=fun i=>eli F.z (I[i]?.getD 0):=⟨_,rfl⟩
 obtain⟨Y,hY⟩:∃Y:Nat→R F.z,Y=fun i=>eli F.z (V[i]?.getD 0):=⟨_,rfl⟩
 have bB:Hid (∀i,eli F.z (I[i]?.getD 0)=X i):=fun i=>by rw[hX]
 have bC:Hid (∀i,eli F.z (V[i]?.getD 0)+eli F.z 0=Y i):=fun i=>by rw[hY,QbC,Qad]
 have bD:Hid (∀i j,i<n→j<n→X i=X j→i=j):=by rw[hX];exact hd
 rw[←hX,←hY]at hI aP;rw[←hX,←hY];have aq:=fun l (h:LI F.z X Y n l) A3 A4 c3 c4 W a b d=>QlM F n k X Y (frK F I n) l (aP l h) (by rw[aO];omega) (by have:=h.1;omega) hn (by omega) A3 A4 c3 c4 g W a b d
 unfold Qqn at aq;have cj:IntKind.i64.wrap ((n:Int)+(k:Int))=(n:Int)+(k:Int):=IntWalk.i64_in _ (by omega);have cn:IntKind.i64.wrap ((n:Int) - (k:Int))=(n:Int) - (k:Int):=IntWalk.i64_in _ (by omega);have co:(0:Int)≤(k:Int):=by omega
 have cp:(k:Int)≤(n:Int):=by omega
 replace hX:=η hX;replace hY:=η hY;replace aj:=η aj;replace aB:=η aB;replace aO:=η aO;replace hI:=η hI;replace ap:=fun W a b=>η (ap W a b)
 replace aq:=fun l h A3 A4 c3 c4 W a b d=>η (aq l h A3 A4 c3 c4 W a b d)
 clear aP hd;unfold Qqo;go_enter Tryz.func176,Tryz.ntmps176;go_wp2_with fail;(with_reducible refine hI.out.mono ?_);rintro e w1 ⟨l,Al,cl,rfl,b3,aQ,-,am⟩;have bk:=hg.bm am;have bE:=aN.bm am;have bl:=ap w1 bk bE;replace aQ:=η aQ;clear hI ap;go_wp2_with fail;(with_reducible refine bl.out.mono ?_);rintro e w2 ⟨b5,b6,rfl,b7,az⟩;have bm:=ζ am az;have bo:=bk.bm az;have bp:=aq l aQ.out b5 Al b6 cl w2 bo b7 (b3.bm az);clear bl aq;go_wp2_with fail;(with_reducible refine bp.out.mono ?_);rintro e w3 ⟨a,b,cE,t,Ab,cb,At,ct,rfl,T,aS,cc,cd,cF,cG,a6⟩;have aR:=ζ bm a6;have bq:=bo.bm a6;obtain⟨dt,al⟩:∃dt,t.length=dt+1:=⟨t.length - 1,by have:=T.lot;omega⟩;have hD:=Qfk F b t dt (by rw[T.ct];exact al) Ab At cb ct g w3 bq cc cd (by omega) (by omega);unfold QjA at hD;replace hD:=η hD;replace T:=η T;replace aS:=η aS;replace al:=η al;clear bp;go_wp2_with fail;(with_reducible refine hD.out.mono ?_);rintro e w4 ⟨m,r,Am,cm,Ar,cr,rfl,bz,cI,aJ,a8⟩;have aa:=ζ aR a8;have aT:Hid (∀P:List Int,P.length≤k→2*wr F.z n X Y P+k≤n→r=[]∧m.length≤k∧∀x,QaW F.z m x=QaW F.z P x):=fun P h1 h2=>T.out.find bD.out aS.out (by have h:=aJ.can;rw[T.out.ct]at h;exact h) h1 h2
 have cs:m.length≤1000:=by
  have h:=aJ.can;rw[T.out.ct]at h;have h3:=Qa4 F.z b;by_cases h5:t.length≤(QaD F.z b).length
  ·have h4:=h.deg T.out.cb T.out.ct (by have:=al.out;omega) h5;have:=al.out;omega
  ·have h6:=Qdg h.cq (n:=0) fun s _=>?_
   ·omega
   ·exact Classical.byContradiction fun h7=>by
     obtain⟨c,hc⟩:∃c,m.length=c+1:=⟨m.length - 1,by have:=Classical.byContradiction (p:=1≤m.length) fun h8=>h7 (Qao F.z (by omega));omega⟩;have av:=h.lt;rw[T.out.ct]at av;have h9:=h.eq (c+dt);have bs:=al.out;rw[Qao F.z (by omega),Qdh (hc ▸ QbQ F.z m) (bs ▸ QbQ F.z t),Qao F.z (p:=r) (by omega),Qad]at h9;exact QaS (Qa1 h.cq hc) (Qa1 T.out.ct bs) h9.symm
 have bF:Hid (QaD F.z m=m):=aJ.cq;have bG:=bq.bm a8;have bH:Rd w4 w4.heap.size Am m:=by obtain⟨A',c',e',-,h',-⟩:=bz.form;cases e';exact h'
 have ac:Hid (0<r.length∨k<m.length→QpW F.z n k X Y):=fun h P hP=>Classical.byContradiction fun h2=>by
  obtain⟨e1,e2,-⟩:=aT.out P hP (by omega);rw[e1]at h;simp at h;omega
 clear hD aJ;by_cases aG:0<r.length
 ·have bI:decide ((0:Int)<(r.length:Int))=true:=decide_eq_true (by omega);have hN:=η (ac.out (.inl aG));go_wp2_with fail;go_ret2;exact⟨aa,.inr ⟨rfl,hN.out⟩⟩
 have bI:decide ((0:Int)<(r.length:Int))=false:=decide_eq_false (by omega);have bt:(r.length:Int)=0:=by omega
 by_cases aH:k<m.length
 ·have bJ:decide ((k:Int)<(m.length:Int))=true:=decide_eq_true (by omega);have hN:=η (ac.out (.inr aH));clear bt;go_wp2_with fail;go_ret2;exact⟨aa,.inr ⟨rfl,hN.out⟩⟩
 have bJ:decide ((k:Int)<(m.length:Int))=false:=decide_eq_false (by omega);have aV:m.length≤k:=by omega
 have bK:Hid (∀P:List Int,P.length≤k→2*wr F.z n X Y P+k≤n→2*wr F.z n X Y m+k≤n):=fun P h1 h2=>by
  rw[Qr4 (aT.out P h1 h2).2.2];exact h2
 clear bt aT ac;replace aV:=η aV;have bL:=aN.bm aa;have bM:=bj.bm aa;have bN:Hid (wrK F.z X Y m n=wr F.z n X Y m):=rfl;go_wp2_with fail;go_loopw [74,17] (fun i v wr=>∃j:Nat,j≤n∧i=.int .i64 j∧v=.int .i64 (wrK F.z X Y m j:Nat)∧Below w4.heap.size w4 wr) (fun i _ _=>n - (intOf i).toNat)
 case atStart=>exact⟨0,by omega,rfl,rfl,κ⟩
 case round =>
  obtain⟨O,rfl⟩:=ε (wr:World);obtain⟨j,hj,rfl,rfl,J⟩:=hrel;by_cases av:j<n
  ·have cx:(0:Int)≤(j:Int):=by omega
   have cy:(j:Int)<(n:Int):=by omega
   obtain⟨b1,o1,rfl,bZ,aG⟩:=bL.at_ (by rw[aj.out];exact av:j<I.length);obtain⟨b2,o2,rfl,bx,aH⟩:=bM.at_ (by rw[aB.out];exact av:j<V.length);have aW:=(J.cell (p:=⟨b1,o1+j,none⟩) bZ).trans aG;have aD:=(J.cell (p:=⟨b2,o2+j,none⟩) bx).trans aH;have aX:=bG.bm J;have ad:=QdL F m (I[j]?.getD 0) Am cm g O.drew aX.drew (bH.bm J).drew (by unfold maxLen;omega);have ae:=fun W h=>Qcf F (V[j]?.getD 0) 0 g W h
   rw[bB.out j]at ad;rw[bC.out j]at ae;obtain⟨x,hx⟩:=ε (I[j]?.getD 0);obtain⟨y,hy⟩:=ε (V[j]?.getD 0);rw[←hx]at aW ad;rw[←hy]at aD ae;have aw:Hid (((ci (QaW F.z m (X j)) !=ci (Y j))=true→wrK F.z X Y m (j+1)=wrK F.z X Y m j+1)∧((ci (QaW F.z m (X j)) !=ci (Y j))=false→wrK F.z X Y m (j+1)=wrK F.z X Y m j)):=⟨Qux,Qwj⟩;have bO:=Qth F.z X Y m j;have bP:IntKind.i64.wrap ((wrK F.z X Y m j:Nat)+1:Int)=((wrK F.z X Y m j:Nat):Int)+1:=IntWalk.i64_in _ (by omega);obtain⟨u1,a0⟩:=ε (ci (QaW F.z m (X j)));obtain⟨u2,a1⟩:=ε (ci (Y j));rw[←a0]at ad aw;rw[←a1]at ae aw;obtain⟨z,hz⟩:=ε (wrK F.z X Y m j);rw[←hz]at aw bP;rw[←hz];have aE:=η aD;have aF:b2<O.heap.size:=θ bx J.size;replace ad:=η ad;replace ae:=fun W h=>η (ae W h)
   replace hx:=η hx;replace hy:=η hy;replace hz:=η hz;replace a0:=η a0;replace a1:=η a1;have cz:=J;clear aG aH bO av;have bQ:Hid ((u1 !=u2)=true∨(u1 !=u2)=false):=by unfold Hid;cases (u1 !=u2) <;> simp
   rcases bQ.out with hq |hq
   ·have a2:=η (aw.out.1 hq);go_wp2_with fail;clear aW aD;refine wp_region_held_drew (S:=fun w'=>w'.cell? ⟨b2,o2+j,none⟩=some (.int .i64 y)) (by kernel_rfl) (by (try dsimp only);exact aE.out) (fun hHeld=>?_);refine tk 0 ?_;simp only[pS]
    refine tk 1 ?_;simp only[pS]
    refine tk 2 ?_;simp only[pS]
    refine tk 4 ?_;simp only[pS]
    refine tk 5 ?_;simp only[pS]
    refine tk 6 ?_;simp only[pS]
    refine tk 7 ?_;simp only[pS]
    refine tk 8 ?_;simp only[pS]
    refine rd 3 fun K U=>?_
    go_simp;go_at_call 180;(with_reducible refine (ad).out.mono ?_);rintro e w6 ⟨rfl,ai⟩;have ax:=η ((ai.cell (p:=⟨b2,o2+j,none⟩) aF).trans aE.out);have ay:O.heap.size≤w6.heap.size:=ai.size;have af:Below O.heap.size O w6:=(Below.refl _ O).drew.trans ai;have a3:=ae w6 (aX.bm af);go_wp2_with fail;refine U.out _ _ ax.out fun hHeld=>?_;clear U K;try simp only[pS]
    refine rd 9 fun K U=>?_
    go_simp;go_at_call 91;(with_reducible refine (a3).out.mono ?_);rintro e w7 ⟨rfl,aA⟩;go_wp2_with fail;refine U.out _ _ ((aA.cell (p:=⟨b2,o2+j,none⟩) (θ aF ay)).trans ax.out) fun hHeld=>?_;clear U K;try simp only[pS]
    refine tk 10 ?_;simp only[pS]
    refine δ ?_;have a4:=af.trans (aA.mono ay);go_wp2_with fail;go_roundw
    case rel=>exact⟨j+1,by omega,by go_num,by rw[a2.out];rfl,ζ J a4⟩
    case measure=>simp[intOf];omega
   ·have a2:=η (aw.out.2 hq);go_wp2_with fail;clear aW aD;refine wp_region_held_drew (S:=fun w'=>w'.cell? ⟨b2,o2+j,none⟩=some (.int .i64 y)) (by kernel_rfl) (by (try dsimp only);exact aE.out) (fun hHeld=>?_);refine tk 0 ?_;simp only[pS]
    refine tk 1 ?_;simp only[pS]
    refine tk 2 ?_;simp only[pS]
    refine tk 4 ?_;simp only[pS]
    refine tk 5 ?_;simp only[pS]
    refine tk 6 ?_;simp only[pS]
    refine tk 7 ?_;simp only[pS]
    refine tk 8 ?_;simp only[pS]
    refine rd 3 fun K U=>?_
    go_simp;go_at_call 180;(with_reducible refine (ad).out.mono ?_);rintro e w6 ⟨rfl,ai⟩;have ax:=η ((ai.cell (p:=⟨b2,o2+j,none⟩) aF).trans aE.out);have ay:O.heap.size≤w6.heap.size:=ai.size;have af:Below O.heap.size O w6:=(Below.refl _ O).drew.trans ai;have a3:=ae w6 (aX.bm af);go_wp2_with fail;refine U.out _ _ ax.out fun hHeld=>?_;clear U K;try simp only[pS]
    refine rd 9 fun K U=>?_
    go_simp;go_at_call 91;(with_reducible refine (a3).out.mono ?_);rintro e w7 ⟨rfl,aA⟩;go_wp2_with fail;refine U.out _ _ ((aA.cell (p:=⟨b2,o2+j,none⟩) (θ aF ay)).trans ax.out) fun hHeld=>?_;clear U K;try simp only[pS]
    refine tk 10 ?_;simp only[pS]
    refine δ ?_;have a4:=af.trans (aA.mono ay);go_wp2_with fail;go_roundw
    case rel=>exact⟨j+1,by omega,by go_num,by rw[a2.out,hz.out],ζ J a4⟩
    case measure=>simp[intOf];omega
  ·obtain rfl:n=j:=by omega
   rw[bN.out];obtain⟨z,hz⟩:=ε (wr F.z n X Y m);rw[←hz];have bu:z≤n:=by rw[hz];exact Qth F.z X Y m n
   have cA:IntKind.i64.wrap (((n:Int) - (k:Int)).tdiv 2)=(((n - k) / 2:Nat):Int):=by
    rw[Int.tdiv_eq_ediv_of_nonneg (by omega),IntWalk.i64_in _ (by omega)];omega
   have cB:((n:Int) - (k:Int)).tdiv 2=(((n - k) / 2:Nat):Int):=by
    rw[Int.tdiv_eq_ediv_of_nonneg (by omega)];omega
   have bR:Own O w.heap.size (.slice Am m.length cm) m:=(bz.base (aR.size)).below J ρ;have bv:=ζ aa J;by_cases aK:2*z+k≤n
   ·have bS:¬ (((n - k) / 2:Nat):Int)<(z:Int):=by omega
    have a5:Qr5 F.z n k X Y m:=⟨bF.out,aV.out,by rw[←hz];exact aK⟩;replace hz:=η hz;replace a5:=η a5;clear aK bu;go_wp2_with fail;go_ret2;exact⟨bv,.inl ⟨m,Am,cm,rfl,a5.out,bR⟩⟩
   ·have bS:(((n - k) / 2:Nat):Int)<(z:Int):=by omega
    have ac:QpW F.z n k X Y:=fun P hP=>Classical.byContradiction fun h2=>aK (by rw[hz];exact bK.out P hP (by omega))
    replace hz:=η hz;replace ac:=η ac;clear aK bu;go_wp2_with fail;go_ret2;exact⟨bv,.inr ⟨rfl,ac.out⟩⟩
end
end Go.Proofs

/- The reference's division of polynomials, its test of irreducibility, and its Check. -/
import Derived.Test.YtogfekjbpcfgmaaGreatZtkP4
set_option maxRecDepth 100000
set_option maxHeartbeats 16000000
set_option linter.unusedVariables false
namespace Go.Proofs
open Go.RowKit Cw
section
section
variable {w w':World} {B g n cap:Nat} {l:List Int}
theorem Own.cell (h:Own w B (.slice (some ⟨g,0,none⟩) n cap) l)(I:n=l.length){i:Nat} (J:i<l.length):w.cell? ⟨g,i,none⟩=some (.int .i64 (l[i]?.getD 0)):=by
 subst I;rw[World.ownsRow.cellAt h i (by omega)];simp[J]
theorem Own.frozen (h:Own w B (.slice (some ⟨g,0,none⟩) n cap) l)(I:n=l.length)(i:Nat):w.frozen? ⟨g,i,none⟩=false:=by
 subst I;exact World.ownsRow.frozenAt h i
theorem Own.set_ (h:Own w B (.slice (some ⟨g,0,none⟩) n cap) l)(I:n=l.length)(i:Nat)(u:Int) :
  Own (w.setCell ⟨g,i,none⟩ (.int .i64 u)) B (.slice (some ⟨g,0,none⟩) n cap) (l.set i u):=by
 subst I;have J:=(World.ownsRow.stored h i (.int .i64 u)).1;unfold Own;rw[List.length_set,List.map_set];exact J
end
def nl (n:Nat)(r:Nat→Nat):List Int:=lst n fun i=>(r i:Nat)
theorem Qbk (n:Nat)(r:Nat→Nat):(nl n r).length=n:=Qab _ _
theorem Qmj {n i:Nat} (r:Nat→Nat)(h:i<n):(nl n r)[i]?.getD 0=(r i:Nat):=Qas _ h
theorem Qvp (n:Nat)(r:Nat→Nat)(k v:Nat):(nl n r).set k (v:Int)=nl n (fup r k v):=by
 unfold nl;rw[Qd1];refine Qay fun i _=>?_
 unfold fup;by_cases e:i=k
 ·rw[if_pos e,if_pos e]
 ·rw[if_neg e,if_neg e]
structure Qrg (p d m:Nat) (low:Nat→Nat) (g cp:Nat) (w:World) (r:Nat→Nat) (wr:World):Prop where
 lt:∀i,r i<p
 own:Own wr w.heap.size (.slice (some ⟨g,0,none⟩) (m+1) cp) (nl (m+1) r)
 bw:Below w.heap.size w wr
theorem Qrg.set_ {p d m:Nat} {I:Nat→Nat} {g J:Nat} {w wr:World} {r:Nat→Nat} (h:Qrg p d m I g J w r wr)(T:w.heap.size≤g)(k v:Nat)(U:v<p){z:Int} (hz:z=(v:Int)) :
  Qrg p d m I g J w (fup r k v) (wr.setCell ⟨g,k,none⟩ (.int .i64 z)) where
 lt:=QoN h.lt U k
 own:=by subst hz;have O:=h.own.set_ (Qbk _ _).symm k (v:Int);rw[Qvp]at O;exact O
 bw:=h.bw.setCell (p:=⟨g,k,none⟩) T _
theorem Qrg.drew {p d m:Nat} {I:Nat→Nat} {g J:Nat} {w wr:World} {r:Nat→Nat} (h:Qrg p d m I g J w r wr):Qrg p d m I g J w r wr.drew:=⟨h.lt,h.own,h.bw.drew⟩
theorem Qvq (m:Nat)(I:Nat→Nat):nl m I ++ [1]=nl (m+1) (mon m I):=by
 unfold nl;rw[Qdo]
 congr 1
 ·exact Qay fun i J=>by unfold mon;rw[if_pos J]
 ·unfold mon;rw[if_neg (Nat.lt_irrefl m)];rfl
theorem Qll (p d m:Nat)(I J:Nat→Nat)(A A':Option Addr)(c c':Nat)(w:World)(hp:2≤p)(ar:p≤256)(ba:1≤d)(bb:d≤m)(hm:m≤8)(hl:∀i,I i<p)(aQ:∀i,J i<p)
  (hr:Rd w w.heap.size A (nl d I)) (au:Rd w w.heap.size A' (nl m J)) :
  Calls Tryz.prog 187 #[.slice A d c,.slice A' m c',.int .i64 p] w fun e w'=>e=.returned (.bool (dvB p d m I J))∧Below w.heap.size w w':=by
 have o1:Own (w.alloc (.cells #[] 3)) w.heap.size (.slice (some ⟨w.heap.size,0,none⟩) 0 0) []:=Own.of_IB (l:=[]) (heap_alloc_new w _) ρ (by simp[maxLen]);have U:Rd (w.alloc (.cells #[] 3)) w.heap.size A' (nl m J):=au.alloc ρ _;have aw:=η (Qbk m J).symm;have ax:([]:List Int).length+(nl m J).length≤1000000000:=by rw[Qbk];simp;omega
 have ay:=η (Qvq m J);have az:0<(nl (m+1) (mon m J)).length:=by rw[Qbk];omega
 have aA:(nl m J).length≤1000000:=by rw[Qbk];omega
 go_enter Tryz.func187,Tryz.ntmps187;go_wp2_with (first
  |(at_builtin;refine Qda rfl (.tmp 15) (.tmp 16) rfl w.heap.size _ [] w.heap.size A' c' (nl m J) o1 U rfl rfl aw.out ax (by simp) ?_;intro v1 w1 ap aq _ _;rw[List.nil_append]at ap;have aB:=aq.size;have aC:w.heap.size≤w1.heap.size:=by simp at aB;omega)
  |(at_builtin;refine Qbs rfl (.tmp 18) (.tmp 19) rfl w.heap.size v1 (nl m J) 1 ap rfl rfl rfl aA aC ?_;intro v2 w2 af aN _ _;rw[ay.out]at af;obtain⟨g,cp,rfl,hg,a7⟩:=World.ownsRow.form af az;rw[Qbk]at af ⊢))
 have aD:Below w.heap.size w w2:=((β).trans aq).trans aN;have X:Hid (Qrg p d m I g cp w (Qik p d m I 0 (mon m J)) w2):=⟨QoO hp aQ,af,aD⟩;obtain⟨T,Y⟩:∃T,T+d=m+1:=⟨m+1 - d,by omega⟩;replace Y:=η Y;clear ap af aq aN o1 U aw ay au aD ax aA az aB aC a7;go_loopw [9,10,11] (fun i _ _ wr=>∃s t:Nat,s+d≤m+1∧i=.int .i64 ((s:Int)+(d:Int) - 1)∧Hid (s+t=T)∧Hid (Qrg p d m I g cp w (Qik p d m I t (mon m J)) wr)) (fun i _ _ _=>(intOf i).toNat)
 case atStart=>exact⟨T,0,by have:=Y.out;omega,by congr 1;have:=Y.out;omega,rfl,X⟩
 case round =>
  clear X;obtain⟨s,t,hs,rfl,X,O⟩:=hrel
  cases s with
  |zero =>
   have ht:T=t:=by have:=X.out;omega
   have hB:Hid (dvB p d m I J=decide (∀k,k<m+1→Qik p d m I t (mon m J) k=0)):=by
    unfold Hid dvB;rw[show m+1 - d=t by have:=Y.out;omega]
   clear ht X Y;generalize Qik p d m I t (mon m J)=r at *;have aj:decide ((d:Int)≤((0:Nat):Int)+(d:Int) - 1)=false:=decide_eq_false (by omega);go_wp2_with fail;clear aj;go_loop [12] (fun i=>∃k:Nat,k≤m+1∧i=.int .i64 k∧Hid (∀j,j<k→r j=0)) (fun i=>m+1 - (intOf i).toNat)
   case atStart=>exact⟨0,by omega,rfl,fun j hj=>by omega⟩
   case round =>
    obtain⟨k,hk,rfl,aK⟩:=hrel;by_cases ad:k<m+1
    ·have hc:=O.out.own.cell (Qbk _ _).symm (i:=k) (by rw[Qbk];exact ad);rw[Qmj _ ad]at hc;by_cases hz:r k=0
     ·have aT:Hid (∀j,j<k+1→r j=0):=fun j hj=>by
       by_cases e:j=k
       ·subst e;exact hz
       ·exact aK.out j (by omega)
      rw[hz]at hc;clear hz;go_wp2_with fail;go_round
      case rel=>exact⟨k+1,by omega,by go_num,aT⟩
      case measure=>simp[intOf];omega
     ·have be:((r k:Int) !=0)=true:=by rw[bne_iff_ne];omega
      have ak:Hid (dvB p d m I J=false):=by unfold Hid;rw[hB.out];exact decide_eq_false fun h=>hz (h k ad)
      clear hz;go_wp2_with fail;go_ret;exact⟨QaB ak.out.symm,O.out.bw⟩
    ·have ak:Hid (dvB p d m I J=true):=by unfold Hid;rw[hB.out];exact decide_eq_true fun j hj=>aK.out j (by omega)
     go_wp2_with fail;go_ret;exact⟨QaB ak.out.symm,O.out.bw⟩
  |succ s =>
   rw[show ((s+1:Nat):Int)+(d:Int) - 1=(s:Int)+(d:Int) by omega];obtain⟨r0,ah⟩:=ε (Qik p d m I t (mon m J));rw[←ah]at O;have al:s+d=m - t:=by have:=X.out;have:=Y.out;omega
   have am:s+d<m+1:=by omega
   obtain⟨C,hC⟩:=ε (r0 (s+d));have aF:C<p:=by rw[hC];exact O.out.lt _
   have aG:=O.out.own.cell (Qbk _ _).symm (i:=s+d) (by rw[Qbk];exact am);rw[Qmj _ am,←hC]at aG;have aU:Hid (Qik p d m I (t+1) (mon m J)=fup (dIn p C s I d r0) (s+d) 0):=by
    show fup (dIn p (Qik p d m I t (mon m J) (m - t)) (m - t - d) I d (Qik p d m I t (mon m J))) (m - t) 0=_
    rw[←al,←ah,←hC,show s+d - d=s by omega]
   replace ah:=η ah;replace hC:=η hC;replace al:=η al;have aj:decide ((d:Int)≤(s:Int)+(d:Int))=true:=decide_eq_true (by omega);go_wp2_with fail;clear aj aG;obtain⟨wo,rfl⟩:=ε (wr:World);go_loopw [11] (fun j wr=>∃l:Nat,l≤d∧j=.int .i64 l∧Hid (Qrg p d m I g cp w (dIn p C s I l r0) wr)) (fun j _=>d - (intOf j).toNat)
   case atStart=>exact⟨0,by omega,rfl,O⟩
   case round =>
    clear O;obtain⟨l,bp,rfl,O⟩:=hrel;obtain⟨U,aa⟩:=ε (dIn p C s I l r0);by_cases ad:l<d
    ·have aH:Hid (dIn p C s I (l+1) r0=fup U (s+l) ((U (s+l)+(p - C)*I l) % p)):=by rw[aa];rfl
     rw[←aa]at O;replace aa:=η aa;have aI:s+l<m+1:=by omega
     have hc:=O.out.own.cell (Qbk _ _).symm (i:=s+l) (by rw[Qbk];exact aI);rw[Qmj _ aI]at hc;have hf:=O.out.own.frozen (Qbk _ _).symm (s+l);obtain⟨z,hz⟩:=ε (U (s+l));have bf:z<p:=by rw[hz];exact O.out.lt _
     rw[←hz]at hc;obtain⟨b,a8,rfl,hb,ao⟩:=hr.at_ (k:=l) (by rw[Qbk];exact ad);rw[Qmj _ ad]at ao;have aW:=(O.out.bw.cell (p:=⟨b,a8+l,none⟩) hb).trans ao;clear ao;obtain⟨ml,ai⟩:=ε (I l);have aX:ml<p:=by rw[ai];exact hl l
     rw[←ai]at aW;obtain⟨bq,br⟩:(0:Int)≤((p:Int) - (C:Int))*(ml:Int)∧((p:Int) - (C:Int))*(ml:Int)≤65536:=by
      have h1:=Nat.mul_le_mul (τ (Nat.sub_le p C) ar) (τ (Nat.le_of_lt aX) ar);have h2:(((p - C)*ml:Nat):Int)=((p:Int) - (C:Int))*(ml:Int):=by rw[Int.natCast_mul,Int.natCast_sub (Nat.le_of_lt aF)]
      omega
     have V:=(O.out.set_ hg (s+l) ((U (s+l)+(p - C)*I l) % p) (Nat.mod_lt _ (by omega)) (z:=((z:Int)+((p:Int) - (C:Int))*(ml:Int)) % (p:Int))
      (by rw[←hz,←ai,Int.natCast_emod,Int.natCast_add,Int.natCast_mul,Int.natCast_sub (Nat.le_of_lt aF)])).drew
     rw[←aH.out]at V;replace V:=η V;clear O hz ai aH;have bi:(l:Int)<(d:Int):=by omega
     have bj:(0:Int)≤(s:Int)+(l:Int):=by omega
     have bk:(s:Int)+(l:Int)<((m+1:Nat):Int):=by omega
     have bl:(s:Int)+(l:Int)<(m:Int)+1:=by omega
     have aY:((s:Int)+(l:Int)).toNat=s+l:=by omega
     have aZ:¬ p=0:=by omega
     have a0:0≤(z:Int)+((p:Int) - (C:Int))*(ml:Int):=by omega
     have e1:IntKind.i64.wrap (s:Int)=(s:Int):=IntWalk.i64_in _ (by omega);have e2:IntKind.i64.wrap ((s:Int)+(l:Int))=(s:Int)+(l:Int):=IntWalk.i64_in _ (by omega);have e3:IntKind.i64.wrap ((p:Int) - (C:Int))=(p:Int) - (C:Int):=IntWalk.i64_in _ (by omega);have e4:IntKind.i64.wrap (((p:Int) - (C:Int))*(ml:Int))=((p:Int) - (C:Int))*(ml:Int):=IntWalk.i64_in _ (by omega);have e5:IntKind.i64.wrap ((z:Int)+((p:Int) - (C:Int))*(ml:Int))=(z:Int)+((p:Int) - (C:Int))*(ml:Int):=IntWalk.i64_in _ (by omega);have e6:((z:Int)+((p:Int) - (C:Int))*(ml:Int)).tmod (p:Int)=((z:Int)+((p:Int) - (C:Int))*(ml:Int)) % (p:Int):=Int.tmod_eq_emod_of_nonneg a0;go_wp2_with fail;go_still_tail 26,(by kernel_rfl);change wpList _ _ _ _ _ wr.drew;clear e1 e2 e3 e4 e5 e6 aZ aY;go_wp2_with fail;go_roundw
     case rel=>exact⟨l+1,by omega,by go_num,V⟩
     case measure=>simp[intOf];omega
    ·obtain rfl:l=d:=by omega
     rw[←aa]at O;have hc:=O.out.own.cell (Qbk _ _).symm (i:=s+l) (by rw[Qbk];exact am);have hf:=O.out.own.frozen (Qbk _ _).symm (s+l);have V:=O.out.set_ hg (s+l) 0 (by omega) (z:=0) rfl;rw[aa,←aU.out]at V;replace V:=η V;clear O aa;go_wp2_with fail;go_roundw
     case rel=>exact⟨s,t+1,by omega,by first |rfl |go_num |(congr 1;omega),by have:=X.out;unfold Hid;omega,V⟩
     case measure=>simp[intOf];omega
end
section
def dg (p v:Nat):Nat→Nat:=fun i=>v / p ^ i % p
open Classical in
noncomputable def Qfs (p m:Nat)(I:Nat→Nat):Bool:=decide (∀d,1≤d→2*d≤m→∀v,v<p ^ d→dvB p d m (dg p v) I=false)
open Classical in
theorem QfG {p m:Nat} {I:Nat→Nat} (h:∀d,1≤d→2*d≤m→∀v,v<p ^ d→dvB p d m (dg p v) I=false):Qfs p m I=true:=decide_eq_true h
open Classical in
theorem Qnt {p m:Nat} {I:Nat→Nat} {d v:Nat} (O:1≤d)(T:2*d≤m)(U:v<p ^ d)(J:dvB p d m (dg p v) I=true):Qfs p m I=false :=
 decide_eq_false fun h=>by rw[h d O T v U]at J;cases J
theorem Qho (p m:Nat)(I:Nat→Nat)(A:Option Addr)(c:Nat)(w:World)(hp:2≤p)(ai:p≤256)(aJ:1≤m)(hm:m≤8)(hq:p ^ m≤256)(av:∀i,I i<p)(hr:Rd w w.heap.size A (nl m I)) :
  Calls Tryz.prog 133 #[.slice A m c,.int .i64 p] w fun e w'=>e=.returned (.bool (Qfs p m I))∧Below w.heap.size w w':=by
 have ad:∀d,d≤m→p ^ d≤256:=fun d hd=>τ (Nat.pow_le_pow_right (by omega) hd) hq
 have hD:=fun v d w (O:d≤8) (X:v≤65536)=>η (Qiq v p d w (by omega) ai O X)
 have hV:=fun d v W A2 c2 (aF:Rd W W.heap.size A2 (nl d (dg p v))) (aG:Rd W W.heap.size A (nl m I)) (O:1≤d) (X:d≤m)=>η (Qll p d m (dg p v) I A2 A c2 c W hp ai O X hm (fun i=>Nat.mod_lt _ (by omega)) av aF aG)
 replace ad:=η ad;go_enter Tryz.func133,Tryz.ntmps133;go_wp2_with fail;go_loopw [5,6,7] (fun n d _ wr=>∃k z:Nat,1≤k∧k≤m∧z≤256∧d=.int .i64 k∧n=.int .i64 z∧Hid (z=p ^ (k - 1))∧Below w.heap.size w wr∧Hid (∀d,1≤d→d<k→∀v,v<p ^ d→dvB p d m (dg p v) I=false)) (fun _ d _ _=>m - (intOf d).toNat)
 case atStart=>exact⟨1,1,by omega,by omega,by omega,rfl,rfl,by simp[Hid],κ,fun d O X=>by omega⟩
 case round =>
  obtain⟨k,z,al,am,hz,rfl,rfl,aB,J,an⟩:=hrel;by_cases aH:2*k≤m
  ·have T:z*p=p ^ k:=by rw[aB.out,←Nat.pow_succ];congr 1;omega
   have aj:z*p≤256:=by rw[T];exact ad.out k am
   have ab:((z*p:Nat):Int)=(z:Int)*(p:Int):=by simp
   obtain⟨y,hy⟩:=ε (z*p);rw[←hy]at T aj ab;have aK:(0:Int)≤(z:Int)*(p:Int):=by omega
   have aL:(z:Int)*(p:Int)≤256:=by omega
   have ak:decide (2*(k:Int)≤(m:Int))=true:=decide_eq_true (by omega);replace ab:=η ab;replace hy:=η hy;replace T:=η T;go_wp2_with fail;clear ak;rw[←ab.out];obtain⟨wo,rfl⟩:=ε (wr:World);go_loopw [7] (fun v wr=>∃n:Nat,n≤y∧v=.int .i64 n∧Below w.heap.size w wr∧Hid (∀v,v<n→dvB p k m (dg p v) I=false)) (fun v _=>y - (intOf v).toNat)
   case atStart=>exact⟨0,by omega,rfl,J,fun v Y=>by omega⟩
   case round =>
    clear J;obtain⟨n,hn,rfl,J,ap⟩:=hrel;by_cases aI:n<y
    ·have U:=J.size;have az:=hD n k wr (by omega) (by omega);go_wp2_with fail;refine az.out.mono ?_;rintro e w1 ⟨g,rfl,hg,aC,V⟩;rw[Qab];have ac:=hV k n w1 (some ⟨g,0,none⟩) k aC.rd ((hr.below (J.trans (V.mono U))).more (τ U V.size)) al am;by_cases aa:dvB p k m (dg p n) I=true
     ·have af:Hid (Qfs p m I=false):=Qnt al aH (by rw[←T.out];exact aI) aa;rw[aa]at ac;clear aa;go_wp2_with fail;refine ac.out.mono ?_;rintro e w2 ⟨rfl,ah⟩;go_wp2_with fail;go_ret;exact⟨QaB af.out.symm,(J.trans (V.mono U)).trans (ah.mono (τ U V.size))⟩
     ·have ag:dvB p k m (dg p n) I=false:=by simpa using aa
      have aA:Hid (∀v,v<n+1→dvB p k m (dg p v) I=false):=fun v Y=>by
       by_cases e:v=n
       ·subst e;exact ag
       ·exact ap.out v (by omega)
      rw[ag]at ac;clear aa ag;go_wp2_with fail;refine ac.out.mono ?_;rintro e w2 ⟨rfl,ah⟩;go_wp2_with fail;go_roundw
      case rel=>exact⟨n+1,by omega,by go_num,(J.trans (V.mono U)).trans (ah.mono (τ U V.size)),aA⟩
      case measure=>simp[intOf];omega
    ·obtain rfl:n=y:=by omega
     go_wp2_with fail;go_roundw
     case rel=>exact⟨k+1,n,by omega,by omega,aj,by go_num,rfl,by unfold Hid;rw[T.out];rfl,J,fun d O X v Y=>by
      by_cases e:d=k
      ·subst e;exact ap.out v (by rw[T.out];exact Y)
      ·exact an.out d O (by omega) v Y⟩
     case measure=>simp[intOf];omega
  ·have af:Hid (Qfs p m I=true):=QfG fun d O X v Y=>an.out d O (by omega) v Y
   have ak:decide (2*(k:Int)≤(m:Int))=false:=decide_eq_false (by omega);go_wp2_with fail;go_ret;exact⟨QaB af.out.symm,J⟩
def Qcq (P M:Int)(ml:List Int):Prop:=∃D:Desc,P=D.p∧M=D.m∧ml=Qan D∧(D.m=1∨Qfs D.p D.m (fun i=>D.mod.getD i 0)=true)
open Classical in
noncomputable def chk (P M:Int)(ml:List Int):Int:=if Qcq P M ml then 0 else 1
theorem QdB {P M:Int} {ml:List Int} (h:Qcq P M ml):chk P M ml=0:=if_pos h
theorem Qej {P M:Int} {ml:List Int} (h:¬ Qcq P M ml):chk P M ml=1:=if_neg h
theorem Qcq.valid {P M:Int} {ml:List Int} (h:Qcq P M ml):Qem P M ml:=by
 obtain⟨D,I,J,O,_⟩:=h;exact⟨D,I,J,O⟩
theorem QtU (D:Desc):nl D.mod.length (fun i=>D.mod.getD i 0)=Qan D:=by
 apply List.ext_getElem
 ·simp[nl,lst,Qan]
 ·intro i O J;have I:i<D.mod.length:=by simpa [Qan] using J
  simp[nl,lst,Qan,I]
theorem Qmk {D I:Desc} (h:Qan D=Qan I):D.mod=I.mod:=by
 have V:D.mod.length=I.mod.length:=by rw[←Qaf,←Qaf,h]
 apply List.ext_getElem V;intro i T U;have J:=QeO D T;have X:=QeO I U;rw[h,X]at J;have O:I.mod.getD i 0=D.mod.getD i 0:=Int.ofNat.inj J;simp[T,U]at O;exact O.symm
theorem Qdd (P M:Int)(ml:List Int)(A:Option Addr)(c:Nat)(w:World)(hP:P≤9223372036854775807)(hM:M≤9223372036854775807)(_hl:ml.length≤maxLen)
  (hr:Rd w w.heap.size A ml) :
  Calls Tryz.prog 68 #[.agg #[.int .i64 P,.int .i64 M,.slice A ml.length c]] w fun e w'=>e=.returned (.int .i64 (chk P M ml))∧Below w.heap.size w w':=by
 unfold maxLen at _hl;have hO:=fun w=>η (QdI P M A ml.length c w hP hM)
 have k0:=η (Qb9 w (.int .i64 P) (.int .i64 M) (.slice A ml.length c) 24);by_cases hq:qOf P M=0
 ·have J:=η (Qej (P:=P) (M:=M) (ml:=ml) fun h=>h.valid.q hq);have hq:=η hq;go_enter Tryz.func68,Tryz.ntmps68;go_wp2_with (go_at_call 74;refine (hO _).out.mono ?_;rw[hq.out];rintro e w1 ⟨rfl,I⟩);go_ret;exact⟨Qa2 J.out.symm,(β).trans (I.mono (by simp))⟩
 ·have a1:((((qOf P M:Nat):Int))==0)=false:=by rw[beq_eq_false_iff_ne];omega
  obtain⟨p,m,rfl,rfl,an,aH,ax,ay,az,aZ⟩:=Qpb hq;clear aZ hq;generalize qOf p m=q at *;have hI:=fun w=>η (Qo9 p w an aH)
  by_cases O:QcX p (p - 2)=true
  ·have aE:=(Qd8 an).1 O;replace O:=η O;by_cases hm:m=1
   ·subst hm;by_cases ak:ml.length=0
    ·have au:Qem p (1:Nat) ml:=Qem.mk' (ml:=ml) aE ax ay az (by simpa using ak) (fun j hj=>by omega);have J:=η (QdB (P:=p) (M:=(1:Nat)) (ml:=ml) (by obtain⟨D,h1,h2,T⟩:=au;exact⟨D,h1,h2,T,.inl (by omega)⟩));have aO:((ml.length:Int) !=0)=false:=by simp[ak]
     clear ak;go_enter Tryz.func68,Tryz.ntmps68;go_wp2_with (first |(go_at_call 74;refine (hO _).out.mono ?_;rintro e w1 ⟨rfl,I⟩;obtain⟨ad,ae,X⟩:=Qau (b:=w.heap.size) I (by simp) k0.out) |(go_at_call 132;refine (hI _).out.mono ?_;rw[O.out];rintro e w2 ⟨rfl,rfl⟩));go_ret;exact⟨Qa2 J.out.symm,(β).trans (I.mono (by simp))⟩
    ·have J:=η (Qej (P:=p) (M:=(1:Nat)) (ml:=ml) fun⟨D,_,h2,T,_⟩=>ak (by rw[T,Qaf,D.hlen,if_pos (by omega)]));have aO:((ml.length:Int) !=0)=true:=by rw[bne_iff_ne];omega
     clear ak;go_enter Tryz.func68,Tryz.ntmps68;go_wp2_with (first |(go_at_call 74;refine (hO _).out.mono ?_;rintro e w1 ⟨rfl,I⟩;obtain⟨ad,ae,X⟩:=Qau (b:=w.heap.size) I (by simp) k0.out) |(go_at_call 132;refine (hI _).out.mono ?_;rw[O.out];rintro e w2 ⟨rfl,rfl⟩));go_ret;exact⟨Qa2 J.out.symm,(β).trans (I.mono (by simp))⟩
   ·have a2:((m:Int)==1)=false:=by rw[beq_eq_false_iff_ne];omega
    by_cases al:ml.length=m
    ·have aP:((ml.length:Int) !=(m:Int))=false:=by simp[al]
     have a3:m≤ml.length:=by omega
     have a4:ml.length≤m:=by omega
     have av:=η al;clear al;go_enter Tryz.func68,Tryz.ntmps68;go_wp2_with (first |(go_at_call 74;refine (hO _).out.mono ?_;rintro e w1 ⟨rfl,I⟩;obtain⟨ad,ae,X⟩:=Qau (b:=w.heap.size) I (by simp) k0.out) |(go_at_call 132;refine (hI _).out.mono ?_;rw[O.out];rintro e w2 ⟨rfl,rfl⟩));have aQ:=I.size;simp only[World.size_alloc]at aQ;have ai:Below w.heap.size w w1:=(β).trans (I.mono (by simp));have ac:=hr.below ai;have kH:=η (Qau (b:=w.heap.size) I (by simp) k0.out);clear I;go_loopw [3] (fun i wr=>∃k:Nat,k≤m∧i=.int .i64 k∧Hid (∀j,j<k→0≤ml[j]?.getD 0∧ml[j]?.getD 0<p)∧Below w1.heap.size w1 wr) (fun i _=>m - (intOf i).toNat)
     case atStart=>exact⟨0,by omega,rfl,fun j hj=>by omega,κ⟩
     case round =>
      obtain⟨k,hk,rfl,aq,U⟩:=hrel;clear ad ae X;obtain⟨ad,ae,X⟩:=Qau (b:=w.heap.size) U (by omega) kH.out;by_cases ba:k<m
      ·obtain⟨b,a0,rfl,hb,hc⟩:=ac.at_ (k:=k) (by omega);obtain⟨x,Y⟩:=ε (ml[k]?.getD 0);rw[←Y]at hc;have a5:=(U.cell (p:=⟨b,a0+k,none⟩) (by show b<w1.heap.size;omega)).trans hc;have a6:k<ml.length:=by omega
       have a7:(k:Int)<(ml.length:Int):=by omega
       clear hc;by_cases aL:x<0
       ·have J:=η (Qej (P:=p) (M:=m) (ml:=ml) fun⟨D,_,_,T,_⟩=>by have:=(Qi7 D k).1;rw[←T,←Y]at this;omega);have aS:decide (x<0)=true:=decide_eq_true aL;clear Y hr ac;go_wp2_with fail;go_quiet (fail);go_wp2_with fail;go_ret;exact⟨Qa2 J.out.symm,ai.trans ((Qbj U _).mono (by omega))⟩
       ·have aS:decide (x<0)=false:=decide_eq_false aL;by_cases bb:x<p
        ·have aT:Hid (∀j,j<k+1→0≤ml[j]?.getD 0∧ml[j]?.getD 0<p):=fun j hj=>by
          by_cases e:j=k
          ·subst e;rw[←Y];omega
          ·exact aq.out j (by omega)
         have aU:decide ((p:Int)≤x)=false:=decide_eq_false (by omega);clear Y hr ac aq;go_wp2_with fail;go_quiet (fail);go_wp2_with fail;go_roundw
         case rel=>exact⟨k+1,by omega,by go_num,aT,Qbj U _⟩
         case measure=>simp[intOf];omega
        ·have J:=η (Qej (P:=p) (M:=m) (ml:=ml) fun⟨D,h1,_,T,_⟩=>by have:=(Qi7 D k).2;rw[←T,←Y]at this;omega);have aU:decide ((p:Int)≤x)=true:=decide_eq_true (by omega);clear Y hr ac;go_wp2_with fail;go_quiet (fail);go_wp2_with fail;go_ret;exact⟨Qa2 J.out.symm,ai.trans ((Qbj U _).mono (by omega))⟩
      ·have aV:k=m:=by omega
       have au:Qem p m ml:=Qem.mk' (ml:=ml) aE ax ay az (by rw[if_neg hm];exact av.out) (fun j hj=>aq.out j (by omega));obtain⟨D,aI,aJ,aj⟩:=au;have aF:(Qan D).length=D.m:=by rw[←aj,av.out];omega
       have aG:Rd wr wr.heap.size A (nl m fun i=>D.mod.getD i 0):=by
        have V:=QtU D;rw[show D.mod.length=m by rw[←Qaf,aF];omega,←aj]at V;rw[V];exact (ac.below (U.mono (by omega))).more (by have:=U.size;omega)
       have am:=η (Qho p m (fun i=>D.mod.getD i 0) A c wr an aH ax ay az (fun i=>by have:=D.hmod i;omega) aG);have aw:=av.out;have aW:Hid (Qfs p m (fun i=>D.mod.getD i 0)=true→chk p m ml=0):=fun h=>QdB ⟨D,aI,aJ,aj,.inr (by rw[show D.p=p by omega,show D.m=m by omega];exact h)⟩
       have aX:Hid (Qfs p m (fun i=>D.mod.getD i 0)=false→chk p m ml=1):=fun h=>Qej fun⟨D',h1,h2,T,V⟩=>by
        have h5:D'.mod=D.mod:=Qmk (T.symm.trans aj);rcases V with V |V
        ·omega
        ·rw[show D'.p=p by omega,show D'.m=m by omega,h5,h]at V;cases V
       clear aI aJ aj aF aG aV hr ac aq;rw[aw];rw[aw]at X;clear aw
       cases af:Qfs p m (fun i=>D.mod.getD i 0) with
       |true =>
        have J:=η (aW.out af);rw[af]at am;clear af;go_wp2_with fail;refine am.out.mono ?_;rintro e w3 ⟨rfl,aB⟩;go_wp2_with fail;go_ret;exact⟨Qa2 J.out.symm,ai.trans ((U.mono (by omega)).trans (aB.mono (by have:=U.size;omega)))⟩
       |false =>
        have J:=η (aX.out af);rw[af]at am;clear af;go_wp2_with fail;refine am.out.mono ?_;rintro e w3 ⟨rfl,aB⟩;go_wp2_with fail;go_ret;exact⟨Qa2 J.out.symm,ai.trans ((U.mono (by omega)).trans (aB.mono (by have:=U.size;omega)))⟩
    ·have aP:((ml.length:Int) !=(m:Int))=true:=by rw[bne_iff_ne];omega
     have J:=η (Qej (P:=p) (M:=m) (ml:=ml) fun⟨D,_,h2,T,_⟩=>al (by rw[T,Qaf,D.hlen,if_neg (by omega)];omega));clear al;go_enter Tryz.func68,Tryz.ntmps68;go_wp2_with (first |(go_at_call 74;refine (hO _).out.mono ?_;rintro e w1 ⟨rfl,I⟩;obtain⟨ad,ae,X⟩:=Qau (b:=w.heap.size) I (by simp) k0.out) |(go_at_call 132;refine (hI _).out.mono ?_;rw[O.out];rintro e w2 ⟨rfl,rfl⟩));go_ret;exact⟨Qa2 J.out.symm,(β).trans (I.mono (by simp))⟩
  ·have J:=η (Qej (P:=p) (M:=m) (ml:=ml) fun⟨D,h1,_,_,_⟩=>O ((Qd8 an).2 (by rw[show p=D.p by omega];exact D.hp)));have O:Hid (QcX p (p - 2)=false):=by unfold Hid;simpa using O
   go_enter Tryz.func68,Tryz.ntmps68;go_wp2_with (first |(go_at_call 74;refine (hO _).out.mono ?_;rintro e w1 ⟨rfl,I⟩;obtain⟨ad,ae,X⟩:=Qau (b:=w.heap.size) I (by simp) k0.out) |(go_at_call 132;refine (hI _).out.mono ?_;rw[O.out];rintro e w2 ⟨rfl,rfl⟩));go_ret;exact⟨Qa2 J.out.symm,(β).trans (I.mono (by simp))⟩
end
section
theorem QtV (P M:Int)(ml:List Int)(A:Option Addr)(c:Nat)(w:World)(V:P≤9223372036854775807)(X:M≤9223372036854775807)(T:ml.length≤maxLen)(J:Rd w w.heap.size A ml)(U:¬ Qem P M ml) :
  Calls Tryz.prog 30 #[.agg #[.int .i64 P,.int .i64 M,.slice A ml.length c]] w fun e w'=>e=.returned (.tuple #[.pointer none,.int .i64 1])∧Below w.heap.size w w':=by
 have O:=fun W J=>η (Qez P M ml A c W V X T J)
 rw[QbO U]at O;have k0:=η (Qb9 w (.int .i64 P) (.int .i64 M) (.slice A ml.length c) 24);have I:Below w.heap.size w (w.alloc (.cells #[.int .i64 P,.int .i64 M,.slice A ml.length c] 24)):=β;have Y:=O _ (J.bm I);clear U O T;go_enter Tryz.func30,Tryz.ntmps30;go_wp2_with fail;(with_reducible refine Y.out.mono ?_);rintro e w1 ⟨rfl,aa⟩;go_wp2_with fail;go_ret2;exact⟨rfl,ζ I aa⟩
theorem Qhp {D:Desc} {u:R D} (h:Qdk u):Qcq D.p D.m (Qan D):=by
 refine⟨D,rfl,rfl,rfl,.inr (QfG fun d I J v O=>?_)⟩;exact Qnh D.hmod h I J
open Classical in
theorem QcF {D:Desc} (h:Qcq D.p D.m (Qan D)):∃u:R D,Qdk u:=by
 obtain⟨I,hp,hm,U,V⟩:=h;have J:D.p=I.p:=by omega
 have O:D.m=I.m:=by omega
 have T:=Qmk U;obtain rfl:D=I:=by
  obtain⟨p,m,ac,a1,a2,a3,a4,a5,a6⟩:=D;obtain⟨p',m',al,b1,b2,b3,b4,b5,b6⟩:=I;dsimp at J O T;subst J O T;rfl
 refine Qng D.hmod (V.imp id fun h d X Y v hv=>?_);unfold Qfs at h;exact of_decide_eq_true h d X Y v hv
def Qvr (P M:Int)(ml:List Int)(w:World)(e:Ending)(w':World):Prop :=
 Below w.heap.size w w'∧((Qcq P M ml∧∃g,∃F:FD,P=F.p∧M=F.m∧ml=Qan F.z∧e=.returned (.tuple #[.pointer (some ⟨g,0,none⟩),.int .i64 0])∧w.heap.size≤g∧GF w' w'.heap.size g F) ∨
  (¬ Qcq P M ml∧e=.returned (.tuple #[.pointer none,.int .i64 1])))
theorem QtW (P M:Int)(ml:List Int)(A:Option Addr)(c:Nat)(w:World)(T:P≤9223372036854775807)(U:M≤9223372036854775807)(V:ml.length≤maxLen)(O:Rd w w.heap.size A ml) :
  Calls Tryz.prog 30 #[.agg #[.int .i64 P,.int .i64 M,.slice A ml.length c]] w (Qvr P M ml w):=by
 by_cases J:Qem P M ml
 ·obtain⟨D,rfl,rfl,rfl⟩:=J;rw[Qaf];refine (Qkh D A c w O).mono ?_;rintro e w' ⟨I,⟨g,F,rfl,rfl,Y,h2⟩ |⟨ab,rfl⟩⟩
  ·exact⟨I,.inl ⟨Qhp (u:=F.g) ⟨F.g_inj,F.g_one⟩,g,F,rfl,rfl,rfl,rfl,Y,h2⟩⟩
  ·exact⟨I,.inr ⟨fun hg=>by obtain⟨u,X⟩:=QcF hg;exact ab u X,rfl⟩⟩
 ·refine (QtV P M ml A c w T U V O J).mono ?_;rintro e w' ⟨rfl,I⟩;exact⟨I,.inr ⟨fun h=>J h.valid,rfl⟩⟩
theorem QeP (D:Desc)(A:Option Addr)(c:Nat)(w:World)(I:Rd w w.heap.size A (Qan D))(J:Qcq D.p D.m (Qan D)) :
  Calls Tryz.prog 30 #[.agg #[.int .i64 D.p,.int .i64 D.m,.slice A D.mod.length c]] w fun e w' =>
   ∃g,∃F:FD,F.z=D∧e=.returned (.tuple #[.pointer (some ⟨g,0,none⟩),.int .i64 0])∧w.heap.size≤g∧GF w' w'.heap.size g F∧Below w.heap.size w w':=by
 refine (Qkh D A c w I).mono ?_;rintro e w' ⟨T,⟨g,F,rfl,rfl,U,V⟩ |⟨X,rfl⟩⟩
 ·exact⟨g,F,rfl,rfl,U,V,T⟩
 ·obtain⟨u,O⟩:=QcF J;exact absurd O (X u)
theorem Qvs (P M:Int)(ml:List Int)(A:Option Addr)(c:Nat)(w:World)(I:P≤9223372036854775807)(J:M≤9223372036854775807)(O:ml.length≤maxLen)(T:Rd w w.heap.size A ml)(U:¬ Qcq P M ml) :
  Calls Tryz.prog 30 #[.agg #[.int .i64 P,.int .i64 M,.slice A ml.length c]] w fun e w'=>e=.returned (.tuple #[.pointer none,.int .i64 1])∧Below w.heap.size w w':=by
 refine (QtW P M ml A c w I J O T).mono ?_;rintro e w' ⟨V,⟨X,-⟩ |⟨-,rfl⟩⟩
 ·exact absurd X U
 ·exact⟨rfl,V⟩
end
section
def RdU (w:World)(L B:Nat)(A:Option Addr)(l:List Int):Prop :=
 0<l.length→∃b I,A=some ⟨b,I,none⟩∧L≤b∧b<B∧∀j,j<l.length→w.cell? ⟨b,I+j,none⟩=some (.int .i64 (l[j]?.getD 0))
section
variable {w w':World} {L L' B B':Nat} {A:Option Addr} {l:List Int}
theorem RdU.rd (h:RdU w L B A l):Rd w B A l:=fun T=>by
 obtain⟨b,I,e,-,J,O⟩:=h T;exact⟨b,I,e,J,O⟩
theorem RdU.of (h:Rd w B A l)(I:∀b,A=some b→L≤b.block):RdU w L B A l:=fun U=>by
 obtain⟨b,J,e,O,T⟩:=h U;exact⟨b,J,e,I _ e,O,T⟩
theorem RdU.keepU (h:RdU w L B A l)(T:∀p:Addr,L≤p.block→p.block<B→w'.cell? p=w.cell? p):RdU w' L B A l:=fun V=>by
 obtain⟨b,I,e,J,O,U⟩:=h V;exact⟨b,I,e,J,O,fun j X=>(T ⟨b,I+j,none⟩ J O).trans (U j X)⟩
theorem RdU.more (h:RdU w L B A l)(U:B≤B'):RdU w L B' A l:=fun T=>by
 obtain⟨b,I,e,J,V,O⟩:=h T;exact⟨b,I,e,J,by omega,O⟩
theorem RdU.low (h:RdU w L B A l)(U:L'≤L):RdU w L' B A l:=fun T=>by
 obtain⟨b,I,e,V,J,O⟩:=h T;exact⟨b,I,e,by omega,J,O⟩
end
structure GFU (w:World) (L B g:Nat) (D:FD):Prop where
 lt:g<B
 le:L≤g
 c0:w.cell? ⟨g,0,none⟩=some (.int .i64 D.p)
 c1:w.cell? ⟨g,1,none⟩=some (.int .i64 D.m)
 md:∃A c,w.cell? ⟨g,2,none⟩=some (.slice A D.mod.length c)∧RdU w L B A (Qan D.z)
 c3:w.cell? ⟨g,3,none⟩=some (.int .i64 D.q)
 ex:∃A c,w.cell? ⟨g,4,none⟩=some (.slice A (D.q - 1) c)∧RdU w L B A (QqI D)
 lo:∃A c,w.cell? ⟨g,5,none⟩=some (.slice A D.q c)∧RdU w L B A (lgl D)
section
variable {w w':World} {L L' B B' g:Nat} {D:FD}
theorem GFU.gf (h:GFU w L B g D):GF w B g D where
 lt:=h.lt
 c0:=h.c0
 c1:=h.c1
 md:=by obtain⟨A,c,I,J⟩:=h.md;exact⟨A,c,I,J.rd⟩
 c3:=h.c3
 ex:=by obtain⟨A,c,I,J⟩:=h.ex;exact⟨A,c,I,J.rd⟩
 lo:=by obtain⟨A,c,I,J⟩:=h.lo;exact⟨A,c,I,J.rd⟩
theorem GFU.keepU (h:GFU w L B g D)(I:∀p:Addr,L≤p.block→p.block<B→w'.cell? p=w.cell? p):GFU w' L B g D where
 lt:=h.lt
 le:=h.le
 c0:=(I _ h.le h.lt).trans h.c0
 c1:=(I _ h.le h.lt).trans h.c1
 md:=by obtain⟨A,c,J,O⟩:=h.md;exact⟨A,c,(I _ h.le h.lt).trans J,O.keepU I⟩
 c3:=(I _ h.le h.lt).trans h.c3
 ex:=by obtain⟨A,c,J,O⟩:=h.ex;exact⟨A,c,(I _ h.le h.lt).trans J,O.keepU I⟩
 lo:=by obtain⟨A,c,J,O⟩:=h.lo;exact⟨A,c,(I _ h.le h.lt).trans J,O.keepU I⟩
theorem GFU.below (h:GFU w L B g D)(I:Below B w w'):GFU w' L B g D:=h.keepU fun _ _ hp=>I.cell hp
theorem GFU.more (h:GFU w L B g D)(O:B≤B'):GFU w L B' g D where
 lt:=by have:=h.lt;omega
 le:=h.le
 c0:=h.c0
 c1:=h.c1
 md:=by obtain⟨A,c,I,J⟩:=h.md;exact⟨A,c,I,J.more O⟩
 c3:=h.c3
 ex:=by obtain⟨A,c,I,J⟩:=h.ex;exact⟨A,c,I,J.more O⟩
 lo:=by obtain⟨A,c,I,J⟩:=h.lo;exact⟨A,c,I,J.more O⟩
theorem GFU.bm {w':World}(h:GFU w L w.heap.size g D)(I:Below w.heap.size w w') : GFU w' L w'.heap.size g D:=(h.below I).more (I.size)
theorem GFU.low (h:GFU w L B g D)(O:L'≤L):GFU w L' B g D where
 lt:=h.lt
 le:=by have:=h.le;omega
 c0:=h.c0
 c1:=h.c1
 md:=by obtain⟨A,c,I,J⟩:=h.md;exact⟨A,c,I,J.low O⟩
 c3:=h.c3
 ex:=by obtain⟨A,c,I,J⟩:=h.ex;exact⟨A,c,I,J.low O⟩
 lo:=by obtain⟨A,c,I,J⟩:=h.lo;exact⟨A,c,I,J.low O⟩
end
def Qrh (D:Desc)(w:World)(e:Ending)(w':World):Prop :=
 Below w.heap.size w w'∧((∃g,∃F:FD,F.z=D∧e=.returned (.tuple #[.pointer (some ⟨g,0,none⟩),.int .i64 0])∧GFU w' w.heap.size w'.heap.size g F) ∨
  ((∀u:R D,¬ Qdk u)∧e=.returned (.tuple #[.pointer none,.int .i64 1])))
def Qit (D:Desc)(w:World)(v:Value)(J:Value)(I:World):Prop :=
 ∃g gl A c,J=.pointer (some ⟨g,0,none⟩)∧w.heap.size≤g∧w.heap.size≤gl∧g<I.heap.size∧g≠gl∧IB I gl (List.replicate D.q 0)∧Below w.heap.size w I ∧
  I.heap[g]?=some (.cells #[.int .i64 D.p,.int .i64 D.m,.slice A D.mod.length c,.int .i64 D.q,v,.slice (some ⟨gl,0,none⟩) D.q D.q] 127 (0,0)) ∧
  Rd I I.heap.size A (Qan D)∧(∀b,A=some b→b.block≠gl)∧(∀b,A=some b→w.heap.size≤b.block)
theorem Qit.of {D:Desc} {I w4:World} {J:Option Addr} {T gl H:Nat} {v:Value} (U:IB w4 gl (List.replicate D.q 0))(V:Rd w4 w4.heap.size J (Qan D))(X:∀b,J=some b→b.block≠gl)
  (O:Below I.heap.size I w4) (Y:I.heap.size≤gl) (hH:w4.heap.size=H) (ab:∀b,J=some b→I.heap.size≤b.block) :
  Qit D I v (.pointer (some ⟨H,0,none⟩)) (w4.alloc (.cells #[.int .i64 D.p,.int .i64 D.m,.slice J D.mod.length T,.int .i64 D.q,v,.slice (some ⟨gl,0,none⟩) D.q D.q] 127)):=by
 subst hH;have hl:=U.lt;exact⟨w4.heap.size,gl,J,T,rfl,O.size,Y,by simp,by omega,U.alloc _,O.alloc O.size _,heap_alloc_new w4 _,(V.alloc ρ _).more (by simp),X,ab⟩
theorem Qnu (D:Desc)(A:Option Addr)(c:Nat)(w:World)(hr:Rd w w.heap.size A (Qan D)) :
    Calls Tryz.prog 30 #[.agg #[.int .i64 D.p,.int .i64 D.m,.slice A D.mod.length c]] w (Qrh D w):=by
  have bG:=D.q2;have bH:=D.q256;have bI:=D.p256;have bJ:=D.m8;have bK:D.mod.length≤8:=by have:=D.hlen;rw[this];split <;> omega
  have aQ:=Bx.new w D A D.mod.length c 24;have hS:=fun w hr=>η (Qez D.p D.m (Qan D) A c w (by omega) (by omega) (by rw[Qaf];simp only[maxLen];omega) hr)
  rw[Qaf,Qdc ⟨D,rfl,rfl,rfl⟩]at hS;have hO:=fun w=>η (QfE D.p D.m w (by omega) (by omega))
  rw[Qi6]at hO;have hG:=fun w hr=>η (QcY D A c w hr)
  have bg:=QaC D.q (by omega);have bh:=fun (W:World) (a:Option Addr) (n c:Nat)=>Lib.run_eql_slice_nil (P:=Tryz.prog) W 22 3 a n c 0 0 Tryz.underlying22
  have aS:=hr.alloc ρ (.cells #[.int .i64 D.p,.int .i64 D.m,.slice A D.mod.length c] 24);go_enter Tryz.func30,Tryz.ntmps30;go_wp2_with fail;refine (hS _ (aS.more (by simp))).out.mono ?_;rintro e w1 ⟨rfl,aq⟩;have bi:=aq.size;simp only[World.size_alloc]at bi;have az:=aQ.below aq (by simp);have aT:Below w.heap.size w w1:=(β).trans (aq.mono (by simp));have kc:=az;obtain⟨aK,aL,aM⟩:=kc;go_wp2_with (go_at_call 87;refine (hO _).out.mono ?_;rintro e w9 ⟨rfl,rfl⟩);refine (hG _ ((hr.below aT).more (by omega))).out.mono ?_;rintro e I ⟨v,rfl,ar,bB⟩;have bL:=ar.size;have af:=az.below ar (by omega);have aB:=aT.trans (ar.mono (by omega));clear aK aL aM;have kc:=af;obtain⟨aK,aL,aM⟩:=kc;rcases bB with ⟨u,hu,aE⟩ |⟨bC,rfl⟩
  · obtain⟨Av,cv,rfl,aD,a5,a6⟩:=aE.form;have ai:(pwl u (D.q - 1)).length=D.q - 1:=Qab _ _;rw[ai]at aD ⊢;obtain⟨be,oe,rfl,a7,aj⟩:=a5 (by rw[ai];omega);rw[ai]at aj;have bj:w.heap.size≤be:=by have:=(a6 _ rfl).1;dsimp only at this;omega
    have aC:=(hr.below aB).more (show w.heap.size≤I.heap.size by omega);have U:w.heap.size<I.heap.size:=by omega
    obtain⟨W,hW⟩:=ε (I.heap.size);replace aj:=η aj;replace aD:=η aD;replace aE:=η aE;replace ai:=η ai;clear a6 hS hO hG aQ az aq ar aS a5;go_wp2_with fail;go_upto_region 7 with (fail)
    go_cut [6] (fun s6 wx=>Qit D I (.slice (some ⟨be,oe,none⟩) (D.q - 1) cv) s6 wx)
    case first =>
      have o1:Hid (Own (I.alloc (.cells #[] 3)).drew I.heap.size (.slice (some ⟨I.heap.size,0,none⟩) 0 0) []):=Qa9 (heap_alloc_new I _) ρ;have o2:Hid (Own ((I.alloc (.cells #[] 3)).alloc (.cells (Array.replicate D.q (Value.int .i64 0)) 3)).drew I.heap.size (.slice (some ⟨I.heap.size,0,none⟩) 0 0) []):=o1.out.alloc _;have o3:Hid (Own ((I.alloc (.cells (Array.replicate D.q (Value.int .i64 0)) 3)).alloc (.cells #[] 3)).drew I.heap.size (.slice (some ⟨I.heap.size+1,0,none⟩) 0 0) []) :=
        Qa9 (by have:=heap_alloc_new (I.alloc (.cells (Array.replicate D.q (Value.int .i64 0)) 3)) (.cells #[] 3);rw[World.size_alloc]at this;exact this) (by omega)
      have r1:Hid (Rd (I.alloc (.cells #[] 3)).drew I.heap.size A (Qan D)):=aC.alloc ρ _;have r2:Hid (Rd ((I.alloc (.cells #[] 3)).alloc (.cells (Array.replicate D.q (Value.int .i64 0)) 3)).drew I.heap.size A (Qan D)):=r1.out.alloc (by simp) _;have r3:Hid (Rd ((I.alloc (.cells (Array.replicate D.q (Value.int .i64 0)) 3)).alloc (.cells #[] 3)).drew I.heap.size A (Qan D)):=(aC.alloc ρ _).alloc (by simp) _;have ak:D.mod.length=(Qan D).length:=(Qaf D).symm;have aF:Hid ((([]:List Int) ++ Qan D).length=D.mod.length):=by unfold Hid;rw[List.nil_append,Qaf]
      have aG:([]:List Int).length+(Qan D).length≤1000000000:=by rw[Qaf];simp;omega
      have b1:I.heap.size≤(I.alloc (.cells #[] 3)).drew.heap.size:=by simp
      have b2:I.heap.size≤((I.alloc (.cells #[] 3)).alloc (.cells (Array.replicate D.q (Value.int .i64 0)) 3)).drew.heap.size:=by simp;omega
      have b3:I.heap.size≤((I.alloc (.cells (Array.replicate D.q (Value.int .i64 0)) 3)).alloc (.cells #[] 3)).drew.heap.size:=by simp;omega
      replace ak:=η ak;have kb:=η af;have x1:=η (af.alloc U (.cells #[] 3));have x2:=η (af.alloc U (.cells (Array.replicate D.q (Value.int .i64 0)) 3));have x3:=η (x1.out.alloc (by simp;omega) (.cells (Array.replicate D.q (Value.int .i64 0)) 3));have x4:=η (x2.out.alloc (by simp;omega) (.cells #[] 3));clear af;go_region_held3 (fun w'=>w'.cell? ⟨w.heap.size,0,none⟩=some (.int .i64 D.p)∧w'.cell? ⟨w.heap.size,1,none⟩=some (.int .i64 D.m)∧w'.cell? ⟨w.heap.size,2,none⟩=some (.slice A D.mod.length c))
        (first |exact kb.out |exact x1.out |exact x2.out |exact x3.out |exact x4.out |exact y.out |exact y.out.alloc ao _ |exact (y.out.alloc ao _).alloc (by simp;omega) _)
        (first
          |(refine QaL rfl (.tmp 26) (.tmp 28) rfl I.heap.size _ [] I.heap.size A c (Qan D) o1.out r1.out rfl rfl ak.out aG b1 ?_;intro v3 w3 an J au av;obtain⟨A3,c3,rfl,a8,O,aa⟩:=an.form;rw[aF.out];have y:=η (Bx.below (W:=(I.alloc (.cells #[] 3)).drew) x1.out J U);have ao:w.heap.size<w3.heap.size:=θ U (τ b1 J.size))
          |(refine QaL rfl (.tmp 26) (.tmp 28) rfl I.heap.size _ [] I.heap.size A c (Qan D) o2.out r2.out rfl rfl ak.out aG b2 ?_;intro v3 w3 an J au av;obtain⟨A3,c3,rfl,a8,O,aa⟩:=an.form;rw[aF.out];have y:=η (Bx.below (W:=((I.alloc (.cells #[] 3)).alloc (.cells (Array.replicate D.q (Value.int .i64 0)) 3)).drew) x3.out J U);have ao:w.heap.size<w3.heap.size:=θ U (τ b2 J.size))
          |(refine QaL rfl (.tmp 26) (.tmp 28) rfl I.heap.size _ [] I.heap.size A c (Qan D) o3.out r3.out rfl rfl ak.out aG b3 ?_;intro v3 w3 an J au av;obtain⟨A3,c3,rfl,a8,O,aa⟩:=an.form;rw[aF.out];have y:=η (Bx.below (W:=((I.alloc (.cells (Array.replicate D.q (Value.int .i64 0)) 3)).alloc (.cells #[] 3)).drew) x4.out J U);have ao:w.heap.size<w3.heap.size:=θ U (τ b3 J.size)))
      all_goals go_wp2_with fail
      all_goals go_meet
      all_goals rw[List.nil_append]at O
      · have hx:Below I.heap.size I (I.alloc (.cells #[] 3)).drew:=(β).drew;have h4:Below I.heap.size I w3:=hx.trans J;exact Qit.of (w4:=w3.alloc (.cells (Array.replicate D.q (Value.int .i64 0)) 3)) (IB.newz w3 D.q) ((O.alloc ρ _).more (by simp)) (fun b T=>by have:=(aa b T).2;omega) (h4.alloc h4.size _) h4.size (by simp) (fun b T=>(aa b T).1)
      · have hx:Below I.heap.size I ((I.alloc (.cells #[] 3)).alloc (.cells (Array.replicate D.q (Value.int .i64 0)) 3)).drew:=((β).alloc (by simp) _).drew;have h4:Below I.heap.size I w3:=hx.trans J;have hz:IB ((I.alloc (.cells #[] 3)).alloc (.cells (Array.replicate D.q (Value.int .i64 0)) 3)).drew (I.heap.size+1) (List.replicate D.q 0):=by
          have:=IB.newz (I.alloc (.cells #[] 3)) D.q;rw[World.size_alloc]at this;exact this
        refine Qit.of (w4:=w3) (gl:=I.heap.size+1) (hz.kept au (by simp[Value.ownBlock])) O (fun b T=>?_) h4 (Nat.le_succ _) rfl (fun b T=>(aa b T).1);subst T;rcases av with h5 |h5
        · have:b.block=I.heap.size:=by simpa [Value.ownBlock] using h5
          omega
        · have:=h5 b.block rfl;simp at this;omega
      · have hx:Below I.heap.size I ((I.alloc (.cells (Array.replicate D.q (Value.int .i64 0)) 3)).alloc (.cells #[] 3)).drew:=((β).alloc (by simp) _).drew;have h4:Below I.heap.size I w3:=hx.trans J;have hz:IB ((I.alloc (.cells (Array.replicate D.q (Value.int .i64 0)) 3)).alloc (.cells #[] 3)).drew I.heap.size (List.replicate D.q 0):=(IB.newz I D.q).alloc _;refine Qit.of (w4:=w3) (gl:=I.heap.size) (hz.kept au (by simp[Value.ownBlock])) O (fun b T=>?_) h4 ρ rfl (fun b T=>(aa b T).1);subst T;rcases av with h5 |h5
        · have:b.block=I.heap.size+1:=by simpa [Value.ownBlock] using h5
          omega
        · have:=h5 b.block rfl;simp at this;omega
    case rest =>
      obtain⟨g,gl,A3,c3,rfl,hg,a9,bu,bv,V,J,X,O,aa,bw⟩:=hcut;have bM:D.q - 1≤255:=by omega
      obtain⟨F,bx,aI⟩:∃ F:FD,∃ h:F.z=D,F.g=h ▸ u:=⟨Qvk D u hu,rfl,rfl⟩;subst bx;replace aI:F.g=u:=aI;subst aI;replace X:=η X;have bN:=J;clear hu bg bh af aC aK aL aM;go_wp2_with fail;go_loopw [39,7,8] (fun i _ _ wr=>∃ k:Nat,k≤F.q - 1∧i=.int .i64 k∧IB wr gl (Qrf F k)∧Hid (wr.heap[g]?=some (.cells #[.int .i64 F.p,.int .i64 F.m,.slice A3 F.mod.length c3,.int .i64 F.q,.slice (some ⟨be,oe,none⟩) (F.q - 1) cv,.slice (some ⟨gl,0,none⟩) F.q F.q] 127 (0,0))) ∧
         Below I.heap.size I wr∧Rd wr wr.heap.size A3 (Qan F.z)∧g<wr.heap.size) (fun i _ _ _=>F.q - 1 - (intOf i).toNat)
      case atStart=>exact⟨0,by omega,rfl,by rw[Qkf];exact V,X,J,O,bu⟩
      case round =>
        clear X V J O;obtain⟨k,hk,rfl,V,X,J,O,ba⟩:=hrel;by_cases aP:k<F.q - 1
        · have a2:=(J.cell (p:=⟨be,oe+k,none⟩) a7).trans (aj.out k aP);rw[show (pwl F.g (F.q - 1))[k]?.getD 0=ci (pw F.g k) from Qas _ aP]at a2;have a3:=Qa8 (pw F.g k);have bq:=Qeu (pw F.g k);obtain⟨y,hy⟩:=Int.eq_ofNat_of_zero_le a3;have aJ:y=QaA (pw F.g k):=by unfold ci at hy;omega
          have br:y<F.q:=by omega
          rw[hy]at a2;have hc:=V.cell (i:=y) (by unfold Qrf;rw[Qab];exact br);have hf:=V.frozen y;have bQ:wr.cell? ⟨g,5,none⟩=some (.slice (some ⟨gl,0,none⟩) F.q F.q):=by rw[cell_of_row wr g 5 _ _ _ X.out];rfl
          have ap:=V.set_ y (k:Int);rw[aJ,Qmf F aP,←aJ]at ap;replace ap:=η ap;clear hy aJ a3 bq V;have bR:(k:Int)<((F.q - 1:Nat):Int):=by omega
          go_wp2_with fail;go_roundw
          case rel=>exact⟨k+1,by omega,by go_num,ap.out,(Below.heap_setCell _ _ _ _ bv).trans X.out,J.setCell (p:=⟨gl,y,none⟩) a9 _,fun hn=>by
            obtain⟨b,bz,e,bA,Y⟩:=O hn;exact⟨b,bz,e,by simpa [World.setCell] using bA,fun j hj=>(World.cell?_setCell_other _ _ _ _ (fun e2=>by
              have h8:=aa _ e;have h9:=congrArg Addr.block e2;exact h8 (by first |exact h9 |exact h9.symm))).trans (Y j hj)⟩,by simpa [World.setCell] using ba⟩
          case measure=>simp[intOf];omega
        · obtain rfl:k=F.q - 1:=by omega
          rw[Qkg]at V;go_wp2_with fail;go_ret2;have Y:=fun i=>cell_of_row wr g i _ _ _ X.out
          refine⟨aB.trans (J.mono (Nat.le_of_lt U)),.inl ⟨g,F,rfl,rfl,ba,by omega,?_,?_,⟨A3,c3,?_,RdU.of O fun b e=>by have:=bw b e;omega⟩,?_,⟨some ⟨be,oe,none⟩,cv,?_,fun hn=>⟨be,oe,rfl,bj,by have:=J.size;omega,fun j hj=>?_⟩⟩,⟨some ⟨gl,0,none⟩,F.q,?_,RdU.of V.rd fun b e=>by cases e;exact τ (Nat.le_of_lt U) a9⟩⟩⟩
          · rw[Y];rfl
          · rw[Y];rfl
          · rw[Y];rfl
          · rw[Y];rfl
          · rw[Y];rfl
          · have bt:j<F.q - 1:=by rw[show (QqI F).length=F.q - 1 from Qab _ _]at hj;exact hj
            exact (J.cell (p:=⟨be,oe+j,none⟩) a7).trans (aj.out j bt)
          · rw[Y];rfl
  · go_wp2_with fail;go_ret2;exact⟨aB,.inr ⟨bC,rfl⟩⟩
theorem Qpn (D:Desc)(A:Option Addr)(c:Nat)(w:World)(I:Rd w w.heap.size A (Qan D))(J:Qcq D.p D.m (Qan D)) :
  Calls Tryz.prog 30 #[.agg #[.int .i64 D.p,.int .i64 D.m,.slice A D.mod.length c]] w fun e w'=>∃g,∃F:FD,F.z=D∧e=.returned (.tuple #[.pointer (some ⟨g,0,none⟩),.int .i64 0])∧GFU w' w.heap.size w'.heap.size g F∧Below w.heap.size w w':=by
 refine (Qnu D A c w I).mono ?_;rintro e w' ⟨T,⟨g,F,U,V,X⟩ |⟨Y,-⟩⟩
 ·exact⟨g,F,U,V,X,T⟩
 ·obtain⟨u,O⟩:=QcF J;exact absurd O (Y u)
end
end Go.Proofs

/- Plain law of layer 39: what is decoded is unique; shifts; erased positions. -/
import Derived.Test.YtogfekjbpcfgmaaGreatZtkBndG
set_option maxRecDepth 100000
set_option maxHeartbeats 16000000
set_option linter.unusedVariables false
namespace Go.Proofs
open Go.RowKit Cw
section
open Cw.CField (inv)
theorem Qod (a b:Nat→Bool)(n:Nat):((List.range n).filter fun i=>!(a i&&b i)).length≤((List.range n).filter fun i=>!a i).length+((List.range n).filter fun i=>!b i).length:=by
 induction n with
 |zero=>exact Nat.le_refl _
 |succ n ih =>
  rw[List.range_succ,List.filter_append,List.filter_append,List.filter_append,List.length_append,List.length_append,List.length_append];have e:([n].filter fun i=>!(a i&&b i)).length≤([n].filter fun i=>!a i).length+([n].filter fun i=>!b i).length:=by cases I:a n <;> cases J:b n <;> simp[I,J]
  omega
section
variable {F:FD} {kn:Nat} {pts mul w er:List Int}
theorem Quz {n:Nat} {X Y:Nat→R F.z} (T:∀i j,i<n→j<n→X i=X j→i=j){m I:List Int} (J:m.length≤kn)(O:I.length≤kn)(V:2*wr F.z n X Y m+kn≤n)(h4:2*wr F.z n X Y I+kn≤n)(x:R F.z):QaW F.z m x=QaW F.z I x:=by
 have U:=((QbQ F.z m).mono J).sub ((QbQ F.z I).mono O) (Nat.le_refl kn) (Nat.le_refl kn);have hc:=Qod (fun i=>ci (QaW F.z m (X i))==ci (Y i)) (fun i=>ci (QaW F.z I (X i))==ci (Y i)) n;have hb:=Qff (fun i=>(ci (QaW F.z m (X i))==ci (Y i))&&(ci (QaW F.z I (X i))==ci (Y i))) n;have h5:((List.range n).filter fun i=>!(ci (QaW F.z m (X i))==ci (Y i))).length=wr F.z n X Y m:=rfl;have h6:((List.range n).filter fun i=>!(ci (QaW F.z I (X i))==ci (Y i))).length=wr F.z n X Y I:=rfl;rw[QbI F.z m x J,QbI F.z I x O];refine Qbg ?_;rw[←QpU];refine Qag fun s _=>?_
 show (cfR F.z m s - cfR F.z I s)*pw x s=0
 rw[QfR T U (fun i=>(ci (QaW F.z m (X i))==ci (Y i))&&(ci (QaW F.z I (X i))==ci (Y i))) (by omega) (fun i hi hp=>?_) s,Qah];rw[QpU,←QbI F.z m _ J,←QbI F.z I _ O];rw[Bool.and_eq_true,beq_iff_eq,beq_iff_eq]at hp;rw[Qeh (hp.1.trans hp.2.symm),QaV]
theorem Qsj (hz:gchkD F.z kn pts mul=0)(J:w.length=pts.length)(O:elB F.z w=true)(X:∀x∈er,0≤x∧x<(pts.length:Int))(Y:er.Nodup){m I:List Int} (h1:m.length≤kn)(h2:I.length≤kn)
  (T:2*(Qbu (Qa5 F.z pts mul m) w er pts.length).length+er.length+kn≤pts.length) (U:2*(Qbu (Qa5 F.z pts mul I) w er pts.length).length+er.length+kn≤pts.length):Qa5 F.z pts mul m=Qa5 F.z pts mul I:=by
 have hc:=QeT X Y;rw[←QmJ hz J O m]at T;rw[←QmJ hz J O I]at U;obtain⟨N,V⟩:=ε ((QfY er pts.length).length);rw[←V]at T U hc;have h5:2*wr F.z N (xsP F pts er) (ysP F pts mul w er) m+kn≤N:=by omega
 have h6:2*wr F.z N (xsP F pts er) (ysP F pts mul w er) I+kn≤N:=by omega
 exact QhJ F.z pts mul (Quz (V ▸ QpY hz) h1 h2 h5 h6)
theorem QiJ {c w c' w' er:List Int} {n:Nat} (h:∀i,i<n→¬ (i:Int)∈er→(c[i]?.getD 0=w[i]?.getD 0↔c'[i]?.getD 0=w'[i]?.getD 0)):∀k,k≤n→Qbu c w er k=Qbu c' w' er k
 |0,_=>rfl
 |k+1,hk=>by
  have O:=QiJ h k (by omega);by_cases I:(k:Int)∈er
  ·rw[Qfg I,Qfg I,O]
  ·by_cases J:c[k]?.getD 0=w[k]?.getD 0
   ·rw[Qgl J,Qgl ((h k (by omega) I).1 J),O]
   ·rw[Qgm I J,Qgm I (fun e=>J ((h k (by omega) I).2 e)),O]
theorem QkQ (D:Desc){pts mul m:List Int} {i:Nat} (h:i<pts.length):(Qa5 D pts mul m)[i]?.getD 0=ci (eli D (mul[i]?.getD 0)*QaW D m (eli D (pts[i]?.getD 0))):=Qas _ h
end
section
variable {F:FD} {kn:Nat} {pts mul w er:List Int}
end
end
section
theorem Qfp (D:Desc)(I:List Int)(K U:Int)(A A3:Option Addr)(c c3:Nat)(w:World)(ar:Rd w w.heap.size A3 I)(h3:I.length≤maxLen) :
  Calls Tryz.prog 73 #[.agg #[.int .i64 D.p,.int .i64 D.m,.slice A D.mod.length c],.slice A3 I.length c3,.int .i64 K,.int .i64 U] w fun e w'=>e=.returned (.int .i64 (Qb1 D I K U))∧Below w.heap.size w w':=by
 have av:=h3;unfold maxLen at av;have hI:=fun x W=>Qmd D x A D.mod.length c W
 have ai:=Bx.new w D A D.mod.length c 24;have af:Below w.heap.size w (w.alloc (.cells #[.int .i64 D.p,.int .i64 D.m,.slice A D.mod.length c] 24)):=β;by_cases hK:(I.length:Int)=K;rotate_left
 ·have hv:Hid (Qb1 D I K U=U):=if_pos hK;have ay:((I.length:Int) !=K)=true:=by rw[bne_iff_ne];exact hK
  clear hK;go_enter Tryz.func73,Tryz.ntmps73;go_wp2_with fail;go_ret;exact⟨by rw[hv.out];rfl,af⟩
 have aj:Hid (Qb1 D I K U=if elB D I=false then 2 else 0):=if_neg (not_not_intro hK);subst hK;go_enter Tryz.func73,Tryz.ntmps73;go_wp2_with fail;go_loopw [9] (fun i wr=>∃k:Nat,k≤I.length∧i=.int .i64 k∧Hid (∀j,j<k→0≤I[j]?.getD 0∧I[j]?.getD 0<(D.q:Int))∧Bx wr w.heap.size D A D.mod.length c∧Below w.heap.size w wr∧w.heap.size<wr.heap.size) (fun i _=>I.length - (intOf i).toNat)
 case atStart=>exact⟨0,by omega,rfl,fun j hj=>absurd hj (by omega),ai,af,by simp⟩
 case round =>
  clear ai af;obtain⟨w2,rfl⟩:=ε (wr:World);obtain⟨k,hk,rfl,am,aa,V,X⟩:=hrel;by_cases ap:k<I.length
  ·have az:(0:Int)≤(k:Int):=by omega
   have aA:(k:Int)<(I.length:Int):=by omega
   obtain⟨b,o,rfl,hb,hc⟩:=ar.at_ ap;have hd:=(V.cell (p:=⟨b,o+k,none⟩) hb).trans hc;have ak:=θ hb V.size;have T:=fun W=>hI (I[k]?.getD 0) W
   by_cases hy:0≤I[k]?.getD 0∧I[k]?.getD 0<(D.q:Int)
   ·have ax:Hid (∀j,j<k+1→0≤I[j]?.getD 0∧I[j]?.getD 0<(D.q:Int)):=fun j hj=>by
     by_cases e:j=k
     ·subst e;exact hy
     ·exact am.out j (by omega)
    rw[decide_eq_true hy]at T;replace T:=fun W=>η (T W)
    clear hy hc;generalize I[k]?.getD 0=y at *;have J:=η (show _∧_∧_∧_ from ⟨aa.cells.1,aa.cells.2.1,aa.cells.2.2,hd⟩);clear hd;go_wp2_with fail;go_region_held3 (fun w'=>w'.cell? ⟨w.heap.size,0,none⟩=some (.int .i64 D.p)∧w'.cell? ⟨w.heap.size,1,none⟩=some (.int .i64 D.m)∧w'.cell? ⟨w.heap.size,2,none⟩=some (.slice A D.mod.length c)∧w'.cell? ⟨b,o+k,none⟩=some (.int .i64 y)) (first |exact J.out |exact Y.out)
     (first
      |(go_at_call 70;(with_reducible refine (T _).out.mono ?_);rintro e w3 ⟨rfl,O⟩;have Y:=η (show _∧_∧_∧_ from ⟨(Qau O X ⟨J.out.1,J.out.2.1,J.out.2.2.1⟩).1,(Qau O X ⟨J.out.1,J.out.2.1,J.out.2.2.1⟩).2.1,(Qau O X ⟨J.out.1,J.out.2.1,J.out.2.2.1⟩).2.2,(O.cell (p:=⟨b,o+k,none⟩) ak).trans J.out.2.2.2⟩)))
    go_wp2_with fail;go_roundw
    case rel=>exact⟨k+1,by omega,by go_num,ax,⟨Y.out.1,Y.out.2.1,Y.out.2.2.1⟩,V.drew.trans (O.mono V.size),θ X O.size⟩
    case measure=>simp[intOf];omega
   ·have hv:Hid (Qb1 D I I.length U=2):=aj.out.trans (if_pos (Qiu ap hy));rw[decide_eq_false hy]at T;replace T:=fun W=>η (T W)
    clear hy hc;generalize I[k]?.getD 0=y at *;have J:=η (show _∧_∧_∧_ from ⟨aa.cells.1,aa.cells.2.1,aa.cells.2.2,hd⟩);clear hd;go_wp2_with fail;go_region_held3 (fun w'=>w'.cell? ⟨w.heap.size,0,none⟩=some (.int .i64 D.p)∧w'.cell? ⟨w.heap.size,1,none⟩=some (.int .i64 D.m)∧w'.cell? ⟨w.heap.size,2,none⟩=some (.slice A D.mod.length c)∧w'.cell? ⟨b,o+k,none⟩=some (.int .i64 y)) (first |exact J.out |exact Y.out)
     (first
      |(go_at_call 70;(with_reducible refine (T _).out.mono ?_);rintro e w3 ⟨rfl,O⟩;have Y:=η (show _∧_∧_∧_ from ⟨(Qau O X ⟨J.out.1,J.out.2.1,J.out.2.2.1⟩).1,(Qau O X ⟨J.out.1,J.out.2.1,J.out.2.2.1⟩).2.1,(Qau O X ⟨J.out.1,J.out.2.1,J.out.2.2.1⟩).2.2,(O.cell (p:=⟨b,o+k,none⟩) ak).trans J.out.2.2.2⟩)))
    go_wp2_with fail;go_ret;exact⟨by rw[hv.out];rfl,V.drew.trans (O.mono V.size)⟩
  ·obtain rfl:k=I.length:=by omega
   have hv:Hid (Qb1 D I I.length U=0):=aj.out.trans (if_neg (by rw[QaJ.2 am.out];simp));go_wp2_with fail;go_ret;exact⟨by rw[hv.out];rfl,V⟩
end
section
def QmT (w:World)(e:Ending)(w':World):Prop:=e=.returned (.bool true)∧Below w.heap.size w w'
theorem QiK (l1 l2:List Int)(A1 A2:Option Addr)(c1 c2:Nat)(w:World)(h1:Rd w w.heap.size A1 l1)(h2:Rd w w.heap.size A2 l2)(ax:l1.length≤1000000)(_hl2:l2.length≤1000000) :
  Calls Tryz.prog 59 #[.slice A1 l1.length c1,.slice A2 l2.length c2] w fun e w'=>e=.returned (.bool (decide (l1=l2)))∧Below w.heap.size w w':=by
 by_cases ah:l1.length=l2.length
 ·rw[←ah];go_enter Tryz.func59,Tryz.ntmps59;go_wp2_with fail;go_loopw [13,5] (fun i _ wr=>∃k:Nat,k≤l1.length∧i=.int .i64 k∧(∀j,j<k→l1[j]?.getD 0=l2[j]?.getD 0)∧Below w.heap.size w wr) (fun i _ _=>l1.length - (intOf i).toNat)
  case atStart=>exact⟨0,by omega,rfl,fun j Y=>absurd Y (by omega),κ⟩
  case round =>
   obtain⟨k,hk,rfl,U,I⟩:=hrel;by_cases av:k<l1.length
   ·obtain⟨b1,o1,rfl,ap,af⟩:=h1.at_ av;obtain⟨b2,o2,rfl,au,ag⟩:=h2.at_ (by omega:k<l2.length);have ak:=(I.cell (p:=⟨b1,o1+k,none⟩) ap).trans af;have al:=(I.cell (p:=⟨b2,o2+k,none⟩) au).trans ag;obtain⟨y1,V⟩:=ε (l1[k]?.getD 0);obtain⟨y2,X⟩:=ε (l2[k]?.getD 0);rw[←V]at ak;rw[←X]at al;clear af ag;by_cases T:y1=y2
    ·have hz:(y1 !=y2)=false:=by simp[T]
     have am:∀j,j<k+1→l1[j]?.getD 0=l2[j]?.getD 0:=fun j Y=>by
      by_cases aw:j=k
      ·rw[aw,←V,←X,T]
      ·exact U j (by omega)
     clear T V X U;go_wp2_with fail;go_quiet (fail);go_wp2_with fail;go_roundw
     case rel=>exact⟨k+1,by omega,by go_num,am,⟨I.os,I.tape,I.output,I.size,I.block⟩⟩
     case measure=>simp[intOf];omega
    ·have hz:(y1 !=y2)=true:=by simp[T]
     have J:decide (l1=l2)=false:=by
      simp only[decide_eq_false_iff_not];intro O;apply T;rw[V,X,O]
     replace J:=η J;clear T V X U;go_wp2_with fail;go_quiet (fail);go_wp2_with fail;go_ret;exact⟨by rw[J.out];rfl,⟨I.os,I.tape,I.output,I.size,I.block⟩⟩
   ·obtain rfl:k=l1.length:=by omega
    have O:l1=l2:=List.ext_getElem? fun j=>by
     by_cases Y:j<l1.length
     ·have:=U j Y;rw[List.getElem?_eq_getElem Y,List.getElem?_eq_getElem (by omega:j<l2.length)]at this ⊢
      simpa using this
     ·rw[List.getElem?_eq_none (by omega),List.getElem?_eq_none (by omega)]
    have aa:decide (l1=l2)=true:=by simp[O]
    replace aa:=η aa;clear O U;go_wp2_with fail;go_ret;exact⟨by rw[aa.out];rfl,I⟩
 ·have J:decide (l1=l2)=false:=by
   simp only[decide_eq_false_iff_not];intro O;exact ah (by rw[O])
  rw[J];have hz:((l1.length:Int) !=(l2.length:Int))=true:=by simp;omega
  clear J;go_enter Tryz.func59,Tryz.ntmps59;go_wp2_with fail;go_ret;exact⟨rfl,κ⟩
def QqO (n m:Nat):Bool:=decide (n≤20)&&decide (m≤30)
theorem Qqp (n m:Nat)(T U:Option Addr)(c1 c2:Nat)(w:World):Calls Tryz.prog 19 #[.slice T n c1,.slice U m c2] w fun e w'=>e=.returned (.bool (QqO n m))∧w=w':=by
 by_cases J:n≤20
 ·have V:decide ((n:Int)≤20)=true:=decide_eq_true (by omega);have Y:(n:Int)≤20:=by omega
  by_cases O:m≤30
  ·have X:decide ((m:Int)≤30)=true:=decide_eq_true (by omega);have aa:(m:Int)≤30:=by omega
   have I:Hid (QqO n m=true):=by unfold Hid QqO;simp[J,O]
   go_enter Tryz.func19,Tryz.ntmps19;go_wp2_with fail;go_ret;exact⟨by rw[I.out];simp[J,O],rfl⟩
  ·have X:decide ((m:Int)≤30)=false:=decide_eq_false (by omega);have I:Hid (QqO n m=false):=by unfold Hid QqO;simp[O]
   go_enter Tryz.func19,Tryz.ntmps19;go_wp2_with fail;go_ret;exact⟨by rw[I.out];simp[O],rfl⟩
 ·have V:decide ((n:Int)≤20)=false:=decide_eq_false (by omega);have I:Hid (QqO n m=false):=by unfold Hid QqO;simp[J]
  go_enter Tryz.func19,Tryz.ntmps19;go_wp2_with fail;go_ret;exact⟨by rw[I.out];simp[J],rfl⟩
end
section
theorem Qe2 (D:Desc)(word er:List Int)(n:Nat)(A Aw Ae:Option Addr)(c cw ce:Nat)(w:World)(ar:Rd w w.heap.size Aw word)(az:Rd w w.heap.size Ae er)(aA:word.length≤maxLen)(aQ:er.length≤1000000) :
  Calls Tryz.prog 22 #[.agg #[.int .i64 D.p,.int .i64 D.m,.slice A D.mod.length c],.int .i64 (n:Int),.slice Aw word.length cw,.slice Ae er.length ce] w fun e w'=>e=.returned (.int .i64 (Qbo D word n er))∧Below w.heap.size w w':=by
 have O:=fun W a=>η (Qfp D word n 4 A Aw c cw W a aA)
 obtain⟨Z,hZ⟩:=ε (w.alloc (.cells #[.int .i64 D.p,.int .i64 D.m,.slice A D.mod.length c] 24));have hB:Below w.heap.size w Z:=by rw[hZ];exact β
 have aB:=η (show Bx Z w.heap.size D A D.mod.length c from by rw[hZ];exact Bx.new w D A D.mod.length c _);have au:=O Z (ar.bm hB);replace hZ:=η hZ;clear O ar;go_enter Tryz.func22,Tryz.ntmps22;obtain⟨q0,q1,q2⟩:=aB.out.cells;go_wp2_with fail;rw[←hZ.out];go_wp2_with fail;(with_reducible refine au.out.mono ?_);rintro e w1 ⟨rfl,aP⟩;clear q0 q1 q2;have U:=ζ hB aP;have ak:=az.bm U;by_cases hz:Qb1 D word n 4=0;rotate_left
 ·have aR:(Qb1 D word n 4 !=0)=true:=by rw[bne_iff_ne];exact hz
  have hR:Hid (Qbo D word n er=Qb1 D word n 4):=if_pos hz;clear hz;go_wp2_with fail;go_ret;exact⟨by rw[hR.out];rfl,U⟩
 rw[hz];have T:word.length=n∧elB D word=true:=by
  unfold Qb1 at hz;by_cases h1:(word.length:Int)≠n
  ·rw[if_pos h1]at hz;cases hz
  ·rw[if_neg h1]at hz;by_cases h2:elB D word=false
   ·rw[if_pos h2]at hz;cases hz
   ·exact⟨by omega,by cases h:elB D word with |true=>rfl |false=>exact absurd h h2⟩
 replace T:=η T;clear hz au;go_wp2_with fail;go_loop [10] (fun i=>∃k:Nat,k≤er.length∧i=.int .i64 k∧∀x∈er.take k,0≤x∧x<(n:Int)) (fun i=>er.length - (intOf i).toNat)
 case atStart=>exact⟨0,by omega,rfl,fun x J=>by simp at J⟩
 case round =>
  obtain⟨k,hk,rfl,V⟩:=hrel;by_cases X:k<er.length
  ·obtain⟨ba,oa,rfl,an,ai⟩:=ak.at_ X;obtain⟨x,J⟩:=ε (er[k]?.getD 0);rw[←J]at ai;have av:x∈er:=by rw[J];exact Qcm X
   have aD:(0:Int)≤(k:Int):=by omega
   have aE:(k:Int)<(er.length:Int):=by omega
   replace J:=η J;by_cases aY:x<0
   ·have O:Hid (Qbo D word n er=6):=QdS T.out.1 T.out.2 av (by omega);go_wp2_with fail;go_ret;exact⟨by rw[O.out];rfl,U⟩
   by_cases aZ:(n:Int)≤x
   ·have O:Hid (Qbo D word n er=6):=QdS T.out.1 T.out.2 av (by omega);go_wp2_with fail;go_ret;exact⟨by rw[O.out];rfl,U⟩
   have aF:Hid (∀x∈er.take (k+1),0≤x∧x<(n:Int)):=fun z hz=>by
    rcases (QbU X z).1 hz with h3 |h3
    ·exact V z h3
    ·rw[h3,←J.out];omega
   clear V;go_wp2_with fail;go_round
   case rel=>exact⟨k+1,by omega,by go_num,aF.out⟩
   case measure=>simp[intOf];omega
  ·obtain rfl:k=er.length:=by omega
   rw[List.take_length]at V;replace V:=η V;go_wp2_with fail;go_loopw [11] (fun i wr=>∃k:Nat,k≤er.length∧i=.int .i64 k∧(er.take k).Nodup∧Below w1.heap.size w1 wr) (fun i _=>er.length - (intOf i).toNat)
   case atStart=>exact⟨0,by omega,rfl,by simp,κ⟩
   case round =>
    obtain⟨k,hk,rfl,Y,I⟩:=hrel;obtain⟨w3,rfl⟩:=ε (wr:World);by_cases X:k<er.length
    ·obtain⟨ba,oa,rfl,an,ai⟩:=ak.at_ X;have aD:(0:Int)≤(k:Int):=by omega
     have aE:(k:Int)<(er.length:Int):=by omega
     obtain⟨x,J⟩:=ε (er[k]?.getD 0);rw[←J]at ai;replace J:=η J;replace Y:=η Y;go_wp2_with fail;go_loopw [12] (fun i wr=>∃j:Nat,j≤k∧i=.int .i64 j∧¬ x∈er.take j∧Below w1.heap.size w1 wr) (fun i _=>k - (intOf i).toNat)
     case atStart=>exact⟨0,by omega,rfl,by simp,I⟩
     case round =>
      clear I;obtain⟨j,hj,rfl,ad,I⟩:=hrel;obtain⟨w4,rfl⟩:=ε (wr:World);by_cases a0:j<k
      ·have aS:(0:Int)≤(j:Int):=by omega
       have aT:(j:Int)<(k:Int):=by omega
       have aU:(j:Int)<(er.length:Int):=by omega
       have aV:=(I.cell (p:=⟨ba,oa+k,none⟩) an).trans ai;obtain⟨b',o',e',-,ax⟩:=ak.at_ (show j<er.length by omega)
       cases e'
       have aG:=(I.cell (p:=⟨ba,oa+j,none⟩) an).trans ax;obtain⟨y,hy⟩:=ε (er[j]?.getD 0);rw[←hy]at aG;have af:x∈er.take (j+1)↔x∈er.take j∨x=y:=by rw[hy];exact QbU (by omega) x
       replace hy:=η hy;clear ax;by_cases aa:x=y
       ·have aH:(x==y)=true:=by rw[beq_iff_eq];exact aa
        have aw:¬ er.Nodup:=QdD X (by
         rw[←J.out];have h1:x∈er.take (j+1):=af.2 (.inr aa);have h2:er.take (j+1)=(er.take k).take (j+1):=by rw[List.take_take,Nat.min_eq_left (by omega)]
         rw[h2]at h1;exact List.mem_of_mem_take h1)
        have O:Hid (Qbo D word n er=18):=Qgn T.out.1 T.out.2 V.out aw;clear aa aw af ad;go_wp2_with fail;go_quiet (fail);go_wp2_with fail;go_ret;exact⟨by rw[O.out];rfl,U.trans (Below.mono ⟨I.os,I.tape,I.output,I.size,I.block⟩ U.size)⟩
       ·have aH:(x==y)=false:=by rw[beq_eq_false_iff_ne];exact aa
        have aI:Hid (¬ x∈er.take (j+1)):=fun h=>(af.1 h).elim ad aa
        clear aa af ad;go_wp2_with fail;go_quiet (fail);go_wp2_with fail;go_roundw
        case rel=>exact⟨j+1,by omega,by go_num,aI.out,⟨I.os,I.tape,I.output,I.size,I.block⟩⟩
        case measure=>simp[intOf];omega
      ·obtain rfl:j=k:=by omega
       have aJ:Hid ((er.take (j+1)).Nodup):=Qdi X Y.out (by rw[←J.out];exact ad);clear ad;go_wp2_with fail;go_roundw
       case rel=>exact⟨j+1,by omega,by go_num,aJ.out,I⟩
       case measure=>simp[intOf];omega
    ·obtain rfl:k=er.length:=by omega
     rw[List.take_length]at Y;have O:Hid (Qbo D word n er=0):=QhS T.out.1 T.out.2 V.out Y;clear Y;go_wp2_with fail;go_ret;exact⟨by rw[O.out];rfl,ζ U I⟩
theorem QjC {er:List Int} {j:Nat} (I:j<er.length)(z:Int):z∈er.take (j+1)↔z∈er.take j∨er[j]?.getD 0=z:=by
 rw[QbU I];exact or_congr Iff.rfl ⟨Eq.symm,Eq.symm⟩
theorem QeG (n:Nat)(c wl er:List Int)(hn:n≤64)(hc:c.length=n)(hw:wl.length=n)(a3:er.length≤1000000)(Ac Aw Ae:Option Addr)(cc cw ce:Nat)(w:World)(aH:Rd w w.heap.size Ac c)(aI:Rd w w.heap.size Aw wl)(aJ:Rd w w.heap.size Ae er) :
  Calls Tryz.prog 78 #[.slice Ac n cc,.slice Aw n cw,.slice Ae er.length ce] w fun e w'=>∃A c',e=.returned (.slice A (Qbu c wl er n).length c')∧Rd w' w'.heap.size A (Qbu c wl er n)∧Below w.heap.size w w':=by
 replace hc:=η hc;replace hw:=η hw;have ar:=Own.nil w w.heap.size;go_enter Tryz.func78,Tryz.ntmps78;go_wp2_with fail;go_loopw [8,7] (fun i o wr=>∃ (k:Nat) (T:Option Addr) (U:Nat),k≤n∧i=.int .i64 k∧o=.slice T (Qbu c wl er k).length U∧Hid (Own wr w.heap.size (.slice T (Qbu c wl er k).length U) (Qbu c wl er k))∧Below w.heap.size w wr) (fun i _ _=>n - (intOf i).toNat)
 case atStart=>exact⟨0,none,0,by omega,rfl,rfl,ar,κ⟩
 case round =>
  clear ar;obtain⟨w3,rfl⟩:=ε (wr:World);obtain⟨k,T,U,hk,rfl,rfl,V,I⟩:=hrel;by_cases aC:k<n
  ·have a4:(0:Int)≤(k:Int):=by omega
   have a5:(k:Int)<(n:Int):=by omega
   go_wp2_with fail;go_loop [10,9] (fun vj vi=>∃j:Nat,j≤er.length∧vj=.int .i64 j∧vi=.bool (decide ((k:Int)∈er.take j))) (fun vj _=>er.length - (intOf vj).toNat)
   case atStart=>exact⟨0,by omega,rfl,by simp⟩
   case round =>
    obtain⟨j,hj,rfl,rfl⟩:=hrel;by_cases aD:j<er.length
    ·have a6:(0:Int)≤(j:Int):=by omega
     have a7:(j:Int)<(er.length:Int):=by omega
     obtain⟨be,oe,rfl,aS,ax⟩:=aJ.at_ aD;have hx:=(I.cell (p:=⟨be,oe+j,none⟩) aS).trans ax;have O:=QjC aD (k:Int);obtain⟨x,al⟩:=ε (er[j]?.getD 0);rw[←al]at hx O;replace al:=η al;clear ax;by_cases J:(k:Int)∈er.take j
     ·rw[decide_eq_true J];have hd:Hid (decide ((k:Int)∈er.take (j+1))=true):=decide_eq_true (O.2 (.inl J));clear J O;go_wp2_with fail;go_round
      case rel=>exact⟨j+1,by omega,by go_num,by rw[hd.out]⟩
      case measure=>simp[intOf];omega
     ·rw[decide_eq_false J];by_cases X:x=(k:Int)
      ·have aL:(x==(k:Int))=true:=by rw[beq_iff_eq];exact X
       have hd:Hid (decide ((k:Int)∈er.take (j+1))=true):=decide_eq_true (O.2 (.inr X));clear J O X;go_wp2_with fail;go_round
       case rel=>exact⟨j+1,by omega,by go_num,by rw[hd.out]⟩
       case measure=>simp[intOf];omega
      ·have aL:(x==(k:Int))=false:=by rw[beq_eq_false_iff_ne];exact X
       have hd:Hid (decide ((k:Int)∈er.take (j+1))=false):=decide_eq_false fun h=>(O.1 h).elim J X
       clear J O X;go_wp2_with fail;go_round
       case rel=>exact⟨j+1,by omega,by go_num,by rw[hd.out]⟩
       case measure=>simp[intOf];omega
    ·obtain rfl:j=er.length:=by omega
     rw[List.take_length];obtain⟨b1,o1,rfl,aV,ay⟩:=aH.at_ (by rw[hc.out];exact aC:k<c.length);obtain⟨b2,o2,rfl,aY,az⟩:=aI.at_ (by rw[hw.out];exact aC:k<wl.length);have au:=(I.cell (p:=⟨b1,o1+k,none⟩) aV).trans ay;have av:=(I.cell (p:=⟨b2,o2+k,none⟩) aY).trans az;obtain⟨y1,ab⟩:=ε (c[k]?.getD 0);obtain⟨y2,ac⟩:=ε (wl[k]?.getD 0);rw[←ab]at au;rw[←ac]at av;replace ab:=η ab;replace ac:=η ac;clear ay az;by_cases J:(k:Int)∈er
     ·rw[decide_eq_true J];have ad:Hid (Qbu c wl er k=Qbu c wl er (k+1)):=(Qfg J).symm;clear J;rw[ad.out]at V ⊢;go_wp2_with fail;go_quiet (fail);go_wp2_with fail;go_roundw
      case rel=>exact⟨k+1,T,U,by omega,by go_num,rfl,V,⟨I.os,I.tape,I.output,I.size,I.block⟩⟩
      case measure=>simp[intOf];omega
     rw[decide_eq_false J];by_cases Y:y1=y2
     ·have aM:(y1 !=y2)=false:=by rw[bne_eq_false_iff_eq];exact Y
      have ad:Hid (Qbu c wl er k=Qbu c wl er (k+1)):=(Qgl (by rw[←ab.out,←ac.out];exact Y)).symm;clear J Y;rw[ad.out]at V ⊢;go_wp2_with fail;go_quiet (fail);go_wp2_with fail;go_roundw
      case rel=>exact⟨k+1,T,U,by omega,by go_num,rfl,V,⟨I.os,I.tape,I.output,I.size,I.block⟩⟩
      case measure=>simp[intOf];omega
     ·have aM:(y1 !=y2)=true:=by rw[bne_iff_ne];exact Y
      have ad:Hid (Qbu c wl er (k+1)=Qbu c wl er k ++ [(k:Int)]):=Qgm J (by rw[←ab.out,←ac.out];exact Y);clear J Y;go_wp2_with fail;go_quiet (fail);clear au av;obtain⟨W1,ah⟩:=ε (w3.drewN nq);have aN:Own W1 w.heap.size (.slice T (Qbu c wl er k).length U) (Qbu c wl er k):=by rw[ah];exact V.out
      have aw:Below w.heap.size w W1:=by rw[ah];exact⟨I.os,I.tape,I.output,I.size,I.block⟩
      rw[←ah];clear ah V I;have aO:(Qbu c wl er k).length≤1000000:=by have:=QhI c wl er k;omega
      have aP:w.heap.size≤W1.heap.size:=aw.size;go_wp2_with (at_builtin;refine Qbs rfl (.tmp 45) (.tmp 47) rfl w.heap.size _ _ _ aN rfl rfl rfl aO aP ?_;intro v' w' am a0 bb bc);obtain⟨aA,aB,ai,-,-,-⟩:=am.form;rw[←ad.out]at am ai;subst ai;go_roundw
      case rel=>exact⟨k+1,aA,aB,by omega,by go_num,rfl,am,aw.trans a0⟩
      case measure=>simp[intOf];omega
  ·obtain rfl:n=k:=by omega
   obtain⟨aA,aB,ai,-,aZ,-⟩:=V.out.form
   cases ai
   go_wp2_with fail;go_ret;exact⟨T,U,rfl,aZ,I⟩
end
end Go.Proofs

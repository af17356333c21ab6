/- Layer 39 of the program: word, marks, result, Radius. -/
import Derived.Test.YtogfekjbpcfgmaaGreatZtkGaoG
set_option maxRecDepth 100000
set_option maxHeartbeats 16000000
set_option linter.unusedVariables false
namespace Go.Proofs
open Go.RowKit Cw
section
def Qbo (D:Desc)(word:List Int)(n:Nat)(er:List Int):Int:=if Qb1 D word n 4≠0 then Qb1 D word n 4 else if ¬ (∀x∈er,0≤x∧x<(n:Int)) then 6 else if ¬ er.Nodup then 18 else 0
section
variable {D:Desc} {word er:List Int} {n:Nat}
theorem QiI (h:word.length≠n):Qbo D word n er=4:=by
 have e:Qb1 D word n 4=4:=if_pos (by omega);unfold Qbo;rw[e,if_pos (by decide)]
theorem Qsi (I:word.length=n)(h:elB D word=false):Qb1 D word n 4=2:=by unfold Qb1;rw[if_neg (by omega),if_pos h]
theorem QjB (I:word.length=n)(h:elB D word=true):Qb1 D word n 4=0:=by unfold Qb1;rw[if_neg (by omega),if_neg (by rw[h];decide)]
theorem QkN (I:word.length=n)(h:elB D word=false):Qbo D word n er=2:=by unfold Qbo;rw[Qsi I h,if_pos (by decide)]
theorem QdS (I:word.length=n)(h:elB D word=true){x:Int} (J:x∈er)(O:¬ (0≤x∧x<(n:Int))):Qbo D word n er=6:=by
 unfold Qbo;rw[QjB I h,if_neg (by decide),if_pos fun e=>O (e x J)]
theorem Qgn (I:word.length=n)(h:elB D word=true)(J:∀x∈er,0≤x∧x<(n:Int))(O:¬ er.Nodup):Qbo D word n er=18:=by
 unfold Qbo;rw[QjB I h,if_neg (by decide),if_neg fun e=>e J,if_pos O]
theorem QhS (I:word.length=n)(h:elB D word=true)(J:∀x∈er,0≤x∧x<(n:Int))(O:er.Nodup):Qbo D word n er=0:=by
 unfold Qbo;rw[QjB I h,if_neg (by decide),if_neg fun e=>e J,if_neg fun e=>e O]
theorem Qfl (h:Qbo D word n er=0):word.length=n∧elB D word=true∧(∀x∈er,0≤x∧x<(n:Int))∧er.Nodup:=by
 by_cases I:word.length=n
 ·cases T:elB D word with
  |false=>rw[QkN I T]at h;cases h
  |true =>
   by_cases U:∀x∈er,0≤x∧x<(n:Int)
   ·by_cases V:er.Nodup
    ·exact⟨I,rfl,U,V⟩
    ·rw[Qgn I T U V]at h;cases h
   ·exfalso;have:∃x,x∈er∧¬ (0≤x∧x<(n:Int)):=Classical.byContradiction fun X=>U fun x J=>Classical.byContradiction fun O=>X ⟨x,J,O⟩
    obtain⟨x,J,O⟩:=this;rw[QdS I T J O]at h;cases h
 ·rw[QiI I]at h;cases h
end
theorem QkO (F:FD)(word er:List Int)(n:Nat)(hn:n≤64)(Aw Ae:Option Addr)(cw ce g:Nat)(w:World)(hg:GF w w.heap.size g F)(aE:Rd w w.heap.size Aw word)(al:Rd w w.heap.size Ae er)(aF:word.length≤maxLen)(aW:er.length≤1000000) :
  Calls Tryz.prog 62 #[.pointer (some ⟨g,0,none⟩),.slice Aw word.length cw,.int .i64 (n:Int),.slice Ae er.length ce] w fun e w'=>e=.returned (.int .i64 (Qbo F.z word n er))∧Below w.heap.size w w':=by
 unfold maxLen at aF;have hI:=fun x=>η (Qhi F x g w hg)
 have aG:=QfF n (by omega);by_cases T:word.length=n;rotate_left
 ·have hb:((word.length:Int) !=(n:Int))=true:=by rw[bne_iff_ne];omega
  have I:Hid (Qbo F.z word n er=4):=QiI T;clear T;go_enter Tryz.func62,Tryz.ntmps62;go_wp2_with fail;go_ret;exact⟨by rw[I.out];rfl,κ⟩
 have hb:((word.length:Int) !=(n:Int))=false:=by rw[bne_eq_false_iff_eq];omega
 replace T:=η T;go_enter Tryz.func62,Tryz.ntmps62;go_wp2_with fail;go_loop [22] (fun i=>∃k:Nat,k≤word.length∧i=.int .i64 k∧Hid (∀j,j<k→0≤word[j]?.getD 0∧word[j]?.getD 0<(F.q:Int))) (fun i=>word.length - (intOf i).toNat)
 case atStart=>exact⟨0,by omega,rfl,fun j hj=>absurd hj (by omega)⟩
 case round =>
  obtain⟨k,hk,rfl,ag⟩:=hrel;by_cases aA:k<word.length
  ·obtain⟨b,o,rfl,-,hc⟩:=aE.at_ aA;have ac:=hI (word[k]?.getD 0);by_cases hy:0≤word[k]?.getD 0∧word[k]?.getD 0<(F.q:Int)
   ·rw[decide_eq_true hy]at ac;have aI:Hid (∀j,j<k+1→0≤word[j]?.getD 0∧word[j]?.getD 0<(F.q:Int)):=fun j hj=>by
     by_cases e:j=k
     ·subst e;exact hy
     ·exact ag.out j (by omega)
    clear hy;generalize word[k]?.getD 0=y at *;go_wp2_with fail;(with_reducible refine ac.out.mono ?_);rintro e w1 ⟨rfl,rfl⟩;go_wp2_with fail;go_round
    case rel=>exact⟨k+1,by omega,by go_num,aI⟩
    case measure=>simp[intOf];omega
   ·have aJ:=η (Qiu aA hy);have I:Hid (Qbo F.z word n er=2):=QkN T.out aJ.out;rw[decide_eq_false hy]at ac;clear hy;generalize word[k]?.getD 0=y at *;go_wp2_with fail;(with_reducible refine ac.out.mono ?_);rintro e w1 ⟨rfl,rfl⟩;go_wp2_with fail;go_ret;exact⟨by rw[I.out];rfl,κ⟩
  ·obtain rfl:k=word.length:=by omega
   have ad:Hid (elB F.z word=true):=QaJ.2 ag.out;clear ag hI;go_wp2_with fail;go_loop [33] (fun i=>∃k:Nat,k≤er.length∧i=.int .i64 k∧∀x∈er.take k,0≤x∧x<(n:Int)) (fun i=>er.length - (intOf i).toNat)
   case atStart=>exact⟨0,by omega,rfl,fun x V=>by simp at V⟩
   case round =>
    obtain⟨k,hk,rfl,U⟩:=hrel;by_cases O:k<er.length
    ·obtain⟨ba,oa,rfl,ay,ae⟩:=al.at_ O;obtain⟨x,V⟩:=ε (er[k]?.getD 0);rw[←V]at ae;have an:x∈er:=by rw[V];exact Qcm O
     have aK:(0:Int)≤(k:Int):=by omega
     have aL:(k:Int)<(er.length:Int):=by omega
     replace V:=η V;by_cases aP:x<0
     ·have I:Hid (Qbo F.z word n er=6):=QdS T.out ad.out an (by omega);go_wp2_with fail;go_ret;exact⟨by rw[I.out];rfl,κ⟩
     by_cases aQ:(n:Int)≤x
     ·have I:Hid (Qbo F.z word n er=6):=QdS T.out ad.out an (by omega);go_wp2_with fail;go_ret;exact⟨by rw[I.out];rfl,κ⟩
     have aM:Hid (∀x∈er.take (k+1),0≤x∧x<(n:Int)):=fun z hz=>by
      rcases (QbU O z).1 hz with h3 |h3
      ·exact U z h3
      ·rw[h3,←V.out];omega
     clear U;go_wp2_with fail;go_round
     case rel=>exact⟨k+1,by omega,by go_num,aM.out⟩
     case measure=>simp[intOf];omega
    ·obtain rfl:k=er.length:=by omega
     rw[List.take_length]at U;replace U:=η U;have ao:=η (BB.newz w n);have ap:Below w.heap.size w (w.alloc (.cells (Array.replicate n (Value.bool false)) 4)):=β;have aq:w.heap.size<(w.alloc (.cells (Array.replicate n (Value.bool false)) 4)).heap.size:=by rw[World.size_alloc];exact Nat.lt_succ_self _
     go_wp2_with fail;go_loopw [49] (fun i wr=>∃k:Nat,k≤er.length∧i=.int .i64 k∧(er.take k).Nodup∧Hid (BB wr w.heap.size n (fun i=>decide ((i:Int)∈er.take k)))∧Below w.heap.size w wr∧w.heap.size<wr.heap.size) (fun i _=>er.length - (intOf i).toNat)
     case atStart=>exact⟨0,by omega,rfl,by simp,by rw[show (fun i:Nat=>decide ((i:Int)∈er.take 0))=fun _=>false from funext fun i=>by simp];exact ao,ap,aq⟩
     case round =>
      obtain⟨k,hk,rfl,Y,ah,af,aU⟩:=hrel;obtain⟨w3,rfl⟩:=ε (wr:World);clear ao ap aq aG;by_cases O:k<er.length
      ·obtain⟨ba,oa,rfl,ay,ae⟩:=al.at_ O;have aN:=(af.cell (p:=⟨ba,oa+k,none⟩) ay).trans ae;obtain⟨J,X⟩:∃J:Nat,er[k]?.getD 0=(J:Int):=⟨(er[k]?.getD 0).toNat,by have:=U.out _ (Qcm O);omega⟩;have aO:J<n:=by have:=U.out _ (Qcm O);omega
       rw[X]at aN;have ar:=ah.out.cell aO;have hf:=ah.out.frozen J;have aP:(0:Int)≤(J:Int):=by omega
       have aQ:(J:Int)<(n:Int):=by omega
       have aK:(0:Int)≤(k:Int):=by omega
       have aL:(k:Int)<(er.length:Int):=by omega
       replace X:=η X;clear ae;by_cases hd:(J:Int)∈er.take k
       ·rw[decide_eq_true hd]at ar;have I:Hid (Qbo F.z word n er=18):=Qgn T.out ad.out U.out (QdD O (by rw[X.out];exact hd));clear hd Y;go_wp2_with fail;go_ret;exact⟨by rw[I.out];rfl,af⟩
       ·rw[decide_eq_false hd]at ar;have au:=η (ah.out.set_ J true);rw[QhK O X.out]at au;have aR:=η (Qdi O Y (by rw[X.out];exact hd));have aS:Below w.heap.size w (w3.setCell ⟨w.heap.size,J,none⟩ (.bool true)):=af.setCell (p:=⟨w.heap.size,J,none⟩) ρ _;have aT:w.heap.size<(w3.setCell ⟨w.heap.size,J,none⟩ (.bool true)).heap.size:=θ aU (QbB _ _ _).size;clear hd Y;go_wp2_with fail;go_roundw
        case rel=>exact⟨k+1,by omega,by go_num,aR.out,au,aS,aT⟩
        case measure=>simp[intOf];omega
      ·obtain rfl:k=er.length:=by omega
       rw[List.take_length]at Y;have I:Hid (Qbo F.z word n er=0):=QhS T.out ad.out U.out Y;clear Y;go_wp2_with fail;go_ret;exact⟨by rw[I.out];rfl,af⟩
theorem Qgo (er:List Int)(n:Nat)(hn:n≤64)(O:∀x∈er,0≤x∧x<(n:Int))(X:Option Addr)(ce:Nat)(w:World)(af:Rd w w.heap.size X er)(aq:er.length≤1000000) :
  Calls Tryz.prog 64 #[.int .i64 (n:Int),.slice X er.length ce] w fun e w'=>∃gb,e=.returned (.slice (some ⟨gb,0,none⟩) n n)∧w.heap.size≤gb∧BB w' gb n (fun i=>decide ((i:Int)∈er))∧Below w.heap.size w w':=by
 have ag:=QfF n (by omega);have Y:=η (BB.newz w n);have aa:Below w.heap.size w (w.alloc (.cells (Array.replicate n (Value.bool false)) 4)):=β;have ab:w.heap.size<(w.alloc (.cells (Array.replicate n (Value.bool false)) 4)).heap.size:=by rw[World.size_alloc];exact Nat.lt_succ_self _
 replace O:=η O;go_enter Tryz.func64,Tryz.ntmps64;go_wp2_with fail;go_loopw [12] (fun i wr=>∃k:Nat,k≤er.length∧i=.int .i64 k∧Hid (BB wr w.heap.size n (fun i=>decide ((i:Int)∈er.take k)))∧Below w.heap.size w wr∧w.heap.size<wr.heap.size) (fun i _=>er.length - (intOf i).toNat)
 case atStart=>exact⟨0,by omega,rfl,by rw[show (fun i:Nat=>decide ((i:Int)∈er.take 0))=fun _=>false from funext fun i=>by simp];exact Y,aa,ab⟩
 case round =>
  obtain⟨k,hk,rfl,J,V,al⟩:=hrel;obtain⟨w3,rfl⟩:=ε (wr:World);clear Y aa ab ag;by_cases U:k<er.length
  ·obtain⟨ba,oa,rfl,ao,ad⟩:=af.at_ U;have ah:=(V.cell (p:=⟨ba,oa+k,none⟩) ao).trans ad;obtain⟨I,T⟩:∃I:Nat,er[k]?.getD 0=(I:Int):=⟨(er[k]?.getD 0).toNat,by have:=O.out _ (Qcm U);omega⟩;have ai:I<n:=by have:=O.out _ (Qcm U);omega
   rw[T]at ah;have ar:=J.out.cell ai;have hf:=J.out.frozen I;have av:(0:Int)≤(I:Int):=by omega
   have aw:(I:Int)<(n:Int):=by omega
   have ax:(0:Int)≤(k:Int):=by omega
   have ay:(k:Int)<(er.length:Int):=by omega
   have ac:=η (J.out.set_ I true);rw[QhK U T]at ac;replace T:=η T;have aj:Below w.heap.size w (w3.setCell ⟨w.heap.size,I,none⟩ (.bool true)):=V.setCell (p:=⟨w.heap.size,I,none⟩) ρ _;have ak:w.heap.size<(w3.setCell ⟨w.heap.size,I,none⟩ (.bool true)).heap.size:=θ al (QbB _ _ _).size;clear ad;go_wp2_with fail;go_roundw
   case rel=>exact⟨k+1,by omega,by go_num,ac,aj,ak⟩
   case measure=>simp[intOf];omega
  ·obtain rfl:k=er.length:=by omega
   rw[List.take_length]at J;go_wp2_with fail;go_ret;exact⟨w.heap.size,rfl,Nat.le_refl _,J.out,V⟩
end
section
def Duo (w:World)(b:Nat)(I v1:Value):Prop:=w.cell? ⟨b,0,none⟩=some I∧w.cell? ⟨b,1,none⟩=some v1∧w.frozen? ⟨b,0,none⟩=false∧w.frozen? ⟨b,1,none⟩=false
theorem Duo.new (w:World)(I v1:Value)(t:TypeId):Duo (w.alloc (.cells #[I,v1] t)) w.heap.size I v1:=by unfold Duo;simp[go_sem]
theorem Duo.keep {B b:Nat} {w w1:World} {O v1:Value} (h:Duo w b O v1)(I:Below B w w1)(J:b<B):Duo w1 b O v1 :=
 ⟨((Qh7 I).1 b 0 J).trans h.1,((Qh7 I).1 b 1 J).trans h.2.1,((Qh7 I).2 b 0 J).trans h.2.2.1,((Qh7 I).2 b 1 J).trans h.2.2.2⟩
theorem Duo.set1 {b:Nat} {w:World} {I v1:Value} (h:Duo w b I v1)(u:Value):Duo (w.setCell ⟨b,1,none⟩ u) b I u:=by
 obtain⟨J,O,T,U⟩:=h;unfold Duo;simp[go_sem,J,O,T,U]
theorem QeF {w:World} {b:Nat} (u0 u1:Value):Below b w ((w.setCell ⟨b,0,none⟩ u0).setCell ⟨b,1,none⟩ u1) :=
 ((Below.refl b w).setCell (p:=⟨b,0,none⟩) ρ _).setCell (p:=⟨b,1,none⟩) ρ _
def ResPost (n:Nat)(c wl er:List Int)(J:Int)(O:Option Addr)(T:Nat)(w:World)(e:Ending)(w':World):Prop :=
 Below w.heap.size w w'∧((¬ J<((Qbu c wl er n).length:Int)∧∃I U,e=.returned (.tuple #[.agg #[.slice O n T,.slice I (Qbu c wl er n).length U],.int .i64 0])∧Rd w' w'.heap.size I (Qbu c wl er n)∧∀a,I=some a→w.heap.size≤a.block) ∨
  (J<((Qbu c wl er n).length:Int)∧e=.returned (.tuple #[.agg #[.slice none 0 0,.slice none 0 0],.int .i64 12])))
theorem ResPost.ok {n:Nat} {c wl er:List Int} {J:Int} {O:Option Addr} {T:Nat} {w w':World} (V:Below w.heap.size w w')(h:¬ J<((Qbu c wl er n).length:Int))(I:Option Addr)(U:Nat)(X:Rd w' w'.heap.size I (Qbu c wl er n))(Y:∀a,I=some a→w.heap.size≤a.block) :
  ResPost n c wl er J O T w (.returned (.tuple #[.agg #[.slice O n T,.slice I (Qbu c wl er n).length U],.int .i64 0])) w':=⟨V,.inl ⟨h,I,U,rfl,X,Y⟩⟩
theorem ResPost.no {n:Nat} {c wl er:List Int} {I:Int} {J:Option Addr} {O:Nat} {w w':World} (T:Below w.heap.size w w')(h:I<((Qbu c wl er n).length:Int)) :
  ResPost n c wl er I J O w (.returned (.tuple #[.agg #[.slice none 0 0,.slice none 0 0],.int .i64 12])) w':=⟨T,.inr ⟨h,rfl⟩⟩
theorem Qfm (n:Nat)(c wl er:List Int)(ay:Int)(hn:n≤64)(hc:c.length=n)(hw:wl.length=n)(U Aw:Option Addr)(T cw gb:Nat)(w:World)(aB:Rd w w.heap.size U c)(aC:Rd w w.heap.size Aw wl)(aD:BB w gb n (fun i=>decide ((i:Int)∈er))) :
  Calls Tryz.prog 63 #[.slice U n T,.slice Aw n cw,.slice (some ⟨gb,0,none⟩) n n,.int .i64 ay] w (ResPost n c wl er ay U T w):=by
 obtain⟨s,O⟩:=ε (w.heap.size);obtain⟨Z,Y⟩:=ε ((w.alloc (.cells #[.slice none 0 0,.slice none 0 0] 52)).alloc (.cells #[.slice U n T,.slice none 0 0] 52));have hB:Below w.heap.size w Z:=by rw[Y];exact (β).alloc (by simp) _
 have aS:Z.heap.size=s+1+1:=by rw[Y,O];simp
 have d0:Duo Z s (.slice none 0 0) (.slice none 0 0):=by
  rw[Y,O];exact (Duo.new w _ _ _).keep ((Below.refl (w.heap.size+1) _).alloc (by simp) _) (by omega)
 have d1:Duo Z (s+1) (.slice U n T) (.slice none 0 0):=by
  have h:=Duo.new (w.alloc (.cells #[.slice none 0 0,.slice none 0 0] 52)) (.slice U n T) (.slice none 0 0) 52;rw[World.size_alloc]at h;rw[Y,O];exact h
 rw[←O]at aB aC hB;have bb:gb<s:=by rw[O];exact aD.lt
 have aF:=aD.below hB bb;have bc:=aB.below hB;have be:=aC.below hB;replace d0:=η d0;replace d1:=η d1;replace aF:=η aF;replace Y:=η Y;replace hc:=η hc;replace hw:=η hw;have aT:=Own.nil Z (s+1+1);have aU:Below (s+1) Z Z:=κ;have bf:s+1<Z.heap.size:=by omega
 replace aS:=η aS;clear aD aB aC;go_enter Tryz.func63,Tryz.ntmps63;go_wp2_with fail;rw[←Y.out];simp only[←O];replace O:=η O;go_loopw [16] (fun i wr=>∃ (k:Nat) (v:Value),k≤n∧i=.int .i64 k∧Hid (Duo wr (s+1) (.slice U n T) v)∧Hid (Own wr (s+1+1) v (Qbu c wl er k))∧Below (s+1) Z wr∧s+1<wr.heap.size) (fun i _=>n - (intOf i).toNat)
 case atStart=>exact⟨0,_,by omega,rfl,d1,aT,aU,bf⟩
 case round =>
  obtain⟨w3,rfl⟩:=ε (wr:World);obtain⟨k,v,hk,rfl,hd,X,I,av⟩:=hrel;clear d1 aT aU;obtain⟨A',n',e',-,aw,aL⟩:=X.out.form;by_cases aQ:k<n
  ·have bz:(0:Int)≤(k:Int):=by omega
   have bA:(k:Int)<(n:Int):=by omega
   have aG:=(aF.out.below I (by omega)).cell aQ;obtain⟨b1,o1,rfl,br,a2⟩:=bc.at_ (by rw[hc.out];exact aQ:k<c.length);obtain⟨b2,o2,rfl,aI,a3⟩:=be.at_ (by rw[hw.out];exact aQ:k<wl.length);have aV:=(I.cell (p:=⟨b1,o1+k,none⟩) (Nat.lt_succ_of_lt br)).trans a2;have au:=(I.cell (p:=⟨b2,o2+k,none⟩) (Nat.lt_succ_of_lt aI)).trans a3;obtain⟨y1,ah⟩:=ε (c[k]?.getD 0);obtain⟨y2,ai⟩:=ε (wl[k]?.getD 0);rw[←ah]at aV;rw[←ai]at au;replace ah:=η ah;replace ai:=η ai;replace e':=η e';clear a2 a3;by_cases ab:(k:Int)∈er
   ·rw[decide_eq_true ab]at aG;have aj:Hid (Qbu c wl er k=Qbu c wl er (k+1)):=(Qfg ab).symm;clear ab;rw[aj.out]at X;go_wp2_with fail;go_quiet (fail);go_wp2_with fail;go_roundw
    case rel=>exact⟨k+1,v,by omega,by go_num,hd,X,⟨I.os,I.tape,I.output,I.size,I.block⟩,av⟩
    case measure=>simp[intOf];omega
   rw[decide_eq_false ab]at aG;by_cases hq:y1=y2
   ·have bg:(y1 !=y2)=false:=by rw[bne_eq_false_iff_eq];exact hq
    have aj:Hid (Qbu c wl er k=Qbu c wl er (k+1)):=(Qgl (by rw[←ah.out,←ai.out];exact hq)).symm;clear ab hq;rw[aj.out]at X;go_wp2_with fail;go_quiet (fail);go_wp2_with fail;go_roundw
    case rel=>exact⟨k+1,v,by omega,by go_num,hd,X,⟨I.os,I.tape,I.output,I.size,I.block⟩,av⟩
    case measure=>simp[intOf];omega
   ·have bg:(y1 !=y2)=true:=by rw[bne_iff_ne];exact hq
    have aj:Hid (Qbu c wl er (k+1)=Qbu c wl er k ++ [(k:Int)]):=Qgm ab (by rw[←ah.out,←ai.out];exact hq);clear ab hq;go_wp2_with fail;go_quiet (fail);clear aG aV au;obtain⟨W1,ad⟩:=ε (w3.drewN nq);have aW:Duo W1 (s+1) (.slice (some ⟨b1,o1,none⟩) n T) v:=by rw[ad];exact hd.out
    have bh:Own W1 (s+1+1) v (Qbu c wl er k):=by rw[ad];exact X.out
    have bi:Below (s+1) Z W1:=by rw[ad];exact⟨I.os,I.tape,I.output,I.size,I.block⟩
    have aX:s+1<W1.heap.size:=by rw[ad];exact av
    rw[←ad];clear ad hd X I av aw;have bj:(Qbu c wl er k).length≤1000000:=by have:=QhI c wl er k;omega
    have bk:s+1+1≤W1.heap.size:=aX;have bl:=η aW;obtain⟨a0,a1,f0,f1⟩:=aW;go_wp2_with (at_builtin;refine Qbs rfl (.tmp 36) (.tmp 38) rfl (s+1+1) _ _ _ bh rfl rfl rfl bj bk ?_;intro J w' aO aP bE bw;obtain⟨bu,bv,a4,-,-,-⟩:=aO.form;rw[List.length_append,List.length_singleton]at a4;subst a4;clear a0 a1 f0 f1;obtain⟨a0,a1,f0,f1⟩:=bl.out.keep aP (Nat.lt_succ_self _));obtain⟨J,a5⟩:=ε (Value.slice bu ((Qbu c wl er k).length+1) bv);rw[←a5]at aO ⊢;clear a5 bw;have au:Hid (Duo (w'.setCell ⟨s+1,1,none⟩ J) (s+1) (.slice (some ⟨b1,o1,none⟩) n T) J):=Duo.set1 ⟨a0,a1,f0,f1⟩ J;have bm:Hid (Own (w'.setCell ⟨s+1,1,none⟩ J) (s+1+1) J (Qbu c wl er (k+1))):=by unfold Hid;rw[aj.out];exact aO.farB 1 J
    have aI:Below (s+1) Z (w'.setCell ⟨s+1,1,none⟩ J):=(bi.trans ((aP.mono (Nat.le_succ _)).mono ρ)).setCell (p:=⟨s+1,1,none⟩) ρ _;have bo:s+1<(w'.setCell ⟨s+1,1,none⟩ J).heap.size:=θ aX (τ aP.size (QbB _ _ _).size);clear a0 a1 f0 f1;go_roundw
    case rel=>exact⟨k+1,J,by omega,by go_num,au,bm,aI,bo⟩
    case measure=>simp[intOf];omega
  ·obtain rfl:n=k:=by omega
   subst e';obtain⟨a0,a1,f0,f1⟩:=hd.out;obtain⟨z0,z1,g0,g1⟩:=d0.out.keep I (Nat.lt_succ_self s);have bp:w.heap.size≤s:=Nat.le_of_eq O.out.symm;have bq:Below w.heap.size w w3:=by
    have h1:=I.mono (show w.heap.size≤s+1 by omega);have h2:Below w.heap.size w Z:=O.out ▸ hB;exact⟨h1.os.trans h2.os,h1.tape.trans h2.tape,h1.output.trans h2.output,τ h2.size h1.size,fun b hb=>(h1.block b hb).trans (h2.block b hb)⟩
   have aY:=fun u0 u1=>bq.trans ((QeF (w:=w3) (b:=s) u0 u1).mono bp)
   obtain⟨el,V⟩:=ε (Qbu c wl er n);rw[←V]at aw a1;have aJ:=fun u0 u1=>(aw.far (g:=s) (fun a e=>by have:=(aL a e).1;omega) 0 u0).far (g:=s) (fun a e=>by have:=(aL a e).1;omega) 1 u1
   have aK:∀u0 u1,((w3.setCell ⟨s,0,none⟩ u0).setCell ⟨s,1,none⟩ u1).heap.size=w3.heap.size:=fun u0 u1=>by simp[World.setCell]
   replace V:=η V;replace aJ:=fun u0 u1=>η (aJ u0 u1)
   replace aK:=η aK;clear aw hd X I;by_cases a9:ay<(el.length:Int)
   ·go_wp2_with fail;refine bodyPost_ret (v:=.tuple #[.agg #[.slice none 0 0,.slice none 0 0],.int .i64 12]) (by simp[results,Tryz.results63,go_sem,z0,z1]) rfl (ResPost.no (aY _ _) (by rw[←V.out];exact a9))
   ·go_wp2_with fail;refine bodyPost_ret (v:=.tuple #[.agg #[.slice U n T,.slice A' el.length n'],.int .i64 0]) (by simp[results,Tryz.results63,go_sem,z0,z1]) rfl ?_;rw[V.out];refine ResPost.ok ?_ (by rw[←V.out];exact Int.not_lt.2 a9) A' n' ?_ (fun a e=>by have:=(aL a e).1;omega)
    ·rw[←V.out];exact aY _ _
    ·rw[←V.out,aK.out];exact (aJ _ _).out
def QlN (d f:Int):Int:=if d<1∨f<0∨d - 1<f then -1 else (d - 1 - f) / 2
theorem Qfn {d f:Int} (h:d<1∨f<0∨d - 1<f):QlN d f=-1:=if_pos h
theorem QgX {d f:Int} (I:1≤d)(J:0≤f)(O:f≤d - 1):QlN d f=(d - 1 - f) / 2:=if_neg (by omega)
theorem Qfo (d f:Int)(w:World)(J:I64 d)(O:I64 f):Calls Tryz.prog 60 #[.int .i64 d,.int .i64 f] w fun e w'=>e=.returned (.int .i64 (QlN d f))∧w=w':=by
 unfold I64 at J O;by_cases T:d<1
 ·have I:=η (Qfn (d:=d) (f:=f) (.inl T));go_enter Tryz.func60,Tryz.ntmps60;go_wp2_with fail;go_ret;exact⟨by rw[I.out];rfl,rfl⟩
 by_cases U:f<0
 ·have I:=η (Qfn (d:=d) (f:=f) (.inr (.inl U)));go_enter Tryz.func60,Tryz.ntmps60;go_wp2_with fail;go_ret;exact⟨by rw[I.out];rfl,rfl⟩
 have X:IntKind.i64.wrap (d - 1)=d - 1:=IntWalk.i64_in _ (by omega);by_cases V:d - 1<f
 ·have I:=η (Qfn (d:=d) (f:=f) (.inr (.inr V)));go_enter Tryz.func60,Tryz.ntmps60;go_wp2_with fail;go_ret;exact⟨by rw[I.out];rfl,rfl⟩
 have Y:IntKind.i64.wrap (d - 1 - f)=d - 1 - f:=IntWalk.i64_in _ (by omega);have aa:(d - 1 - f).tdiv 2=(d - 1 - f) / 2:=Int.tdiv_eq_ediv_of_nonneg (by omega);have ab:IntKind.i64.wrap ((d - 1 - f) / 2)=(d - 1 - f) / 2:=IntWalk.i64_in _ (by omega);have I:=η (QgX (d:=d) (f:=f) (by omega) (by omega) (by omega));go_enter Tryz.func60,Tryz.ntmps60;go_wp2_with fail;go_ret;exact⟨by rw[I.out];rfl,rfl⟩
theorem QkP (d f:Int)(w:World)(J:I64 d)(O:I64 f):Calls Tryz.prog 23 #[.int .i64 d,.int .i64 f] w fun e w'=>e=.returned (.int .i64 (QlN d f))∧w=w':=by
 unfold I64 at J O;by_cases T:d<1
 ·have I:=η (Qfn (d:=d) (f:=f) (.inl T));go_enter Tryz.func23,Tryz.ntmps23;go_wp2_with fail;go_ret;exact⟨by rw[I.out];rfl,rfl⟩
 by_cases U:f<0
 ·have I:=η (Qfn (d:=d) (f:=f) (.inr (.inl U)));go_enter Tryz.func23,Tryz.ntmps23;go_wp2_with fail;go_ret;exact⟨by rw[I.out];rfl,rfl⟩
 have X:IntKind.i64.wrap (d - 1)=d - 1:=IntWalk.i64_in _ (by omega);by_cases V:d - 1<f
 ·have I:=η (Qfn (d:=d) (f:=f) (.inr (.inr V)));go_enter Tryz.func23,Tryz.ntmps23;go_wp2_with fail;go_ret;exact⟨by rw[I.out];rfl,rfl⟩
 have Y:IntKind.i64.wrap (d - 1 - f)=d - 1 - f:=IntWalk.i64_in _ (by omega);have aa:(d - 1 - f).tdiv 2=(d - 1 - f) / 2:=Int.tdiv_eq_ediv_of_nonneg (by omega);have ab:IntKind.i64.wrap ((d - 1 - f) / 2)=(d - 1 - f) / 2:=IntWalk.i64_in _ (by omega);have I:=η (QgX (d:=d) (f:=f) (by omega) (by omega) (by omega));go_enter Tryz.func23,Tryz.ntmps23;go_wp2_with fail;go_ret;exact⟨by rw[I.out];rfl,rfl⟩
end
section
open Cw.CField (inv)
def Qek (F:FD)(kn:Nat)(pts mul wl er:List Int)(w:World)(e:Ending)(w':World):Prop :=
 Below w.heap.size w w'∧((∃I A c,QfU F.z kn pts mul wl er I∧e=.returned (.tuple #[.slice A pts.length c,.int .i64 0])∧Rd w' w'.heap.size A (Qa5 F.z pts mul I)∧(∀a,A=some a→w.heap.size≤a.block)∧∃g,A=some ⟨g,0,none⟩∧IB w' g (Qa5 F.z pts mul I)) ∨
  (QgF F.z kn pts mul wl er∧e=.returned (.tuple #[.slice none 0 0,.int .i64 12])))
section
variable {F:FD} {kn:Nat} {pts mul wl er:List Int} {w w':World}
theorem Qek.ok (J:Below w.heap.size w w'){I:List Int} (h:QfU F.z kn pts mul wl er I)(A:Option Addr)(c:Nat)(O:Rd w' w'.heap.size A (Qa5 F.z pts mul I))(T:∀a,A=some a→w.heap.size≤a.block)(U:∃g,A=some ⟨g,0,none⟩∧IB w' g (Qa5 F.z pts mul I)):Qek F kn pts mul wl er w (.returned (.tuple #[.slice A pts.length c,.int .i64 0])) w':=⟨J,.inl ⟨I,A,c,h,rfl,O,T,U⟩⟩
theorem Qek.no (I:Below w.heap.size w w')(h:QgF F.z kn pts mul wl er):Qek F kn pts mul wl er w (.returned (.tuple #[.slice none 0 0,.int .i64 12])) w':=⟨I,.inr ⟨h,rfl⟩⟩
end
theorem Quy (F:FD)(kn:Nat)(pts mul:List Int)(hz:gchkD F.z kn pts mul=0)(Y:Qcq F.p F.m (Qan F.z))(I:List Int)(hm:I.length=kn)(he:elB F.z I=true)(A O T U:Option Addr)(c c1 c2 V:Nat)(w:World)
  (hr:Rd w w.heap.size A (Qan F.z)) (ad:Rd w w.heap.size O pts) (ae:Rd w w.heap.size T mul) (h1:pts.length≤c1) (ag:c1≤maxLen) (ah:Rd w w.heap.size U I) :
  Calls Tryz.prog 177 #[.agg #[.int .i64 F.p,.int .i64 F.m,.slice A F.mod.length c,.int .i64 (kn:Int),.slice O pts.length c1,.slice T mul.length c2],.slice U kn V] w fun e w'=>∃J,e=.returned (.tuple #[.slice J pts.length pts.length,.int .i64 0])∧Rd w' w'.heap.size J (Qa5 F.z pts mul I)∧(∀a,J=some a→w.heap.size≤a.block)∧(∃g,J=some ⟨g,0,none⟩∧IB w' g (Qa5 F.z pts mul I))∧Below w.heap.size w w':=by
 obtain⟨an,ao,ap,-,-,-,-,-,aq⟩:=Qbn hz;have h0:Qe0 F.z kn pts mul I=0:=by unfold Qe0;rw[if_neg (fun h=>h hz)];exact (show Qb1 F.z I kn 3=0 by unfold Qb1;rw[if_neg (by omega),if_neg (by rw[he];decide)])
 have h:=Que F.z kn pts mul A O T c c1 c2 I U V w hr Y ad ae h1 ag (by unfold maxLen;omega) ah (by unfold maxLen;omega);rw[hm]at h;refine h.mono fun e w' hp=>?_
 obtain⟨hb,⟨aj,-⟩ |⟨-,J,X,ak,al,am⟩⟩:=hp
 ·exact absurd h0 aj
 ·rw[Qcs]at X;exact⟨J,X,ak,al,am,hb⟩
theorem QfV (F:FD)(kn:Nat)(pts mul wl er:List Int)(hz:gchkD F.z kn pts mul=0)(bF:Qcq F.p F.m (Qan F.z))(aQ:wl.length=pts.length)(bc:elB F.z wl=true)(aR:∀x∈er,0≤x∧x<(pts.length:Int))(aS:er.Nodup)
  (A Y A2 Aw:Option Addr) (c c1 c2 cw gb g:Nat) (w:World) (hg:GF w w.heap.size g F) (hr:Rd w w.heap.size A (Qan F.z)) (bJ:Rd w w.heap.size Y pts) (bK:Rd w w.heap.size A2 mul) (h1:pts.length≤c1) (cq:c1≤maxLen) (bL:Rd w w.heap.size Aw wl) (aT:BB w gb pts.length (fun i=>decide ((i:Int)∈er))) :
  Calls Tryz.prog 123 #[.pointer (some ⟨g,0,none⟩),.agg #[.int .i64 F.p,.int .i64 F.m,.slice A F.mod.length c,.int .i64 (kn:Int),.slice Y pts.length c1,.slice A2 mul.length c2],.slice Aw wl.length cw,.slice (some ⟨gb,0,none⟩) pts.length pts.length] w (Qek F kn pts mul wl er w):=by
 obtain⟨dv,dw,b7,cN,ax,cO,b8,dx,dy⟩:=Qbn hz;have bM:=QeT aR aS;have aU:=QpY (er:=er) hz;have cr:Hid (∀i,i<pts.length→eli F.z (mul[i]?.getD 0)≠0):=fun i hi=>QhC (QaJ.1 ax i (by omega)) (fun e=>b8 (e ▸ Qcm (by omega)))
 have bN:Hid (∀m,Qr5 F.z (QfY er pts.length).length kn (xsP F pts er) (ysP F pts mul wl er) m→QfU F.z kn pts mul wl er (Qn0 m kn)):=fun m h=>Qv3 hz aQ bc aR aS h
 have bO:Hid (QpW F.z (QfY er pts.length).length kn (xsP F pts er) (ysP F pts mul wl er)→QgF F.z kn pts mul wl er):=fun h=>Qv2 hz aQ bc aR aS h
 have bP:Hid ((QfY er pts.length).length<kn→QgF F.z kn pts mul wl er):=fun h m _=>by omega
 have aV:=fun aP (k1:aP.length=kn) (k2:elB F.z aP=true) A3 c3 W a b d e=>Quy F kn pts mul hz bF aP k1 k2 A Y A2 A3 c c1 c2 c3 W a b d h1 cq e
 obtain⟨I,aZ⟩:=ε (ysA F pts.length mul wl);have cs:Hid (∀k,k<pts.length→ci (eli F.z (wl[k]?.getD 0)*inv (eli F.z (mul[k]?.getD 0)))=I[k]?.getD 0):=fun k hk=>by
  rw[aZ];unfold ysA;rw[Qas _ hk];rfl
 have ct:Hid (ysP F pts mul wl er=fun i=>eli F.z ((Qen I er pts.length)[i]?.getD 0)):=by rw[aZ];rfl
 have bQ:Hid (xsP F pts er=fun i=>eli F.z ((Qen pts er pts.length)[i]?.getD 0)):=rfl;obtain⟨s,hs⟩:=ε (w.heap.size);obtain⟨Z,hZ⟩:=ε (w.alloc (.cells #[.int .i64 F.p,.int .i64 F.m,.slice A F.mod.length c,.int .i64 (kn:Int),.slice Y pts.length c1,.slice A2 mul.length c2] 94));have U:Below w.heap.size w Z:=by rw[hZ];exact β
 have aJ:s<Z.heap.size:=by rw[hZ,hs];simp
 have k0:Hid (Z.cell? ⟨s,0,none⟩=some (.int .i64 F.p)∧Z.cell? ⟨s,1,none⟩=some (.int .i64 F.m)∧Z.cell? ⟨s,2,none⟩=some (.slice A F.mod.length c)∧Z.cell? ⟨s,3,none⟩=some (.int .i64 (kn:Int))∧Z.cell? ⟨s,4,none⟩=some (.slice Y pts.length c1)∧Z.cell? ⟨s,5,none⟩=some (.slice A2 mul.length c2)):=by rw[hZ,hs];exact Qiv w (.int .i64 F.p) (.int .i64 F.m) (.slice A F.mod.length c) (.int .i64 (kn:Int)) (.slice Y pts.length c1) (.slice A2 mul.length c2) 94
 have bf:=hg.bm U;have bg:=hr.bm U;have aW:=bJ.bm U;have aX:=bK.bm U;have bR:=bL.bm U;have cu:=η (aT.below U aT.lt);have bS:gb<Z.heap.size:=θ aT.lt U.size;have aY:=Own.nil Z Z.heap.size;have bh:Below Z.heap.size Z Z:=κ;have bT:=η b7;have bU:=η aQ;replace hZ:=η hZ;replace aZ:=η aZ;replace bM:=η bM;replace aU:=η aU;replace aV:=fun aP h1 h2 A3 c3 W a b d e=>η (aV aP h1 h2 A3 c3 W a b d e)
 clear hz b7 aQ bc aR aS cN ax cO b8 bF hg hr bJ bK bL aT;go_enter Tryz.func123,Tryz.ntmps123;obtain⟨q0,q1,q2,q3,q4,q5⟩:=k0.out;go_wp2_with fail;rw[←hZ.out];simp only[←hs];have cv:w.heap.size≤s:=Nat.le_of_eq hs.symm;replace hs:=η hs;clear q0 q1 q2 q3 q4 q5;obtain⟨L,hL⟩:=ε (Z.heap.size);rw[←hL]at aY bh aJ bf bg aW aX bR bS;have bi:L≤Z.heap.size:=Nat.le_of_eq hL;replace hL:=η hL;go_loopw [21,10,11] (fun i va vb wr=>∃ (k:Nat) (A3 A4:Option Addr) (c3 c4:Nat),k≤pts.length∧i=.int .i64 k∧va=.slice A3 (Qen pts er k).length c3∧vb=.slice A4 (Qen I er k).length c4∧Hid (Own wr L (.slice A3 (Qen pts er k).length c3) (Qen pts er k))∧Hid (Own wr L (.slice A4 (Qen I er k).length c4) (Qen I er k))∧Hid (Dis (.slice A3 (Qen pts er k).length c3) (.slice A4 (Qen I er k).length c4))∧Below L Z wr) (fun i _ _ _=>pts.length - (intOf i).toNat)
 case atStart=>exact⟨0,none,none,0,0,by omega,rfl,rfl,rfl,aY,aY,Dis.nil,bh⟩
 case round =>
  obtain⟨w3,rfl⟩:=ε (wr:World);obtain⟨k,A3,A4,c3,c4,hk,rfl,rfl,rfl,hx,hy,aI,T⟩:=hrel;clear aY bh;have bj:Hid (w3.cell? ⟨s,0,none⟩=some (.int .i64 F.p)∧w3.cell? ⟨s,1,none⟩=some (.int .i64 F.m)∧w3.cell? ⟨s,2,none⟩=some (.slice A F.mod.length c)∧w3.cell? ⟨s,3,none⟩=some (.int .i64 (kn:Int))∧w3.cell? ⟨s,4,none⟩=some (.slice Y pts.length c1)∧w3.cell? ⟨s,5,none⟩=some (.slice A2 mul.length c2)):=QbS T aJ k0.out;have ab:L≤w3.heap.size:=τ bi T.size;by_cases ap:k<pts.length
  ·have dl:(0:Int)≤(k:Int):=by omega
   have dm:(k:Int)<(pts.length:Int):=by omega
   have dn:(k:Int)<(wl.length:Int):=by have:=bU.out;omega
   have dp:(k:Int)<(mul.length:Int):=by have:=bT.out;omega
   have bk:=(cu.out.below T bS).cell ap;obtain⟨b1,o1,rfl,cR,cc⟩:=aW.at_ ap;have bV:=(T.cell (p:=⟨b1,o1+k,none⟩) cR).trans cc;obtain⟨x,a1⟩:=ε (pts[k]?.getD 0);rw[←a1]at bV;replace a1:=η a1;clear cc;by_cases ag:(k:Int)∈er
   ·rw[decide_eq_true ag]at bk;have e1:Hid (Qen pts er k=Qen pts er (k+1)):=(QmI ag).symm;have e2:Hid (Qen I er k=Qen I er (k+1)):=(QmI ag).symm;clear ag;rw[e1.out]at hx aI ⊢;rw[e2.out]at hy aI ⊢;go_wp2_with fail;go_roundw
    case rel=>exact⟨k+1,A3,A4,c3,c4,by omega,by go_num,rfl,rfl,hx,hy,aI,T⟩
    case measure=>simp[intOf];omega
   rw[decide_eq_false ag]at bk;have e1:Hid (Qen pts er (k+1)=Qen pts er k ++ [x]):=by unfold Hid;rw[QpX ag,a1.out]
   have e2:Hid (Qen I er (k+1)=Qen I er k ++ [I[k]?.getD 0]):=QpX ag;obtain⟨b2,o2,rfl,cd,ce⟩:=aX.at_ (by rw[bT.out];exact ap:k<mul.length);obtain⟨bw,ow,rfl,cf,cg⟩:=bR.at_ (by rw[bU.out];exact ap:k<wl.length);have bm:=(T.cell (p:=⟨b2,o2+k,none⟩) cd).trans ce;have bo:=(T.cell (p:=⟨bw,ow+k,none⟩) cf).trans cg;have hD:=Qp1 F (wl[k]?.getD 0) (mul[k]?.getD 0) g w3.drew ((bf.below T).more ab).drew (cr.out k ap);rw[cs.out k ap]at hD;obtain⟨u,hu⟩:=ε (wl[k]?.getD 0);obtain⟨m,hm⟩:=ε (mul[k]?.getD 0);obtain⟨y,br⟩:=ε (I[k]?.getD 0);rw[←hu]at bo hD;rw[←hm]at bm hD;rw[←br]at hD e2;replace hD:=η hD;replace hu:=η hu;replace hm:=η hm;replace br:=η br;have aK:=η (show _∧_∧_ from ⟨bj.out.2.2.2.2.2,bm,bo⟩);have cx:b2<w3.heap.size:=θ cd ab;have cy:bw<w3.heap.size:=θ cf ab;have ai:s<w3.heap.size:=θ aJ ab;clear ag ce cg bm bo;go_wp2_with fail;clear bk bV;refine wp_region_held_drew (S:=fun w'=>w'.cell? ⟨s,5,none⟩=some (.slice (some ⟨b2,o2,none⟩) mul.length c2)∧w'.cell? ⟨b2,o2+k,none⟩=some (.int .i64 m)∧w'.cell? ⟨bw,ow+k,none⟩=some (.int .i64 u)) (by kernel_rfl) (by (try dsimp only);exact aK.out) (fun hHeld=>?_);refine tk 0 ?_;simp only[pS]
   refine tk 1 ?_;simp only[pS]
   refine tk 2 ?_;simp only[pS]
   refine tk 3 ?_;simp only[pS]
   refine tk 4 ?_;simp only[pS]
   refine tk 5 ?_;simp only[pS]
   refine tk 6 ?_;simp only[pS]
   refine tk 7 ?_;simp only[pS]
   refine tk 8 ?_;simp only[pS]
   refine tk 9 ?_;simp only[pS]
   refine rd 10 fun K O=>?_
   go_simp;go_at_call 175;(with_reducible refine (hD).out.mono ?_);rintro e w4 ⟨rfl,bb⟩;go_wp2_with fail;refine O.out _ _ (by (try dsimp only);exact⟨(bb.cell (p:=⟨s,5,none⟩) ai).trans aK.out.1,(bb.cell (p:=⟨b2,o2+k,none⟩) cx).trans aK.out.2.1,(bb.cell (p:=⟨bw,ow+k,none⟩) cy).trans aK.out.2.2⟩) (fun hHeld=>?_);clear O K;try simp only[pS]
   refine tk 11 ?_;simp only[pS]
   refine tk 12 ?_;simp only[pS]
   refine tk 13 ?_;simp only[pS]
   refine tk 14 ?_;simp only[pS]
   refine tk 15 ?_;simp only[pS]
   refine δ ?_;have a3:Below w3.heap.size w3 w4:=(Below.refl _ w3).drew.trans bb;have bW:L≤w4.heap.size:=τ ab a3.size;have cz:=hx.out.below a3 ρ;have bX:=hy.out.below a3 ρ;have cA:(Qen pts er k).length≤1000000:=by rw[Qed];have:=Qju er k;omega
   have cB:(Qen I er k).length≤1000000:=by rw[Qed];have:=Qju er k;omega
   have cC:Below L Z w4:=T.trans (a3.mono ab);clear hx hy aK;go_wp2_with (first |(at_builtin;refine Qbs rfl (.tmp 45) (.tmp 47) rfl L _ _ _ cz rfl rfl rfl cA bW ?_;intro v5 X co V c9 da;have cD:=bX.kept c9 aI.out.symm.ne;have bY:=Dis.step aI.out bX.lt da;have a4:=τ bW V.size) |(at_builtin;refine Qbs rfl (.tmp 49) (.tmp 51) rfl L _ _ _ cD rfl rfl rfl cB a4 ?_;intro v6 w6 bB db dc dd;have bs:=co.kept dc bY.ne;have cE:=(Dis.step bY.symm co.lt dd).symm));obtain⟨A5,n5,e5,-,-,-⟩:=bs.form;obtain⟨A6,n6,e6,-,-,-⟩:=bB.form;rw[←e1.out]at bs e5;rw[←e2.out]at bB e6;subst e5 e6;go_roundw
   case rel=>exact⟨k+1,A5,A6,n5,n6,by omega,by go_num,rfl,rfl,bs,bB,cE,(cC.trans V).trans db⟩
   case measure=>simp[intOf];omega
  ·obtain rfl:k=pts.length:=by omega
   obtain⟨N,hN⟩:=ε ((QfY er pts.length).length);have au:(Qen pts er pts.length).length=N:=by rw[Qed,hN]
   have av:(Qen I er pts.length).length=N:=by rw[Qed,hN]
   have cF:Rd w3 w3.heap.size A3 (Qen pts er pts.length):=by obtain⟨A',c',e',-,h',-⟩:=hx.out.form;cases e';exact h'
   have cG:Rd w3 w3.heap.size A4 (Qen I er pts.length):=by obtain⟨A',c',e',-,h',-⟩:=hy.out.form;cases e';exact h'
   have a5:=Qju er pts.length;rw[←hN]at bN bO bP aU a5;have aj:Below w.heap.size w w3:=U.trans (T.mono (τ (τ cv (Nat.le_of_lt aJ)) (Nat.le_refl L)));have ai:s<w3.heap.size:=θ aJ ab;have cH:=(bf.below T).more ab;rw[au,av];clear hx hy aI ap;obtain⟨q0,q1,q2,q3,q4,q5⟩:=bj.out;by_cases a7:N<kn
   ·have cI:(N:Int)<(kn:Int):=by omega
    have a6:=η (bP.out a7);replace hN:=η hN;replace au:=η au;replace av:=η av;clear a7 a5;go_wp2_with fail;go_ret2;exact Qek.no aj a6.out
   have cI:¬ (N:Int)<(kn:Int):=by omega
   have hG:=Qsh F N kn (Qen pts er pts.length) (Qen I er pts.length) au av (by omega) (by omega) (by have h:=aU.out;rw[bQ.out]at h;exact h) A3 A4 c3 c4 g w3 cH cF cG;rw[←bQ.out,←ct.out]at hG;replace hG:=η hG;replace hN:=η hN;replace au:=η au;replace av:=η av;replace a7:=η a7;replace a5:=η a5;go_wp2_with fail;(with_reducible refine hG.out.mono ?_);rintro e X ⟨V,⟨m,Am,cm,rfl,aM,cX⟩ |⟨rfl,a6⟩⟩;rotate_left
   ·have cJ:=η (bO.out a6);clear a6 q0 q1 q2 q3 q4 q5;go_wp2_with fail;go_ret2;exact Qek.no (ζ aj V) cJ.out
   have dq:=ζ aj V;have dr:=T.trans (V.mono ab);have aw:Hid (X.cell? ⟨s,0,none⟩=some (.int .i64 F.p)∧X.cell? ⟨s,1,none⟩=some (.int .i64 F.m)∧X.cell? ⟨s,2,none⟩=some (.slice A F.mod.length c)∧X.cell? ⟨s,3,none⟩=some (.int .i64 (kn:Int))∧X.cell? ⟨s,4,none⟩=some (.slice Y pts.length c1)∧X.cell? ⟨s,5,none⟩=some (.slice A2 mul.length c2)):=QbS V ai bj.out;have ds:s<X.heap.size:=θ ai V.size;have cK:=aM.2.1;have ax:=Qp0 aM.1;have cL:=η (bN.out m aM);have a8:=Qfh cK;have bZ:=cX.drew;have du:IntKind.i64.wrap ((kn:Int) - (m.length:Int))=((kn - m.length:Nat):Int):=by rw[IntWalk.i64_in _ (by omega)];omega
   have b0:m.length+(kn - m.length)≤1000000:=by omega
   have a4:w3.heap.size≤X.drew.heap.size:=V.size;have b3:=fun A7 c7 W a b d e=>aV (Qn0 m kn) a8 (QmK ax) A7 c7 W a b d e
   have b4:Hid ((m ++ List.replicate (kn - m.length) (0:Int)).length=kn):=a8;replace a8:=η a8;replace aM:=η aM;replace ax:=η ax;clear q0 q1 q2 q3 q4 q5 aV hG;have b5:w.heap.size≤w3.heap.size:=aj.size;have bt:=fun (W:World) (h:Below w3.heap.size X W)=>(show Below w3.heap.size w3 W from V.trans h)
   obtain⟨q0,q1,q2,q3,q4,q5⟩:=aw.out;go_wp2_with fail;clear q0 q1 q2 q3 q4 q5;refine wp_region_held_drew (S:=fun w'=>w'.cell? ⟨s,0,none⟩=some (.int .i64 F.p)∧w'.cell? ⟨s,1,none⟩=some (.int .i64 F.m)∧w'.cell? ⟨s,2,none⟩=some (.slice A F.mod.length c)∧w'.cell? ⟨s,3,none⟩=some (.int .i64 (kn:Int))∧w'.cell? ⟨s,4,none⟩=some (.slice Y pts.length c1)∧w'.cell? ⟨s,5,none⟩=some (.slice A2 mul.length c2)) (by kernel_rfl) (by (try dsimp only);exact aw.out) (fun hHeld=>?_);refine tk 1 ?_;simp only[pS]
   refine tk 2 ?_;simp only[pS]
   refine tk 3 ?_;simp only[pS]
   refine tk 4 ?_;simp only[pS]
   refine tk 5 ?_;simp only[pS]
   refine tk 6 ?_;simp only[pS]
   refine wpAnyH_ready (rs:=[0,7]) (by kernel_rfl) (by simp) ?_;refine AllReadyH.cons (o:=⟨_,_,_,_,_,_⟩) rfl (fun K O=>?_) ?_
   all_goals first
    |(go_simp
      refine O.out _ _ (by (try dsimp only);first |exact aw.out |exact ay.out) (fun hHeld=>?_);clear O K;try simp only[pS]
      refine rd 7 fun K O=>?_
      refine Qj6 rfl (.tmp 72) (.tmp 77) rfl w3.heap.size _ m (kn - m.length) bZ (by rfl) (by rfl) b0 a4 ?_;intro v7 J bD bE de df;have ae:=(Below.refl w3.heap.size X).drew.trans bE;have ay:Hid (J.cell? ⟨s,0,none⟩=some (.int .i64 F.p)∧J.cell? ⟨s,1,none⟩=some (.int .i64 F.m)∧J.cell? ⟨s,2,none⟩=some (.slice A F.mod.length c)∧J.cell? ⟨s,3,none⟩=some (.int .i64 (kn:Int))∧J.cell? ⟨s,4,none⟩=some (.slice Y pts.length c1)∧J.cell? ⟨s,5,none⟩=some (.slice A2 mul.length c2)):=QbS ae ai aw.out;obtain⟨A7,c7,e7,-,bA,-⟩:=bD.form;have e8:v7=.slice A7 kn c7:=by rw[e7,b4.out]
      clear e7;subst e8;have af:=T.trans ((bt J ae).mono ab);have al:=τ bi af.size;have b6:=b3 A7 c7 J ((bg.below af).more al) ((aW.below af).more al) ((aX.below af).more al) bA;refine O.out _ _ (by (try dsimp only);exact ay.out) (fun hHeld=>?_))
    |(refine AllReadyH.cons (o:=⟨_,_,_,_,_,_⟩) rfl (fun K O=>?_) AllReadyH.nil
      refine Qj6 rfl (.tmp 72) (.tmp 77) rfl w3.heap.size _ m (kn - m.length) bZ (by rfl) (by rfl) b0 a4 ?_;intro v7 J bD bE de df;have ae:=(Below.refl w3.heap.size X).drew.trans bE;have ay:Hid (J.cell? ⟨s,0,none⟩=some (.int .i64 F.p)∧J.cell? ⟨s,1,none⟩=some (.int .i64 F.m)∧J.cell? ⟨s,2,none⟩=some (.slice A F.mod.length c)∧J.cell? ⟨s,3,none⟩=some (.int .i64 (kn:Int))∧J.cell? ⟨s,4,none⟩=some (.slice Y pts.length c1)∧J.cell? ⟨s,5,none⟩=some (.slice A2 mul.length c2)):=QbS ae ai aw.out;obtain⟨A7,c7,e7,-,bA,-⟩:=bD.form;have e8:v7=.slice A7 kn c7:=by rw[e7,b4.out]
      clear e7;subst e8;have af:=T.trans ((bt J ae).mono ab);have al:=τ bi af.size;have b6:=b3 A7 c7 J ((bg.below af).more al) ((aW.below af).more al) ((aX.below af).more al) bA;refine O.out _ _ ay.out fun hHeld=>?_;clear O K;try simp only[pS]
      refine rd 0 fun K O=>?_
      go_simp;refine O.out _ _ (by (try dsimp only);first |exact aw.out |exact ay.out) (fun hHeld=>?_))
   all_goals
    clear O K;try simp only[pS]
    refine rd 8 fun K O=>?_
    go_simp;go_at_call 177;(with_reducible refine (b6).out.mono ?_);rintro e w8 ⟨A8,rfl,c5,c6,c8,cn⟩;go_wp2_with fail;refine O.out _ _ (QbS cn (θ ai (τ V.size ae.size)) ay.out) fun hHeld=>?_;clear O K;try simp only[pS]
    refine tk 9 ?_;simp only[pS]
    refine tk 10 ?_;simp only[pS]
    refine tk 11 ?_;simp only[pS]
    refine tk 12 ?_;simp only[pS]
    refine δ ?_;have cM:Below w.heap.size w w8:=aj.trans (((bt J ae).trans (cn.mono (τ V.size ae.size))).mono b5);go_wp2_with fail;go_ret2;exact Qek.ok cM cL.out A8 pts.length c5 (fun a e=>τ (τ b5 (τ V.size ae.size)) (c6 a e)) c8
end
end Go.Proofs

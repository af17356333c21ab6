/- Plain: the weights of words that meet the checks of an alternant code, of a Goppa code. -/
import Derived.Test.YtogfekjbpcfgmaaGreatZtkGopW
import Derived.Test.YtogfekjbpcfgmaaGreatZtkGopR
set_option maxRecDepth 100000
set_option maxHeartbeats 16000000
set_option linter.unusedVariables false
set_option linter.unusedSimpArgs false
namespace Go.Proofs
open Go.RowKit Cw
section
open Cw.CField (inv)
theorem QuI (D:Desc)(N:Nat)(u:Nat→R D):wgt (QaK D N u)=((List.range N).filter fun j=>ci (u j) !=0).length:=by
 unfold wgt QaK lst;rw[List.filter_map,List.length_map];rfl
section
variable {S F:FD} {r:R F.z} {N t k:Nat} {h:Nat→Nat→R F.z} {u:Nat→R S.z}
theorem QeH {x y:Nat→R F.z} (J:∀i j,i<N→j<N→x i=x j→i=j)(O:∀j,j<N→y j≠0)(hp:S.p=F.p)(h0:muV S F r=0)(T:∀i j,i<t→j<N→h i j=y j*pw (x j) i)
  (U:∃j,j<N∧u j≠0) (V:Qcc S F r N t h u):t+1≤wgt (QaK S.z N u):=by
 obtain⟨j0,aa,ab⟩:=U;rw[QuI];refine Qoa (u:=fun j=>phi S F r (u j)) J O (fun i I=>?_) (fun j=>ci (u j) !=0) (fun j _ e=>?_) aa fun e=>ab ((Qfi hp h0).1 e)
 ·rw[←V i I];exact Qaa fun j hj=>by rw[T i j I hj]
 ·have X:ci (u j)=0:=by simpa using e
  have Y:u j=0:=Qeh (X.trans QaF.symm);rw[Y,QcZ]
end
section
variable {S F:FD} {r:R F.z} {N t:Nat} {poly pts:List Int} {u:Nat→R S.z}
theorem QjH (F:FD)(poly pts:List Int)(N:Nat)(v:Nat→R F.z)(i:Nat):Qqh (plI F.z poly) ((List.range N).map fun j=>(eli F.z (pts[j]?.getD 0),v j)) i=Qat N fun j=>QgH F poly pts i j*v j:=by
 unfold Qqh;rw[QmR,QiH];refine Qaa fun j _=>?_
 dsimp only;rw[QeE];unfold QgH
 ac_rfl
theorem QgB (U:S.q=2)(hp:S.p=F.p){n:Nat} (hl:poly.length=n+1)(h0:cfR F.z poly n≠0)(X:Cop (plI F.z poly) (plI F.z poly).D)(hz:∀j,j<N→QaW F.z poly (eli F.z (pts[j]?.getD 0))≠0)
  (Y:Qcc S F r N n (QgH F poly pts) u):Qcc S F r N (n+n) (fun i j=>inv (QaW F.z poly (eli F.z (pts[j]?.getD 0))*QaW F.z poly (eli F.z (pts[j]?.getD 0)))*pw (eli F.z (pts[j]?.getD 0)) i) u:=by
 have aa:S.p=2:=by
  have I:=S.z.p2;have J:S.p ^ 1≤S.p ^ S.m:=Nat.pow_le_pow_right (by omega) S.m1;rw[Nat.pow_one]at J;have h3:S.p ^ S.m=2:=U;omega
 have hc:nsm 2 (1:R F.z)=0:=by rw[←aa,hp];exact Qfx
 have ac:=QlJ hc (g:=plI F.z poly) (n:=n) (fun t ht=>Qao _ (by omega)) h0 X ((List.range N).map fun j=>(eli F.z (pts[j]?.getD 0),phi S F r (u j)))
  (fun a T=>by
   obtain⟨j,V,rfl⟩:=List.mem_map.1 T;rw[QeE];exact hz j (List.mem_range.1 V))
  (fun a T=>by
   obtain⟨j,V,rfl⟩:=List.mem_map.1 T;have I:QaA (u j)<2:=by rw[←U];exact QaM (u j)
   have J:QaA (u j)=0∨QaA (u j)=1:=by omega
   rcases J with e |e
   ·left
    show phi S F r (u j)=0
    rw[show u j=0 from Qbf (e.trans QbJ.symm),QcZ]
   ·right
    show phi S F r (u j)=1
    rw[show u j=1 from Qbf (e.trans Qcx.symm),Qhs])
  (fun i O=>by rw[QjH];exact Y i O)
 intro i O;have I:=ac i O;unfold Qqh at I;rw[QmR,QiH]at I;rw[←I];refine Qaa fun j _=>?_
 dsimp only;rw[QiD,QeE]
 ac_rfl
end
end
section
open Cw.CField (inv)
section
variable {S F:FD} {r:R F.z} {kn k:Nat} {pts mul wl:List Int} {u:Nat→R S.z}
noncomputable def Qsr (F:FD)(pts mul:List Int):Nat→Nat→R F.z:=gM F.z pts (Qck F pts mul)
theorem QmY (hz:gchkD F.z kn pts mul=0)(T:∀j,j<pts.length→eli F.z (wl[j]?.getD 0)=phi S F r (u j)):Qcc S F r pts.length (pts.length - kn) (Qsr F pts mul) u↔inB F kn pts mul wl=true:=by
 rw[←QuD hz,decide_eq_true_iff,QgA];have U:((pts.length:Int) - (kn:Int)).toNat=pts.length - kn:=by omega
 have J:∀i,Qat pts.length (fun j=>eli F.z ((Qaw F.z pts.length (gM F.z pts (Qck F pts mul)) i)[j]?.getD 0)*eli F.z (wl[j]?.getD 0))=Qat pts.length fun j=>Qsr F pts mul i j*phi S F r (u j):=fun i=>Qaa fun j O=>by
  rw[Qaw,Qa0 _ _ O,Qam,T j O];rfl
 unfold Qwn;rw[U];constructor
 ·intro h x V;obtain⟨i,I,rfl⟩:=List.mem_map.1 V;rw[J i,h i (List.mem_range.1 I),QaF]
 ·intro h i I;rw[←J i];exact Qaq.1 (h _ (List.mem_map.2 ⟨i,List.mem_range.2 I,rfl⟩))
end
end
section
theorem Qss (l:List Nat):(Qid l).length=l.length:=List.length_map ..
theorem QuJ (l:List Nat){i:Nat} (h:i<l.length):(Qid l)[i]?.getD 0=(pvF l i:Int):=by
 unfold Qid pvF;rw[List.getElem?_map,List.getElem?_eq_getElem h];rfl
theorem Qw5 {F:Type} [CField F] (f:Nat→F):Qat 0 f=0:=rfl
theorem QuK (m c:Nat):(Array.replicate m (Value.int .i64 0)).setIfInBounds c (Value.int .i64 1)=(((List.replicate m (0:Int)).set c 1).map (Value.int .i64)).toArray:=by
 apply Array.ext';simp[List.map_set]
noncomputable def QmZ (F:FD)(m:Nat)(p:Nat→Nat)(E:Nat→Nat→R F.z)(c k:Nat):List Int:=lst m fun j=>ci (Qv9 p E c k j)
theorem Qqy (F:FD){m:Nat} (p:Nat→Nat)(E:Nat→Nat→R F.z){c:Nat}:(List.replicate m (0:Int)).set c 1=QmZ F m p E c 0:=by
 apply List.ext_getElem
 ·rw[List.length_set,List.length_replicate,QmZ,Qab]
 ·intro j I J;rw[List.getElem_set];simp only[QmZ,lst,List.getElem_map,List.getElem_range,List.getElem_replicate,Qv9,Qw5,Qa3];by_cases e:c=j
  ·rw[if_pos e,if_pos e.symm];exact (Qei).symm
  ·rw[if_neg e,if_neg (fun h=>e h.symm)];exact (QaF).symm
theorem Qst (F:FD){m r:Nat} {p:Nat→Nat} {E:Nat→Nat→R F.z} (h:RR m r p E){c k:Nat} (I:k<r)(J:p k≠c):(QmZ F m p E c k).set (p k) (ci (-(E k c)))=QmZ F m p E c (k+1):=by
 apply List.ext_getElem
 ·rw[List.length_set,QmZ,Qab,QmZ,Qab]
 ·intro j O T;rw[List.getElem_set];simp only[QmZ,lst,List.getElem_map,List.getElem_range];rw[Qqd h I J];by_cases e:p k=j
  ·rw[if_pos e,if_pos e.symm]
  ·rw[if_neg e,if_neg (fun g=>e g.symm)]
theorem Qqz (F:FD){m r:Nat} {p:Nat→Nat} {E:Nat→Nat→R F.z} {c t:Nat} (e:(npv p r m)[t]?.getD 0=c):QmZ F m p E c r=Qaw F.z m (QhP r m p E) t:=by
 show QmZ F m p E c r=QaK F.z m (Qu6 r p E ((npv p r m)[t]?.getD 0))
 rw[e];rfl
def Qm0 (F:FD)(n m:Nat)(M:Nat→Nat→R F.z)(w:World)(e:Ending)(w':World):Prop :=
 ∃p:Nat→Nat,p=pvF (elS n M m).2∧∃I cl,e=.returned (.slice I (npv p (rkS F n m M) m).length cl)∧Below w.heap.size w w'∧Qfb w' w.heap.size w'.heap.size I (npv p (rkS F n m M) m).length (Qaw F.z m (elS (npv p (rkS F n m M) m).length (QhP (rkS F n m M) m p (elS n M m).1) m).1)
theorem QqA (F:FD)(n m:Nat)(M:Nat→Nat→R F.z)(A Ar:Option Addr)(c cr:Nat)(w:World)(hr:Rd w w.heap.size A (Qan F.z))(cf:RdM w w.heap.size Ar n (Qaw F.z m M))(hn:n≤1000000)(hm:m≤4096) :
    Calls Tryz.prog 141 #[.agg #[.int .i64 F.p,.int .i64 F.m,.slice A F.mod.length c],.slice Ar n cr,.int .i64 m] w (Qm0 F n m M w):=by
  have a2:=fun n' M' bG bH W a b h=>η (Qgd F n' m m M' A bG c bH W a b h (by omega) ρ)
  have ch:=fun x W=>η (Qhg F.z x A F.mod.length c W)
  obtain⟨r,al⟩:=ε (rkS F n m M);obtain⟨E,hE⟩:=ε ((elS n M m).1);obtain⟨pl,ar⟩:=ε ((elS n M m).2);obtain⟨p,hp⟩:=ε (pvF pl);have bL:Hid (pl.length=r):=by rw[ar,al];rfl
  have a3:RR m r p E:=by rw[al,hp,ar,hE];exact Qgv n m M
  have c8:r≤m:=by rw[al];exact (Qgu n M m).2
  have da:(npv p r m).length≤m:=by
    have h:=List.length_filter_le (fun c=>!decide (∃i,i<r∧p i=c)) (List.range m);rw[List.length_range]at h;exact h
  have bM:Hid (∀i,i<r→(Qid pl)[i]?.getD 0=(p i:Int)):=fun i hi=>by rw[hp];exact QuJ pl (by rw[bL.out];exact hi)
  have bN:Hid ((Qid pl).length=r):=(Qss pl).trans bL.out;have bO:Hid (rkS F (npv p r m).length m (QhP r m p E)=(npv p r m).length):=QgQ QhQ;unfold Qm0;rw[←al,←hE];have aQ:=a2 n M Ar cr;unfold QfM at aQ;rw[←al,←hE,←ar]at aQ;have a4:=fun bG bH=>a2 (npv p r m).length (QhP r m p E) bG bH
  unfold QfM at a4;rw[bO.out]at a4;obtain⟨T,hT⟩:=ε ((npv p r m).length);obtain⟨s,hs⟩:=ε (w.heap.size);obtain⟨Z,hZ⟩:=ε (w.alloc (.cells #[.int .i64 F.p,.int .i64 F.m,.slice A F.mod.length c] 24));have hB:Below w.heap.size w Z:=by rw[hZ];exact β
  have a5:Hid (Bx Z s F.z A F.mod.length c):=by rw[hZ,hs];exact η (Bx.new w F.z A F.mod.length c _)
  have bP:s<Z.heap.size:=by rw[hZ,hs];simp
  have bQ:=aQ Z (hr.bm hB) (cf.bm hB) hn;replace al:=η al;replace hE:=η hE;replace ar:=η ar;replace hp:=η hp;replace hZ:=η hZ;replace hT:=η hT;clear aQ a2 bO;go_enter Tryz.func141,Tryz.ntmps141;obtain⟨q0,q1,q2⟩:=a5.out.cells;go_wp2_with fail;rw[←hZ.out];simp only[←hs];replace hs:=η hs;go_wp2_with fail;(with_reducible refine bQ.out.mono ?_);rintro e w1 ⟨Al,cl,Ap,cp,rfl,a1,cd,bD,-,-,-⟩;clear bQ q0 q1 q2;have a6:=ζ hB a1;have bR:=η (a5.out.below a1 bP);have db:s<w1.heap.size:=θ bP a1.size;have bS:=cd.rdm;clear a5 cd a1 hB;have a7:=QaC m (by omega);obtain⟨X,hX⟩:=ε (w1.alloc (.cells (Array.replicate m (Value.int .i64 0)) 3));obtain⟨O,an⟩:=ε (w1.heap.size);have J:Hid (IB X O (upd m 0 fun _=>-1)):=by rw[QaP,hX,an];exact η (IB.newz w1 m)
  have bT:Below O w1 X:=by rw[hX,an];exact β
  have dc:O≤w1.heap.size:=Nat.le_of_eq an;have a8:w1.heap.size≤O:=Nat.le_of_eq an.symm;have cj:s<O:=by omega
  replace hX:=η hX;go_wp2_with fail;rw[←hX.out];simp only[←an];replace an:=η an;clear a7;go_loopw [10] (fun i wr=>∃k:Nat,k≤m∧i=.int .i64 k∧Hid (IB wr O (upd m k fun _=>-1))∧Below O w1 wr) (fun i _=>m - (intOf i).toNat)
  case atStart=>exact⟨0,by omega,rfl,J,bT⟩
  case round =>
    clear J bT;obtain⟨wa,rfl⟩:=ε (wr:World);obtain⟨k,hk,rfl,J,bu⟩:=hrel;have a9:=J.out.lt;by_cases ce:k<m
    · have k0:(0:Int)≤(k:Int):=by omega
      have k1:(k:Int)<(m:Int):=by omega
      have av:=J.out.cell (i:=k) (by rw[Qaz];exact ce);have aw:=J.out.frozen k;have ab:=J.out.set_ k (-1);rw[show ((upd m k fun _=>(-1:Int)).set k (-1))=upd m (k+1) (fun _=>-1) from QaY m k (fun _=>-1)]at ab;replace ab:=η ab;have ax:Below O w1 (wa.setCell ⟨O,k,none⟩ (.int .i64 (-1))):=bu.setCell (p:=⟨O,k,none⟩) ρ _;go_wp2_with fail;go_roundw
      case rel=>exact⟨k+1,by omega,by go_num,ab,ax⟩
      case measure=>simp[intOf];omega
    · have bV:k=m:=by omega
      rw[bV,QaR]at J;replace J:Hid (IB wa O (lst m (Qoy p 0))):=J;go_wp2_with fail;clear ce bV;go_loopw [11] (fun i wr=>∃k:Nat,k≤r∧i=.int .i64 k∧Hid (IB wr O (lst m (Qoy p k)))∧Below O w1 wr) (fun i _=>r - (intOf i).toNat)
      case atStart=>exact⟨0,by omega,rfl,J,bu⟩
      case round =>
        clear J bu a9;obtain⟨wb,rfl⟩:=ε (wr:World);obtain⟨k2,dh,rfl,J,aK⟩:=hrel;have a9:=J.out.lt;by_cases ae:k2<r
        · have k0:(0:Int)≤(k2:Int):=by omega
          have k1:(k2:Int)<(r:Int):=by omega
          obtain⟨bp,op,rfl,bv,ai⟩:=bD.at_ (k:=k2) (by rw[bN.out];exact ae);rw[bM.out k2 ae]at ai;have aE:=a3.lt k2 ae;have ab:=J.out.set_ (p k2) (k2:Int);rw[Qr9]at ab;have av:=J.out.cell (i:=p k2) (by rw[Qab];exact aE);have aw:=J.out.frozen (p k2);obtain⟨U,ao⟩:=ε (p k2);rw[←ao]at ai ab av aw aE;have dd:=(aK.cell (p:=⟨bp,op+k2,none⟩) (θ bv a8)).trans ai;have j0:(0:Int)≤(U:Int):=by omega
          have j1:(U:Int)<(m:Int):=by omega
          replace ab:=η ab;replace ao:=η ao;have ax:Below O w1 (wb.setCell ⟨O,U,none⟩ (.int .i64 k2)):=aK.setCell (p:=⟨O,U,none⟩) ρ _;clear ai;go_wp2_with fail;go_roundw
          case rel=>exact⟨k2+1,by omega,by go_num,ab,ax⟩
          case measure=>simp[intOf];omega
        · have aR:k2=r:=by omega
          rw[aR]at J;go_wp2_with fail;clear ae aR;have co:O<wb.heap.size:=a9;obtain⟨V,aF⟩:=ε (wb.heap.size);have cq:V≤wb.heap.size:=Nat.le_of_eq aF;have cs:O<V:=by rw[aF];exact co
          have bW:=η (bR.out.below aK cj);have bX:=a6.trans (aK.mono (τ a6.size a8));have ct:w.heap.size≤V:=by rw[aF];exact bX.size
          have ba:Below w1.heap.size w1 wb:=aK.mono a8;have cu:Rd wb V Ap (Qid pl):=(bD.below ba).more (by omega);have cw:RdM wb V Al r (Qaw F.z m E):=(bS.below ba).more (by omega);replace aF:=η aF;obtain⟨rows,aG⟩:=ε (Qaw F.z m (QhP r m p E));have cx:Hid (∀t,(rows t).length=m):=fun t=>by rw[aG,Qba]
          replace aG:=η aG;clear bD bS bR a6 ba;go_loopw [13,12,14,15] (fun i v _ _ wr=>∃I:Nat,I≤m∧i=.int .i64 I∧Hid (Qc4 wr V v (npv p r I).length rows)∧Below V wb wr) (fun i _ _ _ _=>m - (intOf i).toNat)
          case atStart=>exact⟨0,by omega,rfl,η (Qc4.nil _ _ _),κ⟩
          case round =>
            obtain⟨wc,rfl⟩:=ε (wr:World);obtain⟨I,di,rfl,aq,az⟩:=hrel;have cy:V≤wc.heap.size:=τ cq az.size;obtain⟨Av,cv,rfl⟩:=aq.out.size;by_cases aA:I<m
            · have k0:(0:Int)≤(I:Int):=by omega
              have k1:(I:Int)<(m:Int):=by omega
              have bb:=(J.out.below az cs).cell (i:=I) (by rw[Qab];exact aA);rw[Qas _ aA]at bb;obtain⟨ld,bc⟩:=ε (Qoy p r I);have ap:=QmQ p I r;rw[←bc]at bb ap;replace bc:=η bc;by_cases ag:∃i,i<r∧p i=I
              · have cA:(0:Int)≤ld:=ap.2 ag;replace ap:=η ap;have bf:Hid (Qc4 wc V (.slice Av (npv p r I).length cv) (npv p r (I+1)).length rows):=by rw[Qr8 ag];exact aq
                replace ag:=η ag;generalize (npv p r I).length=t at *;go_wp2_with fail;go_roundw
                case rel=>exact⟨I+1,by omega,by go_num,bf,az⟩
                case measure=>simp[intOf];omega
              · have cA:¬ (0:Int)≤ld:=fun h=>ag (ap.1 h)
                replace ap:=η ap;have a7:=QaC m (by omega);obtain⟨e1,e2⟩:=Qv8 (m:=m) aA ag;have cB:Hid (∀i,i<r→p i≠I):=fun i hi e=>ag ⟨i,hi,e⟩
                have bY:Hid (QmZ F m p E I r=rows (npv p r I).length):=by rw[aG.out];exact Qqz F e1
                obtain⟨t,ht⟩:=ε ((npv p r I).length);rw[←ht]at aq bY e2 ⊢;obtain⟨t2,bZ⟩:=ε ((npv p r (I+1)).length)
                have de : t < m + 1 := by have : (npv p r I).length ≤ I := by { have h := List.length_filter_le (fun c => !decide (∃i,i < r ∧ p i = c)) (List.range I);rw [List.length_range] at h;exact h };omega
                replace e1:=η e1;replace e2:=η e2;replace ht:=η ht;replace bZ:=η bZ;replace ag:=η ag;obtain⟨gx,aj⟩:=ε (wc.heap.size);have bi:=IB.newz wc m;have av:=bi.cell (i:=I) (by rw[List.length_replicate];exact aA);have aw:=bi.frozen I;obtain⟨Y,hY⟩:=ε (wc.alloc (.cells ((Array.replicate m (Value.int .i64 0)).setIfInBounds I (Value.int .i64 1)) 3));have b0:Hid (IB Y gx (QmZ F m p E I 0)):=by rw[hY,aj,←Qqy,QuK];exact η (IB.new wc _)
                have b1:Below gx wc Y:=by rw[hY,aj];exact β
                have aH:V≤gx:=by rw[aj];exact cy
                have bj:Below V wb Y:=az.trans (b1.mono aH);replace hY:=η hY;clear bi;go_wp2_with fail;rw[←hY.out];simp only[←aj];replace aj:=η aj;clear a7 av aw bb;go_loopw [15] (fun i wr=>∃k:Nat,k≤r∧i=.int .i64 k∧Hid (IB wr gx (QmZ F m p E I k))∧Below gx Y wr) (fun i _=>r - (intOf i).toNat)
                case atStart=>exact⟨0,by omega,rfl,b0,κ⟩
                case round =>
                  clear b0;obtain⟨wd,rfl⟩:=ε (wr:World);obtain⟨k,hk,rfl,aY,aZ⟩:=hrel;have cC:=aY.out.lt;by_cases ae:k<r
                  · have j0:(0:Int)≤(k:Int):=by omega
                    have j1:(k:Int)<(r:Int):=by omega
                    obtain⟨bp,op,rfl,bv,ai⟩:=cu.at_ (k:=k) (by rw[bN.out];exact ae);rw[bM.out k ae]at ai;obtain⟨br,bA,Ai,b5,rfl,cO,bB,b6,-,-⟩:=cw.at_ ae;rw[Qba]at bB;have b2:Rd wb V Ai (lst m fun c=>ci (E k c)):=b6;obtain⟨be,oe,rfl,cP,a0⟩:=b2.at_ (k:=I) (by rw[Qab];exact aA);rw[Qas _ aA]at a0;have aE:=a3.lt k ae;have ab:=fun W (h:IB W gx _)=>(Qst F a3 ae (cB.out k ae)) ▸ h.set_ (p k) (ci (-(E k I)))
                    have hN:=fun W=>(ch (ci (E k I)) W).out
                    rw[Qam]at hN;obtain⟨y,hy⟩:=ε (ci (-(E k I)));obtain⟨x,hx⟩:=ε (ci (E k I));rw[←hy]at ab hN;rw[←hx]at a0 hN;obtain⟨U,ao⟩:=ε (p k);rw[←ao]at ai ab aE;have p0:(0:Int)≤(U:Int):=by omega
                    have p1:(U:Int)<(m:Int):=by omega
                    replace hN:=fun W=>η (hN W)
                    replace hy:=η hy;replace hx:=η hx;replace ao:=η ao;have vL:=fun W (h:Below V wb W)=>η (show (W.cell? ⟨s,0,none⟩=some (.int .i64 F.p)∧W.cell? ⟨s,1,none⟩=some (.int .i64 F.m)∧W.cell? ⟨s,2,none⟩=some (.slice A F.mod.length c))∧W.cell? ⟨bp,op+k,none⟩=some (.int .i64 U)∧W.cell? ⟨br,bA+k,none⟩=some (.slice (some ⟨be,oe,none⟩) m b5)∧W.cell? ⟨be,oe+I,none⟩=some (.int .i64 x) from ⟨(bW.out.below h (by omega)).cells,(h.cell (p:=⟨bp,op+k,none⟩) bv).trans ai,(h.cell (p:=⟨br,bA+k,none⟩) cO).trans bB,(h.cell (p:=⟨be,oe+I,none⟩) cP).trans a0⟩)
                    have bm:=bj.trans (aZ.mono aH);obtain⟨⟨c0,bC,c2⟩,c3,c4,c5⟩:=(vL _ bm).out;have b3:Below wd.heap.size wd wd.drew:=(Below.refl _ wd).drew;clear ai bB b6 b2 a0;go_wp2_with fail;clear c0 bC c2 c3 c4 c5;refine wp_region_held_drew (S:=fun w'=>(w'.cell? ⟨s,0,none⟩=some (.int .i64 F.p)∧w'.cell? ⟨s,1,none⟩=some (.int .i64 F.m)∧w'.cell? ⟨s,2,none⟩=some (.slice A F.mod.length c))∧w'.cell? ⟨bp,op+k,none⟩=some (.int .i64 U)∧w'.cell? ⟨br,bA+k,none⟩=some (.slice (some ⟨be,oe,none⟩) m b5)∧w'.cell? ⟨be,oe+I,none⟩=some (.int .i64 x)) (by kernel_rfl) (by (try dsimp only);exact (vL _ (bm.trans (b3.mono (by omega)))).out) (fun hHeld=>?_);refine tk 0 ?_;simp only[pS]
                    refine tk 1 ?_;simp only[pS]
                    refine tk 2 ?_;simp only[pS]
                    refine tk 3 ?_;simp only[pS]
                    refine tk 4 ?_;simp only[pS]
                    refine tk 5 ?_;simp only[pS]
                    refine tk 6 ?_;simp only[pS]
                    refine tk 7 ?_;simp only[pS]
                    refine tk 8 ?_;simp only[pS]
                    refine tk 9 ?_;simp only[pS]
                    refine tk 10 ?_;simp only[pS]
                    refine tk 11 ?_;simp only[pS]
                    refine tk 12 ?_;simp only[pS]
                    refine rd 13 fun K hK=>?_
                    go_simp;go_at_call 101;(with_reducible refine (hN wd.drew).out.mono ?_);rintro e we ⟨rfl,hb⟩;have bo:=b3.trans hb;have cD:=bm.trans (bo.mono (by omega));have bq:=aY.out.below bo cC;have av:=bq.cell (i:=U) (by rw[QmZ,Qab];exact aE);have aw:=bq.frozen U;have cE:=η (ab _ bq);have ax:Below gx Y (we.setCell ⟨gx,U,none⟩ (.int .i64 y)):=(aZ.trans (bo.mono (by omega))).setCell (p:=⟨gx,U,none⟩) ρ _;have cF:=bj.trans (ax.mono aH);go_wp2_with fail;refine hK.out _ _ ((vL _ cD).out) fun hHeld=>?_;clear hK K;try simp only[pS]
                    refine tk 14 ?_;simp only[pS]
                    refine rd 15 fun K hK=>?_
                    go_simp;refine hK.out _ _ ((vL _ cF).out) fun hHeld=>?_;clear hK K;try simp only[pS]
                    refine δ ?_;clear av aw;go_wp2_with fail;go_roundw
                    case rel=>exact⟨k+1,by omega,by go_num,cE,ax⟩
                    case measure=>simp[intOf];omega
                  · have aR:k=r:=by omega
                    rw[aR,bY.out]at aY;have cG:Below gx wc wd:=b1.trans aZ;have bf:Qc4 wd V (.slice Av t cv) t rows:=aq.out.below (W:=gx) cG (Nat.le_of_eq aj.out.symm);have aU:=aq.out.lt0;rw[←aj.out]at aU;have cH:V≤wd.heap.size:=by omega
                    replace aU:=η aU;go_wp2_with (at_builtin;refine Qef rfl (.tmp 82) (.tmp 84) rfl V _ t rows bf (some ⟨gx,0,none⟩) m m aY.out.rd (cx.out t) ρ (by unfold maxLen;omega) gx aU.out (fun a e=>by cases e;exact Nat.le_refl _) aH rfl rfl rfl (by omega) cH ?_;intro v' w' aV c6);rw[←e2.out]at aV;replace aV:=η aV;go_roundw
                    case rel=>exact⟨I+1,by omega,by go_num,aV,(bj.trans (aZ.mono aH)).trans c6⟩
                    case measure=>simp[intOf];omega
            · have bs:I=m:=by omega
              rw[bs,←hT.out]at aq ⊢;obtain⟨A9,c9,e9,cT⟩:=Qc4.rdm aq.out;have cI:A9=Av∧c9=cv:=by injection e9 with g1 g2 g3;exact⟨g1.symm,g3.symm⟩
              obtain⟨rfl,rfl⟩:=cI;clear e9;have aJ:=bX.trans (az.mono ct);have bt:=a4 A9 c9 wc (hr.bm aJ) (by rw[←hT.out,←aG.out];exact cT) (by omega);rw[←hT.out]at bt;obtain⟨c0,bC,c2⟩:=(bW.out.below az (by omega)).cells;replace bs:=η bs;go_wp2_with fail;(with_reducible refine bt.out.mono ?_);rintro e wz ⟨Az,cz,dl,dm,rfl,cY,cZ,-,-,-,-⟩;clear bt c0 bC c2;go_wp2_with fail;go_ret;exact⟨p,by rw[hp.out,ar.out],Az,cz,(show Ending.returned (Value.slice Az T cz)=Ending.returned (Value.slice Az (npv p r m).length cz) from by rw[←hT.out]),ζ aJ cY,by rw[←hT.out];exact cZ.low aJ.size⟩
end
section
def QuL (S F:FD)(n j:Nat)(b:Nat→R F.z)(c:Nat→Nat→R F.z)(h:Nat→R F.z):Prop:=∀t,t<j→(∀i,i<n→Qbq S.m (c t i))∧Qat n (fun i=>c t i*b i)=h t
theorem QuL.step {S F:FD} {n j:Nat} {b:Nat→R F.z} {c:Nat→Nat→R F.z} {h:Nat→R F.z} (I:QuL S F n j b c h){c':Nat→R F.z} (J:∀i,i<n→Qbq S.m (c' i))(O:Qat n (fun i=>c' i*b i)=h j) :
  QuL S F n (j+1) b (fun t=>if t=j then c' else c t) h:=fun t T=>by
 dsimp only;by_cases e:t=j
 ·rw[if_pos e,e];exact⟨J,O⟩
 ·rw[if_neg e];exact I t (by omega)
end
section
def QqP (w:World)(b:Nat)(S F:Desc)(I A:Option Addr)(J c:Nat):Prop :=
 w.cell? ⟨b,0,none⟩=some (.int .i64 S.p)∧w.cell? ⟨b,1,none⟩=some (.int .i64 S.m)∧w.cell? ⟨b,2,none⟩=some (.slice I S.mod.length J)∧w.cell? ⟨b+1,0,none⟩=some (.int .i64 F.p)∧w.cell? ⟨b+1,1,none⟩=some (.int .i64 F.m)∧w.cell? ⟨b+1,2,none⟩=some (.slice A F.mod.length c)
theorem QqP.keep {w w1:World} {b B:Nat} {S F:Desc} {I A:Option Addr} {J c:Nat} (h:QqP w b S F I A J c)(O:Below B w w1)(T:b+1<B):QqP w1 b S F I A J c:=QtN O (by omega) T h
theorem Qof (S F:FD)(rt:Nat)(AS A:Option Addr)(cS c:Nat)(w:World)(bw:Rd w w.heap.size AS (Qan S.z))(hr:Rd w w.heap.size A (Qan F.z))(hp:S.p=F.p)(aT:Qjl S F rt) :
  Calls Tryz.prog 119 #[.agg #[.int .i64 S.p,.int .i64 S.m,.slice AS S.mod.length cS],.agg #[.int .i64 F.p,.int .i64 F.m,.slice A F.mod.length c]] w fun e w'=>∃v,e=.returned v∧Own w' w.heap.size v (Qov S F rt)∧Below w.heap.size w w':=by
 have bG:=S.m8;have bH:=S.m1;have bI:=S.p256;have bJ:=S.q256;have bK:=F.q256;have a0:rt<F.q:=aT.1;have bL:=QaC S.q (by omega);obtain⟨f,hf⟩:=ε (fun x=>ci (phi S F (rel F.z rt) (rel S.z x)):Nat→Int)
 replace hf:=η hf;have hO:=fun W=>QdI S.p S.m AS S.mod.length cS W (by omega) (by omega)
 rw[Qi6]at hO;replace hO:=fun W=>η (hO W)
 obtain⟨Z,hZ⟩:=ε ((w.alloc (.cells #[.int .i64 S.p,.int .i64 S.m,.slice AS S.mod.length cS] 24)).alloc (.cells #[.int .i64 F.p,.int .i64 F.m,.slice A F.mod.length c] 24));have hB:Below w.heap.size w Z:=by rw[hZ];exact (β).alloc (by simp) _
 have bj:w.heap.size+1<Z.heap.size:=by rw[hZ];simp
 have bk:QqP Z w.heap.size S.z F.z AS A cS c:=by rw[hZ];unfold QqP;simp[go_sem]
 replace hZ:=η hZ;replace hp:=η hp;go_enter Tryz.func119,Tryz.ntmps119;have hh:=bk;unfold QqP at hh;obtain⟨q0,q1,q2,q3,q4,q5⟩:=hh;go_wp2_with fail;rw[←hZ.out];(with_reducible refine (hO Z).out.mono ?_);rintro e w1 ⟨rfl,bc⟩;clear q0 q1 q2 q3 q4 q5;have am:w.heap.size+1<w1.heap.size:=θ bj bc.size;have V:=ζ hB bc;have aD:=bk.keep bc bj;obtain⟨Y,X⟩:=ε (w1.alloc (.cells (Array.replicate S.q (Value.int .i64 0)) 3));have a1:IB Y w1.heap.size (upd S.q 0 f):=by rw[QaP,X];exact IB.newz w1 S.q
 have a2:Y.heap.size=w1.heap.size+1:=by rw[X];simp
 have aV:Below w1.heap.size w1 Y:=by rw[X];exact β
 have a3:Own (Y.alloc (.cells #[] 3)) Y.heap.size (.slice (some ⟨w1.heap.size+1,0,none⟩) 0 0) []:=by
  rw[←a2];exact Own.of_IB (IB.new Y []) ρ (by simp[maxLen])
 have aA:Below Y.heap.size Y (Y.alloc (.cells #[] 3)):=β;have bm:=ζ aV aA;have a4:=bw.below (ζ V bm);have aW:=aA.size;have bo:=aD.keep bm am;unfold QqP at bo;obtain⟨q0,q1,q2,q3,q4,q5⟩:=bo;rw[X]at a3 aA a4 aW q0 q1 q2 q3 q4 q5;have aX:(Qan S.z).length=S.mod.length:=Qaf _;have bM:S.mod.length≤8:=by have:=S.hlen;split at this <;> omega
 replace a2:=η a2;replace X:=η X;go_wp2_with (first
  |(at_builtin;refine Qda rfl _ _ rfl Y.heap.size _ [] w.heap.size AS cS (Qan S.z) (by rw[X.out];exact a3) a4 rfl rfl aX.symm (by rw[aX];simp;omega) (by rw[X.out];exact aW) ?_;intro v4 w4 bg aZ _ _;rw[List.nil_append]at bg)
  |(at_builtin;refine Qbs rfl _ _ rfl Y.heap.size _ _ _ bg rfl rfl rfl (by rw[aX];omega) (τ (by rw[X.out];exact aW) aZ.size) ?_;intro v5 w5 bh bv _ _;rw[show Qan S.z ++ [1]=Qjj S from rfl]at bh))
 rw[←X.out]at aZ aA;have a5:=(aA.trans aZ).trans bv;have aB:=a1.below a5 a1.lt;have a6:=ζ aV a5;have bp:=aD.keep a6 am;obtain⟨A5,c5,rfl,-,bt,-⟩:=bh.form;have bN:(Qjj S).length≤70000:=by unfold Qjj;rw[List.length_append,aX];simp;omega
 have hE:=fun k W a b=>QdN F.z (Qjj S) k A A5 c c5 W a b (by unfold maxLen;omega)
 replace V:=V;clear bh bv aZ aA a3 a4 aW a1 X a5 q0 q1 q2 q3 q4 q5 bg;go_loopw [8] (fun r wr=>∃k:Nat,k≤rt∧r=.int .i64 k∧Below w5.heap.size w5 wr) (fun r _=>rt - (intOf r).toNat)
 case atStart=>exact⟨0,by omega,rfl,κ⟩
 case round =>
  obtain⟨k,hk,rfl,I⟩:=hrel;obtain⟨w6,rfl⟩:=ε (wr:World);have aq:=ζ a6 I;have aY:=ζ V aq;have aE:=aD.keep aq am;by_cases ax:k<rt
  ·have hm:S.m≠1:=fun e=>by
    have:=aT.uniq (QrI e);omega
   have br:decide (1<(S.m:Int))=true:=by simp;omega
   have ae:=hE k w6 (hr.bm aY) (bt.bm I);rw[Qcy (D:=F.z) (by omega),Qjk S F hp.out hm]at ae;obtain⟨y,O⟩:=ε (ci (muV S F (rel F.z k)));have bO:(y !=0)=true:=by rw[bne_iff_ne,O];exact fun e=>aT.2.2 k ax (Qaq.1 e)
   rw[←O]at ae;replace ae:=η ae;replace O:=η O;replace hm:=η hm;unfold QqP at aE;obtain⟨q0,q1,q2,q3,q4,q5⟩:=aE;go_wp2_with fail;(with_reducible refine ae.out.mono ?_);rintro e w7 ⟨rfl,aP⟩;clear q0 q1 q2 q3 q4 q5;go_wp2_with fail;go_roundw
   case rel=>exact⟨k+1,by omega,by go_num,ζ I aP⟩
   case measure=>simp[intOf];omega
  ·obtain rfl:k=rt:=by omega
   by_cases hm:S.m=1
   ·have br:decide (1<(S.m:Int))=false:=by simp;omega
    have aC:=aB.below I aB.lt;replace hm:=η hm;have bs:=aE;unfold QqP at bs;obtain⟨q0,q1,q2,q3,q4,q5⟩:=bs;go_wp2_with fail;clear q0 q1 q2 q3 q4 q5;obtain⟨Wt,rfl⟩:=ε (w6:World);have aF:=aC;have aG:=aq;clear aC aB aq bp I;go_loopw [9] (fun i wr=>∃j:Nat,j≤S.q∧i=.int .i64 j∧IB wr w1.heap.size (upd S.q j f)∧Below w1.heap.size w1 wr) (fun i _=>S.q - (intOf i).toNat)
    case atStart=>exact⟨0,by omega,rfl,aF,aG⟩
    case round =>
     obtain⟨j,hj,rfl,ap,I⟩:=hrel;obtain⟨T,rfl⟩:=ε (wr:World);clear aF aG;have aa:=ζ V I;by_cases ax:j<S.q
     ·have bx:(0:Int)≤(j:Int):=by omega
      have bz:(j:Int)<(S.q:Int):=by omega
      have aH:=aD.keep I am;have aI:=ap.lt;have U:=Qc3 S.z j AS S.mod.length cS T.drew;rw[Qcy (D:=S.z) ax]at U;have ab:=fun A' c' W a b=>QdN F.z (dl (rel S.z j)) k A A' c c' W a b (by rw[QcA];unfold maxLen;omega)
      rw[Qcy (D:=F.z) a0,QpF S F hp.out,show ci (phi S F (rel F.z k) (rel S.z j))=f j from by rw[hf.out],QcA]at ab;unfold Qcj at U;rw[QcA]at U;replace U:=η U;replace ab:=fun A' c' W a b=>η (ab A' c' W a b)
      obtain⟨y,O⟩:=ε (f j);rw[←O]at ab;replace O:=η O;have aJ:=η aH;have aK:w.heap.size+1<T.heap.size:=θ am I.size;have a7:Hid (j<(upd S.q j f).length):=by unfold Hid;rw[Qaz];exact ax
      clear aH;go_wp2_with fail;refine wp_region_held_drew (S:=fun w'=>w'.cell? ⟨w.heap.size,0,none⟩=some (.int .i64 S.p)∧w'.cell? ⟨w.heap.size,1,none⟩=some (.int .i64 S.m)∧w'.cell? ⟨w.heap.size,2,none⟩=some (.slice AS S.mod.length cS)∧w'.cell? ⟨w.heap.size+1,0,none⟩=some (.int .i64 F.p)∧w'.cell? ⟨w.heap.size+1,1,none⟩=some (.int .i64 F.m)∧w'.cell? ⟨w.heap.size+1,2,none⟩=some (.slice A F.mod.length c)) (by kernel_rfl) (by (try dsimp only);exact aJ.out) (fun hHeld=>?_);refine tk 0 ?_;simp only[pS]
      refine tk 1 ?_;simp only[pS]
      refine tk 2 ?_;simp only[pS]
      refine tk 3 ?_;simp only[pS]
      refine tk 4 ?_;simp only[pS]
      refine tk 6 ?_;simp only[pS]
      refine rd 5 fun K J=>?_
      go_simp;go_at_call 120;(with_reducible refine (U).out.mono ?_);rintro e w9 ⟨gd,rfl,bE,bf,aR⟩;have ar:T.heap.size≤w9.heap.size:=aR.size;have ac:=(Below.refl T.heap.size T).drew.trans aR;have aL:=η (aJ.out.keep ac aK);have a8:=ab (some ⟨gd,0,none⟩) S.m w9 ((hr.below (ζ aa ac)).more (ζ aa ac).size) bf.rd;go_wp2_with fail;refine J.out _ _ aL.out fun hHeld=>?_;clear J K;try simp only[pS]
      refine rd 7 fun K J=>?_
      go_simp;go_at_call 72;(with_reducible refine (a8).out.mono ?_);rintro e bF ⟨rfl,av⟩;have aM:=η (aL.out.keep av (θ aK ar));have au:=(ap.below ac aI).below av (θ aI ar);have a9:=au.cell a7.out;have ba:=au.frozen j;go_wp2_with fail;refine J.out _ _ aM.out fun hHeld=>?_;clear J K;try simp only[pS]
      refine tk 8 ?_;simp only[pS]
      refine rd 9 fun K J=>?_
      go_simp;refine J.out _ _ (aM.out.keep (B:=w1.heap.size) (κ.setCell (p:=⟨w1.heap.size,j,none⟩) ρ _) am) fun hHeld=>?_;clear J K;try simp only[pS]
      refine δ ?_;have ao:=au.set_ j y;rw[O.out,QaY,←O.out]at ao;replace ao:=η ao;have bb:=((ζ I ac).trans (av.mono (τ I.size ar))).setCell (p:=⟨w1.heap.size,j,none⟩) ρ (.int .i64 y);clear a9 ba;go_wp2_with fail;go_roundw
      case rel=>exact⟨j+1,by omega,by go_num,ao.out,bb⟩
      case measure=>simp[intOf];omega
     ·obtain rfl:j=S.q:=by omega
      rw[QaR]at ap;go_wp2_with fail;go_ret;have aN:=Own.of_IB ap (B:=w.heap.size) V.size (by rw[Qab];unfold maxLen;omega);rw[Qab]at aN;refine⟨_,rfl,?_,aa⟩;unfold Qov;rw[←hf.out];exact aN
   ·have br:decide (1<(S.m:Int))=true:=by simp;omega
    have ae:=hE k w6 (hr.bm aY) (bt.bm I);rw[Qcy (D:=F.z) a0,Qjk S F hp.out hm,aT.2.1,QaF]at ae;replace ae:=η ae;have aC:=aB.below I aB.lt;replace hm:=η hm;unfold QqP at aE;obtain⟨q0,q1,q2,q3,q4,q5⟩:=aE;go_wp2_with fail;(with_reducible refine ae.out.mono ?_);rintro e Wt ⟨rfl,aP⟩;clear q0 q1 q2 q3 q4 q5;have aG:=ζ aq aP;have aF:=aC.below aP aC.lt;go_wp2_with fail;clear aC aB aq bp I aP;go_loopw [9] (fun i wr=>∃j:Nat,j≤S.q∧i=.int .i64 j∧IB wr w1.heap.size (upd S.q j f)∧Below w1.heap.size w1 wr) (fun i _=>S.q - (intOf i).toNat)
    case atStart=>exact⟨0,by omega,rfl,aF,aG⟩
    case round =>
     obtain⟨j,hj,rfl,ap,I⟩:=hrel;obtain⟨T,rfl⟩:=ε (wr:World);clear aF aG;have aa:=ζ V I;by_cases ax:j<S.q
     ·have bx:(0:Int)≤(j:Int):=by omega
      have bz:(j:Int)<(S.q:Int):=by omega
      have aH:=aD.keep I am;have aI:=ap.lt;have U:=Qc3 S.z j AS S.mod.length cS T.drew;rw[Qcy (D:=S.z) ax]at U;have ab:=fun A' c' W a b=>QdN F.z (dl (rel S.z j)) k A A' c c' W a b (by rw[QcA];unfold maxLen;omega)
      rw[Qcy (D:=F.z) a0,QpF S F hp.out,show ci (phi S F (rel F.z k) (rel S.z j))=f j from by rw[hf.out],QcA]at ab;unfold Qcj at U;rw[QcA]at U;replace U:=η U;replace ab:=fun A' c' W a b=>η (ab A' c' W a b)
      obtain⟨y,O⟩:=ε (f j);rw[←O]at ab;replace O:=η O;have aJ:=η aH;have aK:w.heap.size+1<T.heap.size:=θ am I.size;have a7:Hid (j<(upd S.q j f).length):=by unfold Hid;rw[Qaz];exact ax
      clear aH;go_wp2_with fail;refine wp_region_held_drew (S:=fun w'=>w'.cell? ⟨w.heap.size,0,none⟩=some (.int .i64 S.p)∧w'.cell? ⟨w.heap.size,1,none⟩=some (.int .i64 S.m)∧w'.cell? ⟨w.heap.size,2,none⟩=some (.slice AS S.mod.length cS)∧w'.cell? ⟨w.heap.size+1,0,none⟩=some (.int .i64 F.p)∧w'.cell? ⟨w.heap.size+1,1,none⟩=some (.int .i64 F.m)∧w'.cell? ⟨w.heap.size+1,2,none⟩=some (.slice A F.mod.length c)) (by kernel_rfl) (by (try dsimp only);exact aJ.out) (fun hHeld=>?_);refine tk 0 ?_;simp only[pS]
      refine tk 1 ?_;simp only[pS]
      refine tk 2 ?_;simp only[pS]
      refine tk 3 ?_;simp only[pS]
      refine tk 4 ?_;simp only[pS]
      refine tk 6 ?_;simp only[pS]
      refine rd 5 fun K J=>?_
      go_simp;go_at_call 120;(with_reducible refine (U).out.mono ?_);rintro e w9 ⟨gd,rfl,bE,bf,aR⟩;have ar:T.heap.size≤w9.heap.size:=aR.size;have ac:=(Below.refl T.heap.size T).drew.trans aR;have aL:=η (aJ.out.keep ac aK);have a8:=ab (some ⟨gd,0,none⟩) S.m w9 ((hr.below (ζ aa ac)).more (ζ aa ac).size) bf.rd;go_wp2_with fail;refine J.out _ _ aL.out fun hHeld=>?_;clear J K;try simp only[pS]
      refine rd 7 fun K J=>?_
      go_simp;go_at_call 72;(with_reducible refine (a8).out.mono ?_);rintro e bF ⟨rfl,av⟩;have aM:=η (aL.out.keep av (θ aK ar));have au:=(ap.below ac aI).below av (θ aI ar);have a9:=au.cell a7.out;have ba:=au.frozen j;go_wp2_with fail;refine J.out _ _ aM.out fun hHeld=>?_;clear J K;try simp only[pS]
      refine tk 8 ?_;simp only[pS]
      refine rd 9 fun K J=>?_
      go_simp;refine J.out _ _ (aM.out.keep (B:=w1.heap.size) (κ.setCell (p:=⟨w1.heap.size,j,none⟩) ρ _) am) fun hHeld=>?_;clear J K;try simp only[pS]
      refine δ ?_;have ao:=au.set_ j y;rw[O.out,QaY,←O.out]at ao;replace ao:=η ao;have bb:=((ζ I ac).trans (av.mono (τ I.size ar))).setCell (p:=⟨w1.heap.size,j,none⟩) ρ (.int .i64 y);clear a9 ba;go_wp2_with fail;go_roundw
      case rel=>exact⟨j+1,by omega,by go_num,ao.out,bb⟩
      case measure=>simp[intOf];omega
     ·obtain rfl:j=S.q:=by omega
      rw[QaR]at ap;go_wp2_with fail;go_ret;have aN:=Own.of_IB ap (B:=w.heap.size) V.size (by rw[Qab];unfold maxLen;omega);rw[Qab]at aN;refine⟨_,rfl,?_,aa⟩;unfold Qov;rw[←hf.out];exact aN
end
section
noncomputable def QjI (S F:FD)(rt N:Nat)(u:Nat→R S.z):List Int:=QaK F.z N fun j=>phi S F (rel F.z rt) (u j)
end
section
open Cw.CField (inv)
theorem QuM (F:FD)(pts mul:List Int){kn:Nat} {m:List Int} (h:m.length≤kn):Qb2 kn pts.length (gM F.z pts mul) (fun j=>eli F.z ((Qa5 F.z pts mul m)[j]?.getD 0)):=by
 refine⟨cfR F.z m,fun j I=>?_⟩;dsimp only;rw[QkQ F.z I,Qam,QbI F.z m _ h];unfold vl gM;rw[←Qal];exact Qaa fun i _=>by ac_rfl
theorem QuN (F:FD)(pts mul:List Int){kn:Nat} {v:Nat→R F.z} (h:Qb2 kn pts.length (gM F.z pts mul) v):∃m:List Int,m.length=kn∧elB F.z m=true∧Qa5 F.z pts mul m=QaK F.z pts.length v:=by
 obtain⟨c,J⟩:=h;refine⟨lst kn fun i=>ci (c i),Qab _ _,QaJ.2 fun j I=>?_,?_⟩
 ·rw[Qab]at I;rw[Qas _ I];exact⟨Qa8 _,Qeu _⟩
 ·refine Qay fun j I=>?_
  rw[J j I,QbI F.z (lst kn fun i=>ci (c i)) _ (N:=kn) (by rw[Qab];exact Nat.le_refl _)];unfold vl gM;rw[←Qal]
  congr 1
  exact Qaa fun i O=>by
   unfold cfR;rw[Qas _ O,Qam]
   ac_rfl
theorem QdA (S F:FD)(rt N:Nat)(u:Nat→R S.z){j:Nat} (I:j<N):(QjI S F rt N u)[j]?.getD 0=ci (phi S F (rel F.z rt) (u j)):=Qa0 _ _ I
theorem QgY (S F:FD)(rt N:Nat)(u:Nat→R S.z):(QjI S F rt N u).length=N:=Qae _ _ _
theorem Qm1 (S F:FD)(rt N:Nat)(u:Nat→R S.z):elB F.z (QjI S F rt N u)=true:=QaJ.2 fun j I=>by
 rw[QgY]at I;rw[QdA S F rt N u I];exact⟨Qa8 _,Qeu _⟩
section
variable {S F:FD} {rt kn:Nat} {pts mul er:List Int} {u v:Nat→R S.z}
theorem QjJ (hp:S.p=F.p)(h0:muV S F (rel F.z rt)=0)(N:Nat)(er:List Int)(u v:Nat→R S.z):Qbu (QjI S F rt N v) (QjI S F rt N u) er N=Qbu (QaK S.z N v) (QaK S.z N u) er N :=
 QiJ (fun i I _=>by
  rw[QdA S F rt N v I,QdA S F rt N u I,Qa0 _ _ I,Qa0 _ _ I];exact⟨fun h=>congrArg ci (Qfc (Qc0 hp) h0 (Qeh h)),fun h=>by rw[Qeh h]⟩) N (Nat.le_refl N)
def QwO (S F:FD)(rt kn:Nat)(pts mul:List Int)(v:Nat→R S.z):Prop:=Qcc S F (rel F.z rt) pts.length (pts.length - kn) (Qsr F pts mul) v
theorem QuO (hz:gchkD F.z kn pts mul=0){m:List Int} (I:m.length≤kn)(h:Qa5 F.z pts mul m=QjI S F rt pts.length v):QwO S F rt kn pts mul v:=by
 refine (QmY hz (wl:=QjI S F rt pts.length v) fun j J=>by rw[QdA S F rt _ v J,Qam]).2 ((QlP hz).2 ?_);rw[←h];exact QuM F pts mul I
theorem QjK (hz:gchkD F.z kn pts mul=0)(h:QwO S F rt kn pts mul v):∃m:List Int,m.length=kn∧elB F.z m=true∧Qa5 F.z pts mul m=QjI S F rt pts.length v:=by
 have J:=(QlP hz).1 ((QmY hz (wl:=QjI S F rt pts.length v) fun j I=>by rw[QdA S F rt _ v I,Qam]).1 h);obtain⟨m,O,T,U⟩:=QuN F pts mul J;refine⟨m,O,T,U.trans (Qay fun j I=>?_)⟩
 show ci (eli F.z ((QjI S F rt pts.length v)[j]?.getD 0))=_
 rw[QdA S F rt _ v I,Qam]
def Qsu (S F:FD)(rt kn:Nat)(pts mul er:List Int)(u:Nat→R S.z):Prop:=∀v,QwO S F rt kn pts mul v→pts.length<2*(Qbu (QaK S.z pts.length v) (QaK S.z pts.length u) er pts.length).length+er.length+kn
def QqB (S F:FD)(rt kn:Nat)(pts mul er:List Int)(u v:Nat→R S.z):Prop:=QwO S F rt kn pts mul v∧2*(Qbu (QaK S.z pts.length v) (QaK S.z pts.length u) er pts.length).length+er.length+kn≤pts.length
variable (hp:S.p=F.p) (h0:muV S F (rel F.z rt)=0) (hz:gchkD F.z kn pts mul=0)
include hp h0 hz
theorem Qwp (h:QgF F.z kn pts mul (QjI S F rt pts.length u) er):Qsu S F rt kn pts mul er u:=fun v O=>by
 obtain⟨m,T,-,J⟩:=QjK hz O;have I:=h m (by omega);rw[J,QjJ hp h0]at I;exact I
theorem Qwq {m:List Int} (h:QfU F.z kn pts mul (QjI S F rt pts.length u) er m)(I:Qa5 F.z pts mul m=QjI S F rt pts.length v):QqB S F rt kn pts mul er u v:=by
 refine⟨QuO hz (by have:=h.1;omega) I,?_⟩;have J:=h.2.2;rw[I,QjJ hp h0]at J;exact J
theorem Qm2 (T:∀x∈er,0≤x∧x<(pts.length:Int))(U:er.Nodup){m:List Int} (h:QfU F.z kn pts mul (QjI S F rt pts.length u) er m)(I:QqB S F rt kn pts mul er u v):Qa5 F.z pts mul m=QjI S F rt pts.length v:=by
 obtain⟨V,X,-,O⟩:=QjK hz I.1;have J:=I.2;rw[←QjJ hp h0,←O]at J;rw[←O];exact Qsj hz (QgY S F rt pts.length u) (Qm1 S F rt pts.length u) T U (by have:=h.1;omega) (by omega) h.2.2 J
theorem QuP (I:∀x∈er,0≤x∧x<(pts.length:Int))(J:er.Nodup){m:List Int} (h:QfU F.z kn pts mul (QjI S F rt pts.length u) er m){j:Nat} (O:j<pts.length)
  (T:∀x:R S.z,ci (phi S F (rel F.z rt) x)≠(Qa5 F.z pts mul m)[j]?.getD 0):Qsu S F rt kn pts mul er u:=fun v U=>by
 refine Nat.lt_of_not_le fun V=>T (v j) ?_
 rw[Qm2 hp h0 hz I J h ⟨U,V⟩,QdA S F rt _ v O]
theorem QuQ (X:∀x∈er,0≤x∧x<(pts.length:Int))(Y:er.Nodup){I:Nat→R S.z} (J:QqB S F rt kn pts mul er u v)(aa:QqB S F rt kn pts mul er u I):∀j,j<pts.length→v j=I j:=by
 obtain⟨m,hm,he,V⟩:=QjK hz J.1;have O:=J.2;rw[←QjJ hp h0,←V]at O;have T:=Qm2 hp h0 hz X Y ⟨hm,he,O⟩ aa;rw[V]at T;intro j hj;have U:=congrArg (fun l:List Int=>l[j]?.getD 0) T;simp only[QdA S F rt _ _ hj]at U;exact Qfc (Qc0 hp) h0 (Qeh U)
end
theorem QhX {n kn f e:Nat} (I:kn≤n):(e:Int)≤QlN ((n:Int) - (kn:Int)+1) (f:Int)↔2*e+f+kn≤n:=by
 by_cases h:(f:Int)≤(n:Int) - (kn:Int)+1 - 1
 ·rw[QgX (by omega) (by omega) h];omega
 ·rw[Qfn (by omega)];omega
end
section
theorem Qog (P M:Int)(ml:List Int)(Q N:Int)(U poly pts:List Int)(A B V X:Option Addr)(c b c1 c2:Nat)(w:World)(hP:I64 P)(hM:I64 M)(hl:ml.length≤maxLen)(hr:Rd w w.heap.size A ml)(J:¬ Qcq P M ml) :
  Calls Tryz.prog 124 #[.agg #[.int .i64 P,.int .i64 M,.slice A ml.length c,.int .i64 Q,.int .i64 N,.slice B U.length b,.slice V poly.length c1,.slice X pts.length c2]] w fun e w'=>e=.returned (.tuple #[.agg #[.int .i64 0,.int .i64 0,.slice none 0 0,.pointer none,.slice none 0 0,.slice none 0 0,.int .i64 0],.slice none 0 0,.int .i64 1])∧Below w.heap.size w w':=by
 have Y:=QnV P M ml A c;rw[Qej J]at Y;obtain⟨s,O⟩:=ε (w.heap.size);obtain⟨Z,T⟩:=ε (((w.alloc (.cells #[.int .i64 P,.int .i64 M,.slice A ml.length c,.int .i64 Q,.int .i64 N,.slice B U.length b,.slice V poly.length c1,.slice X pts.length c2] 44)).alloc (.cells #[.int .i64 0,.int .i64 0,.slice none 0 0,.pointer none,.slice none 0 0,.slice none 0 0,.int .i64 0] 154)).alloc (.cells #[.int .i64 0,.int .i64 0,.slice none 0 0,.pointer none,.slice none 0 0,.slice none 0 0,.int .i64 0] 154));have I:Hid (GP w s (#[.int .i64 P,.int .i64 M,.slice A ml.length c,.int .i64 Q,.int .i64 N,.slice B U.length b,.slice V poly.length c1,.slice X pts.length c2]).toList Z.heap.size Z):=by
  rw[T,O];exact η (Qqw w _ _ _)
 have hq:=η (Y Z hP hM hl ((hr.below I.out.bw).more I.out.wB));replace T:=η T;clear Y hP hM hl J;go_enter Tryz.func124,Tryz.ntmps124;obtain⟨a0,a1,a2,a3,a4,a5,a6,a7⟩:=Bxs.c8 I.out.G;go_wp2_with fail;rw[←T.out];simp only[←O];have ar:w.heap.size≤s:=Nat.le_of_eq O.symm;replace O:=η O;go_wp2_with fail;(with_reducible refine hq.out.mono ?_);rintro e w1 ⟨rfl,J⟩;clear hq a0 a1 a2 a3 a4 a5 a6 a7;replace I:=η (I.out.bm J);clear J;obtain⟨u0,u1,u2,u3,u4,u5,u6⟩:=I.out.R.c7;obtain⟨v0,v1,v2,v3,v4,v5,v6⟩:=I.out.R.f7;obtain⟨z0,z1,z2,z3,z4,z5,z6⟩:=I.out.Z.c7;have af:Hid (Below w.heap.size w (Qbh w1 (s+1) 0 [.int .i64 0,.int .i64 0,.slice none 0 0,.pointer none,.slice none 0 0,.slice none 0 0,.int .i64 0])):=stAll_below (by omega) _ _ _ I.out.bw;go_wp2_with fail;exact bodyPost_ret (v:=.tuple #[.agg #[.int .i64 0,.int .i64 0,.slice none 0 0,.pointer none,.slice none 0 0,.slice none 0 0,.int .i64 0],.slice none 0 0,.int .i64 1]) (by simp[results,Tryz.results124,go_sem,u0,u1,u2,u3,u4,u5,u6]) rfl ⟨rfl,af.out⟩
theorem Qoh (S:Desc)(Q N:Int)(O poly pts:List Int)(A B X Y:Option Addr)(c b c1 c2:Nat)(w:World)(hr:Rd w w.heap.size A (Qan S))(hS:Qcq S.p S.m (Qan S))(hQ:I64 Q)(hN:I64 N)(hl:O.length≤maxLen)(ao:Rd w w.heap.size B O)(J:¬ Qcq Q N O) :
  Calls Tryz.prog 124 #[.agg #[.int .i64 S.p,.int .i64 S.m,.slice A S.mod.length c,.int .i64 Q,.int .i64 N,.slice B O.length b,.slice X poly.length c1,.slice Y pts.length c2]] w fun e w'=>e=.returned (.tuple #[.agg #[.int .i64 0,.int .i64 0,.slice none 0 0,.pointer none,.slice none 0 0,.slice none 0 0,.int .i64 0],.slice none 0 0,.int .i64 1])∧Below w.heap.size w w':=by
 have aa:=Qjr S A c;rw[QdB hS]at aa;have ap:=fun W a=>η (Qvs Q N O B b W hQ.2 hN.2 hl a J)
 obtain⟨s,U⟩:=ε (w.heap.size);obtain⟨Z,V⟩:=ε (((w.alloc (.cells #[.int .i64 S.p,.int .i64 S.m,.slice A S.mod.length c,.int .i64 Q,.int .i64 N,.slice B O.length b,.slice X poly.length c1,.slice Y pts.length c2] 44)).alloc (.cells #[.int .i64 0,.int .i64 0,.slice none 0 0,.pointer none,.slice none 0 0,.slice none 0 0,.int .i64 0] 154)).alloc (.cells #[.int .i64 0,.int .i64 0,.slice none 0 0,.pointer none,.slice none 0 0,.slice none 0 0,.int .i64 0] 154));have I:Hid (GP w s (#[.int .i64 S.p,.int .i64 S.m,.slice A S.mod.length c,.int .i64 Q,.int .i64 N,.slice B O.length b,.slice X poly.length c1,.slice Y pts.length c2]).toList Z.heap.size Z):=by
  rw[V,U];exact η (Qqw w _ _ _)
 have T:=η (aa Z ((hr.below I.out.bw).more I.out.wB));replace V:=η V;clear aa hQ hN hl J hS;go_enter Tryz.func124,Tryz.ntmps124;obtain⟨a0,a1,a2,a3,a4,a5,a6,a7⟩:=Bxs.c8 I.out.G;go_wp2_with fail;rw[←V.out];simp only[←U];have ax:w.heap.size≤s:=Nat.le_of_eq U.symm;replace U:=η U;go_wp2_with fail;(with_reducible refine T.out.mono ?_);rintro e w1 ⟨rfl,J⟩;clear T a0 a1 a2 a3 a4 a5 a6 a7;replace I:=η (I.out.bm J);clear J;have T:=ap w1 ((ao.below I.out.bw).more I.out.wB);obtain⟨a0,a1,a2,a3,a4,a5,a6,a7⟩:=Bxs.c8 I.out.G;go_wp2_with fail;(with_reducible refine T.out.mono ?_);rintro e w2 ⟨rfl,J⟩;clear T a0 a1 a2 a3 a4 a5 a6 a7;replace I:=η (I.out.bm J);clear J;obtain⟨u0,u1,u2,u3,u4,u5,u6⟩:=I.out.R.c7;obtain⟨v0,v1,v2,v3,v4,v5,v6⟩:=I.out.R.f7;obtain⟨z0,z1,z2,z3,z4,z5,z6⟩:=I.out.Z.c7;have aq:Hid (Below w.heap.size w (Qbh w2 (s+1) 0 [.int .i64 0,.int .i64 0,.slice none 0 0,.pointer none,.slice none 0 0,.slice none 0 0,.int .i64 0])):=stAll_below (by omega) _ _ _ I.out.bw;go_wp2_with fail;exact bodyPost_ret (v:=.tuple #[.agg #[.int .i64 0,.int .i64 0,.slice none 0 0,.pointer none,.slice none 0 0,.slice none 0 0,.int .i64 0],.slice none 0 0,.int .i64 1]) (by simp[results,Tryz.results124,go_sem,u0,u1,u2,u3,u4,u5,u6]) rfl ⟨rfl,aq.out⟩
theorem QlU (P M:Int)(ml:List Int)(Q N:Int)(U poly pts:List Int)(A B V X:Option Addr)(c b c1 c2:Nat)(w:World)(hP:I64 P)(hM:I64 M)(hl:ml.length≤maxLen)(hr:Rd w w.heap.size A ml)(I:¬ Qcq P M ml) :
  Calls Tryz.prog 21 #[.agg #[.int .i64 P,.int .i64 M,.slice A ml.length c,.int .i64 Q,.int .i64 N,.slice B U.length b,.slice V poly.length c1,.slice X pts.length c2]] w fun e w'=>e=.returned (.int .i64 1)∧Below w.heap.size w w':=by
 have Y:=fun W h=>Qdd P M ml A c W hP.2 hM.2 hl h
 rw[Qej I]at Y;obtain⟨s,T⟩:=ε (w.heap.size);obtain⟨Z,O⟩:=ε (w.alloc (.cells #[.int .i64 P,.int .i64 M,.slice A ml.length c,.int .i64 Q,.int .i64 N,.slice B U.length b,.slice V poly.length c1,.slice X pts.length c2] 44));have J:Below w.heap.size w Z:=by rw[O];exact β
 have hG:Hid (Bxs Z s (#[.int .i64 P,.int .i64 M,.slice A ml.length c,.int .i64 Q,.int .i64 N,.slice B U.length b,.slice V poly.length c1,.slice X pts.length c2]).toList):=by rw[O,T];exact η (Bxs.new w _ _)
 have ab:s<Z.heap.size:=by rw[O,T];simp
 have hq:=η (Y Z (hr.bm J));replace O:=η O;clear Y hP hM hl I;go_enter Tryz.func21,Tryz.ntmps21;obtain⟨a0,a1,a2,a3,a4,a5,a6,a7⟩:=Bxs.c8 hG.out;go_wp2_with fail;rw[←O.out];simp only[←T];have ap:w.heap.size≤s:=Nat.le_of_eq T.symm;replace T:=η T;go_wp2_with fail;(with_reducible refine hq.out.mono ?_);rintro e w1 ⟨rfl,I⟩;clear hq a0 a1 a2 a3 a4 a5 a6 a7;replace J:=ζ J I;replace hG:=η (hG.out.keep I ab);replace ab:=θ ab I.size;clear I;go_wp2_with fail;go_ret;exact⟨rfl,J⟩
theorem QlV (S:Desc)(Q N:Int)(O poly pts:List Int)(A B A1 A2:Option Addr)(c b c1 c2:Nat)(w:World)(hr:Rd w w.heap.size A (Qan S))(hS:Qcq S.p S.m (Qan S))(hQ:I64 Q)(hN:I64 N)(hl:O.length≤maxLen)(au:Rd w w.heap.size B O)(J:¬ Qcq Q N O) :
  Calls Tryz.prog 21 #[.agg #[.int .i64 S.p,.int .i64 S.m,.slice A S.mod.length c,.int .i64 Q,.int .i64 N,.slice B O.length b,.slice A1 poly.length c1,.slice A2 pts.length c2]] w fun e w'=>e=.returned (.int .i64 1)∧Below w.heap.size w w':=by
 have av:=S.p256;have aw:=S.m8;have aq:(Qan S).length≤maxLen:=by rw[Qaf];have:=S.hlen;rw[this];unfold maxLen;split <;> omega
 have ac:=fun W h=>Qdd S.p S.m (Qan S) A c W (by omega) (by omega) aq h
 rw[QdB hS,Qaf]at ac;have X:=fun W h=>Qdd Q N O B b W hQ.2 hN.2 hl h
 rw[Qej J]at X;replace X:=fun W h=>η (X W h)
 obtain⟨s,U⟩:=ε (w.heap.size);obtain⟨Z,T⟩:=ε (w.alloc (.cells #[.int .i64 S.p,.int .i64 S.m,.slice A S.mod.length c,.int .i64 Q,.int .i64 N,.slice B O.length b,.slice A1 poly.length c1,.slice A2 pts.length c2] 44));have I:Below w.heap.size w Z:=by rw[T];exact β
 have Y:Hid (Bxs Z s (#[.int .i64 S.p,.int .i64 S.m,.slice A S.mod.length c,.int .i64 Q,.int .i64 N,.slice B O.length b,.slice A1 poly.length c1,.slice A2 pts.length c2]).toList):=by rw[T,U];exact η (Bxs.new w _ _)
 have ad:s<Z.heap.size:=by rw[T,U];simp
 have V:=η (ac Z (hr.bm I));replace T:=η T;clear ac hQ hN hl J hS aq;go_enter Tryz.func21,Tryz.ntmps21;obtain⟨a0,a1,a2,a3,a4,a5,a6,a7⟩:=Bxs.c8 Y.out;go_wp2_with fail;rw[←T.out];simp only[←U];have ax:w.heap.size≤s:=Nat.le_of_eq U.symm;replace U:=η U;go_wp2_with fail;(with_reducible refine V.out.mono ?_);rintro e w1 ⟨rfl,J⟩;clear V a0 a1 a2 a3 a4 a5 a6 a7;replace I:=ζ I J;replace Y:=η (Y.out.keep J ad);replace ad:=θ ad J.size;clear J;have V:=X w1 (au.bm I);obtain⟨a0,a1,a2,a3,a4,a5,a6,a7⟩:=Bxs.c8 Y.out;go_wp2_with fail;(with_reducible refine V.out.mono ?_);rintro e w2 ⟨rfl,J⟩;clear V a0 a1 a2 a3 a4 a5 a6 a7;replace I:=ζ I J;clear J;go_wp2_with fail;go_ret;exact⟨rfl,I⟩
end
section
section
variable {S F:FD} {r:R F.z} {poly pts:List Int} {u:Nat→R S.z}
theorem QdU {T:Desc} (hz:QcP T F.z poly pts=0):∃n,poly.length=n+1∧cfR F.z poly n≠0∧(∀j,j<pts.length→QaW F.z poly (eli F.z (pts[j]?.getD 0))≠0)∧∀i j,i<pts.length→j<pts.length→eli F.z (pts[i]?.getD 0)=eli F.z (pts[j]?.getD 0)→i=j:=by
 obtain⟨-,-,V,X,Y,ab,-,I,aa⟩:=QbW hz;obtain⟨n,J⟩:∃n,poly.length=n+1:=⟨poly.length - 1,by omega⟩;refine⟨n,J,?_,fun j O e=>aa ?_,QlE V Y⟩
 ·rw[J,Nat.add_sub_cancel]at I;exact QhC (QaJ.1 X n (by omega)) I
 ·have U:(QfW F.z poly pts)[j]?.getD 0=0:=by unfold QfW;rw[Qas _ O,e,QaF]
  rw[←U];exact Qcm (by unfold QfW;rw[Qab];exact O)
theorem QkT {n N:Nat} (T:poly.length=n+1)(h0:cfR F.z poly n≠0)(hz:∀j,j<N→QaW F.z poly (eli F.z (pts[j]?.getD 0))≠0) :
  Qcc S F r N n (QgH F poly pts) u↔(plI F.z poly).dvd (nP ((List.range N).map fun j=>(eli F.z (pts[j]?.getD 0),phi S F r (u j)))):=by
 rw[QlI (g:=plI F.z poly) (n:=n) (fun t U=>Qao _ (by omega)) h0 _ fun a O=>by
  obtain⟨j,J,rfl⟩:=List.mem_map.1 O;rw[QeE];exact hz j (List.mem_range.1 J)]
 constructor
 ·intro h i I;rw[QjH];exact h i I
 ·intro h i I;have:=h i I;rw[QjH]at this;exact this
theorem QkU {I:List Int} {n m N:Nat} (J:poly.length=n+1)(h0:cfR F.z poly n≠0)(hz:∀j,j<N→QaW F.z poly (eli F.z (pts[j]?.getD 0))≠0)(O:I.length=m+1)(T:cfR F.z I m≠0)(U:∀j,j<N→QaW F.z I (eli F.z (pts[j]?.getD 0))≠0)
  (V:(plI F.z poly).dvd (plI F.z I)) (h:Qcc S F r N m (QgH F I pts) u):Qcc S F r N n (QgH F poly pts) u :=
 (QkT J h0 hz).2 (V.trans ((QkT O T U).1 h))
end
theorem QkV {S F I:FD} (h:I.z=F.z){rt J:Nat} (T:Qjl S F rt)(U:Qjl S I J){N t:Nat} {p pts:List Int} {u:Nat→R S.z} (V:Qcc S I (rel I.z J) N t (QgH I p pts) u):Qcc S F (rel F.z rt) N t (QgH F p pts) u:=by
 obtain⟨D,g,a,b,c⟩:=F;obtain⟨O,Y,a2,b2,c2⟩:=I;have X:O=D:=h;subst X;have e:J=rt:=Qjl.uniq (S:=S) (F:=⟨O,Y,a2,b2,c2⟩) U T;subst e;exact V
theorem Qm3 (D:Desc)(p q:List Int):plI D (Qix D p q)=plI D p*plI D q:=Pl.ext' fun t=>congrFun (QfJ D p q) t
end
section
open Cw.CField (inv)
theorem Qc4.far {w:World} {B n:Nat} {v:Value} {rows:Nat→List Int} (h:Qc4 w B v n rows){b:Nat} (hb:b<B)(j:Nat)(u:Value):Qc4 (w.setCell ⟨b,j,none⟩ u) B v n rows:=by
 obtain⟨O,T,I,U⟩:=h;refine⟨O,T,World.ownsRow.kept I (QbB w ⟨b,j,none⟩ u) ?_,fun i hi=>?_⟩
 ·right;intro e;have:=(World.ownsRow.lt I b e).1;omega
 ·obtain⟨V,X,Y,a2,a3,a4,J⟩:=U i hi;exact⟨V,X,Y,(a2.farN (fun hn a e=>by have:=(J hn a e).2;omega) j u).more (by simp[World.setCell]),a3,a4,J⟩
end
end Go.Proofs

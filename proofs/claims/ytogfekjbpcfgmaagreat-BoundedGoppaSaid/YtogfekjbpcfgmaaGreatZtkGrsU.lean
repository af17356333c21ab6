/- Layer 18 of the program: Dual. -/
import Derived.Test.YtogfekjbpcfgmaaGreatZtkGpoC
import Derived.Test.YtogfekjbpcfgmaaGreatZtkGrsG
set_option maxRecDepth 100000
set_option maxHeartbeats 16000000
set_option linter.unusedVariables false
namespace Go.Proofs
open Go.RowKit Cw
section
open Cw.CField (inv)
def QcH (D:Desc)(pts:List Int)(i:Nat)(u:R D):Nat→R D
 |0=>u
 |k+1=>if k=i then QcH D pts i u k else QcH D pts i u k*(eli D (pts[i]?.getD 0) - eli D (pts[k]?.getD 0))
noncomputable def QeW (F:FD)(pts mul:List Int)(i:Nat):Int:=ci (inv (QcH F.z pts i (eli F.z (mul[i]?.getD 0)) pts.length))
noncomputable def Qck (F:FD)(pts mul:List Int):List Int:=lst pts.length (QeW F pts mul)
def Qox (l:List Int)(k:Nat)(f:Nat→Int):List Int:=lst l.length fun i=>if i<k then f i else l[i]?.getD 0
theorem Qcb (l:List Int)(k:Nat)(f:Nat→Int):(Qox l k f).length=l.length:=Qab _ _
theorem QkA (l:List Int)(f:Nat→Int):Qox l 0 f=l:=by
 apply List.ext_getElem
 ·exact Qcb _ _ _
 ·intro i J I;simp[Qox,lst,I]
theorem QmA (l:List Int)(k:Nat)(f:Nat→Int):(Qox l k f).set k (f k)=Qox l (k+1) f:=by
 unfold Qox;rw[Qd1];exact Qay fun i _=>by
  by_cases h:i=k
  ·subst h;simp
  ·by_cases I:i<k
   ·simp[h,I,show i<k+1 by omega]
   ·simp[h,I,show ¬ i<k+1 by omega]
theorem QkB (l:List Int)(f:Nat→Int):Qox l l.length f=lst l.length f:=Qay fun i h=>by simp[h]
theorem Own.blk {w:World} {B n c:Nat} {A:Option Addr} {l:List Int} (h:Own w B (.slice A n c) l)(J:0<l.length):∃g,A=some ⟨g,0,none⟩:=by
 rcases h.2 with ⟨-,h0⟩ |⟨g,cap,O,I,-⟩
 ·omega
 ·cases I;exact⟨g,rfl⟩
theorem Qiy (D:Desc)(pts:List Int)(i:Nat)(u:R D):QcH D pts i u (i+1)=QcH D pts i u i:=if_pos rfl
theorem QcI (D:Desc)(pts:List Int){i k:Nat} (u:R D)(h:k≠i):QcH D pts i u (k+1)=QcH D pts i u k*(eli D (pts[i]?.getD 0) - eli D (pts[k]?.getD 0)):=if_neg h
theorem Rd.farD {w:World} {B g n c:Nat} {A:Option Addr} {l:List Int} (h:Rd w B A l)(J:QcR A l (.slice (some ⟨g,0,none⟩) n c))(i:Nat)(u:Value):Rd (w.setCell ⟨g,i,none⟩ u) B A l:=fun I =>
 Rd.far h (fun b e O=>J (List.length_pos_iff.1 I) b e (by rw[←O];rfl)) i u I
theorem Six.far {w:World} {b g:Nat} {I v1 v2 J O T:Value} (h:Six w b I v1 v2 J O T)(U:g≠b)(i:Nat)(u:Value):Six (w.setCell ⟨g,i,none⟩ u) b I v1 v2 J O T:=by
 obtain⟨Y,a1,a2,a3,a4,a5,f0,f1,f2,f3,f4,f5⟩:=h;have V:∀j,(w.setCell ⟨g,i,none⟩ u).cell? ⟨b,j,none⟩=w.cell? ⟨b,j,none⟩:=fun j=>World.cell?_setCell_other _ _ _ _ (by intro e;injection e with e1;exact U (by first |exact e1 |exact e1.symm))
 have X:∀j,(w.setCell ⟨g,i,none⟩ u).frozen? ⟨b,j,none⟩=w.frozen? ⟨b,j,none⟩:=fun j=>by simp[go_sem]
 unfold Six;simp only[V,X];exact⟨Y,a1,a2,a3,a4,a5,f0,f1,f2,f3,f4,f5⟩
def QkC (D:Desc)(K:Int)(pts mul:List Int)(w:World)(e:Ending)(w':World):Prop :=
 Below w.heap.size w w'∧((gchkD D K pts mul≠0∧e=.returned (.tuple #[.agg #[.int .i64 0,.int .i64 0,.slice none 0 0,.int .i64 0,.slice none 0 0,.slice none 0 0],.int .i64 (gchkD D K pts mul)])) ∨
  (gchkD D K pts mul=0∧∃F:FD,F.z=D∧∃I U J O T V,e=.returned (.tuple #[.agg #[.int .i64 D.p,.int .i64 D.m,.slice I D.mod.length U,.int .i64 (pts.length - K),.slice J pts.length O,.slice T pts.length V],.int .i64 0]) ∧
   Rd w' w'.heap.size I (Qan D)∧Rd w' w'.heap.size J pts∧Rd w' w'.heap.size T (Qck F pts mul)∧pts.length≤O∧O≤maxLen∧(∀a,I=some a→w.heap.size≤a.block)∧(∀a,J=some a→w.heap.size≤a.block)∧∀a,T=some a→w.heap.size≤a.block))
theorem QrR (D:Desc)(K:Int)(pts mul:List Int)(A A1 A2:Option Addr)(c c1 c2:Nat)(w:World)(hr:Rd w w.heap.size A (Qan D))(hg:Qcq D.p D.m (Qan D))(aG:Rd w w.heap.size A1 pts)(aW:Rd w w.heap.size A2 mul)(h1:pts.length≤c1)(bR:c1≤maxLen)(h2:mul.length≤maxLen) :
  Calls Tryz.prog 131 #[.agg #[.int .i64 D.p,.int .i64 D.m,.slice A D.mod.length c,.int .i64 K,.slice A1 pts.length c1,.slice A2 mul.length c2]] w (QkC D K pts mul w):=by
 have hN:=fun W a b c'=>η (Qln D K pts mul A A1 A2 c c1 c2 W a hg b c' h1 bR h2)
 obtain⟨Z,hZ⟩:=ε ((w.alloc (.cells #[.int .i64 D.p,.int .i64 D.m,.slice A D.mod.length c,.int .i64 K,.slice A1 pts.length c1,.slice A2 mul.length c2] 94)).alloc (.cells #[.int .i64 0,.int .i64 0,.slice none 0 0,.int .i64 0,.slice none 0 0,.slice none 0 0] 94));have T:Below w.heap.size w Z:=by rw[hZ];exact (β).alloc (by simp) _
 have cR:Z.heap.size=w.heap.size+2:=by rw[hZ];simp
 have k0:=η (show Z.cell? ⟨w.heap.size,0,none⟩=some (.int .i64 D.p)∧Z.cell? ⟨w.heap.size,1,none⟩=some (.int .i64 D.m)∧Z.cell? ⟨w.heap.size,2,none⟩=some (.slice A D.mod.length c)∧Z.cell? ⟨w.heap.size,3,none⟩=some (.int .i64 K)∧Z.cell? ⟨w.heap.size,4,none⟩=some (.slice A1 pts.length c1)∧Z.cell? ⟨w.heap.size,5,none⟩=some (.slice A2 mul.length c2) from by rw[hZ];simp[go_sem]);have k1:Six Z (w.heap.size+1) (.int .i64 0) (.int .i64 0) (.slice none 0 0) (.int .i64 0) (.slice none 0 0) (.slice none 0 0):=by
  rw[hZ];have:=Six.new (w.alloc (.cells #[.int .i64 D.p,.int .i64 D.m,.slice A D.mod.length c,.int .i64 K,.slice A1 pts.length c1,.slice A2 mul.length c2] 94)) (.int .i64 0) (.int .i64 0) (.slice none 0 0) (.int .i64 0) (.slice none 0 0) (.slice none 0 0) 94;rw[World.size_alloc]at this;exact this
 have bq:=hN Z (hr.bm T) (aG.bm T) (aW.bm T);replace hZ:=η hZ;clear hg hN;go_enter Tryz.func131,Tryz.ntmps131;go_wp2_with fail;rw[←hZ.out];(with_reducible refine bq.out.mono ?_);rintro e w1 ⟨av,g,F,rfl,bN,dm,⟨hz,rfl⟩ |⟨hz,rfl⟩⟩;rotate_left
 ·have cS:(gchkD F.z K pts mul !=0)=true:=by rw[bne_iff_ne];exact hz
  obtain⟨a0,a1,a2,a3,a4,a5,f0,f1,f2,f3,f4,f5⟩:=k1.keep av (by omega);clear k1;have bT:=η ((ζ T av).trans ((QeS (w3:=w1) (b:=w.heap.size+1) (.int .i64 0) (.int .i64 0) (.slice none 0 0) (.int .i64 0) (.slice none 0 0) (.slice none 0 0)).mono (Nat.le_succ _)));replace hz:=η hz;go_wp2_with fail;refine bodyPost_ret (v:=.tuple #[.agg #[.int .i64 0,.int .i64 0,.slice none 0 0,.int .i64 0,.slice none 0 0,.slice none 0 0],.int .i64 (gchkD F.z K pts mul)]) (by simp[results,Tryz.results131,go_sem,a0,a1,a2,a3,a4,a5]) rfl ⟨bT.out,.inl ⟨hz.out,rfl⟩⟩
 obtain⟨cZ,cn,bD,-,-,-,-,c6,c7⟩:=Qbn hz;have cT:=av.size;have Y:=ζ T av;have r1:=k1.keep av (by omega);have aY:=η (QbS av (by omega) k0.out);have hC:=η (QlC F K pts mul A A1 A2 c c1 c2 g w1 bN (aG.bm Y) (aW.bm Y) cn (by omega));obtain⟨q0,q1,q2,q3,q4,q5⟩:=aY.out;have bW:=η hz;have bX:0<mul.length:=by omega
 have aZ:(pts.length:Int)=(mul.length:Int):=by omega
 have aw:=η bD;clear hz bq k0 bD;replace aZ:=η aZ;go_wp2_with fail;(with_reducible refine hC.out.mono ?_);rintro e J ⟨V,c3,A4,c4,A5,X,rfl,aS,cL,aT,cM,-,cN,bO,bk⟩;obtain⟨I,rfl⟩:=aT.blk bX;have bY:=bk.size;have ax:=QbS bk (by omega) aY.out;have br:w.heap.size<J.heap.size:=by omega
 have bs:Below J.heap.size J (J.alloc (.cells #[.int .i64 F.p,.int .i64 F.m,.slice V F.mod.length c3,.int .i64 K,.slice A4 pts.length c4,.slice (some ⟨I,0,none⟩) mul.length X] 94)):=β;have bZ:=QbS bs br ax;have x6:=Six.new J (.int .i64 F.p) (.int .i64 F.m) (.slice V F.mod.length c3) (.int .i64 K) (.slice A4 pts.length c4) (.slice (some ⟨I,0,none⟩) mul.length X) 94;have y6:=η (Six.new J (.int .i64 F.p) (.int .i64 F.m) (.slice V F.mod.length c3) (.int .i64 ((pts.length:Int) - K)) (.slice A4 pts.length c4) (.slice (some ⟨I,0,none⟩) mul.length X) 94);have ah:Hid (Below J.heap.size J (J.alloc (.cells #[.int .i64 F.p,.int .i64 F.m,.slice V F.mod.length c3,.int .i64 ((pts.length:Int) - K),.slice A4 pts.length c4,.slice (some ⟨I,0,none⟩) mul.length X] 94))):=β;have bu:Hid (J.heap.size<(J.alloc (.cells #[.int .i64 F.p,.int .i64 F.m,.slice V F.mod.length c3,.int .i64 ((pts.length:Int) - K),.slice A4 pts.length c4,.slice (some ⟨I,0,none⟩) mul.length X] 94)).heap.size):=by unfold Hid;rw[World.size_alloc];exact Nat.lt_succ_self _
 have bv:=QbS ah.out br ax;replace ax:=η ax;clear q0 q1 q2 q3 q4 q5;obtain⟨q0,q1,q2,q3,q4,q5⟩:=bZ;have bw:=η bv;obtain⟨s0,s1,s2,s3,s4,s5⟩:=bv;obtain⟨a0,a1,a2,a3,a4,a5,f0,f1,f2,f3,f4,f5⟩:=x6;have b0:=(IntWalk.i64_in ((pts.length:Int) - K) (by omega));go_wp2_with fail;clear q0 q1 q2 q3 q4 q5 s0 s1 s2 s3 s4 s5 a0 a1 a2 a3 a4 a5 f0 f1 f2 f3 f4 f5 b0 bs;go_loopw [34] (fun i wr=>∃k:Nat,k≤pts.length∧i=.int .i64 k∧Hid (wr.cell? ⟨w.heap.size,0,none⟩=some (.int .i64 F.p)∧wr.cell? ⟨w.heap.size,1,none⟩=some (.int .i64 F.m)∧wr.cell? ⟨w.heap.size,2,none⟩=some (.slice A F.mod.length c)∧wr.cell? ⟨w.heap.size,3,none⟩=some (.int .i64 K)∧wr.cell? ⟨w.heap.size,4,none⟩=some (.slice A1 pts.length c1)∧wr.cell? ⟨w.heap.size,5,none⟩=some (.slice A2 mul.length c2))∧Hid (Six wr J.heap.size (.int .i64 F.p) (.int .i64 F.m) (.slice V F.mod.length c3) (.int .i64 ((pts.length:Int) - K)) (.slice A4 pts.length c4) (.slice (some ⟨I,0,none⟩) mul.length X)∧Rd wr wr.heap.size V (Qan F.z)∧Own wr w1.heap.size (.slice A4 pts.length c4) pts∧Own wr w1.heap.size (.slice (some ⟨I,0,none⟩) mul.length X) (Qox mul k (QeW F pts mul)))∧Below w1.heap.size w1 wr∧J.heap.size<wr.heap.size) (fun i _=>pts.length - (intOf i).toNat)
 case atStart=>exact⟨0,by omega,rfl,bw,⟨y6.out,aS.bm ah.out,cL.below ah.out ρ,by rw[QkA];exact aT.below ah.out ρ⟩,bk.trans (ah.out.mono bY),bu.out⟩
 case round =>
  obtain⟨wo,rfl⟩:=ε (wr:World);obtain⟨k,hk,rfl,bj,ar,aj,bE⟩:=hrel;have a7:=aT.lt I rfl;clear y6 bw bu ah aS aT ax aY;have ay:Below w.heap.size w wo:=ζ Y aj;by_cases bm:k<pts.length
  ·obtain⟨b1,o1,rfl,cu,aD⟩:=aG.at_ bm;obtain⟨b2,o2,rfl,cx,bH⟩:=aW.at_ (by rw[aw.out];exact bm:k<mul.length);have aH:=(ay.cell (p:=⟨b1,o1+k,none⟩) cu).trans aD;have bx:=(ay.cell (p:=⟨b2,o2+k,none⟩) cx).trans bH;obtain⟨x,hx⟩:=ε (pts[k]?.getD 0);obtain⟨y,hy⟩:=ε (mul[k]?.getD 0);rw[←hx]at aH;rw[←hy]at bx;replace hx:=η hx;replace hy:=η hy;have cU:(0:Int)≤(k:Int):=by omega
   have b3:(k:Int)<(pts.length:Int):=by omega
   have cV:(k:Int)<(mul.length:Int):=by rw[←aZ.out];exact b3
   have b4:w.heap.size<wo.heap.size:=by omega
   clear aD bH;obtain⟨q0,q1,q2,q3,q4,q5⟩:=bj.out;go_wp2_with fail;clear q0 q1 q2 q3 q4 q5 aH bx;go_loopw [47,9] (fun j' y' wr=>∃ (j:Nat) (z:Int),j≤pts.length∧j'=.int .i64 j∧y'=.int .i64 z∧Hid (eli F.z z=QcH F.z pts k (eli F.z y) j)∧Below wo.heap.size wo wr) (fun j' _ _=>pts.length - (intOf j').toNat)
   case atStart=>exact⟨0,y,by omega,rfl,rfl,rfl,κ⟩
   case round =>
    obtain⟨wi,rfl⟩:=ε (wr:World);obtain⟨j,z,hj,rfl,rfl,hz,O⟩:=hrel;have bz:=ζ aj O;have a8:=bN.bm bz;have a9:=QbS O b4 bj.out;by_cases cQ:j<pts.length
    ·obtain⟨da,db,ee,cz,aD⟩:=aG.at_ cQ
     cases ee
     have aH:=((ζ ay O).cell (p:=⟨b1,o1+j,none⟩) cz).trans aD;obtain⟨xj,aK⟩:=ε (pts[j]?.getD 0);rw[←aK]at aH;replace aK:=η aK;have cW:(0:Int)≤(j:Int):=by omega
     have cX:(j:Int)<(pts.length:Int):=by omega
     clear aD;obtain⟨q0,q1,q2,q3,q4,q5⟩:=a9;by_cases aV:j=k
     ·have b6:((j:Int) !=(k:Int))=false:=by rw[bne_eq_false_iff_eq];omega
      have ba:Hid (eli F.z z=QcH F.z pts k (eli F.z y) (j+1)):=by unfold Hid;rw[hz.out,aV,Qiy]
      clear aV hz;go_wp2_with fail;go_roundw
      case rel=>exact⟨j+1,z,by omega,by go_num,rfl,ba,O⟩
      case measure=>simp[intOf];omega
     ·have b6:((j:Int) !=(k:Int))=true:=by rw[bne_iff_ne];omega
      have hS:=η (QgN F x xj g wi a8);have hM:=fun W h=>QbZ F z (ci (eli F.z x - eli F.z xj)) g W h
      rw[Qam]at hM;have ba:Hid (eli F.z z*(eli F.z x - eli F.z xj)=QcH F.z pts k (eli F.z y) (j+1)):=by unfold Hid;rw[hz.out,QcI _ _ _ aV,hx.out,aK.out]
      rw[ba.out]at hM;replace hM:=fun W h=>η (hM W h)
      clear aV hz;go_wp2_with fail;(with_reducible refine hS.out.mono ?_);rintro e w5 ⟨rfl,aU⟩;go_wp2_with fail;(with_reducible refine (hM _ (a8.bm aU)).out.mono ?_);rintro e w6 ⟨rfl,cO⟩;go_wp2_with fail;go_roundw
      case rel=>exact⟨j+1,_,by omega,by go_num,rfl,Qam _,(ζ O aU).trans (cO.mono (τ O.size aU.size))⟩
      case measure=>simp[intOf];omega
    ·obtain rfl:j=pts.length:=by omega
     have bA:ci (inv (eli F.z z))=QeW F pts mul k:=by unfold QeW;rw[hz.out,hy.out]
     have hI:=fun W h=>QgL F z g W h
     rw[bA]at hI;replace hI:=fun W h=>η (hI W h)
     obtain⟨U,aB⟩:=ε (QeW F pts mul k);rw[←aB]at hI;have x5:=ar.out.1.keep O bE;have aL:=x5.2.2.2.2.2.1;have b8:=ar.out.2.2.2.below O ρ;replace aB:=η aB;replace x5:=η x5;replace a9:=η a9;clear bA hz;have aC:J.heap.size<wi.heap.size:=θ bE O.size;have cY:I<wi.heap.size:=Nat.lt_trans a7.2 aC;go_wp2_with fail;refine wp_region_held_drew (S:=fun w'=>w'.cell? ⟨J.heap.size,5,none⟩=some (.slice (some ⟨I,0,none⟩) mul.length X)) (by kernel_rfl) (by (try dsimp only);exact aL) (fun hHeld=>?_);refine tk 0 ?_;simp only[pS]
     refine tk 1 ?_;simp only[pS]
     refine tk 2 ?_;simp only[pS]
     refine tk 3 ?_;simp only[pS]
     refine tk 4 ?_;simp only[pS]
     refine rd 5 fun K hK=>?_
     go_simp;go_at_call 130;(with_reducible refine (hI _ a8.drew).out.mono ?_);rintro e w3 ⟨⟨t0,rfl⟩,ac⟩;go_wp2_with fail;refine hK.out _ _ ((ac.cell (p:=⟨J.heap.size,5,none⟩) aC).trans aL) fun hHeld=>?_;clear hK K;try simp only[pS]
     have bb:=b8.drew.below ac ρ;have b9:=bb.cell (Qcb _ _ _).symm (i:=k) (by rw[Qcb,aw.out];exact bm);have cc:=bb.frozen (Qcb _ _ _).symm k;refine tk 6 ?_;simp only[pS]
     refine tk 7 ?_;simp only[pS]
     refine tk 8 ?_;simp only[pS]
     refine tk 9 ?_;simp only[pS]
     refine rd 10 fun K hK=>?_
     go_simp;refine hK.out _ _ (by (try dsimp only);exact (World.cell?_setCell_other _ _ _ _ (by intro e;injection e with e1;omega)).trans ((ac.cell (p:=⟨J.heap.size,5,none⟩) aC).trans aL)) (fun hHeld=>?_);clear hK K;try simp only[pS]
     refine δ ?_;have cd:I≠J.heap.size:=Nat.ne_of_lt a7.2;have bB:Below w1.heap.size wo (w3.setCell ⟨I,k,none⟩ (.int .i64 U)):=((O.mono aj.size).drew.trans (ac.mono (τ aj.size O.size))).setCell (p:=⟨I,k,none⟩) a7.1 _;have ce:=η (QbS bB (by omega) bj.out);have cf:Six w3 _ _ _ _ _ _ _:=(show Six wi.drew _ _ _ _ _ _ _ from x5.out).keep ac aC;have x6:=η (cf.far cd k (.int .i64 U));have cg:Hid (Rd (w3.setCell ⟨I,k,none⟩ (.int .i64 U)) (w3.setCell ⟨I,k,none⟩ (.int .i64 U)).heap.size V (Qan F.z)) :=
      ((((ar.out.2.1.bm O).drew.below ac).more ac.size).farD cN k (.int .i64 U)).more (QbB _ _ _).size
     have ch:=η (((ar.out.2.2.1.below O ρ).drew.below ac ρ).far (p:=⟨I,k,none⟩) (fun e=>cM _ e rfl) (.int .i64 U));have bC:=η (bb.set_ (Qcb _ _ _).symm k U);rw[aB.out,QmA,←aB.out]at bC;have cj:J.heap.size<(w3.setCell ⟨I,k,none⟩ (.int .i64 U)).heap.size:=θ (θ aC ac.size) (QbB _ _ _).size;clear b9 cc aL;go_wp2_with fail;go_roundw
     case rel=>exact⟨k+1,by omega,by go_num,ce,⟨x6.out,cg.out,ch.out,bC.out⟩,aj.trans bB,cj⟩
     case measure=>simp[intOf];omega
  ·obtain rfl:k=pts.length:=by omega
   have x5:=ar.out.1;obtain⟨a0,a1,a2,a3,a4,a5,f0,f1,f2,f3,f4,f5⟩:=x5;have cm:w.heap.size+1<w1.heap.size:=by omega
   obtain⟨p0,p1,p2,p3,p4,p5,e0,e1,e2,e3,e4,e5⟩:=r1.keep aj cm;go_wp2_with fail;obtain⟨-,aS,bI,cH⟩:=ar.out;obtain⟨B4,k4,cI,cJ,cK,bJ⟩:=bI.form
   cases cI
   obtain⟨B5,k5,bK,dl,bL,bM⟩:=cH.form;rw[Qcb]at bK
   cases bK
   refine bodyPost_ret (v:=.tuple #[.agg #[.int .i64 F.p,.int .i64 F.m,.slice V F.mod.length c3,.int .i64 ((pts.length:Int) - K),.slice A4 pts.length c4,.slice (some ⟨I,0,none⟩) mul.length X],.int .i64 0]) (by simp[results,Tryz.results131,go_sem,p0,p1,p2,p3,p4,p5]) rfl ⟨ay.trans ((QeS _ _ _ _ _ _).mono (Nat.le_succ _)),.inr ⟨bW.out,F,rfl,V,c3,A4,c4,some ⟨I,0,none⟩,X,by rw[aw.out],?_,?_,?_,cJ,bI.cap,fun a e=>τ Y.size (bO a e),fun a e=>τ Y.size (bJ a e).1,fun a e=>τ Y.size (bM a e).1⟩⟩
   ·exact (aS.set6 (fun a e=>by have:=bO a e;omega) _ _ _ _ _ _).more (by simp[World.setCell])
   ·exact (cK.set6 (fun a e=>by have:=(bJ a e).1;omega) _ _ _ _ _ _).more (by simp[World.setCell])
   ·rw[←aw.out,QkB]at bL;rw[show Qck F pts mul=lst mul.length (QeW F pts mul) from by unfold Qck;rw[aw.out]];exact (bL.set6 (fun a e=>by have:=(bM a e).1;omega) _ _ _ _ _ _).more (by simp[World.setCell])
end
section
open Cw.CField (inv)
def wgt (l:List Int):Nat:=(l.filter fun x=>x !=0).length
theorem QrS {l:List Int} (h:∀x∈l,x=0):wgt l=0:=by
 unfold wgt;rw[List.filter_eq_nil_iff.2 (fun x I=>by simp[h x I])];rfl
theorem Qs8 (l:List Int):wgt l≤l.length:=List.length_filter_le _ _
theorem QlD {D:Desc} {x y:Int} (I:0≤x∧x<D.q)(J:0≤y∧y<D.q)(h:eli D x=eli D y):x=y:=by rw[←Qci I,←Qci J,h]
theorem QhC {D:Desc} {x:Int} (I:0≤x∧x<D.q)(h:x≠0):eli D x≠0:=fun e=>h (by rw[←Qci I,e,QaF])
theorem QhD {l:List Int} (h:twB l=false){i j:Nat} (J:i<l.length)(O:j<l.length)(e:l[i]?.getD 0=l[j]?.getD 0):i=j:=by
 rcases Nat.lt_trichotomy i j with I |I |I
 ·rw[Qje I O e.symm]at h;cases h
 ·exact I
 ·rw[Qje I J e]at h;cases h
theorem Qcm {l:List Int} {i:Nat} (I:i<l.length):l[i]?.getD 0∈l:=by rw[List.getElem?_eq_getElem I];exact List.getElem_mem _
section
variable {F:FD}
theorem QrT (l:List Int)(u:R F.z):QaW F.z l u=pev (l.map (eli F.z)) u:=by
 have e:l.map (eli F.z)=(List.range l.length).map (fun i=>eli F.z (l[i]?.getD 0)):=by
  apply List.ext_getElem
  ·simp
  ·intro i I J;have:i<l.length:=by simpa using I
   simp[this]
 rw[e,Qf4];rfl
end
end
section
open Cw.CField (inv)
theorem QbP (F:FD)(pts mul:List Int):(Qck F pts mul).length=pts.length:=Qab _ _
theorem QdR (D:Desc)(pts:List Int)(i:Nat)(u:R D):∀k,QcH D pts i u k=u*QcH D pts i 1 k
 |0=>(Qax u).symm
 |k+1=>by
  by_cases h:k=i
  ·rw[show QcH D pts i u (k+1)=QcH D pts i u k from if_pos h,show QcH D pts i 1 (k+1)=QcH D pts i 1 k from if_pos h,QdR D pts i u k]
  ·rw[QcI _ _ _ h,QcI _ _ _ h,QdR D pts i u k,Qa6]
theorem QrU {F I:FD} (h:I.z=F.z)(pts mul:List Int):Qck I pts mul=Qck F pts mul:=by
 obtain⟨D,g,a,b,c⟩:=F;obtain⟨J,O,T,b',c'⟩:=I;dsimp only at h;subst h;rfl
section
variable {F:FD}
theorem Qjo {pts:List Int} (hp:elB F.z pts=true)(J:twB pts=false){i:Nat} (I:i<pts.length):∀k,k≤pts.length→QcH F.z pts i 1 k≠0
 |0,_=>QbD (F:=R F.z)
 |k+1,hk=>by
  have O:=Qjo hp J I k (by omega);by_cases h:k=i
  ·rw[show QcH F.z pts i 1 (k+1)=QcH F.z pts i 1 k from if_pos h];exact O
  ·rw[QcI _ _ _ h];refine QaS (F:=R F.z) O fun e=>h ?_
   exact (QhD J I (by omega) (QlD (QaJ.1 hp i I) (QaJ.1 hp k (by omega)) (Qbg e))).symm
theorem QmB {K:Int} {pts mul:List Int} (hz:gchkD F.z K pts mul=0){i:Nat} (I:i<pts.length):QcH F.z pts i (eli F.z (mul[i]?.getD 0)) pts.length≠0:=by
 obtain⟨-,-,T,hp,J,O,h0,-,-⟩:=Qbn hz;rw[QdR];exact QaS (F:=R F.z) (QhC (QaJ.1 J i (by omega)) fun e=>h0 (e ▸ Qcm (by omega))) (Qjo hp O I _ ρ)
theorem QhE {pts mul:List Int} {i:Nat} (I:i<pts.length):(Qck F pts mul)[i]?.getD 0=QeW F pts mul i:=Qas _ I
theorem QkD {K:Int} {pts mul:List Int} (hz:gchkD F.z K pts mul=0):Qck F pts (Qck F pts mul)=mul:=by
 obtain⟨-,-,O,hp,U,V,h0,-,-⟩:=Qbn hz;rw[QoC mul,O];refine Qay fun i I=>?_
 rw[←O,←QoC];have T:=Qjo hp V I _ ρ;have X:=QmB hz I;have J:=QaJ.1 U i (by omega);have Y:eli F.z (mul[i]?.getD 0)≠0:=QhC J fun e=>h0 (e ▸ Qcm (by omega))
 unfold QeW;rw[QhE I];unfold QeW;rw[Qam,QdR F.z pts i (inv _),QdR F.z pts i (eli F.z _)];generalize QcH F.z pts i 1 pts.length=P at *;have e:inv (eli F.z (mul[i]?.getD 0)*P)*P=inv (eli F.z (mul[i]?.getD 0)):=by
  rw[QjP,Qa6,QbH T,Qax]
 rw[e,Qtp,Qci J]
theorem Qjp {K:Int} {pts mul:List Int} (hz:gchkD F.z K pts mul=0):gchkD F.z ((pts.length:Int) - K) pts (Qck F pts mul)=0:=by
 obtain⟨X,Y,aa,hp,hm,O,h0,ac,ad⟩:=Qbn hz;unfold gchkD;rw[QbP,if_neg (by omega),if_neg (by omega),if_neg,if_neg (by rw[O];simp),if_neg,if_neg (by omega)]
 ·intro V;obtain⟨i,T,U⟩:=List.mem_map.1 (show (0:Int)∈(List.range pts.length).map (QeW F pts mul) from V);exact Qby (QmB hz (List.mem_range.1 T)) (Qaq.1 U)
 ·rintro (I |I)
  ·rw[hp]at I;cases I
  ·rw[QaJ.2 fun j J=>?_]at I
   ·cases I
   ·rw[QbP]at J;rw[QhE J];exact⟨Qa8 _,Qeu _⟩
end
end
section
open Cw.CField (inv)
section
variable {F:FD}
theorem Qge (pts:List Int)(i:Nat):∀k,QcH F.z pts i 1 k=Qel (fun j=>eli F.z (pts[j]?.getD 0)) i (eli F.z (pts[i]?.getD 0)) k
 |0=>rfl
 |k+1=>by
  by_cases h:k=i
  ·rw[show QcH F.z pts i 1 (k+1)=QcH F.z pts i 1 k from if_pos h,show Qel (fun j=>eli F.z (pts[j]?.getD 0)) i (eli F.z (pts[i]?.getD 0)) (k+1)=Qel (fun j=>eli F.z (pts[j]?.getD 0)) i (eli F.z (pts[i]?.getD 0)) k from if_pos h];exact Qge pts i k
  ·rw[QcI _ _ _ h,QdG _ _ h,Qge pts i k]
theorem QlE {pts:List Int} (hp:elB F.z pts=true)(O:twB pts=false):∀i j,i<pts.length→j<pts.length→eli F.z (pts[i]?.getD 0)=eli F.z (pts[j]?.getD 0)→i=j :=
 fun i j I J e=>QhD O I J (QlD (QaJ.1 hp i I) (QaJ.1 hp j J) e)
end
end
section
noncomputable def frK (F:FD)(l:List Int)(k:Nat):List Int:=lst (k+1) fun t=>ci (lcf (cfR F.z l) l.length k t)
theorem Qc7 (F:FD)(l:List Int)(k:Nat):(frK F l k).length=k+1:=Qab _ _
theorem Qgf {i k:Nat} (h:k≤i):Qi0 i k=k:=by unfold Qi0;rw[if_neg (by omega)]
theorem Qjq (F:FD)(l:List Int){k:Nat} (I:k≤l.length):cfR F.z (frK F l k)=lcf (cfR F.z l) l.length k:=funext fun i=>by
 unfold frK;by_cases J:i<k+1
 ·show eli F.z ((lst _ _)[i]?.getD 0)=_
  rw[Qas _ J,Qam]
 ·rw[Qao _ (by rw[Qab];omega),Qd6 _ _ _ _ (by rw[Qgf I];omega)]
theorem QrV (F:FD)(l:List Int):frK F l 0=[1]:=by
 unfold frK
 show [ci (lcf (cfR F.z l) l.length 0 0)]=[1]
 have e:lcf (cfR F.z l) l.length 0 0=1:=by
  show (if (0:Nat)=0 then (1:R F.z) else 0)=1
  rw[if_pos rfl]
 rw[e,Qei]
theorem QrW (F:FD)(l:List Int){k:Nat} (O:k<l.length):Qix F.z (frK F l k) [ci (-cfR F.z l k),1]=frK F l (k+1):=by
 have e:conv (cfR F.z (frK F l k)) (cfR F.z [ci (-cfR F.z l k),1])=lcf (cfR F.z l) l.length (k+1):=funext fun t=>by
  rw[Qjq F l (by omega),Qfz _ (by omega:k≠l.length)];exact QtK _ _ _ (Qam _) QcQ (fun s J=>Qao _ (by simpa using J)) t
 unfold Qix;rw[e,Qc7];have I:lcf (cfR F.z l) l.length (k+1) (k+1)=1:=by
  have:=Qf6 (cfR F.z l) l.length (k+1)
  rwa [Qgf (by omega)]at this
 rw[Qey (n:=k+1+1) (by simp) (fun i T U=>by rw[Qd6 _ _ _ _ (by rw[Qgf (by omega)];omega),QaF]),
  QfB (n:=k+1) (by rw[I,Qei];decide)]
 rfl
end
section
theorem QfO (D:Desc){p:List Int} {n:Nat} (I:p.length=n+1)(h:cfR D p n≠0):(QaD D p).length=n+1:=by
 unfold QaD;rw[QaH,I,Qi4 (f:=cfI D p) (n:=n) (fun e=>h (Qaq.1 e))]
theorem QpO (F:FD)(l:List Int){k:Nat} (O:k<l.length):QbL F.z (frK F l k) [ci (-cfR F.z l k),1]=frK F l (k+1):=by
 have I:(QaD F.z (frK F l k)).length=k+1:=QfO _ (Qc7 F l k) (by
  rw[Qjq F l (by omega)];have:=Qf6 (cfR F.z l) l.length k;rw[Qgf (by omega)]at this;rw[this];exact QbD)
 have J:(QaD F.z [ci (-cfR F.z l k),1]).length=1+1:=QfO _ rfl (by
  show eli F.z 1≠0
  rw[QcQ];exact QbD)
 have T:conv (cfR F.z (frK F l k)) (cfR F.z [ci (-cfR F.z l k),1])=lcf (cfR F.z l) l.length (k+1):=by
  rw[←QfJ,QrW F l O,Qjq F l (by omega)]
 unfold QbL;rw[if_neg (by rw[I,J];omega),I,J,T];rfl
theorem Qie (F:FD)(l:List Int)(A1:Option Addr)(c1 g:Nat)(w:World)(hg:GF w w.heap.size g F)(au:Rd w w.heap.size A1 l)(hl:l.length≤1000) :
  Calls Tryz.prog 216 #[.pointer (some ⟨g,0,none⟩),.slice A1 l.length c1] w fun e w'=>∃I c',e=.returned (.slice I (frK F l l.length).length c')∧Rd w' w'.heap.size I (frK F l l.length)∧Below w.heap.size w w':=by
 have hN:=fun x W h=>η (QgM F x g W h)
 have hM:=fun k B1 B2 d1 d2 W a b e f h=>(QfL F (frK F l k) [ci (-cfR F.z l k),1] B1 B2 d1 d2 g W a b e f h)
 obtain⟨Y,J⟩:=ε (w.alloc (.cells #[.int .i64 1] 3));have hB:Below w.heap.size w Y:=by rw[J];exact β
 have V:Rd Y Y.heap.size (some ⟨w.heap.size,0,none⟩) (frK F l 0):=by
  rw[QrV,J];exact (IB.new w [1]).rd
 replace J:=η J;go_enter Tryz.func216,Tryz.ntmps216;go_wp2_with fail;rw[←J.out];go_loopw [11,5] (fun i v wr=>∃k:Nat,k≤l.length∧i=.int .i64 k∧(∃I c',v=.slice I (frK F l k).length c'∧Rd wr wr.heap.size I (frK F l k))∧Below w.heap.size w wr) (fun i _ _=>l.length - (intOf i).toNat)
 case atStart=>exact⟨0,by omega,rfl,⟨_,_,by rw[Qc7],V⟩,hB⟩
 case round =>
  clear V hB J;obtain⟨w2,rfl⟩:=ε (wr:World);obtain⟨k,hk,rfl,⟨I,c',rfl,V⟩,U⟩:=hrel;by_cases ar:k<l.length
  ·have aG:(0:Int)≤(k:Int):=by omega
   have aH:(k:Int)<(l.length:Int):=by omega
   obtain⟨b,o,rfl,hb,hc⟩:=au.at_ ar;have hd:=(U.cell (p:=⟨b,o+k,none⟩) hb).trans hc;have O:=hM k;rw[QpO F l ar]at O;have ac:=Qc7 F l k;have ay:=hg.bm U;have T:=(hN (l[k]?.getD 0) w2 ay).out;rw[show eli F.z (l[k]?.getD 0)=cfR F.z l k from rfl]at T;replace T:=η T;obtain⟨y,hy⟩:=ε (l[k]?.getD 0);rw[←hy]at hd T;obtain⟨v,hv⟩:=ε (ci (-cfR F.z l k));rw[←hv]at T O;rw[show [v,(1:Int)].length=2 from rfl]at O;replace ac:=η ac;replace O:=fun B1 B2 d1 d2 W a b e f h=>η (O B1 B2 d1 d2 W a b e f h)
   replace hy:=η hy;replace hv:=η hv;clear hc;go_wp2_with fail;(with_reducible refine T.out.mono ?_);rintro e w4 ⟨rfl,aq⟩;have ao:Below w4.heap.size w4 (w4.alloc (.cells #[.int .i64 v,.int .i64 1] 3)):=β;obtain⟨w5,X⟩:=ε (w4.alloc (.cells #[.int .i64 v,.int .i64 1] 3));rw[←X]at ao;have az:Rd w5 w5.heap.size (some ⟨w4.heap.size,0,none⟩) [v,1]:=by rw[X];exact (IB.new w4 [v,1]).rd
   have af:=ζ aq ao;have ab:=ζ U af;have aA:=O I (some ⟨w4.heap.size,0,none⟩) c' 2 w5 (hg.bm ab) (V.bm af) az (by rw[ac.out];omega) (by show 2≤20000;decide);replace X:=η X;go_wp2_with fail;rw[←X.out];(with_reducible refine aA.out.mono ?_);rintro e w6 ⟨A6,c6,rfl,aD,-,-,-,aE⟩;have aB:=ζ ab aE;go_wp2_with fail;go_roundw
   case rel=>exact⟨k+1,by omega,by go_num,⟨_,_,rfl,aD⟩,aB⟩
   case measure=>simp[intOf];omega
  ·obtain rfl:k=l.length:=by omega
   go_wp2_with fail;go_ret;exact⟨I,c',rfl,V,U⟩
end
section
open Cw.CField (inv)
section
variable {F:FD}
theorem Qgg {f:Nat→R F.z} {N:Nat} {x:R F.z}:∀k,k≤N→(Qel f N x k=0↔∃j,j<k∧x=f j)
 |0,_=>⟨fun h=>absurd h (QbD (F:=R F.z)),fun⟨j,I,_⟩=>absurd I (by omega)⟩
 |k+1,hk=>by
  rw[QdG _ _ (by omega:k≠N)];constructor
  ·intro h;rcases Qbx h with h |h
   ·obtain⟨j,I,e⟩:=(Qgg k (by omega)).1 h;exact⟨j,by omega,e⟩
   ·exact⟨k,by omega,Qbg h⟩
  ·rintro⟨j,I,e⟩;by_cases h:j=k
   ·rw[e,h,QaV,Qac]
   ·rw[(Qgg k (by omega)).2 ⟨j,by omega,e⟩,Qah]
theorem Quf (l:List Int)(x:R F.z):pev ((frK F l l.length).map (eli F.z)) x=Qel (cfR F.z l) l.length x l.length:=by
 unfold frK lst;rw[List.map_map,Qf4];have e:∀i,i<l.length+1→(eli F.z ∘ fun t=>ci (lcf (cfR F.z l) l.length l.length t)) i*pw x i=lcf (cfR F.z l) l.length l.length i*pw x i:=fun i _=>by
  show eli F.z (ci _)*_=_
  rw[Qam]
 rw[Qaa e];exact Qhb _ _ _ _ _ (by rw[Qgf ρ];omega)
end
end
section
theorem Qug (D:Desc)(x y:Int)(A:Option Addr)(n c:Nat)(w:World) :
  Calls Tryz.prog 193 #[.agg #[.int .i64 D.p,.int .i64 D.m,.slice A n c],.int .i64 x,.int .i64 y] w fun e w' =>
   e=.returned (.int .i64 (ci (eli D x - eli D y)))∧Below w.heap.size w w':=by
 have J:=fun w=>η (Qhg D y A n c w)
 generalize hz:-(eli D y)=z;rw[hz]at J;have U:=fun w=>η (Qd7 D x (ci z) A n c w)
 have V:Hid (ci (eli D x+eli D (ci z))=ci (eli D x - eli D y)):=by
  show ci (eli D x+eli D (ci z))=_
  rw[Qam,←hz];rfl
 clear hz;have k0:=η (Qb9 w (.int .i64 D.p) (.int .i64 D.m) (.slice A n c) 24);go_enter Tryz.func193,Tryz.ntmps193;go_wp2;go_region_held3 (fun w'=>w'.cell? ⟨w.heap.size,0,none⟩=some (.int .i64 D.p)∧w'.cell? ⟨w.heap.size,1,none⟩=some (.int .i64 D.m)∧w'.cell? ⟨w.heap.size,2,none⟩=some (.slice A n c)) (first |exact k0.out |exact Y.out |exact O.out)
  (first
   |(go_at_call 101;refine (J _).out.mono ?_;rintro e w1 ⟨rfl,I⟩;have O:=η (Qau (b:=w.heap.size) I (by simp) k0.out);have X:=I.size;simp only[World.drew,World.size_alloc]at X)
   |(go_at_call 118;refine (U _).out.mono ?_;rintro e w2 ⟨rfl,T⟩;have Y:=η (Qau (b:=w.heap.size) T (by omega) O.out)))
 go_wp2;go_ret;exact⟨Qa2 V.out,(((β).drew).trans (I.mono (by simp))).trans (T.mono (by omega))⟩
end
section
open Cw.CField (inv)
theorem Qiz (F:FD)(K:Int)(pts mul:List Int)(A U A2:Option Addr)(c c1 c2:Nat)(w:World)(hr:Rd w w.heap.size A (Qan F.z))(aV:Rd w w.heap.size U pts)(bk:Rd w w.heap.size A2 mul)
  (aW:mul.length=pts.length) (hl:pts.length≤64) (bR:0≤K) (bS:K≤(pts.length:Int)) :
  Calls Tryz.prog 138 #[.agg #[.int .i64 F.p,.int .i64 F.m,.slice A F.mod.length c,.int .i64 K,.slice U pts.length c1,.slice A2 mul.length c2]] w fun e w'=>∃g,e=.returned (.agg #[.int .i64 F.p,.int .i64 F.m,.slice A F.mod.length c,.int .i64 ((pts.length:Int) - K),.slice U pts.length c1,.slice (some ⟨g,0,none⟩) pts.length pts.length]) ∧
   Rd w' w'.heap.size (some ⟨g,0,none⟩) (Qck F pts mul)∧w.heap.size≤g∧Below w.heap.size w w':=by
 have hM:=fun y z W hr=>η (Qdb F.z y z A c W hr)
 have bm:=fun y z W=>η (Qug F.z y z A F.mod.length c W)
 have bo:=fun y W hr=>η (Qe7 F y A c W hr)
 have bT:=QaC pts.length (by omega);obtain⟨Z,hZ⟩:=ε ((w.alloc (.cells #[.int .i64 F.p,.int .i64 F.m,.slice A F.mod.length c,.int .i64 K,.slice U pts.length c1,.slice A2 mul.length c2] 94)).alloc (.cells #[.int .i64 0,.int .i64 0,.slice none 0 0,.int .i64 0,.slice none 0 0,.slice none 0 0] 94));have hB:Below w.heap.size w Z:=by rw[hZ];exact (β).alloc (by simp) _
 have bp:Z.heap.size=w.heap.size+2:=by rw[hZ];simp
 have kz:Z.cell? ⟨w.heap.size,0,none⟩=some (.int .i64 F.p)∧Z.cell? ⟨w.heap.size,1,none⟩=some (.int .i64 F.m)∧Z.cell? ⟨w.heap.size,2,none⟩=some (.slice A F.mod.length c)∧Z.cell? ⟨w.heap.size,3,none⟩=some (.int .i64 K)∧Z.cell? ⟨w.heap.size,4,none⟩=some (.slice U pts.length c1)∧Z.cell? ⟨w.heap.size,5,none⟩=some (.slice A2 mul.length c2):=by rw[hZ];simp[go_sem]
 have sz:Six Z (w.heap.size+1) (.int .i64 0) (.int .i64 0) (.slice none 0 0) (.int .i64 0) (.slice none 0 0) (.slice none 0 0):=by
  rw[hZ];have:=Six.new (w.alloc (.cells #[.int .i64 F.p,.int .i64 F.m,.slice A F.mod.length c,.int .i64 K,.slice U pts.length c1,.slice A2 mul.length c2] 94)) (.int .i64 0) (.int .i64 0) (.slice none 0 0) (.int .i64 0) (.slice none 0 0) (.slice none 0 0) 94;rw[World.size_alloc]at this;exact this
 obtain⟨Y,hY⟩:=ε (Z.alloc (.cells (Array.replicate pts.length (Value.int .i64 0)) 3));obtain⟨I,aq⟩:=ε (w.heap.size+1+1);have X:IB Y I (upd pts.length 0 (QeW F pts mul)):=by
  rw[QaP,hY,aq,show w.heap.size+1+1=Z.heap.size by omega];exact IB.newz Z pts.length
 have ap:Below Z.heap.size Z Y:=by rw[hY];exact β
 have aZ:I<Y.heap.size:=by rw[hY,World.size_alloc];omega
 have kY:=η (QbS ap (by omega) kz);have sY:=η (sz.keep ap (by omega));have a2:=ζ hB ap;have a3:=η aW;rw[hZ]at hY;replace hY:=η hY;have bq:w.heap.size+1<I:=by omega
 replace X:=η X;clear aW kz sz ap hB bp hZ;go_enter Tryz.func138,Tryz.ntmps138;go_wp2_with fail;rw[←hY.out];simp only[←aq];replace aq:=η aq;go_loopw [5,6,7] (fun i _ _ wr=>∃k:Nat,k≤pts.length∧i=.int .i64 k∧Hid (wr.cell? ⟨w.heap.size,0,none⟩=some (.int .i64 F.p)∧wr.cell? ⟨w.heap.size,1,none⟩=some (.int .i64 F.m)∧wr.cell? ⟨w.heap.size,2,none⟩=some (.slice A F.mod.length c)∧wr.cell? ⟨w.heap.size,3,none⟩=some (.int .i64 K)∧wr.cell? ⟨w.heap.size,4,none⟩=some (.slice U pts.length c1)∧wr.cell? ⟨w.heap.size,5,none⟩=some (.slice A2 mul.length c2))∧Hid (Six wr (w.heap.size+1) (.int .i64 0) (.int .i64 0) (.slice none 0 0) (.int .i64 0) (.slice none 0 0) (.slice none 0 0))∧Hid (IB wr I (upd pts.length k (QeW F pts mul)))∧Below w.heap.size w wr∧I<wr.heap.size) (fun i _ _ _=>pts.length - (intOf i).toNat)
 case atStart=>exact⟨0,by omega,rfl,kY,sY,X,a2,aZ⟩
 case round =>
  clear kY sY X a2 aZ;obtain⟨wo,rfl⟩:=ε (wr:World);obtain⟨k,hk,rfl,kk,sx,X,ag,bf⟩:=hrel;have a4:w.heap.size<wo.heap.size:=by omega
  by_cases aU:k<pts.length
  ·obtain⟨b1,o1,rfl,aS,an⟩:=aV.at_ aU;obtain⟨b2,o2,rfl,bF,bi⟩:=bk.at_ (by rw[a3.out];exact aU:k<mul.length);have ar:=(ag.cell (p:=⟨b1,o1+k,none⟩) aS).trans an;have a5:=(ag.cell (p:=⟨b2,o2+k,none⟩) bF).trans bi;obtain⟨x,hx⟩:=ε (pts[k]?.getD 0);obtain⟨y,hy⟩:=ε (mul[k]?.getD 0);rw[←hx]at ar;rw[←hy]at a5;replace hx:=η hx;replace hy:=η hy;have bU:(0:Int)≤(k:Int):=by omega
   have br:(k:Int)<(pts.length:Int):=by omega
   have bV:(k:Int)<(mul.length:Int):=by rw[a3.out];exact br
   replace ar:=η ar;clear an bi;obtain⟨q0,q1,q2,q3,q4,q5⟩:=kk.out;go_wp2_with fail;clear q0 q1 q2 q3 q4 q5 a5;go_loopw [7,6] (fun j' y' wr=>∃ (j:Nat) (z:Int),j≤pts.length∧j'=.int .i64 j∧y'=.int .i64 z∧Hid (eli F.z z=QcH F.z pts k (eli F.z y) j)∧Below wo.heap.size wo wr) (fun j' _ _=>pts.length - (intOf j').toNat)
   case atStart=>exact⟨0,y,by omega,rfl,rfl,rfl,κ⟩
   case round =>
    obtain⟨wi,rfl⟩:=ε (wr:World);obtain⟨j,z,hj,rfl,rfl,hz,J⟩:=hrel;have V:=ζ ag J;have bs:=hr.bm V;have T:=QbS J a4 kk.out;have aJ:w.heap.size<wi.heap.size:=θ a4 J.size;by_cases bP:j<pts.length
    ·obtain⟨b5,b6,ee,bH,an⟩:=aV.at_ bP
     cases ee
     have aK:=(V.cell (p:=⟨b1,o1+j,none⟩) bH).trans an;have a6:=(J.cell (p:=⟨b1,o1+k,none⟩) (θ aS ag.size)).trans ar.out;obtain⟨xj,aw⟩:=ε (pts[j]?.getD 0);rw[←aw]at aK;replace aw:=η aw;have bW:(0:Int)≤(j:Int):=by omega
     have bX:(j:Int)<(pts.length:Int):=by omega
     clear an;by_cases aH:j=k
     ·have bt:((j:Int) !=(k:Int))=false:=by rw[bne_eq_false_iff_eq];omega
      have aL:Hid (eli F.z z=QcH F.z pts k (eli F.z y) (j+1)):=by unfold Hid;rw[hz.out,aH,Qiy]
      clear aH hz;go_wp2_with fail;go_roundw
      case rel=>exact⟨j+1,z,by omega,by go_num,rfl,aL,J⟩
      case measure=>simp[intOf];omega
     ·have bt:((j:Int) !=(k:Int))=true:=by rw[bne_iff_ne];omega
      have hS:=bm x xj;have al:=fun W h=>(hM z (ci (eli F.z x - eli F.z xj)) W h).out
      rw[Qam]at al;have aL:Hid (eli F.z z*(eli F.z x - eli F.z xj)=QcH F.z pts k (eli F.z y) (j+1)):=by unfold Hid;rw[hz.out,QcI _ _ _ aH,hx.out,aw.out]
      rw[aL.out]at al;replace al:=fun W h=>η (al W h)
      have a7:=η (show _∧_∧_∧_∧_∧_∧_∧_ from ⟨T.1,T.2.1,T.2.2.1,T.2.2.2.1,T.2.2.2.2.1,T.2.2.2.2.2,a6,aK⟩);have ax:=θ aS V.size;clear aH hz T a6 aK;go_wp2_with fail;go_region_held3 (fun w'=>w'.cell? ⟨w.heap.size,0,none⟩=some (.int .i64 F.p)∧w'.cell? ⟨w.heap.size,1,none⟩=some (.int .i64 F.m)∧w'.cell? ⟨w.heap.size,2,none⟩=some (.slice A F.mod.length c)∧w'.cell? ⟨w.heap.size,3,none⟩=some (.int .i64 K)∧w'.cell? ⟨w.heap.size,4,none⟩=some (.slice (some ⟨b1,o1,none⟩) pts.length c1)∧w'.cell? ⟨w.heap.size,5,none⟩=some (.slice (some ⟨b2,o2,none⟩) mul.length c2)∧w'.cell? ⟨b1,o1+k,none⟩=some (.int .i64 x)∧w'.cell? ⟨b1,o1+j,none⟩=some (.int .i64 xj)) (first |exact a7.out |exact a8.out |exact bw.out)
       (first
        |(go_at_call 193;(with_reducible refine (hS _).out.mono ?_);rintro e w5 ⟨rfl,O⟩;have a8:=η (QdO O aJ ax ax a7.out);have ay:wi.heap.size≤w5.heap.size:=O.size;have a9:=V.drew.trans (O.mono V.size);have bv:=al w5 (hr.bm a9))
        |(go_at_call 57;(with_reducible refine bv.out.mono ?_);rintro e w6 ⟨rfl,bj⟩;have bw:=η (QdO bj (θ aJ ay) (θ ax ay) (θ ax ay) a8.out)))
      go_wp2_with fail;go_roundw
      case rel=>exact⟨j+1,_,by omega,by go_num,rfl,by unfold Hid;exact Qam _,(J.drew.trans (O.mono J.size)).trans (bj.mono (τ J.size ay))⟩
      case measure=>simp[intOf];omega
    ·obtain rfl:j=pts.length:=by omega
     have ba:ci (inv (eli F.z z))=QeW F pts mul k:=by unfold QeW;rw[hz.out,hy.out]
     have hI:=fun W h=>(bo z W h).out
     rw[ba]at hI;have bb:=η (hI wi bs);obtain⟨dv,am⟩:=ε (QeW F pts mul k);rw[←am]at bb;have aN:=X.out.below J bf;have bc:I<wi.heap.size:=θ bf J.size;have aO:=sx.out.keep J (by omega);replace aN:=η aN;replace am:=η am;replace aO:=η aO;clear ba hz hI;have bx:=η T;obtain⟨q0,q1,q2,q3,q4,q5⟩:=T;go_wp2_with fail;(with_reducible refine bb.out.mono ?_);rintro e w5 ⟨rfl,O⟩;have aP:=aN.out.below O bc;have bY:=aP.cell (i:=k) (by rw[Qaz];exact aU);have bZ:=aP.frozen k;have az:=aP.set_ k dv;rw[am.out,QaY,←am.out]at az;have aQ:Below I w5 (w5.setCell ⟨I,k,none⟩ (.int .i64 dv)):=κ.setCell (p:=⟨I,k,none⟩) ρ _;have bz:I<w5.heap.size:=θ bc O.size;have bA:=η (QbS aQ (by omega) (QbS O aJ bx.out));have bB:=η ((aO.out.keep O (by omega)).keep aQ bq);have bC:=(ζ V O).trans (aQ.mono (by omega));have bD:I<(w5.setCell ⟨I,k,none⟩ (.int .i64 dv)).heap.size:=θ bz (QbB _ _ _).size;replace az:=η az;clear q0 q1 q2 q3 q4 q5;go_wp2_with fail;go_roundw
     case rel=>exact⟨k+1,by omega,by go_num,bA,bB,az,bC,bD⟩
     case measure=>simp[intOf];omega
  ·obtain rfl:k=pts.length:=by omega
   obtain⟨q0,q1,q2,q3,q4,q5⟩:=kk.out;obtain⟨p0,p1,p2,p3,p4,p5,e0,e1,e2,e3,e4,e5⟩:=sx.out;have b0:=(IntWalk.i64_in ((pts.length:Int) - K) (by omega));have aA:=X.out;rw[QaR]at aA;replace aA:=η aA;go_wp2_with fail;refine bodyPost_ret (v:=.agg #[.int .i64 F.p,.int .i64 F.m,.slice A F.mod.length c,.int .i64 ((pts.length:Int) - K),.slice U pts.length c1,.slice (some ⟨I,0,none⟩) pts.length pts.length]) (by simp[results,Tryz.results138,go_sem,p0,p1,p2,p3,p4,p5]) rfl ⟨I,rfl,?_,by omega,ag.trans ((QeS _ _ _ _ _ _).mono (Nat.le_succ _))⟩;have bE:Rd wo wo.heap.size (some ⟨I,0,none⟩) (Qck F pts mul):=aA.out.rd;exact (bE.set6 (fun a e=>by cases e;show I≠_;omega) _ _ _ _ _ _).more (by simp[World.setCell])
theorem QnS (F:FD)(K:Int)(pts mul:List Int)(A I J:Option Addr)(c c1 c2:Nat)(w:World)(O:Rd w w.heap.size A (Qan F.z))(T:Rd w w.heap.size I pts)(U:Rd w w.heap.size J mul)
  (V:mul.length=pts.length) (X:pts.length≤64) (Y:0≤K) (aa:K≤(pts.length:Int)) :
  Calls Tryz.prog 138 #[.agg #[.int .i64 F.p,.int .i64 F.m,.slice A F.mod.length c,.int .i64 K,.slice I pts.length c1,.slice J mul.length c2]] w fun e w'=>∃g,e=.returned (.agg #[.int .i64 F.p,.int .i64 F.m,.slice A F.mod.length c,.int .i64 ((pts.length:Int) - K),.slice I pts.length c1,.slice (some ⟨g,0,none⟩) pts.length pts.length]) ∧
   Rd w' w'.heap.size (some ⟨g,0,none⟩) (Qck F pts mul)∧Below w.heap.size w w' :=
 (Qiz F K pts mul A I J c c1 c2 w O T U V X Y aa).mono fun _ _ ⟨g,e,h,_,hb⟩=>⟨g,e,h,hb⟩
end
end Go.Proofs

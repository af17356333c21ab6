/- The reference's check of a Goppa description. -/
import Derived.Test.YtogfekjbpcfgmaaGreatZtkGopP
set_option maxRecDepth 100000
set_option maxHeartbeats 16000000
set_option linter.unusedVariables false
namespace Go.Proofs
open Go.RowKit Cw
theorem Qso (S D:Desc):Qh4 S D=(decide ((S.p:Int)=(D.p:Int))&&decide ((D.m:Int) % (S.m:Int)=0)):=by
 have J:=S.m1;have O:=D.m1;unfold Qh4 Qia
 congr 1
 ·exact decide_eq_decide.2 (by omega)
 ·refine decide_eq_decide.2 ⟨fun h=>h.2.2,fun h=>⟨by omega,?_,h⟩⟩;have I:S.m∣D.m:=by
   refine Nat.dvd_of_mod_eq_zero ?_;omega
  have:=Nat.le_of_dvd (by omega) I;omega
theorem Qsp (S D:Desc)(A B:Option Addr)(n c n2 b:Nat)(w:World) :
  Calls Tryz.prog 69 #[.agg #[.int .i64 S.p,.int .i64 S.m,.slice A n c],.agg #[.int .i64 D.p,.int .i64 D.m,.slice B n2 b]] w fun e w'=>e=.returned (.bool (Qh4 S D))∧Below w.heap.size w w':=by
 have O:=η (Qso S D);have X:=S.m1;have Y:=D.m1;have h3:=S.m8;have h4:=D.m8;have h5:=S.p256;have h6:=D.p256;have T:Below w.heap.size w ((w.alloc (.cells #[.int .i64 S.p,.int .i64 S.m,.slice A n c] 24)).alloc (.cells #[.int .i64 D.p,.int .i64 D.m,.slice B n2 b] 24)):=(β).alloc (by simp) _;have k0:¬ (S.m:Int)=0:=by omega
 have k1:(D.m:Int).tmod (S.m:Int)=(D.m:Int) % (S.m:Int):=Int.tmod_eq_emod_of_nonneg (by omega);by_cases hp:(S.p:Int)=(D.p:Int)
 ·have U:((S.p:Int)==(D.p:Int))=true:=beq_iff_eq.2 hp;by_cases I:(D.m:Int) % (S.m:Int)=0
  ·have V:((D.m:Int) % (S.m:Int)==0)=true:=beq_iff_eq.2 I;have J:Hid (Qh4 S D=true):=by unfold Hid;rw[O.out,decide_eq_true hp,decide_eq_true I];rfl
   clear hp I;go_enter Tryz.func69,Tryz.ntmps69;go_wp2_with fail;go_ret;exact⟨QaB J.out.symm,T⟩
  ·have V:((D.m:Int) % (S.m:Int)==0)=false:=beq_eq_false_iff_ne.2 I;have J:Hid (Qh4 S D=false):=by unfold Hid;rw[O.out,decide_eq_true hp,decide_eq_false I];rfl
   clear hp I;go_enter Tryz.func69,Tryz.ntmps69;go_wp2_with fail;go_ret;exact⟨QaB J.out.symm,T⟩
 ·have U:((S.p:Int)==(D.p:Int))=false:=beq_eq_false_iff_ne.2 hp;have J:Hid (Qh4 S D=false):=by unfold Hid;rw[O.out,decide_eq_false hp];rfl
  clear hp;go_enter Tryz.func69,Tryz.ntmps69;go_wp2_with fail;go_ret;exact⟨QaB J.out.symm,T⟩
theorem QuH (D:Desc)(p:List Int)(U:elB D p=true):((QaD D p).length=p.length→1≤p.length→p[p.length - 1]?.getD 0≠0)∧(1≤p.length→p[p.length - 1]?.getD 0≠0→(QaD D p).length=p.length):=by
 have V:QaD D (QaD D p)=QaD D p:=QaZ D p;have T:1≤p.length→(cfR D p (p.length - 1)=0↔p[p.length - 1]?.getD 0=0):=fun O=>by
  have I:=QaJ.1 U (p.length - 1) (by omega);unfold cfR;rw[←Qaq,Qci I]
 constructor
 ·intro h O h0;obtain⟨n,hn⟩:∃n,p.length=n+1:=⟨p.length - 1,by omega⟩;have I:=Qa1 V (n:=n) (by omega);rw[Qbe]at I;have J:=(T O).2 h0;rw[show p.length - 1=n by omega]at J;exact I J
 ·intro O h0;have J:cfR D p (p.length - 1)≠0:=fun e=>h0 ((T O).1 e)
  have X:¬ (QaD D p).length≤p.length - 1:=fun h=>J (by rw[←Qbe];exact Qao D h)
  have Y:=Qa4 D p;omega
theorem QlT (D:Desc)(p:List Int)(A O:Option Addr)(c c1:Nat)(w:World)(T:Rd w w.heap.size O p)(U:p.length≤70000) :
  Calls Tryz.prog 71 #[.agg #[.int .i64 D.p,.int .i64 D.m,.slice A D.mod.length c],.slice O p.length c1] w fun e w'=>e=.returned (.int .i64 (((QaD D p).length:Int) - 1))∧Below w.heap.size w w':=by
 have X:=Qa4 D p;have I:Below w.heap.size w (w.alloc (.cells #[.int .i64 D.p,.int .i64 D.m,.slice A D.mod.length c] 24)):=β;have k0:=(Bxs.new w [.int .i64 D.p,.int .i64 D.m,.slice A D.mod.length c] 24).c3;have J:=QaN D p A O c c1 _ (T.bm I) U;unfold Qcj at J;replace J:=η J;go_enter Tryz.func71,Tryz.ntmps71;obtain⟨Y,q1,q2⟩:=k0;go_wp2_with fail;(with_reducible refine J.out.mono ?_);rintro e w1 ⟨gb,rfl,ac,ad,V⟩;go_wp2_with fail;go_ret;exact⟨rfl,ζ I V⟩
theorem Qsq (S D:Desc)(poly pts:List Int)(A B A1 A2:Option Addr)(c b c1 c2:Nat)(w:World)(hr:Rd w w.heap.size A (Qan S))(be:Rd w w.heap.size B (Qan D))(hS:Qcq S.p S.m (Qan S))(hD:Qcq D.p D.m (Qan D))(aQ:Rd w w.heap.size A1 poly)(aO:Rd w w.heap.size A2 pts)(bB:poly.length≤70000)(bC:pts.length≤maxLen) :
  Calls Tryz.prog 21 #[.agg #[.int .i64 S.p,.int .i64 S.m,.slice A S.mod.length c,.int .i64 D.p,.int .i64 D.m,.slice B D.mod.length b,.slice A1 poly.length c1,.slice A2 pts.length c2]] w fun e w'=>e=.returned (.int .i64 (QcP S D poly pts))∧Below w.heap.size w w':=by
 have bN:=S.p256;have bO:=S.m8;have bP:=D.p256;have bQ:=D.m8;have bh:(Qan S).length≤maxLen:=by rw[Qaf];have:=S.hlen;rw[this];unfold maxLen;split <;> omega
 have bi:(Qan D).length≤maxLen:=by rw[Qaf];have:=D.hlen;rw[this];unfold maxLen;split <;> omega
 have aR:=fun W h=>η (Qdd S.p S.m (Qan S) A c W (by omega) (by omega) bh h)
 rw[QdB hS,Qaf]at aR;have aS:=fun W h=>η (Qdd D.p D.m (Qan D) B b W (by omega) (by omega) bi h)
 rw[QdB hD,Qaf]at aS;have bj:=fun W=>Qsp S D A B S.mod.length c D.mod.length b W
 have hI:=fun x W=>Qmd D x B D.mod.length b W
 have bD:=fun W h=>η (QlT D poly B A1 b c1 W h bB)
 have bE:=fun x W Y h2=>η (QdN D poly x B A1 b c1 W Y h2 (by unfold maxLen;omega))
 unfold maxLen at bC;obtain⟨s,hs⟩:=ε (w.heap.size);obtain⟨Z,hZ⟩:=ε (w.alloc (.cells #[.int .i64 S.p,.int .i64 S.m,.slice A S.mod.length c,.int .i64 D.p,.int .i64 D.m,.slice B D.mod.length b,.slice A1 poly.length c1,.slice A2 pts.length c2] 44));have I:Below w.heap.size w Z:=by rw[hZ];exact β
 have J:Hid (Bxs Z s [.int .i64 S.p,.int .i64 S.m,.slice A S.mod.length c,.int .i64 D.p,.int .i64 D.m,.slice B D.mod.length b,.slice A1 poly.length c1,.slice A2 pts.length c2]):=by rw[hZ,hs];exact η (Bxs.new w _ _)
 have O:s<Z.heap.size:=by rw[hZ,hs];simp
 have hq:=aR Z (hr.bm I);replace hZ:=η hZ;clear aR bh bi hS hD;go_enter Tryz.func21,Tryz.ntmps21;obtain⟨a0,a1,a2,a3,a4,a5,a6,a7⟩:=J.out.c8;go_wp2_with fail;rw[←hZ.out];simp only[←hs];have bR:w.heap.size≤s:=Nat.le_of_eq hs.symm;replace hs:=η hs;go_wp2_with fail;(with_reducible refine hq.out.mono ?_);rintro e w1 ⟨rfl,V⟩;clear hq a0 a1 a2 a3 a4 a5 a6 a7;replace I:=ζ I V;replace J:=η (J.out.keep V O);replace O:=θ O V.size;clear V;have hq:=aS w1 (be.bm I);obtain⟨a0,a1,a2,a3,a4,a5,a6,a7⟩:=J.out.c8;go_wp2_with fail;(with_reducible refine hq.out.mono ?_);rintro e w2 ⟨rfl,V⟩;clear hq a0 a1 a2 a3 a4 a5 a6 a7 aS;replace I:=ζ I V;replace J:=η (J.out.keep V O);replace O:=θ O V.size;clear V;have hq:=bj w2;obtain⟨fb,aw⟩:=ε (Qh4 S D);rw[←aw]at hq;replace hq:=η hq;clear bj
 cases fb with
 |false =>
  have hE:Hid (QcP S D poly pts=10):=QjE aw.symm;clear aw;obtain⟨a0,a1,a2,a3,a4,a5,a6,a7⟩:=J.out.c8;go_wp2_with fail;(with_reducible refine hq.out.mono ?_);rintro e w3 ⟨rfl,V⟩;go_wp2_with fail;go_ret;exact⟨by rw[hE.out];rfl,ζ I V⟩
 |true =>
  replace aw:=η aw.symm;obtain⟨a0,a1,a2,a3,a4,a5,a6,a7⟩:=J.out.c8;go_wp2_with fail;(with_reducible refine hq.out.mono ?_);rintro e w3 ⟨rfl,V⟩;clear hq a0 a1 a2 a3 a4 a5 a6 a7;replace I:=ζ I V;replace J:=η (J.out.keep V O);replace O:=θ O V.size;clear V;by_cases Y:pts.length<1∨64<pts.length
  ·have hE:Hid (QcP S D poly pts=4):=QjF aw.out Y;rcases Y with Y |Y
   ·have aT:decide ((pts.length:Int)<1)=true:=decide_eq_true (by omega);clear Y;go_wp2_with fail;go_ret;exact⟨by rw[hE.out];rfl,I⟩
   ·have bl:decide ((pts.length:Int)<1)=false:=decide_eq_false (by omega);have aT:decide ((64:Int)<(pts.length:Int))=true:=decide_eq_true (by omega);clear Y;go_wp2_with fail;go_ret;exact⟨by rw[hE.out];rfl,I⟩
  have bl:decide ((pts.length:Int)<1)=false:=decide_eq_false (by omega);have aT:decide ((64:Int)<(pts.length:Int))=false:=decide_eq_false (by omega);replace Y:=η Y;go_wp2_with fail;clear bl aT;go_loopw [4] (fun i wr=>∃k:Nat,k≤pts.length∧i=.int .i64 k∧Hid (∀j,j<k→0≤pts[j]?.getD 0∧pts[j]?.getD 0<(D.q:Int))∧Hid (Bxs wr s [.int .i64 S.p,.int .i64 S.m,.slice A S.mod.length c,.int .i64 D.p,.int .i64 D.m,.slice B D.mod.length b,.slice A1 poly.length c1,.slice A2 pts.length c2])∧Below w.heap.size w wr∧s<wr.heap.size) (fun i _=>pts.length - (intOf i).toNat)
  case atStart=>exact⟨0,by omega,rfl,fun j hj=>absurd hj (by omega),J,I,O⟩
  case round =>
   clear J I O;obtain⟨w4,rfl⟩:=ε (wr:World);obtain⟨k,hk,rfl,ap,J,I,O⟩:=hrel;by_cases ax:k<pts.length
   ·have aU:(0:Int)≤(k:Int):=by omega
    have aV:(k:Int)<(pts.length:Int):=by omega
    obtain⟨T,U,rfl,aH,au⟩:=(aO.bm I).at_ ax;have ac:=fun W=>hI (pts[k]?.getD 0) W
    have X:=fun y (hy:pts[k]?.getD 0=y) W (h:Below w4.heap.size w4 W)=>η (show W.cell? ⟨s,3,none⟩=some (.int .i64 D.p)∧W.cell? ⟨s,4,none⟩=some (.int .i64 D.m)∧W.cell? ⟨s,5,none⟩=some (.slice B D.mod.length b)∧W.cell? ⟨s,7,none⟩=some (.slice (some ⟨T,U,none⟩) pts.length c2)∧W.cell? ⟨T,U+k,none⟩=some (.int .i64 y) from ⟨(J.out.keep h O).c8.2.2.2.1,(J.out.keep h O).c8.2.2.2.2.1,(J.out.keep h O).c8.2.2.2.2.2.1,(J.out.keep h O).c8.2.2.2.2.2.2.2,hy ▸ (h.cell (p:=⟨T,U+k,none⟩) aH).trans au⟩)
    clear au;by_cases e1:0≤pts[k]?.getD 0∧pts[k]?.getD 0<(D.q:Int)
    ·rw[decide_eq_true e1]at ac;replace ac:=fun W=>η (ac W)
     have aD:Hid (∀j,j<k+1→0≤pts[j]?.getD 0∧pts[j]?.getD 0<(D.q:Int)):=fun j hj=>by
      by_cases e:j=k
      ·subst e;exact e1
      ·exact ap.out j (by omega)
     replace X:=X _ rfl;clear e1;generalize pts[k]?.getD 0=y at *;go_wp2_with fail;refine wp_region_held_drew (S:=fun w'=>w'.cell? ⟨s,3,none⟩=some (.int .i64 D.p)∧w'.cell? ⟨s,4,none⟩=some (.int .i64 D.m)∧w'.cell? ⟨s,5,none⟩=some (.slice B D.mod.length b)∧w'.cell? ⟨s,7,none⟩=some (.slice (some ⟨T,U,none⟩) pts.length c2)∧w'.cell? ⟨T,U+k,none⟩=some (.int .i64 y)) (by kernel_rfl) (by (try dsimp only);exact (X _ κ.drew).out) (fun hHeld=>?_);refine tk 0 ?_;simp only[pS]
     refine tk 1 ?_;simp only[pS]
     refine tk 2 ?_;simp only[pS]
     refine tk 3 ?_;simp only[pS]
     refine tk 4 ?_;simp only[pS]
     refine tk 5 ?_;simp only[pS]
     refine tk 6 ?_;simp only[pS]
     refine rd 7 fun K hK=>?_
     go_simp;go_at_call 70;(with_reducible refine (ac _).out.mono ?_);rintro e w5 ⟨rfl,az⟩;go_wp2_with fail;refine hK.out _ _ ((X _ (κ.drew.trans az)).out) fun hHeld=>?_;clear hK K;try simp only[pS]
     refine tk 8 ?_;simp only[pS]
     refine δ ?_;have ay:Below w4.heap.size w4 w5:=κ.drew.trans az;replace J:=η (J.out.keep ay O);replace I:=ζ I ay;replace O:=θ O ay.size;go_wp2_with fail;go_roundw
     case rel=>exact⟨k+1,by omega,by go_num,aD,J,I,O⟩
     case measure=>simp[intOf];omega
    ·have hE:Hid (QcP S D poly pts=2):=QhU aw.out Y.out (.inl (Qiu ax e1));rw[decide_eq_false e1]at ac;replace ac:=fun W=>η (ac W)
     replace X:=X _ rfl;clear e1;generalize pts[k]?.getD 0=y at *;go_wp2_with fail;refine wp_region_held_drew (S:=fun w'=>w'.cell? ⟨s,3,none⟩=some (.int .i64 D.p)∧w'.cell? ⟨s,4,none⟩=some (.int .i64 D.m)∧w'.cell? ⟨s,5,none⟩=some (.slice B D.mod.length b)∧w'.cell? ⟨s,7,none⟩=some (.slice (some ⟨T,U,none⟩) pts.length c2)∧w'.cell? ⟨T,U+k,none⟩=some (.int .i64 y)) (by kernel_rfl) (by (try dsimp only);exact (X _ κ.drew).out) (fun hHeld=>?_);refine tk 0 ?_;simp only[pS]
     refine tk 1 ?_;simp only[pS]
     refine tk 2 ?_;simp only[pS]
     refine tk 3 ?_;simp only[pS]
     refine tk 4 ?_;simp only[pS]
     refine tk 5 ?_;simp only[pS]
     refine tk 6 ?_;simp only[pS]
     refine rd 7 fun K hK=>?_
     go_simp;go_at_call 70;(with_reducible refine (ac _).out.mono ?_);rintro e w5 ⟨rfl,az⟩;go_wp2_with fail;refine hK.out _ _ ((X _ (κ.drew.trans az)).out) fun hHeld=>?_;clear hK K;try simp only[pS]
     refine tk 8 ?_;simp only[pS]
     refine δ ?_;have ay:Below w4.heap.size w4 w5:=κ.drew.trans az;go_wp2_with fail;go_ret;exact⟨by rw[hE.out];rfl,ζ I ay⟩
   ·obtain rfl:k=pts.length:=by omega
    have bF:Hid (elB D pts=true):=QaJ.2 ap.out;clear ap;go_wp2_with fail;go_loopw [5] (fun i wr=>∃k:Nat,k≤poly.length∧i=.int .i64 k∧Hid (∀j,j<k→0≤poly[j]?.getD 0∧poly[j]?.getD 0<(D.q:Int))∧Hid (Bxs wr s [.int .i64 S.p,.int .i64 S.m,.slice A S.mod.length c,.int .i64 D.p,.int .i64 D.m,.slice B D.mod.length b,.slice A1 poly.length c1,.slice A2 pts.length c2])∧Below w.heap.size w wr∧s<wr.heap.size) (fun i _=>poly.length - (intOf i).toNat)
    case atStart=>exact⟨0,by omega,rfl,fun j hj=>absurd hj (by omega),J,I,O⟩
    case round =>
     clear J I O;obtain⟨w4,rfl⟩:=ε (wr:World);obtain⟨k,hk,rfl,ap,J,I,O⟩:=hrel;by_cases ax:k<poly.length
     ·have aU:(0:Int)≤(k:Int):=by omega
      have aV:(k:Int)<(poly.length:Int):=by omega
      obtain⟨T,U,rfl,aH,au⟩:=(aQ.bm I).at_ ax;have ac:=fun W=>hI (poly[k]?.getD 0) W
      have X:=fun y (hy:poly[k]?.getD 0=y) W (h:Below w4.heap.size w4 W)=>η (show W.cell? ⟨s,3,none⟩=some (.int .i64 D.p)∧W.cell? ⟨s,4,none⟩=some (.int .i64 D.m)∧W.cell? ⟨s,5,none⟩=some (.slice B D.mod.length b)∧W.cell? ⟨s,6,none⟩=some (.slice (some ⟨T,U,none⟩) poly.length c1)∧W.cell? ⟨T,U+k,none⟩=some (.int .i64 y) from ⟨(J.out.keep h O).c8.2.2.2.1,(J.out.keep h O).c8.2.2.2.2.1,(J.out.keep h O).c8.2.2.2.2.2.1,(J.out.keep h O).c8.2.2.2.2.2.2.1,hy ▸ (h.cell (p:=⟨T,U+k,none⟩) aH).trans au⟩)
      obtain⟨a0,a1,a2,a3,a4,a5,a6,a7⟩:=J.out.c8;clear au;by_cases e1:0≤poly[k]?.getD 0∧poly[k]?.getD 0<(D.q:Int)
      ·rw[decide_eq_true e1]at ac;replace ac:=fun W=>η (ac W)
       have aD:Hid (∀j,j<k+1→0≤poly[j]?.getD 0∧poly[j]?.getD 0<(D.q:Int)):=fun j hj=>by
        by_cases e:j=k
        ·subst e;exact e1
        ·exact ap.out j (by omega)
       replace X:=X _ rfl;clear e1;generalize poly[k]?.getD 0=y at *;go_wp2_with fail;clear a0 a1 a2 a3 a4 a5 a6 a7;refine wp_region_held_drew (S:=fun w'=>w'.cell? ⟨s,3,none⟩=some (.int .i64 D.p)∧w'.cell? ⟨s,4,none⟩=some (.int .i64 D.m)∧w'.cell? ⟨s,5,none⟩=some (.slice B D.mod.length b)∧w'.cell? ⟨s,6,none⟩=some (.slice (some ⟨T,U,none⟩) poly.length c1)∧w'.cell? ⟨T,U+k,none⟩=some (.int .i64 y)) (by kernel_rfl) (by (try dsimp only);exact (X _ κ.drew).out) (fun hHeld=>?_);refine tk 0 ?_;simp only[pS]
       refine tk 1 ?_;simp only[pS]
       refine tk 2 ?_;simp only[pS]
       refine tk 3 ?_;simp only[pS]
       refine tk 4 ?_;simp only[pS]
       refine tk 5 ?_;simp only[pS]
       refine tk 6 ?_;simp only[pS]
       refine rd 7 fun K hK=>?_
       go_simp;go_at_call 70;(with_reducible refine (ac _).out.mono ?_);rintro e w5 ⟨rfl,az⟩;go_wp2_with fail;refine hK.out _ _ ((X _ (κ.drew.trans az)).out) fun hHeld=>?_;clear hK K;try simp only[pS]
       refine tk 8 ?_;simp only[pS]
       refine δ ?_;have ay:Below w4.heap.size w4 w5:=κ.drew.trans az;replace J:=η (J.out.keep ay O);replace I:=ζ I ay;replace O:=θ O ay.size;go_wp2_with fail;go_roundw
       case rel=>exact⟨k+1,by omega,by go_num,aD,J,I,O⟩
       case measure=>simp[intOf];omega
      ·have hE:Hid (QcP S D poly pts=2):=QhU aw.out Y.out (.inr (Qiu ax e1));rw[decide_eq_false e1]at ac;replace ac:=fun W=>η (ac W)
       replace X:=X _ rfl;clear e1;generalize poly[k]?.getD 0=y at *;go_wp2_with fail;clear a0 a1 a2 a3 a4 a5 a6 a7;refine wp_region_held_drew (S:=fun w'=>w'.cell? ⟨s,3,none⟩=some (.int .i64 D.p)∧w'.cell? ⟨s,4,none⟩=some (.int .i64 D.m)∧w'.cell? ⟨s,5,none⟩=some (.slice B D.mod.length b)∧w'.cell? ⟨s,6,none⟩=some (.slice (some ⟨T,U,none⟩) poly.length c1)∧w'.cell? ⟨T,U+k,none⟩=some (.int .i64 y)) (by kernel_rfl) (by (try dsimp only);exact (X _ κ.drew).out) (fun hHeld=>?_);refine tk 0 ?_;simp only[pS]
       refine tk 1 ?_;simp only[pS]
       refine tk 2 ?_;simp only[pS]
       refine tk 3 ?_;simp only[pS]
       refine tk 4 ?_;simp only[pS]
       refine tk 5 ?_;simp only[pS]
       refine tk 6 ?_;simp only[pS]
       refine rd 7 fun K hK=>?_
       go_simp;go_at_call 70;(with_reducible refine (ac _).out.mono ?_);rintro e w5 ⟨rfl,az⟩;go_wp2_with fail;refine hK.out _ _ ((X _ (κ.drew.trans az)).out) fun hHeld=>?_;clear hK K;try simp only[pS]
       refine tk 8 ?_;simp only[pS]
       refine δ ?_;have ay:Below w4.heap.size w4 w5:=κ.drew.trans az;go_wp2_with fail;go_ret;exact⟨by rw[hE.out];rfl,ζ I ay⟩
     ·obtain rfl:k=poly.length:=by omega
      have h2:Hid (¬ (elB D pts=false∨elB D poly=false)):=by
       unfold Hid;rw[bF.out,show elB D poly=true from QaJ.2 ap.out];simp
      have bG:=η (QaJ.2 ap.out);clear ap;obtain⟨a0,a1,a2,a3,a4,a5,a6,a7⟩:=J.out.c8;go_wp2_with fail;clear a0 a1 a2 a3 a4 a5 a6 a7;go_loopw [6,7] (fun i _ wr=>∃k:Nat,k≤pts.length∧i=.int .i64 k∧Hid (∀i j,j<i→i<k→pts[i]?.getD 0≠pts[j]?.getD 0)∧Hid (Bxs wr s [.int .i64 S.p,.int .i64 S.m,.slice A S.mod.length c,.int .i64 D.p,.int .i64 D.m,.slice B D.mod.length b,.slice A1 poly.length c1,.slice A2 pts.length c2])∧Below w.heap.size w wr∧s<wr.heap.size) (fun i _ _=>pts.length - (intOf i).toNat)
      case atStart=>exact⟨0,by omega,rfl,fun i j Y h2=>absurd h2 (by omega),J,I,O⟩
      case round =>
       clear J I O;obtain⟨w4,rfl⟩:=ε (wr:World);obtain⟨k,hk,rfl,ap,J,I,O⟩:=hrel;by_cases ax:k<pts.length
       ·obtain⟨y,hy⟩:=ε (pts[k]?.getD 0);replace hy:=η hy;go_wp2_with fail;go_loopw [7] (fun i wr=>∃j:Nat,j≤k∧i=.int .i64 j∧Hid (∀t,t<j→y≠pts[t]?.getD 0)∧Hid (Bxs wr s [.int .i64 S.p,.int .i64 S.m,.slice A S.mod.length c,.int .i64 D.p,.int .i64 D.m,.slice B D.mod.length b,.slice A1 poly.length c1,.slice A2 pts.length c2])∧Below w.heap.size w wr∧s<wr.heap.size) (fun i _=>k - (intOf i).toNat)
        case atStart=>exact⟨0,by omega,rfl,fun t ht=>absurd ht (by omega),J,I,O⟩
        case round =>
         clear J I O;obtain⟨w5,rfl⟩:=ε (wr:World);obtain⟨j,hj,rfl,bv,J,I,O⟩:=hrel;by_cases bM:j<k
         ·have aU:(0:Int)≤(k:Int):=by omega
          have aV:(k:Int)<(pts.length:Int):=by omega
          have bS:(0:Int)≤(j:Int):=by omega
          have bT:(j:Int)<(pts.length:Int):=by omega
          obtain⟨T,U,rfl,aH,au⟩:=(aO.bm I).at_ ax;obtain⟨b2,o2,e2,bW,bb⟩:=(aO.bm I).at_ (by omega:j<pts.length)
          cases e2
          rw[←hy.out]at au;obtain⟨z,hz⟩:=ε (pts[j]?.getD 0);rw[←hz]at bb;replace hz:=η hz;have kk:=η (show w5.cell? ⟨s,7,none⟩=some (.slice (some ⟨T,U,none⟩) pts.length c2)∧w5.cell? ⟨T,U+k,none⟩=some (.int .i64 y)∧w5.cell? ⟨T,U+j,none⟩=some (.int .i64 z) from ⟨J.out.c8.2.2.2.2.2.2.2,au,bb⟩);clear au bb;by_cases aI:y=z
          ·have hE:Hid (QcP S D poly pts=18):=QlR aw.out Y.out h2.out (Qje bM ax (by rw[←hy.out,←hz.out,aI]));have V:(y==z)=true:=beq_iff_eq.2 aI;clear aI;go_wp2_with fail;go_region_held3 (fun w'=>w'.cell? ⟨s,7,none⟩=some (.slice (some ⟨T,U,none⟩) pts.length c2)∧w'.cell? ⟨T,U+k,none⟩=some (.int .i64 y)∧w'.cell? ⟨T,U+j,none⟩=some (.int .i64 z)) (first |exact kk.out) (fail);go_wp2_with fail;go_ret;exact⟨by rw[hE.out];rfl,I.drew⟩
          ·have V:(y==z)=false:=beq_eq_false_iff_ne.2 aI;have bH:Hid (∀t,t<j+1→y≠pts[t]?.getD 0):=fun t ht=>by
            by_cases e:t=j
            ·subst e;rw[←hz.out];exact aI
            ·exact bv.out t (by omega)
           clear aI;go_wp2_with fail;go_region_held3 (fun w'=>w'.cell? ⟨s,7,none⟩=some (.slice (some ⟨T,U,none⟩) pts.length c2)∧w'.cell? ⟨T,U+k,none⟩=some (.int .i64 y)∧w'.cell? ⟨T,U+j,none⟩=some (.int .i64 z)) (first |exact kk.out) (fail);go_wp2_with fail;go_roundw
           case rel=>exact⟨j+1,by omega,by go_num,bH,J,I.drew,O⟩
           case measure=>simp[intOf];omega
         ·obtain rfl:j=k:=by omega
          have aD:Hid (∀i t,t<i→i<j+1→pts[i]?.getD 0≠pts[t]?.getD 0):=fun i t Y h2=>by
           by_cases e:i=j
           ·subst e;rw[←hy.out];exact bv.out t Y
           ·exact ap.out i t Y (by omega)
          clear hy;go_wp2_with fail;go_roundw
          case rel=>exact⟨j+1,by omega,by go_num,aD,J,I,O⟩
          case measure=>simp[intOf];omega
       ·obtain rfl:k=pts.length:=by omega
        have aW:Hid (twB pts=false):=QsY ap.out;clear ap;have hq:=bD w4 (aQ.bm I);have aE:=QuH D poly bG.out;have bI:=Qa4 D poly;obtain⟨cl,aX⟩:=ε ((QaD D poly).length);rw[←aX]at hq aE bI;replace aX:=η aX;obtain⟨a0,a1,a2,a3,a4,a5,a6,a7⟩:=J.out.c8;go_wp2_with fail;(with_reducible refine hq.out.mono ?_);rintro e w5 ⟨rfl,V⟩;clear hq a0 a1 a2 a3 a4 a5 a6 a7;replace I:=ζ I V;replace J:=η (J.out.keep V O);replace O:=θ O V.size;clear V;obtain⟨a0,a1,a2,a3,a4,a5,a6,a7⟩:=J.out.c8;by_cases h4:poly.length<2∨65<poly.length∨poly[poly.length - 1]?.getD 0=0
        ·have hE:Hid (QcP S D poly pts=5):=QhV aw.out Y.out h2.out aW.out h4;by_cases g1:cl=poly.length
         ·have aY:(((cl:Int) - 1) !=((poly.length:Int) - 1))=false:=by rw[bne_eq_false_iff_eq];omega
          by_cases g2:poly.length<2
          ·have aZ:decide ((cl:Int) - 1<1)=true:=decide_eq_true (by omega);clear g1 g2 h4 aE;go_wp2_with fail;go_ret;exact⟨by rw[hE.out];rfl,I⟩
          ·have aZ:decide ((cl:Int) - 1<1)=false:=decide_eq_false (by omega);have bo:decide ((64:Int)<(cl:Int) - 1)=true:=decide_eq_true (by
            rcases h4 with h4 |h4 |h4
            ·omega
            ·omega
            ·exact absurd h4 (aE.1 (by omega) (by omega)))
           clear g1 g2 h4 aE;go_wp2_with fail;go_ret;exact⟨by rw[hE.out];rfl,I⟩
         ·have aY:(((cl:Int) - 1) !=((poly.length:Int) - 1))=true:=by rw[bne_iff_ne];omega
          clear g1 h4 aE;go_wp2_with fail;go_ret;exact⟨by rw[hE.out];rfl,I⟩
        ·have g1:cl=poly.length:=aE.2 (by omega) (by omega);have aY:(((cl:Int) - 1) !=((poly.length:Int) - 1))=false:=by rw[bne_eq_false_iff_eq];omega
         have aZ:decide ((cl:Int) - 1<1)=false:=decide_eq_false (by omega);have bo:decide ((64:Int)<(cl:Int) - 1)=false:=decide_eq_false (by omega);replace h4:=η h4;clear g1 aE;obtain⟨f,hf⟩:=ε (fun i=>ci (QaW D poly (eli D (pts[i]?.getD 0))):Nat→Int)
         have bp:Hid (∀j,j<pts.length→(QfW D poly pts)[j]?.getD 0=f j):=fun j hj=>by rw[hf];exact Qas _ hj
         go_wp2_with fail;clear a0 a1 a2 a3 a4 a5 a6 a7 aY aZ bo;go_loopw [9] (fun i wr=>∃k:Nat,k≤pts.length∧i=.int .i64 k∧Hid (∀j,j<k→f j≠0)∧Hid (Bxs wr s [.int .i64 S.p,.int .i64 S.m,.slice A S.mod.length c,.int .i64 D.p,.int .i64 D.m,.slice B D.mod.length b,.slice A1 poly.length c1,.slice A2 pts.length c2])∧Below w.heap.size w wr∧s<wr.heap.size) (fun i _=>pts.length - (intOf i).toNat)
         case atStart=>exact⟨0,by omega,rfl,fun j hj=>absurd hj (by omega),J,I,O⟩
         case round =>
          clear J I O;obtain⟨w6,rfl⟩:=ε (wr:World);obtain⟨k,hk,rfl,ap,J,I,O⟩:=hrel;by_cases ax:k<pts.length
          ·have aU:(0:Int)≤(k:Int):=by omega
           have aV:(k:Int)<(pts.length:Int):=by omega
           obtain⟨T,U,rfl,aH,au⟩:=(aO.bm I).at_ ax;obtain⟨y,hy⟩:=ε (pts[k]?.getD 0);rw[←hy]at au;have bq:=fun W a b=>bE y W a b
           obtain⟨v,hv⟩:=ε (f k);have a8:ci (QaW D poly (eli D y))=v:=by rw[hv,hf,hy]
           have br:∀W,Rd W W.heap.size B (Qan D)→Rd W W.heap.size A1 poly→Hid (Calls Tryz.prog 72 #[.agg #[.int .i64 D.p,.int .i64 D.m,.slice B D.mod.length b],.slice A1 poly.length c1,.int .i64 y] W fun e w'=>e=.returned (.int .i64 v)∧Below W.heap.size W w'):=fun W a b=>by
            have h:=bq W a b;rw[a8]at h;exact h
           have X:=fun W (h:Below w6.heap.size w6 W)=>η (show W.cell? ⟨s,3,none⟩=some (.int .i64 D.p)∧W.cell? ⟨s,4,none⟩=some (.int .i64 D.m)∧W.cell? ⟨s,5,none⟩=some (.slice B D.mod.length b)∧W.cell? ⟨s,6,none⟩=some (.slice A1 poly.length c1)∧W.cell? ⟨s,7,none⟩=some (.slice (some ⟨T,U,none⟩) pts.length c2)∧W.cell? ⟨T,U+k,none⟩=some (.int .i64 y) from ⟨(J.out.keep h O).c8.2.2.2.1,(J.out.keep h O).c8.2.2.2.2.1,(J.out.keep h O).c8.2.2.2.2.2.1,(J.out.keep h O).c8.2.2.2.2.2.2.1,(J.out.keep h O).c8.2.2.2.2.2.2.2,(h.cell (p:=⟨T,U+k,none⟩) aH).trans au⟩)
           have hq:=br w6.drew ((be.bm I).drew) ((aQ.bm I).drew);replace hy:=η hy;replace a8:=η a8;clear au bq br;by_cases aJ:v=0
           ·have bJ:(v==0)=true:=beq_iff_eq.2 aJ;have hm:(0:Int)∈QfW D poly pts:=by
             rw[←aJ,hv,←bp.out k ax];exact Qcm (by unfold QfW;rw[Qab];exact ax)
            have hE:Hid (QcP S D poly pts=7):=QhW aw.out Y.out h2.out aW.out h4.out hm;clear hm hv aJ;go_wp2_with fail;refine wp_region_held_drew (S:=fun w'=>w'.cell? ⟨s,3,none⟩=some (.int .i64 D.p)∧w'.cell? ⟨s,4,none⟩=some (.int .i64 D.m)∧w'.cell? ⟨s,5,none⟩=some (.slice B D.mod.length b)∧w'.cell? ⟨s,6,none⟩=some (.slice A1 poly.length c1)∧w'.cell? ⟨s,7,none⟩=some (.slice (some ⟨T,U,none⟩) pts.length c2)∧w'.cell? ⟨T,U+k,none⟩=some (.int .i64 y)) (by kernel_rfl) (by (try dsimp only);exact (X _ κ.drew).out) (fun hHeld=>?_);refine tk 0 ?_;simp only[pS]
            refine tk 1 ?_;simp only[pS]
            refine tk 2 ?_;simp only[pS]
            refine tk 3 ?_;simp only[pS]
            refine tk 4 ?_;simp only[pS]
            refine tk 5 ?_;simp only[pS]
            refine tk 6 ?_;simp only[pS]
            refine tk 7 ?_;simp only[pS]
            refine tk 8 ?_;simp only[pS]
            refine rd 9 fun K hK=>?_
            go_simp;go_at_call 72;(with_reducible refine (hq).out.mono ?_);rintro e w7 ⟨rfl,aN⟩;go_wp2_with fail;refine hK.out _ _ ((X _ (κ.drew.trans aN)).out) fun hHeld=>?_;clear hK K;try simp only[pS]
            refine tk 10 ?_;simp only[pS]
            refine δ ?_;have aL:Below w6.heap.size w6 w7:=κ.drew.trans aN;go_wp2_with fail;go_ret;exact⟨by rw[hE.out];rfl,ζ I aL⟩
           ·have bJ:(v==0)=false:=beq_eq_false_iff_ne.2 aJ;have aD:Hid (∀j,j<k+1→f j≠0):=fun j hj=>by
             by_cases e:j=k
             ·subst e;rw[←hv];exact aJ
             ·exact ap.out j (by omega)
            clear hv aJ;go_wp2_with fail;refine wp_region_held_drew (S:=fun w'=>w'.cell? ⟨s,3,none⟩=some (.int .i64 D.p)∧w'.cell? ⟨s,4,none⟩=some (.int .i64 D.m)∧w'.cell? ⟨s,5,none⟩=some (.slice B D.mod.length b)∧w'.cell? ⟨s,6,none⟩=some (.slice A1 poly.length c1)∧w'.cell? ⟨s,7,none⟩=some (.slice (some ⟨T,U,none⟩) pts.length c2)∧w'.cell? ⟨T,U+k,none⟩=some (.int .i64 y)) (by kernel_rfl) (by (try dsimp only);exact (X _ κ.drew).out) (fun hHeld=>?_);refine tk 0 ?_;simp only[pS]
            refine tk 1 ?_;simp only[pS]
            refine tk 2 ?_;simp only[pS]
            refine tk 3 ?_;simp only[pS]
            refine tk 4 ?_;simp only[pS]
            refine tk 5 ?_;simp only[pS]
            refine tk 6 ?_;simp only[pS]
            refine tk 7 ?_;simp only[pS]
            refine tk 8 ?_;simp only[pS]
            refine rd 9 fun K hK=>?_
            go_simp;go_at_call 72;(with_reducible refine (hq).out.mono ?_);rintro e w7 ⟨rfl,aN⟩;go_wp2_with fail;refine hK.out _ _ ((X _ (κ.drew.trans aN)).out) fun hHeld=>?_;clear hK K;try simp only[pS]
            refine tk 10 ?_;simp only[pS]
            refine δ ?_;have aL:Below w6.heap.size w6 w7:=κ.drew.trans aN;replace J:=η (J.out.keep aL O);replace I:=ζ I aL;replace O:=θ O aL.size;go_wp2_with fail;go_roundw
            case rel=>exact⟨k+1,by omega,by go_num,aD,J,I,O⟩
            case measure=>simp[intOf];omega
          ·obtain rfl:k=pts.length:=by omega
           have bs:¬ (0:Int)∈QfW D poly pts:=fun hm=>by
            obtain⟨j,hj,e⟩:=List.getElem_of_mem hm;have bt:j<pts.length:=by unfold QfW at hj;rw[Qab]at hj;exact hj
            have h9:=bp.out j bt;rw[List.getElem?_eq_getElem hj]at h9;exact ap.out j bt (h9.symm.trans e)
           have hE:Hid (QcP S D poly pts=0):=QlS aw.out Y.out h2.out aW.out h4.out bs;clear bs;go_wp2_with fail;go_ret;exact⟨by rw[hE.out];rfl,I⟩
end Go.Proofs

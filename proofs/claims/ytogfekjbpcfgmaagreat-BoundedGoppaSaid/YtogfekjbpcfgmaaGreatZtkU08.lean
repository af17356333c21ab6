/- Layer 19: GoppaCode of a description that is refused; empty; the reference's GoppaCode. -/
import Derived.Test.YtogfekjbpcfgmaaGreatZtkBgo
import Derived.Test.YtogfekjbpcfgmaaGreatZtkBk19
import Derived.Test.YtogfekjbpcfgmaaGreatZtkRal
set_option maxRecDepth 100000
set_option maxHeartbeats 16000000
set_option linter.unusedVariables false
namespace Go.Proofs
open Go.RowKit Cw
section
theorem Qdj.congr {S F:FD} {r:R F.z} {N t I:Nat} {h J:Nat→Nat→R F.z} {w:World} {e:Ending} {w':World} (H:∀u,Qcc S F r N t h u↔Qcc S F r N I J u)(O:Qdj S F r N t h w e w'):Qdj S F r N I J w e w':=by
 obtain⟨k,C,T,U,V,cl,X,Y,h3,h4⟩:=O;exact⟨k,C,T,U,V,cl,X,Y,fun u=>(h3 u).trans (H u),h4⟩
theorem Qto {b B:Nat} {W w1:World} {O v1 v2 T U V X Y:Value} (I:Below B W w1)(J:b<B)(h:W.cell? ⟨b,0,none⟩=some O∧W.cell? ⟨b,1,none⟩=some v1∧W.cell? ⟨b,2,none⟩=some v2∧W.cell? ⟨b,3,none⟩=some T∧W.cell? ⟨b,4,none⟩=some U∧W.cell? ⟨b,5,none⟩=some V∧W.cell? ⟨b,6,none⟩=some X∧W.cell? ⟨b,7,none⟩=some Y) :
  w1.cell? ⟨b,0,none⟩=some O∧w1.cell? ⟨b,1,none⟩=some v1∧w1.cell? ⟨b,2,none⟩=some v2∧w1.cell? ⟨b,3,none⟩=some T∧w1.cell? ⟨b,4,none⟩=some U∧w1.cell? ⟨b,5,none⟩=some V∧w1.cell? ⟨b,6,none⟩=some X∧w1.cell? ⟨b,7,none⟩=some Y :=
 ⟨(I.cell (p:=⟨b,0,none⟩) J).trans h.1,(I.cell (p:=⟨b,1,none⟩) J).trans h.2.1,(I.cell (p:=⟨b,2,none⟩) J).trans h.2.2.1,(I.cell (p:=⟨b,3,none⟩) J).trans h.2.2.2.1,(I.cell (p:=⟨b,4,none⟩) J).trans h.2.2.2.2.1,(I.cell (p:=⟨b,5,none⟩) J).trans h.2.2.2.2.2.1,(I.cell (p:=⟨b,6,none⟩) J).trans h.2.2.2.2.2.2.1,(I.cell (p:=⟨b,7,none⟩) J).trans h.2.2.2.2.2.2.2⟩
theorem QjM (S F:FD)(rt:Nat)(poly pts:List Int)(A B O I:Option Addr)(c b c1 c2:Nat)(w:World)(hS:Qcq S.p S.m (Qan S.z))(aA:Qjl S F rt)(hz:QcP S.z F.z poly pts=0)(hr:Rd w w.heap.size A (Qan S.z))(aC:Rd w w.heap.size B (Qan F.z))(aD:Rd w w.heap.size O poly)(aE:Rd w w.heap.size I pts) :
  Calls Tryz.prog 26 #[.agg #[.int .i64 S.p,.int .i64 S.m,.slice A S.mod.length c,.int .i64 F.p,.int .i64 F.m,.slice B F.mod.length b,.slice O poly.length c1,.slice I pts.length c2]] w (Qdj S F (rel F.z rt) pts.length (poly.length - 1) (QgH F poly pts) w):=by
 obtain⟨a2,⟨aK,aL⟩,-,-,-,be,bf,-,-⟩:=QbW hz;have an:=Qdz.1 a2;have hp:=an.1;have aS:S.m∣F.m:=by
  obtain⟨k,e,-,-,h9⟩:=QeQ an.2;have e2:S.m=k:=by omega
  rw[e2];exact h9
 obtain⟨K1,ar⟩:=ε (pts.length - min (poly.length - 1) pts.length);have U:min (poly.length - 1) pts.length≤pts.length:=by omega
 have aU:Hid (∀u,Qcc S F (rel F.z rt) pts.length (pts.length - K1) (Qsr F pts (Qck F pts (Qh5 F poly pts))) u↔Qcc S F (rel F.z rt) pts.length (poly.length - 1) (QgH F poly pts) u):=fun u=>by
  unfold Qsr;rw[QkD (Qh0 hz U),show pts.length - K1=min (poly.length - 1) pts.length from by omega];exact QkW hp aA.2.1 hz
 have am:=fun W x1 x2 x3=>QqH F S.p S.m S.mod.length poly pts A B O I c b c1 c2 W x1 x2 x3 (by omega) (by omega) aK aL
 have ad:=fun A5 c5 W x1 x2 x3 x4=>(Qot S F rt K1 pts (Qck F pts (Qh5 F poly pts)) A B I A5 c b c2 c5 W hS hp aA aS x1 x2 x3 x4 (QbP F pts _) aK aL (by omega)).mono fun _ _ hc=>Qdj.congr aU.out hc
 rw[QbP]at ad;unfold Ql2 at am;rw[←ar]at am;obtain⟨T,hT⟩:=ε (poly.length - 1);rw[←hT]at ad ⊢;obtain⟨s,hs⟩:=ε (w.heap.size);obtain⟨Z,hZ⟩:=ε ((w.alloc (.cells #[.int .i64 S.p,.int .i64 S.m,.slice A S.mod.length c,.int .i64 F.p,.int .i64 F.m,.slice B F.mod.length b,.slice O poly.length c1,.slice I pts.length c2] 44)).alloc (.cells #[.int .i64 0,.int .i64 0,.slice none 0 0,.int .i64 0,.slice none 0 0] 27));have V:Below w.heap.size w Z:=by rw[hZ];exact (β).alloc (by simp) _
 have aV:Hid (Bxs Z s [.int .i64 S.p,.int .i64 S.m,.slice A S.mod.length c,.int .i64 F.p,.int .i64 F.m,.slice B F.mod.length b,.slice O poly.length c1,.slice I pts.length c2]):=by rw[hZ,hs];exact (Bxs.new w _ _).keep (β) (by simp)
 have aW:Hid (Bxs Z (s+1) [.int .i64 0,.int .i64 0,.slice none 0 0,.int .i64 0,.slice none 0 0]):=by rw[hZ,hs];have:=Bxs.new (w.alloc (.cells #[.int .i64 S.p,.int .i64 S.m,.slice A S.mod.length c,.int .i64 F.p,.int .i64 F.m,.slice B F.mod.length b,.slice O poly.length c1,.slice I pts.length c2] 44)) [.int .i64 0,.int .i64 0,.slice none 0 0,.int .i64 0,.slice none 0 0] 27;rw[World.size_alloc]at this;exact this
 have aF:s+1<Z.heap.size:=by rw[hZ,hs];simp
 have aG:s<Z.heap.size:=by omega
 have aX:=hr.bm V;have aH:=aC.bm V;have aY:=aD.bm V;have aI:=aE.bm V;have hq:=η (am Z.drew aH.drew aY.drew aI.drew);replace ad:=fun A5 c5 W x1 x2 x3 x4=>η (ad A5 c5 W x1 x2 x3 x4)
 have ap:Hid (Z.cell? ⟨s,0,none⟩=some (.int .i64 S.p)∧Z.cell? ⟨s,1,none⟩=some (.int .i64 S.m)∧Z.cell? ⟨s,2,none⟩=some (.slice A S.mod.length c)∧Z.cell? ⟨s,3,none⟩=some (.int .i64 F.p)∧Z.cell? ⟨s,4,none⟩=some (.int .i64 F.m)∧Z.cell? ⟨s,5,none⟩=some (.slice B F.mod.length b)∧Z.cell? ⟨s,6,none⟩=some (.slice O poly.length c1)∧Z.cell? ⟨s,7,none⟩=some (.slice I pts.length c2)):=aV.out.c8;replace hZ:=η hZ;replace hT:=η hT;replace ar:=η ar;replace hp:=η hp;unfold Qdj;clear am an hr aC aD aE;go_enter Tryz.func26,Tryz.ntmps26;go_wp2_with fail;rw[←hZ.out];simp only[←hs];have bb:w.heap.size≤s:=Nat.le_of_eq hs.symm;replace hs:=η hs;refine wp_region_held_drew (S:=fun w'=>w'.cell? ⟨s,0,none⟩=some (.int .i64 S.p)∧w'.cell? ⟨s,1,none⟩=some (.int .i64 S.m)∧w'.cell? ⟨s,2,none⟩=some (.slice A S.mod.length c)∧w'.cell? ⟨s,3,none⟩=some (.int .i64 F.p)∧w'.cell? ⟨s,4,none⟩=some (.int .i64 F.m)∧w'.cell? ⟨s,5,none⟩=some (.slice B F.mod.length b)∧w'.cell? ⟨s,6,none⟩=some (.slice O poly.length c1)∧w'.cell? ⟨s,7,none⟩=some (.slice I pts.length c2)) (by kernel_rfl) (by (try dsimp only);exact ap.out) (fun hHeld=>?_);refine tk 0 ?_;simp only[pS]
 refine tk 1 ?_;simp only[pS]
 refine tk 2 ?_;simp only[pS]
 refine rd 3 fun K U=>?_
 go_simp;go_at_call 80;(with_reducible refine (hq).out.mono ?_);rintro e w3 ⟨g3,rfl,a6,a7⟩;have X:=(Below.refl Z.heap.size Z).drew.trans a7;have aZ:Hid (w3.cell? ⟨s,0,none⟩=some (.int .i64 S.p)∧w3.cell? ⟨s,1,none⟩=some (.int .i64 S.m)∧w3.cell? ⟨s,2,none⟩=some (.slice A S.mod.length c)∧w3.cell? ⟨s,3,none⟩=some (.int .i64 F.p)∧w3.cell? ⟨s,4,none⟩=some (.int .i64 F.m)∧w3.cell? ⟨s,5,none⟩=some (.slice B F.mod.length b)∧w3.cell? ⟨s,6,none⟩=some (.slice O poly.length c1)∧w3.cell? ⟨s,7,none⟩=some (.slice I pts.length c2)):=Qto X aG ap.out;have a0:=ad (some ⟨g3,0,none⟩) pts.length w3 (aX.bm X) (aH.bm X) (aI.bm X) a6;go_wp2_with fail;refine U.out _ _ aZ.out fun hHeld=>?_;clear U K;try simp only[pS]
 refine rd 4 fun K U=>?_
 go_simp;go_at_call 79;(with_reducible refine (a0).out.mono ?_);rintro e w4 ⟨k,C,A3,c3,ah,ai,rfl,aM,aN,aO,aP,aQ,a8⟩;have au:=ζ X a8;have Y:Hid (w4.cell? ⟨s,0,none⟩=some (.int .i64 S.p)∧w4.cell? ⟨s,1,none⟩=some (.int .i64 S.m)∧w4.cell? ⟨s,2,none⟩=some (.slice A S.mod.length c)∧w4.cell? ⟨s,3,none⟩=some (.int .i64 F.p)∧w4.cell? ⟨s,4,none⟩=some (.int .i64 F.m)∧w4.cell? ⟨s,5,none⟩=some (.slice B F.mod.length b)∧w4.cell? ⟨s,6,none⟩=some (.slice O poly.length c1)∧w4.cell? ⟨s,7,none⟩=some (.slice I pts.length c2)):=Qto au aG ap.out;have av:=aW.out.keep au aF;obtain⟨u0,u1,u2,u3,u4⟩:=av.c5;obtain⟨v0,v1,v2,v3,v4⟩:=av.f5;have bc:s+1<w3.heap.size:=θ aF X.size;obtain⟨J,aw⟩:=ε (Qbh w4 (s+1) 0 [.int .i64 S.p,.int .i64 S.m,.slice A3 S.mod.length c3,.int .i64 pts.length,.slice ah k ai]);have aJ:Hid (J.cell? ⟨s,0,none⟩=some (.int .i64 S.p)∧J.cell? ⟨s,1,none⟩=some (.int .i64 S.m)∧J.cell? ⟨s,2,none⟩=some (.slice A S.mod.length c)∧J.cell? ⟨s,3,none⟩=some (.int .i64 F.p)∧J.cell? ⟨s,4,none⟩=some (.int .i64 F.m)∧J.cell? ⟨s,5,none⟩=some (.slice B F.mod.length b)∧J.cell? ⟨s,6,none⟩=some (.slice O poly.length c1)∧J.cell? ⟨s,7,none⟩=some (.slice I pts.length c2)):=(by have k2:∀j,J.cell? ⟨s,j,none⟩=w4.cell? ⟨s,j,none⟩:=(fun j=>by rw[aw];exact Qbp (show s+1≠s by omega) _ 0 w4);exact⟨(k2 0).trans Y.out.1,(k2 1).trans Y.out.2.1,(k2 2).trans Y.out.2.2.1,(k2 3).trans Y.out.2.2.2.1,(k2 4).trans Y.out.2.2.2.2.1,(k2 5).trans Y.out.2.2.2.2.2.1,(k2 6).trans Y.out.2.2.2.2.2.2.1,(k2 7).trans Y.out.2.2.2.2.2.2.2⟩);rw[aw]at aJ;clear aw J;have a1:Hid (Qdj S F (rel F.z rt) pts.length T (QgH F poly pts) w (.returned (.agg #[.int .i64 S.p,.int .i64 S.m,.slice A3 S.mod.length c3,.int .i64 pts.length,.slice ah k ai])) (Qbh w4 (s+1) 0 [.int .i64 S.p,.int .i64 S.m,.slice A3 S.mod.length c3,.int .i64 pts.length,.slice ah k ai])):=(by refine⟨k,C,A3,c3,ah,ai,rfl,aM,aN,by rw[Qbv];exact aO.farS (fun a ha=>by have:=aP a ha;omega) _ 0,fun q hq=>by have:=aP q hq;omega,by rw[Qbv];exact (aQ.keepU fun p bj _=>Qbp (by omega) _ 0 w4).low (by omega),stAll_below (by omega) _ _ _ (ζ V au)⟩);clear aO aQ av aM aN;go_wp2_with fail;refine U.out _ _ Y.out fun hHeld=>?_;clear U K;try simp only[pS]
 refine rd 5 fun K U=>?_
 go_simp;refine U.out _ _ aJ.out fun hHeld=>?_;clear U K;try simp only[pS]
 refine δ ?_;go_wp2_with fail;exact bodyPost_ret (v:=.agg #[.int .i64 S.p,.int .i64 S.m,.slice A3 S.mod.length c3,.int .i64 pts.length,.slice ah k ai]) (by simp[results,Tryz.results26,go_sem,u0,u1,u2,u3,u4]) rfl a1.out
end
section
theorem Qu2 (P M Q N:Int)(ml nl poly pts:List Int)(A B A1 A2:Option Addr)(c b c1 c2:Nat)(ay wl er:List Int)(Am Aw Ae:Option Addr)(cm cw ce:Nat)(w:World)(hP:I64 P)(hM:I64 M)(hQ:I64 Q)(hN:I64 N)(hl:ml.length≤maxLen)(hn:nl.length≤maxLen)(hk:poly.length≤c1∧c1≤maxLen)(he:pts.length≤c2∧c2≤maxLen)(_hi:∀x∈poly,I64 x)(_hj:∀x∈pts,I64 x)
  (hr:Rd w w.heap.size A ml) (a6:Rd w w.heap.size B nl) (a7:Rd w w.heap.size A1 poly) (bq:Rd w w.heap.size A2 pts) (b6:ay.length≤maxLen) (br:wl.length≤maxLen) (_hel:er.length≤maxLen) (b7:Rd w w.heap.size Am ay) (a8:Rd w w.heap.size Aw wl) (a9:Rd w w.heap.size Ae er) :
  Calls Tryz.prog 7 #[.agg #[.int .i64 P,.int .i64 M,.slice A ml.length c,.int .i64 Q,.int .i64 N,.slice B nl.length b,.slice A1 poly.length c1,.slice A2 pts.length c2],.agg #[.slice Am ay.length cm,.slice Aw wl.length cw,.slice Ae er.length ce]] w (QmT w):=by
 have cN:poly.length≤maxLen:=τ hk.1 hk.2;have b8:pts.length≤maxLen:=τ he.1 he.2;obtain⟨s,hs⟩:=ε (w.heap.size);obtain⟨Z,hZ⟩:=ε ((w.alloc (.cells #[.int .i64 P,.int .i64 M,.slice A ml.length c,.int .i64 Q,.int .i64 N,.slice B nl.length b,.slice A1 poly.length c1,.slice A2 pts.length c2] 44)).alloc (.cells #[.slice Am ay.length cm,.slice Aw wl.length cw,.slice Ae er.length ce] 48));have hB:Below w.heap.size w Z:=by rw[hZ];exact (β).alloc (by simp) _
 have aI:Hid (Bxs Z s [.int .i64 P,.int .i64 M,.slice A ml.length c,.int .i64 Q,.int .i64 N,.slice B nl.length b,.slice A1 poly.length c1,.slice A2 pts.length c2]):=by rw[hZ,hs];exact (Bxs.new w _ _).keep (β) (by simp)
 have aJ:Hid (Bxs Z (s+1) [.slice Am ay.length cm,.slice Aw wl.length cw,.slice Ae er.length ce]):=by rw[hZ,hs];have:=Bxs.new (w.alloc (.cells #[.int .i64 P,.int .i64 M,.slice A ml.length c,.int .i64 Q,.int .i64 N,.slice B nl.length b,.slice A1 poly.length c1,.slice A2 pts.length c2] 44)) [.slice Am ay.length cm,.slice Aw wl.length cw,.slice Ae er.length ce] 48;rw[World.size_alloc]at this;exact this
 have cO:s+1<Z.heap.size:=by rw[hZ,hs];simp
 have I:=η (QlO Z);have bG:=fun W=>η (Qqp pts.length er.length A2 Ae c2 ce W)
 replace hZ:=η hZ;unfold QmT;go_enter Tryz.func7,Tryz.ntmps7;go_wp2_with fail;rw[←hZ.out];simp only[←hs];have cP:w.heap.size≤s:=Nat.le_of_eq hs.symm;replace hs:=η hs;(with_reducible refine I.out.mono ?_);rintro e w1 ⟨rfl,aG⟩;clear I;have O:=ζ hB aG;obtain⟨Y,d1,d2,d3,d4,d5,d6,d7⟩:=(aI.out.keep aG (by omega)).c8;obtain⟨s0,s1,s2⟩:=(aJ.out.keep aG (by omega)).c3;have aR:=bG w1;clear bG
 cases bo:QqO pts.length er.length with
 |false =>
  rw[bo]at aR;go_wp2_with fail;(with_reducible refine aR.out.mono ?_);rintro e bR ⟨rfl,rfl⟩;go_wp2_with fail;go_ret;exact⟨rfl,O⟩
 |true =>
  rw[bo]at aR;obtain⟨cS,cT⟩:=QsA bo;clear bo;by_cases aS:(40:Int)<(poly.length:Int)
  ·have b9:decide ((40:Int)<(poly.length:Int))=true:=decide_eq_true aS;replace aS:=η aS;go_wp2_with fail;(with_reducible refine aR.out.mono ?_);rintro e bR ⟨rfl,rfl⟩;go_wp2_with fail;go_ret;exact⟨rfl,O⟩
  have b9:decide ((40:Int)<(poly.length:Int))=false:=decide_eq_false aS;have cQ:poly.length≤40:=by omega
  replace aS:=η aS;go_wp2_with fail;(with_reducible refine aR.out.mono ?_);rintro e bR ⟨rfl,rfl⟩;clear aR;obtain⟨E,aY,bv,hE⟩:=QuY P M Q N ml nl poly pts A B A1 A2 c b c1 c2 w1 hP hM hQ hN hl hn (hr.bm O) (a6.bm O) (a7.bm O) (bq.bm O) (by omega) b8;replace aY:=fun W hb=>η (aY W hb)
  replace hE:=η hE;by_cases h0:E=0;rotate_left
  ·have cc:(E==0)=false:=by rw[beq_eq_false_iff_ne];exact h0
   have cd:(E !=0)=true:=by rw[bne_iff_ne];exact h0
   have cf:(E==E)=true:=beq_self_eq_true E;have I:=η (QsC P M Q N ml nl poly pts wl.length er.length A B A1 A2 Aw Ae c b c1 c2 cw ce w1 E h0 (bv h0));replace h0:=η h0;clear bv;go_wp2_with fail;(with_reducible refine I.out.mono ?_);rintro e w3 ⟨rfl,aA⟩;clear I Y d1 d2 d3 d4 d5 d6 d7 s0 s1 s2;have aK:=ζ aG aA;obtain⟨V,J⟩:=ε (w3.alloc (.cells #[.slice none 0 0,.slice none 0 0] 52));have aw:Below w3.heap.size w3 V:=by rw[J];exact β
   have ak:=ζ aK aw;have ba:=ζ hB ak;obtain⟨X,al⟩:=ε (w3.heap.size);have aT:X<V.heap.size:=by rw[J,al];simp
   have aU:Hid (Bxs V X [.slice none 0 0,.slice none 0 0]):=by rw[J,al];exact Bxs.new w3 _ _
   have I:=aY V (ζ aA aw);obtain⟨Y,d1,d2,d3,d4,d5,d6,d7⟩:=(aI.out.keep ak (by omega)).c8;obtain⟨s0,s1,s2⟩:=(aJ.out.keep ak (by omega)).c3;rw[J]at Y d1 d2 d3 d4 d5 d6 d7 s0 s1 s2;replace J:=η J;go_wp2_with fail;rw[←J.out];simp only[←al];replace al:=η al;(with_reducible refine I.out.mono ?_);rintro e w4 ⟨rfl,aE⟩;clear I Y d1 d2 d3 d4 d5 d6 d7 s0 s1 s2;have aZ:=η (ζ ba aE);obtain⟨e0,e1⟩:=(aU.out.keep aE aT).c2;go_wp2_with fail;go_ret;exact⟨QaB (by simp),aZ.out⟩
  have bb:=fun W hb=>aY W hb
  rw[h0]at bb;clear aY bv;obtain⟨S',D,rfl,rfl,rfl,rfl,rfl,rfl,bz,bO,hz⟩:=hE.out h0;obtain⟨S,rfl⟩:=QhF bz;obtain⟨F,rfl⟩:=QhF bO;replace h0:=η h0;obtain⟨bP,⟨cV,cW⟩,-,-,-,cX,cY,-,-⟩:=QbW hz;have I:=QuZ S F.z poly pts wl er A B A1 A2 Aw Ae c b c1 c2 cw ce w1 (hr.bm O) (a6.bm O) bz bO (a7.bm O) (bq.bm O) he.1 he.2 hz (a8.bm O) (a9.bm O) br (by omega);rw[←Qaf S.z,←Qaf F.z]at I;unfold Ql0 at I;replace I:=η I;go_wp2_with fail;(with_reducible refine I.out.mono ?_);rintro e w3 (⟨a0,rfl,aA⟩ |⟨bf,aA,Aa,Ab,ca,cb,ec,la,lb,rfl,bS,bT,bU⟩)
  ·clear I Y d1 d2 d3 d4 d5 d6 d7 s0 s1 s2;have aK:=ζ aG aA;obtain⟨E2,bc⟩:=ε (Qbo S.z wl pts.length er);rw[←bc]at a0 ⊢;replace bc:=η bc;have cc:(E2==0)=false:=by rw[beq_eq_false_iff_ne];exact a0
   have cd:(E2 !=0)=true:=by rw[bne_iff_ne];exact a0
   have cf:(E2==E2)=true:=beq_self_eq_true E2;replace a0:=η a0;obtain⟨V,J⟩:=ε (w3.alloc (.cells #[.slice none 0 0,.slice none 0 0] 52));have aw:Below w3.heap.size w3 V:=by rw[J];exact β
   have ak:=ζ aK aw;have ba:=ζ hB ak;obtain⟨X,al⟩:=ε (w3.heap.size);have aT:X<V.heap.size:=by rw[J,al];simp
   have aU:Hid (Bxs V X [.slice none 0 0,.slice none 0 0]):=by rw[J,al];exact Bxs.new w3 _ _
   have I:=bb V (ζ aA aw);obtain⟨Y,d1,d2,d3,d4,d5,d6,d7⟩:=(aI.out.keep ak (by omega)).c8;obtain⟨s0,s1,s2⟩:=(aJ.out.keep ak (by omega)).c3;rw[J]at Y d1 d2 d3 d4 d5 d6 d7 s0 s1 s2;replace J:=η J;go_wp2_with fail;rw[←J.out];simp only[←al];replace al:=η al;(with_reducible refine I.out.mono ?_);rintro e w4 ⟨rfl,aE⟩;clear I Y d1 d2 d3 d4 d5 d6 d7 s0 s1 s2;have aN:=ζ ak aE;have az:=ζ hB aN;have I:=Qe2 S.z wl er pts.length A Aw Ae c cw ce w4 (a8.bm az) (a9.bm az) br (by omega);rw[←Qaf S.z,←bc.out]at I;replace I:=η I;obtain⟨Y,d1,d2,d3,d4,d5,d6,d7⟩:=(aI.out.keep aN (by omega)).c8;obtain⟨s0,s1,s2⟩:=(aJ.out.keep aN (by omega)).c3;go_wp2_with fail;(with_reducible refine I.out.mono ?_);rintro e w5 ⟨rfl,bl⟩;clear I Y d1 d2 d3 d4 d5 d6 d7 s0 s1 s2;have aD:=ζ aE bl;have aZ:=η (ζ az bl);obtain⟨e0,e1⟩:=(aU.out.keep aD aT).c2;go_wp2_with fail;go_ret;exact⟨QaB (by simp),aZ.out⟩
  clear I Y d1 d2 d3 d4 d5 d6 d7 s0 s1 s2;obtain⟨be,cE,cZ,c3⟩:=Qfl bf;replace be:=η be;have aK:=ζ aG aA;obtain⟨V,J⟩:=ε (w3.alloc (.cells #[.slice Aa la.length ca,.slice Ab lb.length cb] 52));have aw:Below w3.heap.size w3 V:=by rw[J];exact β
  have ak:=ζ aK aw;have ba:=ζ hB ak;obtain⟨X,al⟩:=ε (w3.heap.size);have aT:X<V.heap.size:=by rw[J,al];simp
  have aU:Hid (Bxs V X [.slice Aa la.length ca,.slice Ab lb.length cb]):=by rw[J,al];exact Bxs.new w3 _ _
  have bH:=bT.bm aw;have bI:=bU.bm aw;have I:=bb V (ζ aA aw);clear bT bU bb;obtain⟨Y,d1,d2,d3,d4,d5,d6,d7⟩:=(aI.out.keep ak (by omega)).c8;obtain⟨s0,s1,s2⟩:=(aJ.out.keep ak (by omega)).c3;rw[J]at Y d1 d2 d3 d4 d5 d6 d7 s0 s1 s2;replace J:=η J;go_wp2_with fail;rw[←J.out];simp only[←al];replace al:=η al;(with_reducible refine I.out.mono ?_);rintro e w4 ⟨rfl,aE⟩;clear I Y d1 d2 d3 d4 d5 d6 d7 s0 s1 s2;have aN:=ζ ak aE;have az:=ζ hB aN;have I:=Qe2 S.z wl er pts.length A Aw Ae c cw ce w4 (a8.bm az) (a9.bm az) br (by omega);rw[←Qaf S.z,bf]at I;replace I:=η I;replace bf:=η bf;obtain⟨Y,d1,d2,d3,d4,d5,d6,d7⟩:=(aI.out.keep aN (by omega)).c8;obtain⟨s0,s1,s2⟩:=(aJ.out.keep aN (by omega)).c3;go_wp2_with fail;(with_reducible refine I.out.mono ?_);rintro e w5 ⟨rfl,bl⟩;clear I Y d1 d2 d3 d4 d5 d6 d7 s0 s1 s2;have aD:=ζ aE bl;have a1:=ζ ak aD;have U:=ζ hB a1;obtain⟨T,hT⟩:=ε (poly.length - 1);obtain⟨dd,a3⟩:=ε (Qig S.z F.z poly);have cR:0≤dd∧dd≤200:=by
   rw[a3];by_cases h:Qsv S.z F.z poly
   ·rw[QfX h];omega
   ·rw[QhZ h];omega
  have bg:=QqF S F poly pts A B A1 A2 c b c1 c2 w5.drew (a6.bm U).drew (a7.bm U).drew (by omega) (by omega);rw[←Qaf S.z,←Qaf F.z,←a3]at bg;obtain⟨t,ht⟩:=ε (QlN dd (er.length:Int));have bh:=fun W=>QkP dd (er.length:Int) W ⟨by omega,by omega⟩ ⟨by omega,by omega⟩
  rw[←ht]at bh;replace bh:=fun W=>η (bh W)
  replace bg:=η bg;have bt:=Qdz.1 bP;have bJ:S.m∣F.m:=by
   obtain⟨kk,e,-,-,h9⟩:=QeQ bt.2;have e2:S.m=kk:=by omega
   rw[e2];exact h9
  obtain⟨rt,bQ⟩:=Qlv bt.1 bJ;obtain⟨u,hu⟩:∃u:Nat→R S.z,u=fun j=>eli S.z (wl[j]?.getD 0):=⟨_,rfl⟩
  rw[←hu]at bS;have bu:wl=QaK S.z pts.length u:=by rw[hu,←be.out];exact QfN cE
  have ch:Rd w w.heap.size Aw (QaK S.z pts.length u):=by rw[←bu];exact a8
  have ci:Hid (∀k C,(∀v,Qb2 k pts.length C v↔Qcc S F (rel F.z rt) pts.length (poly.length - 1) (QgH F poly pts) v)→Qsn S pts.length k C u er t ec la lb):=fun k C bm=>by rw[ht,a3];exact bS F rt k C rfl bQ bm
  have aV:=fun W x1 x2 x3 x4=>QjM S F rt poly pts A B A1 A2 c b c1 c2 W bz bQ hz x1 x2 x3 x4
  rw[←Qaf S.z,←Qaf F.z]at aV;unfold Qdj at aV;rw[←Qaf S.z]at aV;replace aV:=fun W x1 x2 x3 x4=>η (aV W x1 x2 x3 x4)
  have a2:∀W,Below w5.heap.size w5 W→Hid ((W.cell? ⟨s,0,none⟩=some (.int .i64 S.p)∧W.cell? ⟨s,1,none⟩=some (.int .i64 S.m)∧W.cell? ⟨s,2,none⟩=some (.slice A (Qan S.z).length c)∧W.cell? ⟨s,3,none⟩=some (.int .i64 F.p)∧W.cell? ⟨s,4,none⟩=some (.int .i64 F.m)∧W.cell? ⟨s,5,none⟩=some (.slice B (Qan F.z).length b)∧W.cell? ⟨s,6,none⟩=some (.slice A1 poly.length c1)∧W.cell? ⟨s,7,none⟩=some (.slice A2 pts.length c2))∧(W.cell? ⟨s+1,0,none⟩=some (.slice Am ay.length cm)∧W.cell? ⟨s+1,1,none⟩=some (.slice Aw wl.length cw)∧W.cell? ⟨s+1,2,none⟩=some (.slice Ae er.length ce))∧(W.cell? ⟨X,0,none⟩=some (.slice Aa la.length ca)∧W.cell? ⟨X,1,none⟩=some (.slice Ab lb.length cb))):=fun W h=>by
   have h4:=ζ a1 h;have h5:=ζ aD h;exact⟨(aI.out.keep h4 (by omega)).c8,(aJ.out.keep h4 (by omega)).c3,(aU.out.keep h5 aT).c2⟩
  have cn:=hr.bm U;have co:=a6.bm U;have cp:=a7.bm U;have cq:=bq.bm U;have cr:=b7.bm U;have cs:=ch.bm U;have ct:=a9.bm U;have cu:=bH.bm aD;have cv:=bI.bm aD;have cx:=a2 w5.drew κ.drew;replace ht:=η ht;replace hu:=η hu;replace bu:=η bu;replace a3:=η a3;replace hT:=η hT;have cy:er.length≤1000000:=by omega
  obtain⟨Y,d1,d2,d3,d4,d5,d6,d7⟩:=(aI.out.keep a1 (by omega)).c8;obtain⟨s0,s1,s2⟩:=(aJ.out.keep a1 (by omega)).c3;obtain⟨e0,e1⟩:=(aU.out.keep aD aT).c2;clear bt bJ bH bI hz bP;go_wp2_with fail;clear Y d1 d2 d3 d4 d5 d6 d7 s0 s1 s2 e0 e1;refine wp_region_held_drew (S:=fun w'=>(w'.cell? ⟨s,0,none⟩=some (.int .i64 S.p)∧w'.cell? ⟨s,1,none⟩=some (.int .i64 S.m)∧w'.cell? ⟨s,2,none⟩=some (.slice A (Qan S.z).length c)∧w'.cell? ⟨s,3,none⟩=some (.int .i64 F.p)∧w'.cell? ⟨s,4,none⟩=some (.int .i64 F.m)∧w'.cell? ⟨s,5,none⟩=some (.slice B (Qan F.z).length b)∧w'.cell? ⟨s,6,none⟩=some (.slice A1 poly.length c1)∧w'.cell? ⟨s,7,none⟩=some (.slice A2 pts.length c2))∧(w'.cell? ⟨s+1,0,none⟩=some (.slice Am ay.length cm)∧w'.cell? ⟨s+1,1,none⟩=some (.slice Aw wl.length cw)∧w'.cell? ⟨s+1,2,none⟩=some (.slice Ae er.length ce))∧(w'.cell? ⟨X,0,none⟩=some (.slice Aa la.length ca)∧w'.cell? ⟨X,1,none⟩=some (.slice Ab lb.length cb))) (by kernel_rfl) (by (try dsimp only);exact cx.out) (fun hHeld=>?_);refine tk 0 ?_;simp only[pS]
  refine tk 2 ?_;simp only[pS]
  refine tk 3 ?_;simp only[pS]
  refine tk 4 ?_;simp only[pS]
  refine tk 5 ?_;simp only[pS]
  refine rd 1 fun K hK=>?_
  go_simp;go_at_call 24;(with_reducible refine (bg).out.mono ?_);rintro e w6 ⟨rfl,cH⟩;have ax:=(Below.refl w5.heap.size w5).drew.trans cH;have bM:=a2 w6 ax;have cz:=bh w6;go_wp2_with fail;refine hK.out _ _ bM.out fun hHeld=>?_;clear hK K;try simp only[pS]
  refine rd 6 fun K hK=>?_
  go_simp;go_at_call 23;(with_reducible refine (cz).out.mono ?_);rintro e c4 ⟨rfl,rfl⟩;go_wp2_with fail;refine hK.out _ _ bM.out fun hHeld=>?_;clear hK K;try simp only[pS]
  refine tk 7 ?_;simp only[pS]
  refine δ ?_;have cA:=aV w6.drew (cn.bm ax).drew (co.bm ax).drew (cp.bm ax).drew (cq.bm ax).drew;have cB:=a2 w6.drew ax.drew;go_wp2_with fail;refine wp_region_held_drew (S:=fun w'=>(w'.cell? ⟨s,0,none⟩=some (.int .i64 S.p)∧w'.cell? ⟨s,1,none⟩=some (.int .i64 S.m)∧w'.cell? ⟨s,2,none⟩=some (.slice A (Qan S.z).length c)∧w'.cell? ⟨s,3,none⟩=some (.int .i64 F.p)∧w'.cell? ⟨s,4,none⟩=some (.int .i64 F.m)∧w'.cell? ⟨s,5,none⟩=some (.slice B (Qan F.z).length b)∧w'.cell? ⟨s,6,none⟩=some (.slice A1 poly.length c1)∧w'.cell? ⟨s,7,none⟩=some (.slice A2 pts.length c2))∧(w'.cell? ⟨s+1,0,none⟩=some (.slice Am ay.length cm)∧w'.cell? ⟨s+1,1,none⟩=some (.slice Aw wl.length cw)∧w'.cell? ⟨s+1,2,none⟩=some (.slice Ae er.length ce))∧(w'.cell? ⟨X,0,none⟩=some (.slice Aa la.length ca)∧w'.cell? ⟨X,1,none⟩=some (.slice Ab lb.length cb))) (by kernel_rfl) (by (try dsimp only);exact cB.out) (fun hHeld=>?_);refine tk 0 ?_;simp only[pS]
  refine tk 2 ?_;simp only[pS]
  refine tk 3 ?_;simp only[pS]
  refine tk 4 ?_;simp only[pS]
  refine tk 5 ?_;simp only[pS]
  refine rd 1 fun K hK=>?_
  go_simp;go_at_call 26;(with_reducible refine (cA).out.mono ?_);rintro e w7 ⟨k,C,A6,c6,bX,bY,rfl,bZ,bm,cI,-,cJ,cK⟩;have av:=ax.trans (((Below.refl w6.heap.size w6).drew.trans cK).mono ax.size);have cC:=a2 w7 av;have bk:=QkS S pts.length k C bZ u ay er la lb t ec A6 bX Am Aw Ae Aa Ab c6 bY cm cw ce ca cb w7 (ci.out k C bm) cI cJ.rdm (cr.bm av) b6 (cs.bm av) (ct.bm av) cy (cu.bm av) (cv.bm av);rw[←Qaf S.z]at bk;replace bk:Hid (Calls Tryz.prog 25 #[.agg #[.int .i64 S.p,.int .i64 S.m,.slice A6 (Qan S.z).length c6,.int .i64 pts.length,.slice bX k bY],.agg #[.slice Am ay.length cm,.slice Aw wl.length cw,.slice Ae er.length ce],.agg #[.slice Aa la.length ca,.slice Ab lb.length cb],.int .i64 ec,.int .i64 t] w7 fun e w'=>e=.returned (.bool true)∧Below w7.heap.size w7 w'):=(by rw[be.out];exact η bk);clear bZ bm;go_wp2_with fail;refine hK.out _ _ cC.out fun hHeld=>?_;clear hK K;try simp only[pS]
  refine rd 6 fun K hK=>?_
  go_simp;go_at_call 25;(with_reducible refine (bk).out.mono ?_);rintro e w8 ⟨rfl,cM⟩;have bN:=ζ av cM;have cD:=a2 w8 bN;go_wp2_with fail;refine hK.out _ _ cD.out fun hHeld=>?_;clear hK K;try simp only[pS]
  refine tk 7 ?_;simp only[pS]
  refine δ ?_;have aZ:=η (ζ U bN);go_wp2_with fail;go_ret;exact⟨rfl,aZ.out⟩
end
end Go.Proofs

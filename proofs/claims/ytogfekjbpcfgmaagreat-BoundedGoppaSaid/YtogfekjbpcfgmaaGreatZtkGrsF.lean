/- Layer 18: encode, Word. -/
import Derived.Test.YtogfekjbpcfgmaaGreatZtkNorW
set_option maxRecDepth 100000
set_option maxHeartbeats 16000000
set_option linter.unusedVariables false
namespace Go.Proofs
open Go.RowKit Cw
section
def Qa5 (D:Desc)(pts mul I:List Int):List Int:=lst pts.length fun i=>ci (eli D (mul[i]?.getD 0)*QaW D I (eli D (pts[i]?.getD 0)))
theorem Qcs (D:Desc)(pts mul I:List Int):(Qa5 D pts mul I).length=pts.length:=Qab _ _
theorem Qly (F:FD)(K:Int)(pts mul J:List Int)(A V X A3:Option Addr)(c c1 c2 c3 g:Nat)(w:World)(O:GF w w.heap.size g F)(aQ:Rd w w.heap.size V pts)(aR:Rd w w.heap.size X mul)(aS:Rd w w.heap.size A3 J)
  (aF:mul.length=pts.length) (hl:pts.length≤64) (hm:J.length≤maxLen) :
  Calls Tryz.prog 217 #[.pointer (some ⟨g,0,none⟩),.agg #[.int .i64 F.p,.int .i64 F.m,.slice A F.mod.length c,.int .i64 K,.slice V pts.length c1,.slice X mul.length c2],.slice A3 J.length c3] w (Qcj w.heap.size (Qa5 F.z pts mul J) w):=by
 have hE:=fun x W O hr=>η (QdL F J x A3 c3 g W O hr hm)
 have hM:=fun y z W O=>η (QbZ F y z g W O)
 have aW:=QaC pts.length (by omega);have k0:=Qiv w (.int .i64 F.p) (.int .i64 F.m) (.slice A F.mod.length c) (.int .i64 K) (.slice V pts.length c1) (.slice X mul.length c2) 94;have hB:Below w.heap.size w (w.alloc (.cells #[.int .i64 F.p,.int .i64 F.m,.slice A F.mod.length c,.int .i64 K,.slice V pts.length c1,.slice X mul.length c2] 94)):=β;have ak:=IB.newz (w.alloc (.cells #[.int .i64 F.p,.int .i64 F.m,.slice A F.mod.length c,.int .i64 K,.slice V pts.length c1,.slice X mul.length c2] 94)) pts.length;have au:Below (w.heap.size+1) (w.alloc (.cells #[.int .i64 F.p,.int .i64 F.m,.slice A F.mod.length c,.int .i64 K,.slice V pts.length c1,.slice X mul.length c2] 94)) ((w.alloc (.cells #[.int .i64 F.p,.int .i64 F.m,.slice A F.mod.length c,.int .i64 K,.slice V pts.length c1,.slice X mul.length c2] 94)).alloc (.cells (Array.replicate pts.length (Value.int .i64 0)) 3)):=κ.alloc (by simp) _;have aH:=η (QbS au (Nat.lt_succ_self _) k0);have aI:=hB.trans (au.mono (Nat.le_succ _));have aJ:=η aF;replace k0:=η k0;clear aF;go_enter Tryz.func217,Tryz.ntmps217;go_wp2_with fail;rw[World.size_alloc]at ak;obtain⟨I,ag⟩:=ε (w.heap.size+1);rw[←ag]at ak;simp only[←ag];replace ag:=η ag;have aa:IB ((w.alloc (.cells #[.int .i64 F.p,.int .i64 F.m,.slice A F.mod.length c,.int .i64 K,.slice V pts.length c1,.slice X mul.length c2] 94)).alloc (.cells (Array.replicate pts.length (Value.int .i64 0)) 3)) I (upd pts.length 0 fun i=>ci (eli F.z (mul[i]?.getD 0)*QaW F.z J (eli F.z (pts[i]?.getD 0)))):=by
  rw[QaP];exact ak
 clear aW ak k0 hB au;go_loopw [17,8,9] (fun i _ _ wr=>∃k:Nat,k≤pts.length∧i=.int .i64 k∧IB wr I (upd pts.length k fun i=>ci (eli F.z (mul[i]?.getD 0)*QaW F.z J (eli F.z (pts[i]?.getD 0))))∧Hid (wr.cell? ⟨w.heap.size,0,none⟩=some (.int .i64 F.p)∧wr.cell? ⟨w.heap.size,1,none⟩=some (.int .i64 F.m)∧wr.cell? ⟨w.heap.size,2,none⟩=some (.slice A F.mod.length c)∧wr.cell? ⟨w.heap.size,3,none⟩=some (.int .i64 K)∧wr.cell? ⟨w.heap.size,4,none⟩=some (.slice V pts.length c1)∧wr.cell? ⟨w.heap.size,5,none⟩=some (.slice X mul.length c2))∧Below w.heap.size w wr) (fun i _ _ _=>pts.length - (intOf i).toNat)
 case atStart=>exact⟨0,by omega,rfl,aa,aH,aI⟩
 case round =>
  clear aa aH aI;obtain⟨w2,rfl⟩:=ε (wr:World);obtain⟨k,hk,rfl,aa,ah,T⟩:=hrel;by_cases aD:k<pts.length
  ·have a5:(0:Int)≤(k:Int):=by omega
   have a6:(k:Int)<(pts.length:Int):=by omega
   have a7:(k:Int)<(mul.length:Int):=by rw[aJ.out];omega
   obtain⟨b1,o1,rfl,aM,aN⟩:=aQ.at_ aD;obtain⟨b2,o2,rfl,aO,aP⟩:=aR.at_ (by rw[aJ.out];exact aD:k<mul.length);have aK:=(T.cell (p:=⟨b1,o1+k,none⟩) aM).trans aN;have av:=(T.cell (p:=⟨b2,o2+k,none⟩) aO).trans aP;have a8:w.heap.size+1≤I:=Nat.le_of_eq ag.out.symm;have aL:=aa.lt;have aw:=fun W (h:IB W I _)=>QaY pts.length k (fun i=>ci (eli F.z (mul[i]?.getD 0)*QaW F.z J (eli F.z (pts[i]?.getD 0)))) ▸ h.set_ k (ci (eli F.z (mul[k]?.getD 0)*QaW F.z J (eli F.z (pts[k]?.getD 0))))
   obtain⟨x,hx⟩:=ε (pts[k]?.getD 0);obtain⟨y,hy⟩:=ε (mul[k]?.getD 0);rw[←hx]at aK;rw[←hy]at av;have aX:=fun W O hr=>hE x W O hr
   have al:=fun W O=>(hM y (ci (QaW F.z J (eli F.z x))) W O).out
   rw[Qam]at al;replace al:=fun W O=>η (al W O)
   have aY:Hid (k<(upd pts.length k fun i=>ci (eli F.z (mul[i]?.getD 0)*QaW F.z J (eli F.z (pts[i]?.getD 0)))).length):=by unfold Hid;rw[Qaz];exact aD
   have ai:=η (show _∧_∧_∧_∧_∧_∧_∧_ from ⟨ah.out.1,ah.out.2.1,ah.out.2.2.1,ah.out.2.2.2.1,ah.out.2.2.2.2.1,ah.out.2.2.2.2.2,aK,av⟩);have aZ:=O.bm T;have a0:=aS.bm T;have ab:=θ aM T.size;have ac:=θ aO T.size;have ad:w.heap.size<w2.heap.size:=by omega
   replace hx:=η hx;replace hy:=η hy;replace aw:=η aw;clear aN aP av;go_wp2_with fail;refine wp_region_held_drew (S:=fun w'=>w'.cell? ⟨w.heap.size,0,none⟩=some (.int .i64 F.p)∧w'.cell? ⟨w.heap.size,1,none⟩=some (.int .i64 F.m)∧w'.cell? ⟨w.heap.size,2,none⟩=some (.slice A F.mod.length c)∧w'.cell? ⟨w.heap.size,3,none⟩=some (.int .i64 K)∧w'.cell? ⟨w.heap.size,4,none⟩=some (.slice (some ⟨b1,o1,none⟩) pts.length c1)∧w'.cell? ⟨w.heap.size,5,none⟩=some (.slice (some ⟨b2,o2,none⟩) mul.length c2)∧w'.cell? ⟨b1,o1+k,none⟩=some (.int .i64 x)∧w'.cell? ⟨b2,o2+k,none⟩=some (.int .i64 y)) (by kernel_rfl) (by (try dsimp only);exact ai.out) (fun hHeld=>?_);refine tk 0 ?_;simp only[pS]
   refine tk 1 ?_;simp only[pS]
   refine tk 2 ?_;simp only[pS]
   refine tk 3 ?_;simp only[pS]
   refine tk 4 ?_;simp only[pS]
   refine tk 5 ?_;simp only[pS]
   refine tk 6 ?_;simp only[pS]
   refine tk 7 ?_;simp only[pS]
   refine tk 8 ?_;simp only[pS]
   refine tk 9 ?_;simp only[pS]
   refine tk 10 ?_;simp only[pS]
   refine rd 11 fun K Y=>?_
   go_simp;go_at_call 180;(with_reducible refine (aX _ aZ.drew a0.drew).out.mono ?_);rintro e w3 ⟨rfl,af⟩;go_wp2_with fail;refine Y.out _ _ (QdO af ad ab ac ai.out) fun hHeld=>?_;clear Y K;try simp only[pS]
   have ao:=T.drew.trans (af.mono T.size);have U:w2.heap.size≤w3.heap.size:=af.size;have a1:=aa.drew.below af aL;refine rd 12 fun K Y=>?_
   go_simp;go_at_call 90;(with_reducible refine (al _ (O.bm ao)).out.mono ?_);rintro e w4 ⟨rfl,aj⟩;go_wp2_with fail;refine Y.out _ _ (QdO aj (θ ad U) (θ ab U) (θ ac U) (QdO af ad ab ac ai.out)) fun hHeld=>?_;clear Y K;try simp only[pS]
   have ax:=a1.below aj (θ aL U);have a9:=ax.cell aY.out;have ba:=ax.frozen k;refine tk 13 ?_;simp only[pS]
   refine rd 14 fun K Y=>?_
   go_simp;refine Y.out _ _ (QdO (B:=I) (κ.setCell (p:=⟨I,k,none⟩) ρ _) (by omega) (by omega) (by omega) (QdO aj (θ ad U) (θ ab U) (θ ac U) (QdO af ad ab ac ai.out))) fun hHeld=>?_;clear Y K;try simp only[pS]
   refine δ ?_;have a2:=ζ ao aj;have ae:=QdO (B:=I) (κ.setCell (p:=⟨I,k,none⟩) ρ (.int .i64 (ci (eli F.z y*QaW F.z J (eli F.z x))))) (by omega) (by omega) (by omega) (QdO aj (θ ad U) (θ ab U) (θ ac U) (QdO af ad ab ac ai.out));have a3:=η (show _∧_∧_∧_∧_∧_ from ⟨ae.1,ae.2.1,ae.2.2.1,ae.2.2.2.1,ae.2.2.2.2.1,ae.2.2.2.2.2.1⟩);have ap:=aw.out _ ax;rw[←hx.out,←hy.out]at ap;replace ap:=η ap;clear ae;go_wp2_with fail;go_roundw
   case rel=>exact⟨k+1,by omega,by go_num,ap.out,a3,a2.setCell (p:=⟨I,k,none⟩) (by show _≤I;omega) _⟩
   case measure=>simp[intOf];omega
  ·obtain rfl:k=pts.length:=by omega
   rw[QaR]at aa;go_wp2_with fail;go_ret;exact⟨I,by rw[Qcs];rfl,by have:=ag.out;omega,aa,T⟩
theorem QnK (D:Desc)(K:Int)(pts mul J:List Int)(A V X A3:Option Addr)(c c1 c2 c3:Nat)(w:World)(O:Rd w w.heap.size A (Qan D))(aQ:Rd w w.heap.size V pts)(aR:Rd w w.heap.size X mul)(ai:Rd w w.heap.size A3 J)
  (aG:mul.length=pts.length) (hl:pts.length≤64) (hm:J.length≤maxLen) :
  Calls Tryz.prog 191 #[.agg #[.int .i64 D.p,.int .i64 D.m,.slice A D.mod.length c,.int .i64 K,.slice V pts.length c1,.slice X mul.length c2],.slice A3 J.length c3] w (Qcj w.heap.size (Qa5 D pts mul J) w):=by
 have hE:=fun x W O ai=>η (QdN D J x A A3 c c3 W O ai hm)
 have hM:=fun y z W O=>η (Qdb D y z A c W O)
 have aV:=QaC pts.length (by omega);have k0:=Qiv w (.int .i64 D.p) (.int .i64 D.m) (.slice A D.mod.length c) (.int .i64 K) (.slice V pts.length c1) (.slice X mul.length c2) 94;have hB:Below w.heap.size w (w.alloc (.cells #[.int .i64 D.p,.int .i64 D.m,.slice A D.mod.length c,.int .i64 K,.slice V pts.length c1,.slice X mul.length c2] 94)):=β;have al:=IB.newz (w.alloc (.cells #[.int .i64 D.p,.int .i64 D.m,.slice A D.mod.length c,.int .i64 K,.slice V pts.length c1,.slice X mul.length c2] 94)) pts.length;have av:Below (w.heap.size+1) (w.alloc (.cells #[.int .i64 D.p,.int .i64 D.m,.slice A D.mod.length c,.int .i64 K,.slice V pts.length c1,.slice X mul.length c2] 94)) ((w.alloc (.cells #[.int .i64 D.p,.int .i64 D.m,.slice A D.mod.length c,.int .i64 K,.slice V pts.length c1,.slice X mul.length c2] 94)).alloc (.cells (Array.replicate pts.length (Value.int .i64 0)) 3)):=κ.alloc (by simp) _;have aI:=η (QbS av (Nat.lt_succ_self _) k0);have aJ:=hB.trans (av.mono (Nat.le_succ _));have aK:=η aG;replace k0:=η k0;clear aG;go_enter Tryz.func191,Tryz.ntmps191;go_wp2_with fail;rw[World.size_alloc]at al;obtain⟨I,ag⟩:=ε (w.heap.size+1);rw[←ag]at al;simp only[←ag];replace ag:=η ag;have aa:IB ((w.alloc (.cells #[.int .i64 D.p,.int .i64 D.m,.slice A D.mod.length c,.int .i64 K,.slice V pts.length c1,.slice X mul.length c2] 94)).alloc (.cells (Array.replicate pts.length (Value.int .i64 0)) 3)) I (upd pts.length 0 fun i=>ci (eli D (mul[i]?.getD 0)*QaW D J (eli D (pts[i]?.getD 0)))):=by
  rw[QaP];exact al
 clear aV al k0 hB av;go_loopw [6] (fun i wr=>∃k:Nat,k≤pts.length∧i=.int .i64 k∧IB wr I (upd pts.length k fun i=>ci (eli D (mul[i]?.getD 0)*QaW D J (eli D (pts[i]?.getD 0))))∧Hid (wr.cell? ⟨w.heap.size,0,none⟩=some (.int .i64 D.p)∧wr.cell? ⟨w.heap.size,1,none⟩=some (.int .i64 D.m)∧wr.cell? ⟨w.heap.size,2,none⟩=some (.slice A D.mod.length c)∧wr.cell? ⟨w.heap.size,3,none⟩=some (.int .i64 K)∧wr.cell? ⟨w.heap.size,4,none⟩=some (.slice V pts.length c1)∧wr.cell? ⟨w.heap.size,5,none⟩=some (.slice X mul.length c2))∧Below w.heap.size w wr) (fun i _=>pts.length - (intOf i).toNat)
 case atStart=>exact⟨0,by omega,rfl,aa,aI,aJ⟩
 case round =>
  clear aa aI aJ;obtain⟨w2,rfl⟩:=ε (wr:World);obtain⟨k,hk,rfl,aa,ah,T⟩:=hrel;by_cases aE:k<pts.length
  ·have a4:(0:Int)≤(k:Int):=by omega
   have a5:(k:Int)<(pts.length:Int):=by omega
   have a6:(k:Int)<(mul.length:Int):=by rw[aK.out];omega
   obtain⟨b1,o1,rfl,aM,aN⟩:=aQ.at_ aE;obtain⟨b2,o2,rfl,aO,aP⟩:=aR.at_ (by rw[aK.out];exact aE:k<mul.length);have aw:=(T.cell (p:=⟨b1,o1+k,none⟩) aM).trans aN;have ax:=(T.cell (p:=⟨b2,o2+k,none⟩) aO).trans aP;have a7:w.heap.size+1≤I:=Nat.le_of_eq ag.out.symm;have aL:=aa.lt;have ay:=fun W (h:IB W I _)=>QaY pts.length k (fun i=>ci (eli D (mul[i]?.getD 0)*QaW D J (eli D (pts[i]?.getD 0)))) ▸ h.set_ k (ci (eli D (mul[k]?.getD 0)*QaW D J (eli D (pts[k]?.getD 0))))
   obtain⟨x,hx⟩:=ε (pts[k]?.getD 0);obtain⟨y,hy⟩:=ε (mul[k]?.getD 0);rw[←hx]at aw;rw[←hy]at ax;have aW:=fun W O ai=>hE x W O ai
   have am:=fun W O=>(hM y (ci (QaW D J (eli D x))) W O).out
   rw[Qam]at am;replace am:=fun W O=>η (am W O)
   have aX:Hid (k<(upd pts.length k fun i=>ci (eli D (mul[i]?.getD 0)*QaW D J (eli D (pts[i]?.getD 0)))).length):=by unfold Hid;rw[Qaz];exact aE
   have aj:=η (show _∧_∧_∧_∧_∧_∧_∧_ from ⟨ah.out.1,ah.out.2.1,ah.out.2.2.1,ah.out.2.2.2.1,ah.out.2.2.2.2.1,ah.out.2.2.2.2.2,aw,ax⟩);have aY:=O.bm T;have aZ:=ai.bm T;have ab:=θ aM T.size;have ac:=θ aO T.size;have ad:w.heap.size<w2.heap.size:=by omega
   replace hx:=η hx;replace hy:=η hy;replace ay:=η ay;clear aN aP ax aw;go_wp2_with fail;refine wp_region_held_drew (S:=fun w'=>w'.cell? ⟨w.heap.size,0,none⟩=some (.int .i64 D.p)∧w'.cell? ⟨w.heap.size,1,none⟩=some (.int .i64 D.m)∧w'.cell? ⟨w.heap.size,2,none⟩=some (.slice A D.mod.length c)∧w'.cell? ⟨w.heap.size,3,none⟩=some (.int .i64 K)∧w'.cell? ⟨w.heap.size,4,none⟩=some (.slice (some ⟨b1,o1,none⟩) pts.length c1)∧w'.cell? ⟨w.heap.size,5,none⟩=some (.slice (some ⟨b2,o2,none⟩) mul.length c2)∧w'.cell? ⟨b1,o1+k,none⟩=some (.int .i64 x)∧w'.cell? ⟨b2,o2+k,none⟩=some (.int .i64 y)) (by kernel_rfl) (by (try dsimp only);exact aj.out) (fun hHeld=>?_);refine tk 0 ?_;simp only[pS]
   refine tk 1 ?_;simp only[pS]
   refine tk 2 ?_;simp only[pS]
   refine tk 3 ?_;simp only[pS]
   refine tk 4 ?_;simp only[pS]
   refine tk 5 ?_;simp only[pS]
   refine tk 6 ?_;simp only[pS]
   refine tk 7 ?_;simp only[pS]
   refine tk 8 ?_;simp only[pS]
   refine tk 9 ?_;simp only[pS]
   refine tk 10 ?_;simp only[pS]
   refine tk 11 ?_;simp only[pS]
   refine tk 12 ?_;simp only[pS]
   refine tk 13 ?_;simp only[pS]
   refine tk 14 ?_;simp only[pS]
   refine tk 15 ?_;simp only[pS]
   refine tk 16 ?_;simp only[pS]
   refine rd 17 fun K Y=>?_
   go_simp;go_at_call 72;(with_reducible refine (aW _ aY.drew aZ.drew).out.mono ?_);rintro e w3 ⟨rfl,af⟩;go_wp2_with fail;refine Y.out _ _ (QdO af ad ab ac aj.out) fun hHeld=>?_;clear Y K;try simp only[pS]
   have ap:=T.drew.trans (af.mono T.size);have U:w2.heap.size≤w3.heap.size:=af.size;have a0:=aa.drew.below af aL;refine rd 18 fun K Y=>?_
   go_simp;go_at_call 57;(with_reducible refine (am _ (O.bm ap)).out.mono ?_);rintro e w4 ⟨rfl,ak⟩;go_wp2_with fail;refine Y.out _ _ (QdO ak (θ ad U) (θ ab U) (θ ac U) (QdO af ad ab ac aj.out)) fun hHeld=>?_;clear Y K;try simp only[pS]
   have az:=a0.below ak (θ aL U);have a8:=az.cell aX.out;have a9:=az.frozen k;refine tk 19 ?_;simp only[pS]
   refine rd 20 fun K Y=>?_
   go_simp;refine Y.out _ _ (QdO (B:=I) (κ.setCell (p:=⟨I,k,none⟩) ρ _) (by omega) (by omega) (by omega) (QdO ak (θ ad U) (θ ab U) (θ ac U) (QdO af ad ab ac aj.out))) fun hHeld=>?_;clear Y K;try simp only[pS]
   refine δ ?_;have a1:=ζ ap ak;have ae:=QdO (B:=I) (κ.setCell (p:=⟨I,k,none⟩) ρ (.int .i64 (ci (eli D y*QaW D J (eli D x))))) (by omega) (by omega) (by omega) (QdO ak (θ ad U) (θ ab U) (θ ac U) (QdO af ad ab ac aj.out));have a2:=η (show _∧_∧_∧_∧_∧_ from ⟨ae.1,ae.2.1,ae.2.2.1,ae.2.2.2.1,ae.2.2.2.2.1,ae.2.2.2.2.2.1⟩);have aq:=ay.out _ az;rw[←hx.out,←hy.out]at aq;replace aq:=η aq;clear ae;go_wp2_with fail;go_roundw
   case rel=>exact⟨k+1,by omega,by go_num,aq.out,a2,a1.setCell (p:=⟨I,k,none⟩) (by show _≤I;omega) _⟩
   case measure=>simp[intOf];omega
  ·obtain rfl:k=pts.length:=by omega
   rw[QaR]at aa;go_wp2_with fail;go_ret;exact⟨I,by rw[Qcs];rfl,by have:=ag.out;omega,aa,T⟩
end
section
def Qe0 (D:Desc)(K:Int)(pts mul I:List Int):Int:=if gchkD D K pts mul≠0 then gchkD D K pts mul else Qb1 D I K 3
theorem Qbn {D:Desc} {K:Int} {pts mul:List Int} (h:gchkD D K pts mul=0):1≤pts.length∧pts.length≤64∧mul.length=pts.length∧elB D pts=true∧elB D mul=true∧twB pts=false∧¬ (0:Int)∈mul∧0≤K∧K≤(pts.length:Int):=by
 unfold gchkD at h;by_cases U:pts.length<1∨64<pts.length
 ·rw[if_pos U]at h;cases h
 rw[if_neg U]at h;by_cases J:mul.length≠pts.length
 ·rw[if_pos J]at h;cases h
 rw[if_neg J]at h;by_cases I:elB D pts=false∨elB D mul=false
 ·rw[if_pos I]at h;cases h
 rw[if_neg I]at h;by_cases O:twB pts=true
 ·rw[if_pos O]at h;cases h
 rw[if_neg O]at h;by_cases T:(0:Int)∈mul
 ·rw[if_pos T]at h;cases h
 rw[if_neg T]at h;by_cases V:K<0∨(pts.length:Int)<K
 ·rw[if_pos V]at h;cases h
 refine⟨by omega,by omega,Classical.not_not.1 J,?_,?_,?_,T,by omega,by omega⟩
 ·rcases Bool.eq_false_or_eq_true (elB D pts) with e |e
  ·exact e
  ·exact absurd (.inl e) I
 ·rcases Bool.eq_false_or_eq_true (elB D mul) with e |e
  ·exact e
  ·exact absurd (.inr e) I
 ·rwa [Bool.not_eq_true]at O
def Qmz (D:Desc)(K:Int)(pts mul I:List Int)(w:World)(e:Ending)(w':World):Prop :=
 Below w.heap.size w w'∧((Qe0 D K pts mul I≠0∧e=.returned (.tuple #[.slice none 0 0,.int .i64 (Qe0 D K pts mul I)])) ∨
  (Qe0 D K pts mul I=0∧∃J,e=.returned (.tuple #[.slice J (Qa5 D pts mul I).length (Qa5 D pts mul I).length,.int .i64 0])∧Rd w' w'.heap.size J (Qa5 D pts mul I)∧(∀a,J=some a→w.heap.size≤a.block)∧∃g,J=some ⟨g,0,none⟩∧IB w' g (Qa5 D pts mul I)))
theorem Que (D:Desc)(K:Int)(pts mul:List Int)(A X Y:Option Addr)(c c1 c2:Nat)(I:List Int)(A3:Option Addr)(c3:Nat)(w:World)(hr:Rd w w.heap.size A (Qan D))(hg:Qcq D.p D.m (Qan D))(ah:Rd w w.heap.size X pts)(ai:Rd w w.heap.size Y mul)(h1:pts.length≤c1)(ar:c1≤maxLen)(h2:mul.length≤maxLen)
  (av:Rd w w.heap.size A3 I) (h3:I.length≤maxLen) :
  Calls Tryz.prog 177 #[.agg #[.int .i64 D.p,.int .i64 D.m,.slice A D.mod.length c,.int .i64 K,.slice X pts.length c1,.slice Y mul.length c2],.slice A3 I.length c3] w (Qmz D K pts mul I w):=by
 have hO:=fun W a b c'=>η (Qln D K pts mul A X Y c c1 c2 W a hg b c' h1 ar h2)
 have k0:=η (Qiv w (.int .i64 D.p) (.int .i64 D.m) (.slice A D.mod.length c) (.int .i64 K) (.slice X pts.length c1) (.slice Y mul.length c2) 94);have O:Below w.heap.size w (w.alloc (.cells #[.int .i64 D.p,.int .i64 D.m,.slice A D.mod.length c,.int .i64 K,.slice X pts.length c1,.slice Y mul.length c2] 94)):=β;have ak:=hO _ (hr.bm O) (ah.bm O) (ai.bm O);have aw:=h3;unfold maxLen at aw;clear hO hg;unfold Qmz;go_enter Tryz.func177,Tryz.ntmps177;go_wp2_with fail;(with_reducible refine ak.out.mono ?_);rintro e w1 ⟨ac,g,F,rfl,an,aP,⟨hz,rfl⟩ |⟨hz,rfl⟩⟩;rotate_left
 ·have T:Hid (Qe0 F.z K pts mul I=gchkD F.z K pts mul):=if_pos hz;have aI:(gchkD F.z K pts mul !=0)=true:=by rw[bne_iff_ne];exact hz
  have ax:=η hz;clear hz;go_wp2_with fail;go_ret2;exact⟨ζ O ac,.inl ⟨by rw[T.out];exact ax.out,by rw[T.out];rfl⟩⟩
 have af:Hid (Qe0 F.z K pts mul I=Qb1 F.z I K 3):=if_neg (fun h=>h hz);obtain⟨-,aD,am,-⟩:=Qbn hz;have J:=ζ O ac;have ay:=η (QbS ac (by simp) k0.out);have az:=ah.bm J;have aA:=ai.bm J;have al:=av.bm J;have hE:=η (Qf7 F I A3 c3 g w1 an al h3);have hW:=η (Qly F K pts mul I A X Y A3 c c1 c2 c3 g w1 an az aA al am aD h3);obtain⟨q0,q1,q2,q3,q4,q5⟩:=ay.out;clear hz ac ak k0 am;by_cases U:(I.length:Int)=K;rotate_left
 ·have T:Hid (Qe0 F.z K pts mul I=3):=af.out.trans (if_pos U);have aC:((I.length:Int) !=K)=true:=by rw[bne_iff_ne];exact U
  clear U;go_wp2_with fail;go_ret2;exact⟨J,.inl ⟨by rw[T.out];decide,by rw[T.out];rfl⟩⟩
 have aC:((I.length:Int) !=K)=false:=by rw[bne_eq_false_iff_eq];exact U
 by_cases V:elB F.z I=true;rotate_left
 ·rw[Bool.not_eq_true]at V;have T:Hid (Qe0 F.z K pts mul I=2):=af.out.trans ((if_neg (not_not_intro U)).trans (if_pos V));rw[V]at hE;clear U V;go_wp2_with fail;(with_reducible refine hE.out.mono ?_);rintro e w2 ⟨rfl,rfl⟩;go_wp2_with fail;go_ret2;exact⟨J,.inl ⟨by rw[T.out];decide,by rw[T.out];rfl⟩⟩
 have T:Hid (Qe0 F.z K pts mul I=0):=af.out.trans ((if_neg (not_not_intro U)).trans (if_neg (by rw[V];simp)));rw[V]at hE;clear U V;go_wp2_with fail;(with_reducible refine hE.out.mono ?_);rintro e w2 ⟨rfl,rfl⟩;go_wp2_with fail;(with_reducible refine hW.out.mono ?_);rintro e w3 ⟨g3,rfl,aG,ao,aH⟩;go_wp2_with fail;go_ret2;exact⟨ζ J aH,.inr ⟨T.out,_,rfl,ao.rd,fun a e=>by cases e;exact τ J.size aG,g3,rfl,ao⟩⟩
theorem QrM (D:Desc)(K:Int)(pts mul:List Int)(A J O:Option Addr)(c c1 c2:Nat)(w:World)(X:Rd w w.heap.size A (Qan D))(T:Qcq D.p D.m (Qan D))(Y:Rd w w.heap.size J pts)(aa:Rd w w.heap.size O mul)(h1:pts.length≤c1)(ac:c1≤maxLen)(h2:mul.length≤maxLen) :
  Calls Tryz.prog 122 #[.agg #[.int .i64 D.p,.int .i64 D.m,.slice A D.mod.length c,.int .i64 K,.slice J pts.length c1,.slice O mul.length c2]] w fun e w'=>e=.returned (.int .i64 (gchkD D K pts mul))∧Below w.heap.size w w':=by
 have U:=fun W a b c'=>η (Qln D K pts mul A J O c c1 c2 W a T b c' h1 ac h2)
 have I:Below w.heap.size w (w.alloc (.cells #[.int .i64 D.p,.int .i64 D.m,.slice A D.mod.length c,.int .i64 K,.slice J pts.length c1,.slice O mul.length c2] 94)):=β;have ae:=U _ (X.bm I) (Y.bm I) (aa.bm I);clear U T;go_enter Tryz.func122,Tryz.ntmps122;go_wp2_with fail;(with_reducible refine ae.out.mono ?_);rintro e w1 ⟨V,g,F,rfl,af,ag,⟨hz,rfl⟩ |⟨hz,rfl⟩⟩
 ·replace hz:=η hz;go_wp2_with fail;go_ret;exact⟨by rw[hz.out];rfl,ζ I V⟩
 ·clear hz;go_wp2_with fail;go_ret;exact⟨rfl,ζ I V⟩
end
section
def Six (w:World)(b:Nat)(I v1 v2 J O T:Value):Prop :=
 w.cell? ⟨b,0,none⟩=some I∧w.cell? ⟨b,1,none⟩=some v1∧w.cell? ⟨b,2,none⟩=some v2∧w.cell? ⟨b,3,none⟩=some J∧w.cell? ⟨b,4,none⟩=some O∧w.cell? ⟨b,5,none⟩=some T ∧
 w.frozen? ⟨b,0,none⟩=false∧w.frozen? ⟨b,1,none⟩=false∧w.frozen? ⟨b,2,none⟩=false∧w.frozen? ⟨b,3,none⟩=false∧w.frozen? ⟨b,4,none⟩=false∧w.frozen? ⟨b,5,none⟩=false
theorem Six.keep {B b:Nat} {w w1:World} {O v1 v2 T U V:Value} (h:Six w b O v1 v2 T U V)(I:Below B w w1)(J:b<B):Six w1 b O v1 v2 T U V:=by
 obtain⟨X,Y,a2,a3,a4,a5,f0,f1,f2,f3,f4,f5⟩:=h;exact⟨(I.cell (p:=⟨b,0,none⟩) J).trans X,(I.cell (p:=⟨b,1,none⟩) J).trans Y,(I.cell (p:=⟨b,2,none⟩) J).trans a2,(I.cell (p:=⟨b,3,none⟩) J).trans a3,(I.cell (p:=⟨b,4,none⟩) J).trans a4,(I.cell (p:=⟨b,5,none⟩) J).trans a5,
  (I.frozen (p:=⟨b,0,none⟩) J).trans f0,(I.frozen (p:=⟨b,1,none⟩) J).trans f1,(I.frozen (p:=⟨b,2,none⟩) J).trans f2,(I.frozen (p:=⟨b,3,none⟩) J).trans f3,(I.frozen (p:=⟨b,4,none⟩) J).trans f4,(I.frozen (p:=⟨b,5,none⟩) J).trans f5⟩
theorem Six.new (w:World)(I v1 v2 J O T:Value)(t:TypeId):Six (w.alloc (.cells #[I,v1,v2,J,O,T] t)) w.heap.size I v1 v2 J O T:=by
 obtain⟨U,V,X,Y,a4,a5⟩:=Qiv w I v1 v2 J O T t;exact⟨U,V,X,Y,a4,a5,World.frozen?_alloc_at _ _ _ _ rfl,World.frozen?_alloc_at _ _ _ _ rfl,World.frozen?_alloc_at _ _ _ _ rfl,World.frozen?_alloc_at _ _ _ _ rfl,World.frozen?_alloc_at _ _ _ _ rfl,World.frozen?_alloc_at _ _ _ _ rfl⟩
theorem QeS {w3:World} {b:Nat} (u0 u1 u2 u3 I J:Value):Below b w3 ((((((w3.setCell ⟨b,0,none⟩ u0).setCell ⟨b,1,none⟩ u1).setCell ⟨b,2,none⟩ u2).setCell ⟨b,3,none⟩ u3).setCell ⟨b,4,none⟩ I).setCell ⟨b,5,none⟩ J) :=
 (((((κ.setCell (p:=⟨b,0,none⟩) ρ _).setCell (p:=⟨b,1,none⟩) ρ _).setCell (p:=⟨b,2,none⟩) ρ _).setCell (p:=⟨b,3,none⟩) ρ _).setCell (p:=⟨b,4,none⟩) ρ _).setCell (p:=⟨b,5,none⟩) ρ _
theorem Six.set5 {w:World} {b:Nat} {I v1 v2 J O T:Value} (h:Six w b I v1 v2 J O T)(u:Value):Six (w.setCell ⟨b,5,none⟩ u) b I v1 v2 J O u:=by
 obtain⟨U,V,X,Y,a4,a5,f0,f1,f2,f3,f4,f5⟩:=h;unfold Six;simp[go_sem,U,V,X,Y,a4,a5,f0,f1,f2,f3,f4,f5]
theorem Rd.set6 {w:World} {B b:Nat} {A:Option Addr} {l:List Int} (h:Rd w B A l)(I:∀a,A=some a→a.block≠b)(u0 u1 u2 u3 J O:Value):Rd ((((((w.setCell ⟨b,0,none⟩ u0).setCell ⟨b,1,none⟩ u1).setCell ⟨b,2,none⟩ u2).setCell ⟨b,3,none⟩ u3).setCell ⟨b,4,none⟩ J).setCell ⟨b,5,none⟩ O) B A l :=
 (((((h.far I 0 u0).far I 1 u1).far I 2 u2).far I 3 u3).far I 4 J).far I 5 O
end
end Go.Proofs

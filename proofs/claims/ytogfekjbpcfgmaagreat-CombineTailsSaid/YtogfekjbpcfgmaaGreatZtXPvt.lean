/- The program's code.Pivots of a valid code. -/
import Derived.Test.YtogfekjbpcfgmaaGreatZtXSpL
import Derived.Test.YtogfekjbpcfgmaaGreatZtXTk
namespace Go.Proofs.YtogfekjbpcfgmaaGreat
open Go.RowKit Cw
attribute [local go_sem] Oper.semAt_some

theorem five_cells {W:World} {x:Nat} {u0 u1 u2 u3 u4:Value} (fa:Five W x u0 u1 u2 u3 u4):W.cell? ⟨x,0,none⟩=some u0∧W.cell? ⟨x,1,none⟩=some u1∧W.cell? ⟨x,2,none⟩=some u2∧W.cell? ⟨x,3,none⟩=some u3∧W.cell? ⟨x,4,none⟩=some u4:=by
 obtain⟨a0,a1,a2,a3,a4,-⟩:=fa;exact⟨a0,a1,a2,a3,a4⟩
def Two0 (W:World)(X:Nat):Prop:=X<W.heap.size∧W.cell? ⟨X,0,none⟩=some (.int .i64 0)∧W.cell? ⟨X,1,none⟩=some (.slice none 0 0)∧W.frozen? ⟨X,0,none⟩=false∧W.frozen? ⟨X,1,none⟩=false
theorem Two0.new (W:World):Two0 (W.alloc (.cells #[.int .i64 0,.slice none 0 0] 120)) W.heap.size:=by unfold Two0; simp[go_sem]
theorem Two0.keep {W W':World} {B X:Nat} (h:Two0 W X)(hb:Below B W W')(hB:X<B)(hs:W.heap.size≤W'.heap.size):Two0 W' X :=
 ⟨Nat.lt_of_lt_of_le h.1 hs,(hb.cell (p:=⟨X,0,none⟩) hB).trans h.2.1,(hb.cell (p:=⟨X,1,none⟩) hB).trans h.2.2.1,(hb.frozen (p:=⟨X,0,none⟩) hB).trans h.2.2.2.1,(hb.frozen (p:=⟨X,1,none⟩) hB).trans h.2.2.2.2⟩
theorem Five.set2 {w:World} {b X:Nat} {v0 v1 v2 v3 v4:Value} (h:Five w b v0 v1 v2 v3 v4)(hne:b<X)(u0 u1:Value):Five ((w.setCell ⟨X,0,none⟩ u0).setCell ⟨X,1,none⟩ u1) b v0 v1 v2 v3 v4 :=
 h.keep (((Below.refl X w).setCell (p:=⟨X,0,none⟩) (Nat.le_refl _) u0).setCell (p:=⟨X,1,none⟩) (Nat.le_refl _) u1) hne
theorem Own.set2 {w:World} {B X:Nat} {v:Value} {l:List Int} (h:Own w B v l)(hne:v.ownBlock≠some X)(u0 u1:Value):Own ((w.setCell ⟨X,0,none⟩ u0).setCell ⟨X,1,none⟩ u1) B v l :=
 (h.far (p:=⟨X,0,none⟩) hne u0).far (p:=⟨X,1,none⟩) hne u1
def PvtPost (l:List Int)(w:World)(e:Ending)(w':World):Prop:=∃ vp,e=.returned (.tuple #[vp,.int .i64 0])∧Own w' w.heap.size vp l∧Below w.heap.size w w'
set_option maxRecDepth 100000 in
set_option maxHeartbeats 4000000 in
theorem cPivots_ok (Pa Ma Na:Int)(mla:List Int)(na:Nat)(rowsa:Nat→List Int)(Aa Ra:Option Addr)(ca ka:Nat)(F:FD)(m:Nat)(M:Nat→Nat→R F.toDesc)(va:VC Pa Ma Na mla na rowsa F m M)(w:World)(hra:Rd w w.heap.size Aa mla)(hma:RdM w w.heap.size Ra na rowsa) :
  Calls Tryz.prog 31 #[.agg #[.int .i64 Pa,.int .i64 Ma,.slice Aa mla.length ca,.int .i64 Na,.slice Ra na ka]] w (PvtPost (lst na fun i=>(pvF (elS na M m).2 i:Int)) w):=by
 obtain⟨qa1,qa2,qa3,qa4,qa5⟩:=vc_bounds va;have hCa:=fun W a b=>cCheck_any Pa Ma Na mla na rowsa Aa Ra ca ka W qa1 qa2 qa3 qa4 qa5 a b
 rw[vc_err va]at hCa;replace hCa:=fun W a b=>Lib.hid (hCa W a b)
 have hGa:=fun W=>Lib.hid (cGen_any Pa Ma Na mla na rowsa Aa Ra ca ka W)
 have hpl:natL (elS na M m).2=lst na (fun i=>(pvF (elS na M m).2 i:Int)):=by
  have:=natL_lst (elS na M m).2
  rwa [show (elS na M m).2.length=na from va.can.1]at this
 have hCan:∀ W,Below w.heap.size w W→Hid (Calls Tryz.prog 89 #[.agg #[.int .i64 Pa,.int .i64 Ma,.slice Aa mla.length ca],.agg #[.int .i64 Na,.slice Ra na ka]] W fun e w'=>∃ Al kl xl vp,e=.returned (.tuple #[.agg #[.int .i64 Na,.slice Al kl xl],vp,.int .i64 0])∧Own w' W.heap.size vp (lst na fun i=>(pvF (elS na M m).2 i:Int))∧Below W.heap.size W w'):=fun W h=>by
  have h1:=va.le; have h3:=va.m1; have h4:=va.m64;have r1:=(hra.below h).more h.size;have r2:=va.rdm ((hma.below h).more h.size);rw[va.hl]at r1;rw[va.hP,va.hM,va.hl,va.hN,modL_length,←hpl];refine (gCanonical_ok F va.good na m M Aa Ra ca ka W r1 r2 (by omega) h3 (by omega)).mono ?_;rintro e w' ⟨Al,vp,rfl,-,q1,q2⟩;exact⟨Al,_,_,vp,rfl,q1,q2⟩
 generalize lst na (fun i=>(pvF (elS na M m).2 i:Int))=L at *;clear va qa1 qa2 qa3 qa4 qa5 hpl;obtain⟨Z,hZ⟩:∃ Z,Z=w.alloc (.cells #[.int .i64 Pa,.int .i64 Ma,.slice Aa mla.length ca,.int .i64 Na,.slice Ra na ka] 27):=⟨_,rfl⟩;have hB:Below w.heap.size w Z:=by rw[hZ]; exact (Below.refl _ _).alloc (Nat.le_refl _) _
 obtain⟨s,hs⟩:∃ s,s=w.heap.size:=⟨_,rfl⟩;have fa:Five Z s (.int .i64 Pa) (.int .i64 Ma) (.slice Aa mla.length ca) (.int .i64 Na) (.slice Ra na ka):=by rw[hZ,hs]; exact Five.new w _ _ _ _ _ 27
 have hZe:s<Z.heap.size:=by rw[hZ,hs]; simp
 have hq1:=hCa Z ((hra.below hB).more hB.size) ((hma.below hB).more hB.size);replace fa:=Lib.hid fa;replace hZ:=Lib.hid hZ;unfold PvtPost;clear hCa;go_enter Tryz.func31,Tryz.ntmps31;go_wp2_with (fail);rw[←hZ.out];simp only[←hs];have hsw:w.heap.size≤s:=Nat.le_of_eq hs.symm;replace hs:=Lib.hid hs;(with_reducible refine hq1.out.mono ?_);rintro e w1 ⟨rfl,hb1⟩;have hB1:=hB.trans (hb1.mono hB.size);have hsd:s<w1.drew.heap.size:=Nat.lt_of_lt_of_le hZe hb1.size;have hBd:=hB1.drew;have fad:=Lib.hid ((fa.out.keep hb1 hZe).keep (Below.refl w1.heap.size w1).drew hsd);have hcc:=Lib.hid (five_cells fad.out);clear hq1;go_wp2_with (fail);refine wp_region_held_drew (S:=fun w'=>w'.cell? ⟨s,0,none⟩=some (.int .i64 Pa)∧w'.cell? ⟨s,1,none⟩=some (.int .i64 Ma)∧w'.cell? ⟨s,2,none⟩=some (.slice Aa mla.length ca)∧w'.cell? ⟨s,3,none⟩=some (.int .i64 Na)∧w'.cell? ⟨s,4,none⟩=some (.slice Ra na ka)) (by kernel_rfl) (by (try dsimp only); exact hcc.out) (fun hHeld=>?_)
 revert hHeld
 generalize w1.drew=wc at hsd hBd fad hcc ⊢;intro hHeld;refine tk 0 ?_; try simp only[pS]
 refine tk 1 ?_; try simp only[pS]
 refine tk 2 ?_; try simp only[pS]
 refine wpAnyH_ready (rs:=[3,9]) (by kernel_rfl) (by simp) ?_;refine AllReadyH.cons (o:=⟨_,_,_,_,_,_⟩) rfl (fun K hK=>?_) ?_
 ·go_simp;go_at_call 85;(with_reducible refine ((hGa _)).out.mono ?_);rintro e wd ⟨rfl,hbA⟩;replace fad:=Lib.hid (fad.out.keep hbA hsd);try replace hX:=Lib.hid (hX.out.keep hbA hX.out.1 hbA.size)
  replace hsd:=Nat.lt_of_lt_of_le hsd hbA.size;replace hBd:=hBd.trans (hbA.mono hBd.size);clear hbA;replace hcc:=Lib.hid (five_cells fad.out);obtain⟨wc,rfl⟩:∃ wc:World,wc=wd:=⟨_,rfl⟩;go_wp2_with (fail);refine hK.out _ _ (by (try dsimp only); exact hcc.out) (fun hHeld=>?_);clear hK K;try simp only[pS]
  refine wpAnyH_ready (rs:=[4,9]) (by kernel_rfl) (by simp) ?_;refine AllReadyH.cons (o:=⟨_,_,_,_,_,_⟩) rfl (fun K hK=>?_) ?_
  ·go_simp;go_at_call 89;(with_reducible refine ((hCan _ hBd)).out.mono ?_);rintro e wd ⟨Al,kl,xl,vp,rfl,hown,hbA⟩;replace fad:=Lib.hid (fad.out.keep hbA hsd);try (have hne:vp.ownBlock≠some X:=fun e=>by have h1:=(hown.lt _ e).1; have h2:=hX.out.1; omega)
   try replace hX:=Lib.hid (hX.out.keep hbA hX.out.1 hbA.size)
   replace hsd:=Nat.lt_of_lt_of_le hsd hbA.size;replace hown:=hown.lowerM hBd.size;replace hBd:=hBd.trans (hbA.mono hBd.size);clear hbA;replace hcc:=Lib.hid (five_cells fad.out);obtain⟨wc,rfl⟩:∃ wc:World,wc=wd:=⟨_,rfl⟩;try (obtain⟨x0,x1,x2,x3,x4⟩:=hX.out)
   go_wp2_with (fail);refine hK.out _ _ (by (try dsimp only); exact hcc.out) (fun hHeld=>?_);clear hK K;try simp only[pS]
   refine tk 5 ?_; try simp only[pS]
   refine tk 6 ?_; try simp only[pS]
   refine tk 7 ?_; try simp only[pS]
   refine tk 8 ?_; try simp only[pS]
   refine rd 9 fun K hK=>?_
   go_simp;have hbA:Below wc.heap.size wc (wc.alloc (.cells #[.int .i64 0,.slice none 0 0] 120)):=(Below.refl _ _).alloc (Nat.le_refl _) _;obtain⟨X,hXe⟩:∃ X,X=wc.heap.size:=⟨_,rfl⟩;have hX:Two0 (wc.alloc (.cells #[.int .i64 0,.slice none 0 0] 120)) X:=by rw[hXe]; exact Two0.new wc
   replace fad:=fad.out.keep hbA hsd;have hsX:s<X:=by rw[hXe]; exact hsd
   replace hsd:=Nat.lt_of_lt_of_le hsd hbA.size;replace hBd:=hBd.trans (hbA.mono hBd.size);try (have hne:vp.ownBlock≠some X:=fun e=>by have h1:=(hown.lt _ e).2; omega)
   try replace hown:=hown.below hbA (Nat.le_refl _)
   clear hbA hcc;simp only[←hXe];replace hXe:=Lib.hid hXe;generalize wc.alloc (.cells #[.int .i64 0,.slice none 0 0] 120)=wd at *;replace fad:=Lib.hid fad;have hcc:=Lib.hid (five_cells fad.out);replace hX:=Lib.hid hX;obtain⟨wc,rfl⟩:∃ wc:World,wc=wd:=⟨_,rfl⟩;obtain⟨x0,x1,x2,x3,x4⟩:=hX.out;refine hK.out _ _ (by (try dsimp only); exact hcc.out) (fun hHeld=>?_);clear hK K;try simp only[pS]
   refine rd 10 fun K hK=>?_
   go_simp;have hcc2:=Lib.hid (five_cells (fad.out.set2 hsX (.int .i64 Na) (.slice Al kl xl)));refine hK.out _ _ (by (try dsimp only); exact hcc2.out) (fun hHeld=>?_);clear hK K;try simp only[pS]
   refine tk 11 ?_; try simp only[pS]
   refine tk 12 ?_; try simp only[pS]
   refine wpAnyH_done (by kernel_rfl) ?_ _;have hfo:=Lib.hid (hown.set2 hne (.int .i64 Na) (.slice Al kl xl));have hfb:=Lib.hid ((hBd.setCell (p:=⟨X,0,none⟩) (show w.heap.size≤X by omega) (.int .i64 Na)).setCell (p:=⟨X,1,none⟩) (show w.heap.size≤X by omega) (.slice Al kl xl));clear hown hne x0 x1 x2 x3 x4;go_wp2_with (fail);go_ret2;exact⟨vp,rfl,hfo.out,hfb.out⟩
  refine AllReadyH.cons (o:=⟨_,_,_,_,_,_⟩) rfl (fun K hK=>?_) AllReadyH.nil;go_simp;have hbA:Below wc.heap.size wc (wc.alloc (.cells #[.int .i64 0,.slice none 0 0] 120)):=(Below.refl _ _).alloc (Nat.le_refl _) _;obtain⟨X,hXe⟩:∃ X,X=wc.heap.size:=⟨_,rfl⟩;have hX:Two0 (wc.alloc (.cells #[.int .i64 0,.slice none 0 0] 120)) X:=by rw[hXe]; exact Two0.new wc
  replace fad:=fad.out.keep hbA hsd;have hsX:s<X:=by rw[hXe]; exact hsd
  replace hsd:=Nat.lt_of_lt_of_le hsd hbA.size;replace hBd:=hBd.trans (hbA.mono hBd.size);try (have hne:vp.ownBlock≠some X:=fun e=>by have h1:=(hown.lt _ e).2; omega)
  try replace hown:=hown.below hbA (Nat.le_refl _)
  clear hbA hcc;simp only[←hXe];replace hXe:=Lib.hid hXe;generalize wc.alloc (.cells #[.int .i64 0,.slice none 0 0] 120)=wd at *;replace fad:=Lib.hid fad;have hcc:=Lib.hid (five_cells fad.out);replace hX:=Lib.hid hX;obtain⟨wc,rfl⟩:∃ wc:World,wc=wd:=⟨_,rfl⟩;obtain⟨x0,x1,x2,x3,x4⟩:=hX.out;refine hK.out _ _ (by (try dsimp only); exact hcc.out) (fun hHeld=>?_);clear hK K;try simp only[pS]
  refine rd 4 fun K hK=>?_
  go_simp;go_at_call 89;(with_reducible refine ((hCan _ hBd)).out.mono ?_);rintro e wd ⟨Al,kl,xl,vp,rfl,hown,hbA⟩;replace fad:=Lib.hid (fad.out.keep hbA hsd);try (have hne:vp.ownBlock≠some X:=fun e=>by have h1:=(hown.lt _ e).1; have h2:=hX.out.1; omega)
  try replace hX:=Lib.hid (hX.out.keep hbA hX.out.1 hbA.size)
  replace hsd:=Nat.lt_of_lt_of_le hsd hbA.size;replace hown:=hown.lowerM hBd.size;replace hBd:=hBd.trans (hbA.mono hBd.size);clear hbA;replace hcc:=Lib.hid (five_cells fad.out);obtain⟨wc,rfl⟩:∃ wc:World,wc=wd:=⟨_,rfl⟩;try (obtain⟨x0,x1,x2,x3,x4⟩:=hX.out)
  go_wp2_with (fail);refine hK.out _ _ (by (try dsimp only); exact hcc.out) (fun hHeld=>?_);clear hK K;try simp only[pS]
  refine tk 5 ?_; try simp only[pS]
  refine tk 6 ?_; try simp only[pS]
  refine tk 7 ?_; try simp only[pS]
  refine tk 8 ?_; try simp only[pS]
  refine rd 10 fun K hK=>?_
  go_simp;have hcc2:=Lib.hid (five_cells (fad.out.set2 hsX (.int .i64 Na) (.slice Al kl xl)));refine hK.out _ _ (by (try dsimp only); exact hcc2.out) (fun hHeld=>?_);clear hK K;try simp only[pS]
  refine tk 11 ?_; try simp only[pS]
  refine tk 12 ?_; try simp only[pS]
  refine wpAnyH_done (by kernel_rfl) ?_ _;have hfo:=Lib.hid (hown.set2 hne (.int .i64 Na) (.slice Al kl xl));have hfb:=Lib.hid ((hBd.setCell (p:=⟨X,0,none⟩) (show w.heap.size≤X by omega) (.int .i64 Na)).setCell (p:=⟨X,1,none⟩) (show w.heap.size≤X by omega) (.slice Al kl xl));clear hown hne x0 x1 x2 x3 x4;go_wp2_with (fail);go_ret2;exact⟨vp,rfl,hfo.out,hfb.out⟩
 refine AllReadyH.cons (o:=⟨_,_,_,_,_,_⟩) rfl (fun K hK=>?_) AllReadyH.nil;go_simp;have hbA:Below wc.heap.size wc (wc.alloc (.cells #[.int .i64 0,.slice none 0 0] 120)):=(Below.refl _ _).alloc (Nat.le_refl _) _;obtain⟨X,hXe⟩:∃ X,X=wc.heap.size:=⟨_,rfl⟩;have hX:Two0 (wc.alloc (.cells #[.int .i64 0,.slice none 0 0] 120)) X:=by rw[hXe]; exact Two0.new wc
 replace fad:=fad.out.keep hbA hsd;have hsX:s<X:=by rw[hXe]; exact hsd
 replace hsd:=Nat.lt_of_lt_of_le hsd hbA.size;replace hBd:=hBd.trans (hbA.mono hBd.size);try (have hne:vp.ownBlock≠some X:=fun e=>by have h1:=(hown.lt _ e).2; omega)
 try replace hown:=hown.below hbA (Nat.le_refl _)
 clear hbA hcc;simp only[←hXe];replace hXe:=Lib.hid hXe;generalize wc.alloc (.cells #[.int .i64 0,.slice none 0 0] 120)=wd at *;replace fad:=Lib.hid fad;have hcc:=Lib.hid (five_cells fad.out);replace hX:=Lib.hid hX;obtain⟨wc,rfl⟩:∃ wc:World,wc=wd:=⟨_,rfl⟩;obtain⟨x0,x1,x2,x3,x4⟩:=hX.out;refine hK.out _ _ (by (try dsimp only); exact hcc.out) (fun hHeld=>?_);clear hK K;try simp only[pS]
 refine rd 3 fun K hK=>?_
 go_simp;go_at_call 85;(with_reducible refine ((hGa _)).out.mono ?_);rintro e wd ⟨rfl,hbA⟩;replace fad:=Lib.hid (fad.out.keep hbA hsd);try replace hX:=Lib.hid (hX.out.keep hbA hX.out.1 hbA.size)
 replace hsd:=Nat.lt_of_lt_of_le hsd hbA.size;replace hBd:=hBd.trans (hbA.mono hBd.size);clear hbA;replace hcc:=Lib.hid (five_cells fad.out);obtain⟨wc,rfl⟩:∃ wc:World,wc=wd:=⟨_,rfl⟩;go_wp2_with (fail);refine hK.out _ _ (by (try dsimp only); exact hcc.out) (fun hHeld=>?_);clear hK K;try simp only[pS]
 refine rd 4 fun K hK=>?_
 go_simp;go_at_call 89;(with_reducible refine ((hCan _ hBd)).out.mono ?_);rintro e wd ⟨Al,kl,xl,vp,rfl,hown,hbA⟩;replace fad:=Lib.hid (fad.out.keep hbA hsd);try (have hne:vp.ownBlock≠some X:=fun e=>by have h1:=(hown.lt _ e).1; have h2:=hX.out.1; omega)
 try replace hX:=Lib.hid (hX.out.keep hbA hX.out.1 hbA.size)
 replace hsd:=Nat.lt_of_lt_of_le hsd hbA.size;replace hown:=hown.lowerM hBd.size;replace hBd:=hBd.trans (hbA.mono hBd.size);clear hbA;replace hcc:=Lib.hid (five_cells fad.out);obtain⟨wc,rfl⟩:∃ wc:World,wc=wd:=⟨_,rfl⟩;try (obtain⟨x0,x1,x2,x3,x4⟩:=hX.out)
 go_wp2_with (fail);refine hK.out _ _ (by (try dsimp only); exact hcc.out) (fun hHeld=>?_);clear hK K;try simp only[pS]
 refine tk 5 ?_; try simp only[pS]
 refine tk 6 ?_; try simp only[pS]
 refine tk 7 ?_; try simp only[pS]
 refine tk 8 ?_; try simp only[pS]
 refine rd 10 fun K hK=>?_
 go_simp;have hcc2:=Lib.hid (five_cells (fad.out.set2 hsX (.int .i64 Na) (.slice Al kl xl)));refine hK.out _ _ (by (try dsimp only); exact hcc2.out) (fun hHeld=>?_);clear hK K;try simp only[pS]
 refine tk 11 ?_; try simp only[pS]
 refine tk 12 ?_; try simp only[pS]
 refine wpAnyH_done (by kernel_rfl) ?_ _;have hfo:=Lib.hid (hown.set2 hne (.int .i64 Na) (.slice Al kl xl));have hfb:=Lib.hid ((hBd.setCell (p:=⟨X,0,none⟩) (show w.heap.size≤X by omega) (.int .i64 Na)).setCell (p:=⟨X,1,none⟩) (show w.heap.size≤X by omega) (.slice Al kl xl));clear hown hne x0 x1 x2 x3 x4;go_wp2_with (fail);go_ret2;exact⟨vp,rfl,hfo.out,hfb.out⟩
end Go.Proofs.YtogfekjbpcfgmaaGreat

/- The steps of the program's elimination: closures over rows changed in place. -/
import Derived.Test.YtogfekjbpcfgmaaGreatZtXMP
import Derived.Test.YtogfekjbpcfgmaaGreatZtXTk
namespace Go.Proofs.YtogfekjbpcfgmaaGreat
open Go.RowKit Cw
attribute [local go_sem] Oper.semAt_some

section
variable {D:Desc} {w w':World} {L g n m:Nat} {q q':Option Nat} {i b c:Nat} {f:Nat→R D} {M:Nat→Nat→R D}
end

set_option maxRecDepth 100000 in
set_option maxHeartbeats 2000000 in
theorem sSwap_any {D:Desc} (n m:Nat)(M:Nat→Nat→R D)(g cl bk ba k a L:Nat)(q0:Option Nat)(w:World)(hm:MP w L g n m q0 M)(hk:w.cell? ⟨bk,0,none⟩=some (.int .i64 (k:Int)))(ha:w.cell? ⟨ba,0,none⟩=some (.int .i64 (a:Int)))
  (h1:bk≠g) (h2:ba≠g) (han:a<n) (hkn:k<n) (hne:k≠a) :
  Calls Tryz.prog 226 #[.slice (some ⟨g,0,none⟩) n cl,.pointer (some ⟨bk,0,none⟩),.pointer (some ⟨ba,0,none⟩)] w fun e w'=>e=.returned (.tuple #[])∧w.grownBy w' (some g) ∧
   ∀ q,MP w L g n m q M→MP w' L g n m q (swapR M a k):=by
 obtain⟨ra,ca,hra,-⟩:=hm.at_ han;obtain⟨rk,ck,hrk,-⟩:=hm.at_ hkn;have hxa:=hra.hd;have hfa:=hra.fz;have hxk:=hrk.hd;have hfk:=hrk.fz;have hk0:(0:Int)≤(k:Int):=by omega
 have hk1:(k:Int)<(n:Int):=by omega
 have ha0:(0:Int)≤(a:Int):=by omega
 have ha1:(a:Int)<(n:Int):=by omega
 obtain⟨w5,hw5⟩:∃ w5,w5=(w.setCell ⟨g,a,none⟩ (.slice (some ⟨rk,0,none⟩) m ck)).drew:=⟨_,rfl⟩;have hxk5:w5.cell? ⟨g,k,none⟩=some (.slice (some ⟨rk,0,none⟩) m ck):=by rw[hw5]; exact (hdr_other hne).trans hxk
 have hfk5:w5.frozen? ⟨g,k,none⟩=false:=by rw[hw5]; simp[go_sem,hfk]
 obtain⟨w6,hw6⟩:∃ w6,w6=w5.setCell ⟨g,k,none⟩ (.slice (some ⟨ra,0,none⟩) m ca):=⟨_,rfl⟩;have hc5:w5.cell? ⟨bk,0,none⟩=some (.int .i64 (k:Int))∧w5.cell? ⟨ba,0,none⟩=some (.int .i64 (a:Int)):=by rw[hw5]; exact⟨(World.cell?_setCell_far _ _ _ _ h1.symm).trans hk,(World.cell?_setCell_far _ _ _ _ h2.symm).trans ha⟩
 have hc6:w6.cell? ⟨bk,0,none⟩=some (.int .i64 (k:Int))∧w6.cell? ⟨ba,0,none⟩=some (.int .i64 (a:Int)):=by rw[hw6]; exact⟨(World.cell?_setCell_far _ _ _ _ h1.symm).trans hc5.1,(World.cell?_setCell_far _ _ _ _ h2.symm).trans hc5.2⟩
 have hgr:Hid (w.grownBy w6 (some g)):=by
  rw[hw6,hw5];exact (((below_grown ((Below.refl w.heap.size w).drew) (Nat.le_refl _)).but _).trans (grown_set w.drew ⟨g,a,none⟩ (.slice (some ⟨rk,0,none⟩) m ck))).trans (grown_set _ _ _)
 have hfin:Hid (∀ q,MP w L g n m q M→MP w6 L g n m q (swapR M a k)):=fun q hq=>by
  have x1:=(hq.row han hra).drew;have x2:=(hq.row hkn hrk).drew;rw[hw6,hw5];exact hq.drew.swap han hkn hne x1 x2
 have hcc:=Lib.hid (show _∧_ from ⟨hk,ha⟩);replace hc5:=Lib.hid hc5;replace hc6:=Lib.hid hc6;replace hw5:=Lib.hid hw5;replace hw6:=Lib.hid hw6;clear hm hra hrk hk ha hne;go_enter Tryz.func226,Tryz.ntmps226;go_wp2_with (fail);refine wp_region_held_drew (S:=fun w'=>w'.cell? ⟨bk,0,none⟩=some (.int .i64 (k:Int))∧w'.cell? ⟨ba,0,none⟩=some (.int .i64 (a:Int))) (by kernel_rfl) (by (try dsimp only); exact hcc.out) (fun hHeld=>?_);refine tk 0 ?_; try simp only[pS]
 refine tk 1 ?_; try simp only[pS]
 refine tk 2 ?_; try simp only[pS]
 refine tk 3 ?_; try simp only[pS]
 refine tk 4 ?_; try simp only[pS]
 refine tk 5 ?_; try simp only[pS]
 refine tk 6 ?_; try simp only[pS]
 refine tk 8 ?_; try simp only[pS]
 refine tk 9 ?_; try simp only[pS]
 refine tk 10 ?_; try simp only[pS]
 refine wpAnyH_ready (rs:=[7,11]) (by kernel_rfl) (by simp) ?_;refine AllReadyH.cons (o:=⟨_,_,_,_,_,_⟩) rfl (fun K hK=>?_) ?_
 ·go_simp;refine hK.out _ _ (by (try dsimp only); exact hcc.out) (fun hHeld=>?_);clear hK K;try simp only[pS]
  refine rd 11 fun K hK=>?_
  go_simp;refine hK.out _ _ (by (try dsimp only); exact hcc.out) (fun hHeld=>?_);clear hK K;try simp only[pS]
  refine tk 12 ?_; try simp only[pS]
  refine rd 13 fun K hK=>?_
  go_simp;rw[←hw5.out];refine hK.out _ _ (by (try dsimp only); exact hc5.out) (fun hHeld=>?_);clear hK K;try simp only[pS]
  refine tk 14 ?_; try simp only[pS]
  refine rd 15 fun K hK=>?_
  go_simp;rw[←hw6.out];refine hK.out _ _ (by (try dsimp only); exact hc6.out) (fun hHeld=>?_);clear hK K;try simp only[pS]
  refine wpAnyH_done (by kernel_rfl) ?_ _;go_wp2_with (fail);go_end0;exact⟨rfl,hgr.out,hfin.out⟩
 refine AllReadyH.cons (o:=⟨_,_,_,_,_,_⟩) rfl (fun K hK=>?_) AllReadyH.nil;go_simp;refine hK.out _ _ (by (try dsimp only); exact hcc.out) (fun hHeld=>?_);clear hK K;try simp only[pS]
 refine rd 7 fun K hK=>?_
 go_simp;refine hK.out _ _ (by (try dsimp only); exact hcc.out) (fun hHeld=>?_);clear hK K;try simp only[pS]
 refine tk 12 ?_; try simp only[pS]
 refine rd 13 fun K hK=>?_
 go_simp;rw[←hw5.out];refine hK.out _ _ (by (try dsimp only); exact hc5.out) (fun hHeld=>?_);clear hK K;try simp only[pS]
 refine tk 14 ?_; try simp only[pS]
 refine rd 15 fun K hK=>?_
 go_simp;rw[←hw6.out];refine hK.out _ _ (by (try dsimp only); exact hc6.out) (fun hHeld=>?_);clear hK K;try simp only[pS]
 refine wpAnyH_done (by kernel_rfl) ?_ _;go_wp2_with (fail);go_end0;exact⟨rfl,hgr.out,hfin.out⟩

theorem keep3b {B b1 b2 b3:Nat} {W w1:World} {v1 v2 v3:Value} (hb:Below B W w1)(h1:b1<B)(h2:b2<B)(h3:b3<B)(h:W.cell? ⟨b1,0,none⟩=some v1∧W.cell? ⟨b2,0,none⟩=some v2∧W.cell? ⟨b3,0,none⟩=some v3) :
  w1.cell? ⟨b1,0,none⟩=some v1∧w1.cell? ⟨b2,0,none⟩=some v2∧w1.cell? ⟨b3,0,none⟩=some v3:=⟨(hb.cell (p:=⟨b1,0,none⟩) h1).trans h.1,(hb.cell (p:=⟨b2,0,none⟩) h2).trans h.2.1,(hb.cell (p:=⟨b3,0,none⟩) h3).trans h.2.2⟩
theorem far3b {b1 b2 b3 g i:Nat} {W:World} {v v1 v2 v3:Value} (h1:b1≠g)(h2:b2≠g)(h3:b3≠g)(h:W.cell? ⟨b1,0,none⟩=some v1∧W.cell? ⟨b2,0,none⟩=some v2∧W.cell? ⟨b3,0,none⟩=some v3) :
  (W.setCell ⟨g,i,none⟩ v).cell? ⟨b1,0,none⟩=some v1∧(W.setCell ⟨g,i,none⟩ v).cell? ⟨b2,0,none⟩=some v2∧(W.setCell ⟨g,i,none⟩ v).cell? ⟨b3,0,none⟩=some v3 :=
 ⟨(World.cell?_setCell_far _ _ _ _ h1.symm).trans h.1,(World.cell?_setCell_far _ _ _ _ h2.symm).trans h.2.1,(World.cell?_setCell_far _ _ _ _ h3.symm).trans h.2.2⟩
set_option maxRecDepth 100000 in
set_option maxHeartbeats 2000000 in
theorem sScale_any (F:FD)(n m:Nat)(M:Nat→Nat→R F.toDesc)(g cl b4 bv ba gf a L:Nat)(x:Int)(q0:Option Nat)(w:World)(hg:GF w w.heap.size gf F)(hm:MP w L g n m q0 M)(h4:w.cell? ⟨b4,0,none⟩=some (.pointer (some ⟨gf,0,none⟩)))(hv:w.cell? ⟨bv,0,none⟩=some (.int .i64 x))(ha:w.cell? ⟨ba,0,none⟩=some (.int .i64 (a:Int)))
  (k4:b4<w.heap.size) (kv:bv<w.heap.size) (ka:ba<w.heap.size) (l4:b4≠g) (lv:bv≠g) (la:ba≠g) (han:a<n) (hmm:m≤70000) (hL:L≤w.heap.size) :
  Calls Tryz.prog 227 #[.slice (some ⟨g,0,none⟩) n cl,.pointer (some ⟨b4,0,none⟩),.pointer (some ⟨bv,0,none⟩),.pointer (some ⟨ba,0,none⟩)] w fun e w'=>e=.returned (.tuple #[])∧w.grownBy w' (some g) ∧
   ∀ q,(∀ k,q=some k→k<w.heap.size)→MP w L g n m q M→MP w' L g n m q (scaleR M a (eli F.toDesc x)):=by
 have hS:=fun f A1 c1 W h h1=>Lib.hid (gScale_any F m f x A1 c1 gf W h h1 hmm)
 obtain⟨ra,ca,hra,-⟩:=hm.at_ han;have hxa:=hra.hd;have hfa:=hra.fz;have ha0:(0:Int)≤(a:Int):=by omega
 have ha1:(a:Int)<(n:Int):=by omega
 have hgl:=hm.1;have hcc:=Lib.hid (show _∧_∧_ from ⟨h4,hv,ha⟩);have hS2:=hS (M a) (some ⟨ra,0,none⟩) ca w.drew hg.drew hra.rd.drew;clear hra h4 hv ha hm hS;go_enter Tryz.func227,Tryz.ntmps227;go_wp2_with (fail);refine wp_region_held_drew (S:=fun w'=>w'.cell? ⟨b4,0,none⟩=some (.pointer (some ⟨gf,0,none⟩))∧w'.cell? ⟨bv,0,none⟩=some (.int .i64 x)∧w'.cell? ⟨ba,0,none⟩=some (.int .i64 (a:Int))) (by kernel_rfl) (by (try dsimp only); exact hcc.out) (fun hHeld=>?_);refine tk 0 ?_; try simp only[pS]
 refine tk 1 ?_; try simp only[pS]
 refine tk 2 ?_; try simp only[pS]
 refine tk 3 ?_; try simp only[pS]
 refine tk 4 ?_; try simp only[pS]
 refine tk 5 ?_; try simp only[pS]
 refine tk 6 ?_; try simp only[pS]
 refine rd 7 fun K hK=>?_
 go_simp;refine hK.out _ _ (by (try dsimp only); first | exact hcc.out) (fun hHeld=>?_);clear hK K;try simp only[pS]
 refine rd 8 fun K hK=>?_
 go_simp;go_at_call 33;(with_reducible refine (hS2).out.mono ?_);rintro e w9 ⟨g9,rfl,hg9,hib9,hb9⟩;try rw[rowL_length]
 have hcc9:=Lib.hid (keep3b hb9 k4 kv ka hcc.out);have hx9:=(hb9.cell (p:=⟨g,a,none⟩) hgl).trans hxa;have hf9:=(hb9.frozen (p:=⟨g,a,none⟩) hgl).trans hfa;go_wp2_with (fail);refine hK.out _ _ (by (try dsimp only); exact hcc9.out) (fun hHeld=>?_);clear hK K;try simp only[pS]
 refine tk 9 ?_; try simp only[pS]
 refine rd 10 fun K hK=>?_
 go_simp;refine hK.out _ _ (by (try dsimp only); exact far3b l4 lv la hcc9.out) (fun hHeld=>?_);clear hK K;try simp only[pS]
 refine wpAnyH_done (by kernel_rfl) ?_ _;have hgr:Hid (w.grownBy (w9.setCell ⟨g,a,none⟩ (.slice (some ⟨g9,0,none⟩) m m)) (some g)):=((below_grown ((Below.refl w.heap.size w).drew.trans hb9) (Nat.le_refl _)).but _).trans (grown_set _ _ _);have hfin:Hid (∀ q,(∀ k,q=some k→k<w.heap.size)→MP w L g n m q M→MP (w9.setCell ⟨g,a,none⟩ (.slice (some ⟨g9,0,none⟩) m m)) L g n m q (scaleR M a (eli F.toDesc x))):=fun q hk hq =>
  hq.putNew han ((Below.refl w.heap.size w).drew.trans hb9) hib9 hg9 hL hk (by unfold maxLen; omega)
 clear hx9 hf9 hxa hfa;go_wp2_with (fail);go_end0;exact⟨rfl,hgr.out,hfin.out⟩

theorem keep6b {b1 b2 b3 b4 g i a:Nat} {q:Option Nat} {W w1:World} {v1 v2 v3 v4 v5 v6:Value} (hb:W.grownBy w1 q)(h1:q≠some b1)(h2:q≠some b2)(h3:q≠some b3)(h4:q≠some b4)(h5:q≠some g)
  (h:(W.cell? ⟨b1,0,none⟩=some v1∧W.cell? ⟨b2,0,none⟩=some v2∧W.cell? ⟨b3,0,none⟩=some v3∧W.cell? ⟨b4,0,none⟩=some v4)∧W.cell? ⟨g,i,none⟩=some v5∧W.cell? ⟨g,a,none⟩=some v6) :
  (w1.cell? ⟨b1,0,none⟩=some v1∧w1.cell? ⟨b2,0,none⟩=some v2∧w1.cell? ⟨b3,0,none⟩=some v3∧w1.cell? ⟨b4,0,none⟩=some v4)∧w1.cell? ⟨g,i,none⟩=some v5∧w1.cell? ⟨g,a,none⟩=some v6 :=
 ⟨⟨hb.cell h.1.1 (fun e=>h1 e.symm),hb.cell h.1.2.1 (fun e=>h2 e.symm),hb.cell h.1.2.2.1 (fun e=>h3 e.symm),hb.cell h.1.2.2.2 (fun e=>h4 e.symm)⟩,hb.cell h.2.1 (fun e=>h5 e.symm),hb.cell h.2.2 (fun e=>h5 e.symm)⟩
set_option maxRecDepth 100000 in
set_option maxHeartbeats 2000000 in
theorem sAdd_any (F:FD)(n m:Nat)(M:Nat→Nat→R F.toDesc)(g cl b4 bi bx ba gf i a L:Nat)(x:Int)(w:World)(hg:GF w L gf F)(hm:∀ X,(X=b4∨X=bi∨X=bx∨X=ba)→MP w L g n m (some X) M)(h4:w.cell? ⟨b4,0,none⟩=some (.pointer (some ⟨gf,0,none⟩)))(hi:w.cell? ⟨bi,0,none⟩=some (.int .i64 (i:Int)))
  (hv:w.cell? ⟨bx,0,none⟩=some (.int .i64 x)) (ha:w.cell? ⟨ba,0,none⟩=some (.int .i64 (a:Int))) (han:a<n) (hin:i<n) (hia:i≠a) (hmm:m≤70000) (hL:L≤w.heap.size) :
  Calls Tryz.prog 228 #[.slice (some ⟨g,0,none⟩) n cl,.pointer (some ⟨b4,0,none⟩),.pointer (some ⟨bi,0,none⟩),.pointer (some ⟨bx,0,none⟩),.pointer (some ⟨ba,0,none⟩)] w fun e w'=>e=.returned (.tuple #[]) ∧
   ∃ b,b≠g∧L≤b∧b<w.heap.size∧w.grownBy w' (some b)∧∀ q,MP w L g n m q M→q≠some b∧MP w' L g n m q (setR M i fun j=>M i j+-(eli F.toDesc x)*M a j):=by
 obtain⟨ri,ci',hri,-⟩:=(hm b4 (.inl rfl)).at_ hin;obtain⟨ra,ca,hra,-⟩:=(hm b4 (.inl rfl)).at_ han;have hne:ra≠ri:=(hm b4 (.inl rfl)).apart hin han (fun e=>hia e.symm) hri hra;have n1:some ri≠some b4:=fun e=>hri.nq e.symm
 have n2:some ri≠some bi:=fun e=>((hm bi (by simp)).row hin hri).nq e.symm
 have n3:some ri≠some bx:=fun e=>((hm bx (by simp)).row hin hri).nq e.symm
 have n4:some ri≠some ba:=fun e=>((hm ba (by simp)).row hin hri).nq e.symm
 have n5:some ri≠some g:=fun e=>hri.ne (by injection e)
 have hLr:=hri.lo;have hrl:=hri.lt;have hcc:=Lib.hid (show (_∧_∧_∧_)∧_∧_ from ⟨⟨h4,hi,hv,ha⟩,hri.hd,hra.hd⟩);have ha0:(0:Int)≤(a:Int):=by omega
 have ha1:(a:Int)<(n:Int):=by omega
 have hi0:(0:Int)≤(i:Int):=by omega
 have hi1:(i:Int)<(n:Int):=by omega
 have hN:=Lib.hid (gNeg_any F x gf w.drew (hg.more hL).drew);have hA:=fun W hgw h1 h2 h3=>Lib.hid (gAddRow_any F m (M i) (M a) (ci (-(eli F.toDesc x))) ri ci' ra ca gf L W hgw hLr h1 h2 h3 hne hmm)
 have hci:=Lib.hid hri.cells;have hca:=Lib.hid hra.cells;obtain⟨v,hv2⟩:∃ v,v=ci (-(eli F.toDesc x)):=⟨_,rfl⟩;rw[←hv2]at hN hA;have hfin:Hid (∀ (w1:World),w.grownBy w1 (some ri)→(∀ j,j<m→w1.cell? ⟨ri,j,none⟩=some (.int .i64 (ci (M i j+eli F.toDesc v*M a j)))∧w1.frozen? ⟨ri,j,none⟩=false)→∀ q,MP w L g n m q M→q≠some ri∧MP w1 L g n m q (setR M i fun j=>M i j+-(eli F.toDesc x)*M a j)):=fun w1 hgr hc q hq=>by
  obtain⟨b2,c2,h2,hup⟩:=hq.at_ hin;have h3:=hq.row hin hri;have e:=h3.hd;rw[h2.hd]at e;have a1:b2=ri:=by injection e with e; injection e with e; injection e with e; injection e
  subst a1;refine⟨h3.nq,hup w1 _ hgr fun j hj=>?_⟩;have:=hc j hj
  rwa [hv2,eli_ci]at this
 replace hv2:=Lib.hid hv2;clear hm hri hra h4 hi hv ha hia;go_enter Tryz.func228,Tryz.ntmps228;go_wp2_with (fail);refine wp_region_held_drew (S:=fun w'=>(w'.cell? ⟨b4,0,none⟩=some (.pointer (some ⟨gf,0,none⟩))∧w'.cell? ⟨bi,0,none⟩=some (.int .i64 (i:Int))∧w'.cell? ⟨bx,0,none⟩=some (.int .i64 x)∧w'.cell? ⟨ba,0,none⟩=some (.int .i64 (a:Int)))∧w'.cell? ⟨g,i,none⟩=some (.slice (some ⟨ri,0,none⟩) m ci')∧w'.cell? ⟨g,a,none⟩=some (.slice (some ⟨ra,0,none⟩) m ca)) (by kernel_rfl) (by (try dsimp only); exact hcc.out) (fun hHeld=>?_);refine tk 0 ?_; try simp only[pS]
 refine tk 1 ?_; try simp only[pS]
 refine tk 2 ?_; try simp only[pS]
 refine tk 3 ?_; try simp only[pS]
 refine tk 4 ?_; try simp only[pS]
 refine tk 5 ?_; try simp only[pS]
 refine tk 6 ?_; try simp only[pS]
 refine tk 8 ?_; try simp only[pS]
 refine tk 9 ?_; try simp only[pS]
 refine tk 10 ?_; try simp only[pS]
 refine tk 11 ?_; try simp only[pS]
 refine rd 7 fun K hK=>?_
 go_simp;go_at_call 92;(with_reducible refine (hN).out.mono ?_);rintro e w8 ⟨rfl,hb8⟩;try rw[←hv2.out]
 have hgr8:=below_grown ((Below.refl w.heap.size w).drew.trans hb8) (Nat.le_refl _);have hcc8:=Lib.hid (keep6b hgr8 (by simp) (by simp) (by simp) (by simp) (by simp) hcc.out);have hA8:=hA w8 (hg.drew.below (hb8.mono hL)) (Nat.lt_of_lt_of_le hrl hb8.size) (fun j hj=>⟨hgr8.cell (hci.out j hj).1 (by simp),(World.frozen?_of_block (hgr8.block ri hrl (by simp))).trans (hci.out j hj).2⟩) (fun j hj=>hgr8.cell (hca.out j hj).1 (by simp));go_wp2_with (fail);refine hK.out _ _ (by (try dsimp only); exact hcc8.out) (fun hHeld=>?_);clear hK K;try simp only[pS]
 refine rd 12 fun K hK=>?_
 go_simp;go_at_call 204;(with_reducible refine (hA8).out.mono ?_);rintro e w9 ⟨rfl,hgr9,hc9⟩;have hcc9:=Lib.hid (keep6b hgr9 n1 n2 n3 n4 n5 hcc8.out);go_wp2_with (fail);refine hK.out _ _ (by (try dsimp only); exact hcc9.out) (fun hHeld=>?_);clear hK K;try simp only[pS]
 refine wpAnyH_done (by kernel_rfl) ?_ _;have hgr:Hid (w.grownBy w9 (some ri)):=(hgr8.but _).trans hgr9;replace hc9:=Lib.hid hc9;go_wp2_with (fail);go_end0;exact⟨rfl,ri,fun e=>n5 (by rw[e]),hLr,hrl,hgr.out,hfin.out w9 hgr.out hc9.out⟩
end Go.Proofs.YtogfekjbpcfgmaaGreat

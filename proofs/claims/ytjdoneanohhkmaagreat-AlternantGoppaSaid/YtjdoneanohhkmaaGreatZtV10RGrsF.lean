/- Layer 18: encode, Word. Layer 18: Encode, Check, the reference's Elements. Layer 18 of the program: Standard. -/
import Derived.Test.YtjdoneanohhkmaaGreatZtV10RPol5
import Derived.Test.YtjdoneanohhkmaaGreatZtV10RTk
namespace Go.Proofs.YtjdoneanohhkmaaGreat
section
open Go.RowKit Cw

def wordL (D:Desc)(pts mul msg:List Int):List Int:=lst pts.length fun i=>ci (eli D (mul[i]?.getD 0)*pevI D msg (eli D (pts[i]?.getD 0)))
theorem wordL_length (D:Desc)(pts mul msg:List Int):(wordL D pts mul msg).length=pts.length:=lst_length _ _

set_option maxRecDepth 100000 in
set_option maxHeartbeats 2000000 in
theorem gEncode_any (F:FD)(K:Int)(pts mul msg:List Int)(A A1 A2 A3:Option Addr)(c c1 c2 c3 g:Nat)(w:World)(hg:GF w w.heap.size g F)(hr1:Rd w w.heap.size A1 pts)(hr2:Rd w w.heap.size A2 mul)(hr3:Rd w w.heap.size A3 msg)
  (hlen:mul.length=pts.length) (hl:pts.length≤64) (hm:msg.length≤maxLen) :
  Calls Tryz.prog 253 #[.pointer (some ⟨g,0,none⟩),.agg #[.int .i64 F.p,.int .i64 F.m,.slice A F.mod.length c,.int .i64 K,.slice A1 pts.length c1,.slice A2 mul.length c2],.slice A3 msg.length c3] w (Gives w.heap.size (wordL F.toDesc pts mul msg) w):=by
 have hE:=fun x W hg hr=>Lib.hid (pEval_any F msg x A3 c3 g W hg hr hm)
 have hM:=fun y z W hg=>Lib.hid (gMul_any F y z g W hg)
 have hmk:=mk_ints pts.length (by omega);have k0:=alloc6 w (.int .i64 F.p) (.int .i64 F.m) (.slice A F.mod.length c) (.int .i64 K) (.slice A1 pts.length c1) (.slice A2 mul.length c2) 72;have hB:Below w.heap.size w (w.alloc (.cells #[.int .i64 F.p,.int .i64 F.m,.slice A F.mod.length c,.int .i64 K,.slice A1 pts.length c1,.slice A2 mul.length c2] 72)):=(Below.refl _ _).alloc (Nat.le_refl _) _;have hI0:=IB.newz (w.alloc (.cells #[.int .i64 F.p,.int .i64 F.m,.slice A F.mod.length c,.int .i64 K,.slice A1 pts.length c1,.slice A2 mul.length c2] 72)) pts.length;have hB1:Below (w.heap.size+1) (w.alloc (.cells #[.int .i64 F.p,.int .i64 F.m,.slice A F.mod.length c,.int .i64 K,.slice A1 pts.length c1,.slice A2 mul.length c2] 72)) ((w.alloc (.cells #[.int .i64 F.p,.int .i64 F.m,.slice A F.mod.length c,.int .i64 K,.slice A1 pts.length c1,.slice A2 mul.length c2] 72)).alloc (.cells (Array.replicate pts.length (Value.int .i64 0)) 3)):=(Below.refl _ _).alloc (by simp) _;have kk1:=Lib.hid (keep6 hB1 (Nat.lt_succ_self _) k0);have hBw:=hB.trans (hB1.mono (Nat.le_succ _));have hlen':=Lib.hid hlen;replace k0:=Lib.hid k0;clear hlen;go_enter Tryz.func253,Tryz.ntmps253;go_wp2_with (fail);rw[World.size_alloc]at hI0;obtain⟨gW,hgW⟩:∃ gW,gW=w.heap.size+1:=⟨_,rfl⟩;rw[←hgW]at hI0;simp only[←hgW];replace hgW:=Lib.hid hgW;have hib:IB ((w.alloc (.cells #[.int .i64 F.p,.int .i64 F.m,.slice A F.mod.length c,.int .i64 K,.slice A1 pts.length c1,.slice A2 mul.length c2] 72)).alloc (.cells (Array.replicate pts.length (Value.int .i64 0)) 3)) gW (upd pts.length 0 fun i=>ci (eli F.toDesc (mul[i]?.getD 0)*pevI F.toDesc msg (eli F.toDesc (pts[i]?.getD 0)))):=by
  rw[upd_zero]; exact hI0
 clear hmk hI0 k0 hB hB1;go_loopw [17,8,9] (fun i _ _ wr=>∃ k:Nat,k≤pts.length∧i=.int .i64 k∧IB wr gW (upd pts.length k fun i=>ci (eli F.toDesc (mul[i]?.getD 0)*pevI F.toDesc msg (eli F.toDesc (pts[i]?.getD 0))))∧Hid (wr.cell? ⟨w.heap.size,0,none⟩=some (.int .i64 F.p)∧wr.cell? ⟨w.heap.size,1,none⟩=some (.int .i64 F.m)∧wr.cell? ⟨w.heap.size,2,none⟩=some (.slice A F.mod.length c)∧wr.cell? ⟨w.heap.size,3,none⟩=some (.int .i64 K)∧wr.cell? ⟨w.heap.size,4,none⟩=some (.slice A1 pts.length c1)∧wr.cell? ⟨w.heap.size,5,none⟩=some (.slice A2 mul.length c2))∧Below w.heap.size w wr) (fun i _ _ _=>pts.length - (intOf i).toNat)
 case atStart=>exact⟨0,by omega,rfl,hib,kk1,hBw⟩
 case round =>
  clear hib kk1 hBw;obtain⟨w2,rfl⟩:∃ w2:World,w2=wr:=⟨_,rfl⟩;obtain⟨k,hk,rfl,hib,kk2,hB2⟩:=hrel;by_cases hlt:k<pts.length
  ·have hk0:(0:Int)≤(k:Int):=by omega
   have hk1:(k:Int)<(pts.length:Int):=by omega
   have hk2:(k:Int)<(mul.length:Int):=by rw[hlen'.out]; omega
   obtain⟨b1,o1,rfl,hb1,hc1⟩:=hr1.at_ hlt;obtain⟨b2,o2,rfl,hb2,hc2⟩:=hr2.at_ (by rw[hlen'.out]; exact hlt:k<mul.length);have hd1:=(hB2.cell (p:=⟨b1,o1+k,none⟩) hb1).trans hc1;have hd2:=(hB2.cell (p:=⟨b2,o2+k,none⟩) hb2).trans hc2;have hgW1:w.heap.size+1≤gW:=Nat.le_of_eq hgW.out.symm;have hgW2:=hib.lt;have hset:=fun W (h:IB W gW _)=>upd_set pts.length k (fun i=>ci (eli F.toDesc (mul[i]?.getD 0)*pevI F.toDesc msg (eli F.toDesc (pts[i]?.getD 0)))) ▸ h.set_ k (ci (eli F.toDesc (mul[k]?.getD 0)*pevI F.toDesc msg (eli F.toDesc (pts[k]?.getD 0))))
   obtain⟨x,hx⟩:∃ x,x=pts[k]?.getD 0:=⟨_,rfl⟩;obtain⟨y,hy⟩:∃ y,y=mul[k]?.getD 0:=⟨_,rfl⟩;rw[←hx]at hd1;rw[←hy]at hd2;have hE2:=fun W hg hr=>hE x W hg hr
   have hM2:=fun W hg=>(hM y (ci (pevI F.toDesc msg (eli F.toDesc x))) W hg).out
   rw[eli_ci]at hM2;replace hM2:=fun W hg=>Lib.hid (hM2 W hg)
   have hkk:Hid (k<(upd pts.length k fun i=>ci (eli F.toDesc (mul[i]?.getD 0)*pevI F.toDesc msg (eli F.toDesc (pts[i]?.getD 0)))).length):=by unfold Hid; rw[upd_length]; exact hlt
   have kk8:=Lib.hid (show _∧_∧_∧_∧_∧_∧_∧_ from ⟨kk2.out.1,kk2.out.2.1,kk2.out.2.2.1,kk2.out.2.2.2.1,kk2.out.2.2.2.2.1,kk2.out.2.2.2.2.2,hd1,hd2⟩);have hgr:=(hg.below hB2).more hB2.size;have hrr3:=(hr3.below hB2).more hB2.size;have hb1':=Nat.lt_of_lt_of_le hb1 hB2.size;have hb2':=Nat.lt_of_lt_of_le hb2 hB2.size;have hns2:w.heap.size<w2.heap.size:=by omega
   replace hx:=Lib.hid hx;replace hy:=Lib.hid hy;replace hset:=Lib.hid hset;clear hc1 hc2 hd2;go_wp2_with (fail);refine wp_region_held_drew (S:=fun w'=>w'.cell? ⟨w.heap.size,0,none⟩=some (.int .i64 F.p)∧w'.cell? ⟨w.heap.size,1,none⟩=some (.int .i64 F.m)∧w'.cell? ⟨w.heap.size,2,none⟩=some (.slice A F.mod.length c)∧w'.cell? ⟨w.heap.size,3,none⟩=some (.int .i64 K)∧w'.cell? ⟨w.heap.size,4,none⟩=some (.slice (some ⟨b1,o1,none⟩) pts.length c1)∧w'.cell? ⟨w.heap.size,5,none⟩=some (.slice (some ⟨b2,o2,none⟩) mul.length c2)∧w'.cell? ⟨b1,o1+k,none⟩=some (.int .i64 x)∧w'.cell? ⟨b2,o2+k,none⟩=some (.int .i64 y)) (by kernel_rfl) (by (try dsimp only); exact kk8.out) (fun hHeld=>?_);refine tk 0 ?_; try simp only[pS]
   refine tk 1 ?_; try simp only[pS]
   refine tk 2 ?_; try simp only[pS]
   refine tk 3 ?_; try simp only[pS]
   refine tk 4 ?_; try simp only[pS]
   refine tk 5 ?_; try simp only[pS]
   refine tk 6 ?_; try simp only[pS]
   refine tk 7 ?_; try simp only[pS]
   refine tk 8 ?_; try simp only[pS]
   refine tk 9 ?_; try simp only[pS]
   refine tk 10 ?_; try simp only[pS]
   refine rd 11 fun K hK=>?_
   go_simp;go_at_call 170;(with_reducible refine (hE2 _ hgr.drew hrr3.drew).out.mono ?_);rintro e w3 ⟨rfl,hb3⟩;go_wp2_with (fail);refine hK.out _ _ (by (try dsimp only); exact keep8 hb3 hns2 hb1' hb2' kk8.out) (fun hHeld=>?_);clear hK K;try simp only[pS]
   have hB3:=hB2.drew.trans (hb3.mono hB2.size);have hs3:w2.heap.size≤w3.heap.size:=hb3.size;have hib3:=hib.drew.below hb3 hgW2;refine rd 12 fun K hK=>?_
   go_simp;go_at_call 140;(with_reducible refine (hM2 _ ((hg.below hB3).more hB3.size)).out.mono ?_);rintro e w4 ⟨rfl,hb4⟩;go_wp2_with (fail);refine hK.out _ _ (by (try dsimp only); exact keep8 hb4 (Nat.lt_of_lt_of_le hns2 hs3) (Nat.lt_of_lt_of_le hb1' hs3) (Nat.lt_of_lt_of_le hb2' hs3) (keep8 hb3 hns2 hb1' hb2' kk8.out)) (fun hHeld=>?_);clear hK K;try simp only[pS]
   have hib4:=hib3.below hb4 (Nat.lt_of_lt_of_le hgW2 hs3);have hcW:=hib4.cell hkk.out;have hfW:=hib4.frozen k;refine tk 13 ?_; try simp only[pS]
   refine rd 14 fun K hK=>?_
   go_simp;refine hK.out _ _ (by (try dsimp only); exact keep8 (B:=gW) ((Below.refl _ _).setCell (p:=⟨gW,k,none⟩) (Nat.le_refl _) _) (by omega) (by omega) (by omega) (keep8 hb4 (Nat.lt_of_lt_of_le hns2 hs3) (Nat.lt_of_lt_of_le hb1' hs3) (Nat.lt_of_lt_of_le hb2' hs3) (keep8 hb3 hns2 hb1' hb2' kk8.out))) (fun hHeld=>?_);clear hK K;try simp only[pS]
   refine wpAnyH_done (by kernel_rfl) ?_ _;have hB4:=hB3.trans (hb4.mono hB3.size);have kk10:=keep8 (B:=gW) ((Below.refl _ _).setCell (p:=⟨gW,k,none⟩) (Nat.le_refl _) (.int .i64 (ci (eli F.toDesc y*pevI F.toDesc msg (eli F.toDesc x))))) (by omega) (by omega) (by omega) (keep8 hb4 (Nat.lt_of_lt_of_le hns2 hs3) (Nat.lt_of_lt_of_le hb1' hs3) (Nat.lt_of_lt_of_le hb2' hs3) (keep8 hb3 hns2 hb1' hb2' kk8.out));have kk11:=Lib.hid (show _∧_∧_∧_∧_∧_ from ⟨kk10.1,kk10.2.1,kk10.2.2.1,kk10.2.2.2.1,kk10.2.2.2.2.1,kk10.2.2.2.2.2.1⟩);have hib5:=hset.out _ hib4;rw[←hx.out,←hy.out]at hib5;replace hib5:=Lib.hid hib5;clear kk10;go_wp2_with (fail);go_roundw
   case rel=>exact⟨k+1,by omega,by go_num,hib5.out,kk11,hB4.setCell (p:=⟨gW,k,none⟩) (by show _≤gW; omega) _⟩
   case measure=>simp[intOf]; omega
  ·obtain rfl:k=pts.length:=by omega
   rw[upd_full]at hib;go_wp2_with (fail);go_ret;exact⟨gW,by rw[wordL_length]; rfl,by have:=hgW.out; omega,hib,hB2⟩

set_option maxRecDepth 100000 in
set_option maxHeartbeats 2000000 in
theorem Word18_any (D:Desc)(K:Int)(pts mul msg:List Int)(A A1 A2 A3:Option Addr)(c c1 c2 c3:Nat)(w:World)(hr:Rd w w.heap.size A (modL D))(hr1:Rd w w.heap.size A1 pts)(hr2:Rd w w.heap.size A2 mul)(hr3:Rd w w.heap.size A3 msg)
  (hlen:mul.length=pts.length) (hl:pts.length≤64) (hm:msg.length≤maxLen) :
  Calls Tryz.prog 188 #[.agg #[.int .i64 D.p,.int .i64 D.m,.slice A D.mod.length c,.int .i64 K,.slice A1 pts.length c1,.slice A2 mul.length c2],.slice A3 msg.length c3] w (Gives w.heap.size (wordL D pts mul msg) w):=by
 have hE:=fun x W hr hr3=>Lib.hid (Eval5_any D msg x A A3 c c3 W hr hr3 hm)
 have hM:=fun y z W hr=>Lib.hid (Mul_any D y z A c W hr)
 have hmk:=mk_ints pts.length (by omega);have k0:=alloc6 w (.int .i64 D.p) (.int .i64 D.m) (.slice A D.mod.length c) (.int .i64 K) (.slice A1 pts.length c1) (.slice A2 mul.length c2) 72;have hB:Below w.heap.size w (w.alloc (.cells #[.int .i64 D.p,.int .i64 D.m,.slice A D.mod.length c,.int .i64 K,.slice A1 pts.length c1,.slice A2 mul.length c2] 72)):=(Below.refl _ _).alloc (Nat.le_refl _) _;have hI0:=IB.newz (w.alloc (.cells #[.int .i64 D.p,.int .i64 D.m,.slice A D.mod.length c,.int .i64 K,.slice A1 pts.length c1,.slice A2 mul.length c2] 72)) pts.length;have hB1:Below (w.heap.size+1) (w.alloc (.cells #[.int .i64 D.p,.int .i64 D.m,.slice A D.mod.length c,.int .i64 K,.slice A1 pts.length c1,.slice A2 mul.length c2] 72)) ((w.alloc (.cells #[.int .i64 D.p,.int .i64 D.m,.slice A D.mod.length c,.int .i64 K,.slice A1 pts.length c1,.slice A2 mul.length c2] 72)).alloc (.cells (Array.replicate pts.length (Value.int .i64 0)) 3)):=(Below.refl _ _).alloc (by simp) _;have kk1:=Lib.hid (keep6 hB1 (Nat.lt_succ_self _) k0);have hBw:=hB.trans (hB1.mono (Nat.le_succ _));have hlen':=Lib.hid hlen;replace k0:=Lib.hid k0;clear hlen;go_enter Tryz.func188,Tryz.ntmps188;go_wp2_with (fail);rw[World.size_alloc]at hI0;obtain⟨gW,hgW⟩:∃ gW,gW=w.heap.size+1:=⟨_,rfl⟩;rw[←hgW]at hI0;simp only[←hgW];replace hgW:=Lib.hid hgW;have hib:IB ((w.alloc (.cells #[.int .i64 D.p,.int .i64 D.m,.slice A D.mod.length c,.int .i64 K,.slice A1 pts.length c1,.slice A2 mul.length c2] 72)).alloc (.cells (Array.replicate pts.length (Value.int .i64 0)) 3)) gW (upd pts.length 0 fun i=>ci (eli D (mul[i]?.getD 0)*pevI D msg (eli D (pts[i]?.getD 0)))):=by
  rw[upd_zero]; exact hI0
 clear hmk hI0 k0 hB hB1;go_loopw [6] (fun i wr=>∃ k:Nat,k≤pts.length∧i=.int .i64 k∧IB wr gW (upd pts.length k fun i=>ci (eli D (mul[i]?.getD 0)*pevI D msg (eli D (pts[i]?.getD 0))))∧Hid (wr.cell? ⟨w.heap.size,0,none⟩=some (.int .i64 D.p)∧wr.cell? ⟨w.heap.size,1,none⟩=some (.int .i64 D.m)∧wr.cell? ⟨w.heap.size,2,none⟩=some (.slice A D.mod.length c)∧wr.cell? ⟨w.heap.size,3,none⟩=some (.int .i64 K)∧wr.cell? ⟨w.heap.size,4,none⟩=some (.slice A1 pts.length c1)∧wr.cell? ⟨w.heap.size,5,none⟩=some (.slice A2 mul.length c2))∧Below w.heap.size w wr) (fun i _=>pts.length - (intOf i).toNat)
 case atStart=>exact⟨0,by omega,rfl,hib,kk1,hBw⟩
 case round =>
  clear hib kk1 hBw;obtain⟨w2,rfl⟩:∃ w2:World,w2=wr:=⟨_,rfl⟩;obtain⟨k,hk,rfl,hib,kk2,hB2⟩:=hrel;by_cases hlt:k<pts.length
  ·have hk0:(0:Int)≤(k:Int):=by omega
   have hk1:(k:Int)<(pts.length:Int):=by omega
   have hk2:(k:Int)<(mul.length:Int):=by rw[hlen'.out]; omega
   obtain⟨b1,o1,rfl,hb1,hc1⟩:=hr1.at_ hlt;obtain⟨b2,o2,rfl,hb2,hc2⟩:=hr2.at_ (by rw[hlen'.out]; exact hlt:k<mul.length);have hd1:=(hB2.cell (p:=⟨b1,o1+k,none⟩) hb1).trans hc1;have hd2:=(hB2.cell (p:=⟨b2,o2+k,none⟩) hb2).trans hc2;have hgW1:w.heap.size+1≤gW:=Nat.le_of_eq hgW.out.symm;have hgW2:=hib.lt;have hset:=fun W (h:IB W gW _)=>upd_set pts.length k (fun i=>ci (eli D (mul[i]?.getD 0)*pevI D msg (eli D (pts[i]?.getD 0)))) ▸ h.set_ k (ci (eli D (mul[k]?.getD 0)*pevI D msg (eli D (pts[k]?.getD 0))))
   obtain⟨x,hx⟩:∃ x,x=pts[k]?.getD 0:=⟨_,rfl⟩;obtain⟨y,hy⟩:∃ y,y=mul[k]?.getD 0:=⟨_,rfl⟩;rw[←hx]at hd1;rw[←hy]at hd2;have hE2:=fun W hr hr3=>hE x W hr hr3
   have hM2:=fun W hr=>(hM y (ci (pevI D msg (eli D x))) W hr).out
   rw[eli_ci]at hM2;replace hM2:=fun W hr=>Lib.hid (hM2 W hr)
   have hkk:Hid (k<(upd pts.length k fun i=>ci (eli D (mul[i]?.getD 0)*pevI D msg (eli D (pts[i]?.getD 0)))).length):=by unfold Hid; rw[upd_length]; exact hlt
   have kk8:=Lib.hid (show _∧_∧_∧_∧_∧_∧_∧_ from ⟨kk2.out.1,kk2.out.2.1,kk2.out.2.2.1,kk2.out.2.2.2.1,kk2.out.2.2.2.2.1,kk2.out.2.2.2.2.2,hd1,hd2⟩);have hrr:=(hr.below hB2).more hB2.size;have hrr3:=(hr3.below hB2).more hB2.size;have hb1':=Nat.lt_of_lt_of_le hb1 hB2.size;have hb2':=Nat.lt_of_lt_of_le hb2 hB2.size;have hns2:w.heap.size<w2.heap.size:=by omega
   replace hx:=Lib.hid hx;replace hy:=Lib.hid hy;replace hset:=Lib.hid hset;clear hc1 hc2 hd2 hd1;go_wp2_with (fail);refine wp_region_held_drew (S:=fun w'=>w'.cell? ⟨w.heap.size,0,none⟩=some (.int .i64 D.p)∧w'.cell? ⟨w.heap.size,1,none⟩=some (.int .i64 D.m)∧w'.cell? ⟨w.heap.size,2,none⟩=some (.slice A D.mod.length c)∧w'.cell? ⟨w.heap.size,3,none⟩=some (.int .i64 K)∧w'.cell? ⟨w.heap.size,4,none⟩=some (.slice (some ⟨b1,o1,none⟩) pts.length c1)∧w'.cell? ⟨w.heap.size,5,none⟩=some (.slice (some ⟨b2,o2,none⟩) mul.length c2)∧w'.cell? ⟨b1,o1+k,none⟩=some (.int .i64 x)∧w'.cell? ⟨b2,o2+k,none⟩=some (.int .i64 y)) (by kernel_rfl) (by (try dsimp only); exact kk8.out) (fun hHeld=>?_);refine tk 0 ?_; try simp only[pS]
   refine tk 1 ?_; try simp only[pS]
   refine tk 2 ?_; try simp only[pS]
   refine tk 3 ?_; try simp only[pS]
   refine tk 4 ?_; try simp only[pS]
   refine tk 5 ?_; try simp only[pS]
   refine tk 6 ?_; try simp only[pS]
   refine tk 7 ?_; try simp only[pS]
   refine tk 8 ?_; try simp only[pS]
   refine tk 9 ?_; try simp only[pS]
   refine tk 10 ?_; try simp only[pS]
   refine tk 11 ?_; try simp only[pS]
   refine tk 12 ?_; try simp only[pS]
   refine tk 13 ?_; try simp only[pS]
   refine tk 14 ?_; try simp only[pS]
   refine tk 15 ?_; try simp only[pS]
   refine tk 16 ?_; try simp only[pS]
   refine rd 17 fun K hK=>?_
   go_simp;go_at_call 30;(with_reducible refine (hE2 _ hrr.drew hrr3.drew).out.mono ?_);rintro e w3 ⟨rfl,hb3⟩;go_wp2_with (fail);refine hK.out _ _ (by (try dsimp only); exact keep8 hb3 hns2 hb1' hb2' kk8.out) (fun hHeld=>?_);clear hK K;try simp only[pS]
   have hB3:=hB2.drew.trans (hb3.mono hB2.size);have hs3:w2.heap.size≤w3.heap.size:=hb3.size;have hib3:=hib.drew.below hb3 hgW2;refine rd 18 fun K hK=>?_
   go_simp;go_at_call 29;(with_reducible refine (hM2 _ ((hr.below hB3).more hB3.size)).out.mono ?_);rintro e w4 ⟨rfl,hb4⟩;go_wp2_with (fail);refine hK.out _ _ (by (try dsimp only); exact keep8 hb4 (Nat.lt_of_lt_of_le hns2 hs3) (Nat.lt_of_lt_of_le hb1' hs3) (Nat.lt_of_lt_of_le hb2' hs3) (keep8 hb3 hns2 hb1' hb2' kk8.out)) (fun hHeld=>?_);clear hK K;try simp only[pS]
   have hib4:=hib3.below hb4 (Nat.lt_of_lt_of_le hgW2 hs3);have hcW:=hib4.cell hkk.out;have hfW:=hib4.frozen k;refine tk 19 ?_; try simp only[pS]
   refine rd 20 fun K hK=>?_
   go_simp;refine hK.out _ _ (by (try dsimp only); exact keep8 (B:=gW) ((Below.refl _ _).setCell (p:=⟨gW,k,none⟩) (Nat.le_refl _) _) (by omega) (by omega) (by omega) (keep8 hb4 (Nat.lt_of_lt_of_le hns2 hs3) (Nat.lt_of_lt_of_le hb1' hs3) (Nat.lt_of_lt_of_le hb2' hs3) (keep8 hb3 hns2 hb1' hb2' kk8.out))) (fun hHeld=>?_);clear hK K;try simp only[pS]
   refine wpAnyH_done (by kernel_rfl) ?_ _;have hB4:=hB3.trans (hb4.mono hB3.size);have kk10:=keep8 (B:=gW) ((Below.refl _ _).setCell (p:=⟨gW,k,none⟩) (Nat.le_refl _) (.int .i64 (ci (eli D y*pevI D msg (eli D x))))) (by omega) (by omega) (by omega) (keep8 hb4 (Nat.lt_of_lt_of_le hns2 hs3) (Nat.lt_of_lt_of_le hb1' hs3) (Nat.lt_of_lt_of_le hb2' hs3) (keep8 hb3 hns2 hb1' hb2' kk8.out));have kk11:=Lib.hid (show _∧_∧_∧_∧_∧_ from ⟨kk10.1,kk10.2.1,kk10.2.2.1,kk10.2.2.2.1,kk10.2.2.2.2.1,kk10.2.2.2.2.2.1⟩);have hib5:=hset.out _ hib4;rw[←hx.out,←hy.out]at hib5;replace hib5:=Lib.hid hib5;clear kk10;go_wp2_with (fail);go_roundw
   case rel=>exact⟨k+1,by omega,by go_num,hib5.out,kk11,hB4.setCell (p:=⟨gW,k,none⟩) (by show _≤gW; omega) _⟩
   case measure=>simp[intOf]; omega
  ·obtain rfl:k=pts.length:=by omega
   rw[upd_full]at hib;go_wp2_with (fail);go_ret;exact⟨gW,by rw[wordL_length]; rfl,by have:=hgW.out; omega,hib,hB2⟩
end
section
open Go.RowKit Cw

theorem gchkD_zero {D:Desc} {K:Int} {pts mul:List Int} (h:gchkD D K pts mul=0):1≤pts.length∧pts.length≤64∧mul.length=pts.length∧elB D pts=true∧elB D mul=true∧twB pts=false∧¬ (0:Int)∈mul∧0≤K∧K≤(pts.length:Int):=by
 unfold gchkD at h;by_cases h1:pts.length<1∨64<pts.length
 ·rw[if_pos h1]at h; cases h
 rw[if_neg h1]at h;by_cases h2:mul.length≠pts.length
 ·rw[if_pos h2]at h; cases h
 rw[if_neg h2]at h;by_cases h3:elB D pts=false∨elB D mul=false
 ·rw[if_pos h3]at h; cases h
 rw[if_neg h3]at h;by_cases h4:twB pts=true
 ·rw[if_pos h4]at h; cases h
 rw[if_neg h4]at h;by_cases h5:(0:Int)∈mul
 ·rw[if_pos h5]at h; cases h
 rw[if_neg h5]at h;by_cases h6:K<0∨(pts.length:Int)<K
 ·rw[if_pos h6]at h; cases h
 refine⟨by omega,by omega,Classical.not_not.1 h2,?_,?_,?_,h5,by omega,by omega⟩
 ·rcases Bool.eq_false_or_eq_true (elB D pts) with e | e
  ·exact e
  ·exact absurd (.inl e) h3
 ·rcases Bool.eq_false_or_eq_true (elB D mul) with e | e
  ·exact e
  ·exact absurd (.inr e) h3
 ·rwa [Bool.not_eq_true]at h4

end
section
open Go.RowKit Cw

def Six (w:World)(b:Nat)(v0 v1 v2 v3 v4 v5:Value):Prop :=
 w.cell? ⟨b,0,none⟩=some v0∧w.cell? ⟨b,1,none⟩=some v1∧w.cell? ⟨b,2,none⟩=some v2∧w.cell? ⟨b,3,none⟩=some v3∧w.cell? ⟨b,4,none⟩=some v4∧w.cell? ⟨b,5,none⟩=some v5 ∧
 w.frozen? ⟨b,0,none⟩=false∧w.frozen? ⟨b,1,none⟩=false∧w.frozen? ⟨b,2,none⟩=false∧w.frozen? ⟨b,3,none⟩=false∧w.frozen? ⟨b,4,none⟩=false∧w.frozen? ⟨b,5,none⟩=false
theorem Six.keep {B b:Nat} {w w1:World} {v0 v1 v2 v3 v4 v5:Value} (h:Six w b v0 v1 v2 v3 v4 v5)(hb:Below B w w1)(hlt:b<B):Six w1 b v0 v1 v2 v3 v4 v5:=by
 obtain⟨a0,a1,a2,a3,a4,a5,f0,f1,f2,f3,f4,f5⟩:=h;exact⟨(hb.cell (p:=⟨b,0,none⟩) hlt).trans a0,(hb.cell (p:=⟨b,1,none⟩) hlt).trans a1,(hb.cell (p:=⟨b,2,none⟩) hlt).trans a2,(hb.cell (p:=⟨b,3,none⟩) hlt).trans a3,(hb.cell (p:=⟨b,4,none⟩) hlt).trans a4,(hb.cell (p:=⟨b,5,none⟩) hlt).trans a5,
  (hb.frozen (p:=⟨b,0,none⟩) hlt).trans f0,(hb.frozen (p:=⟨b,1,none⟩) hlt).trans f1,(hb.frozen (p:=⟨b,2,none⟩) hlt).trans f2,(hb.frozen (p:=⟨b,3,none⟩) hlt).trans f3,(hb.frozen (p:=⟨b,4,none⟩) hlt).trans f4,(hb.frozen (p:=⟨b,5,none⟩) hlt).trans f5⟩
theorem Six.new (w:World)(v0 v1 v2 v3 v4 v5:Value)(t:TypeId):Six (w.alloc (.cells #[v0,v1,v2,v3,v4,v5] t)) w.heap.size v0 v1 v2 v3 v4 v5:=by
 obtain⟨a0,a1,a2,a3,a4,a5⟩:=alloc6 w v0 v1 v2 v3 v4 v5 t;exact⟨a0,a1,a2,a3,a4,a5,World.frozen?_alloc_at _ _ _ _ rfl,World.frozen?_alloc_at _ _ _ _ rfl,World.frozen?_alloc_at _ _ _ _ rfl,World.frozen?_alloc_at _ _ _ _ rfl,World.frozen?_alloc_at _ _ _ _ rfl,World.frozen?_alloc_at _ _ _ _ rfl⟩
theorem set6 {w3:World} {b:Nat} (u0 u1 u2 u3 u4 u5:Value):Below b w3 ((((((w3.setCell ⟨b,0,none⟩ u0).setCell ⟨b,1,none⟩ u1).setCell ⟨b,2,none⟩ u2).setCell ⟨b,3,none⟩ u3).setCell ⟨b,4,none⟩ u4).setCell ⟨b,5,none⟩ u5) :=
 ((((((Below.refl _ _).setCell (p:=⟨b,0,none⟩) (Nat.le_refl _) _).setCell (p:=⟨b,1,none⟩) (Nat.le_refl _) _).setCell (p:=⟨b,2,none⟩) (Nat.le_refl _) _).setCell (p:=⟨b,3,none⟩) (Nat.le_refl _) _).setCell (p:=⟨b,4,none⟩) (Nat.le_refl _) _).setCell (p:=⟨b,5,none⟩) (Nat.le_refl _) _

theorem Rd.set6 {w:World} {B b:Nat} {A:Option Addr} {l:List Int} (h:Rd w B A l)(hA:∀ a,A=some a→a.block≠b)(u0 u1 u2 u3 u4 u5:Value):Rd ((((((w.setCell ⟨b,0,none⟩ u0).setCell ⟨b,1,none⟩ u1).setCell ⟨b,2,none⟩ u2).setCell ⟨b,3,none⟩ u3).setCell ⟨b,4,none⟩ u4).setCell ⟨b,5,none⟩ u5) B A l :=
 (((((h.far hA 0 u0).far hA 1 u1).far hA 2 u2).far hA 3 u3).far hA 4 u4).far hA 5 u5

end
end Go.Proofs.YtjdoneanohhkmaaGreat

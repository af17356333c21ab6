/- Layer 12 of the reference: Inside of two valid codes over one field, whatever it says. -/
import Derived.Test.YtogfekjbpcfgmaaGreatZtXSpI
import Derived.Test.YtogfekjbpcfgmaaGreatZtXInsW
import Derived.Test.YtogfekjbpcfgmaaGreatZtXTk
namespace Go.Proofs.YtogfekjbpcfgmaaGreat
open Go.RowKit Cw
attribute [local go_sem] Oper.semAt_some

section
variable (F:FD) (m n1 n2:Nat) (M1 M2:Nat→Nat→R F.toDesc) (A1 A2 R1 R2:Option Addr) (c1 c2 k1 k2:Nat) (w:World)
set_option maxRecDepth 100000 in
set_option maxHeartbeats 8000000 in
theorem Inside12_any (hgood:Good F.p F.m (modL F.toDesc))(hc1:Canl F n1 m M1)(hc2:Canl F n2 m M2)(hm1:1≤m)(hm:m≤64)(hn1:n1≤256)(hn2:n2≤256)(hr1:Rd w w.heap.size A1 (modL F.toDesc))(hr2:Rd w w.heap.size A2 (modL F.toDesc))(hm1':RdM w w.heap.size R1 n1 (rowsL F.toDesc m M1))(hm2':RdM w w.heap.size R2 n2 (rowsL F.toDesc m M2)) :
  Calls Tryz.prog 41 #[.agg #[.int .i64 F.p,.int .i64 F.m,.slice A1 F.mod.length c1,.int .i64 m,.slice R1 n1 k1],.agg #[.int .i64 F.p,.int .i64 F.m,.slice A2 F.mod.length c2,.int .i64 m,.slice R2 n2 k2]] w fun e w'=>e=.returned (.tuple #[.bool (inAll n1 n2 m M2 M1),.int .i64 0])∧Below w.heap.size w w':=by
 have hFi:=fun W a b d e=>Lib.hid (Fit12_ok F m n1 n2 M1 M2 A1 A2 R1 R2 c1 c2 k1 k2 W hgood hc1 hc2 hm1 hm hn1 hn2 a b d e)
 obtain⟨p,hRR⟩:=canl_RR hc2;have hIn:∀ i,i<n1→∀ (Ai:Option Addr) (ci':Nat) (W:World),Rd W W.heap.size A1 (modL F.toDesc)→RdM W W.heap.size R2 n2 (rowsL F.toDesc m M2)→Rd W W.heap.size Ai (rowL F.toDesc m (M1 i))→Calls Tryz.prog 51 #[.agg #[.int .i64 F.p,.int .i64 F.m,.slice A1 F.mod.length c1],.slice R2 n2 k2,.slice Ai m ci'] W fun e w'=>e=.returned (.bool (spB n2 m M2 (M1 i)))∧Below W.heap.size W w':=fun i _ Ai ci' W a b d=>by
  have h:=In10_any F.toDesc n2 m M2 (M1 i) A1 R2 Ai c1 k2 ci' W a b d (by omega) (by omega) (fun t ht=>by rw[fnz_RR hRR ht]; exact hRR.lt t ht);rw[rest_span hRR]at h;exact h
 replace hIn:=fun i hi Ai ci' W a b d=>Lib.hid (hIn i hi Ai ci' W a b d)
 obtain⟨s,hs⟩:∃ s,s=w.heap.size:=⟨_,rfl⟩;obtain⟨Z,hZ⟩:∃ Z,Z=(w.alloc (.cells #[.int .i64 F.p,.int .i64 F.m,.slice A1 F.mod.length c1,.int .i64 m,.slice R1 n1 k1] 27)).alloc (.cells #[.int .i64 F.p,.int .i64 F.m,.slice A2 F.mod.length c2,.int .i64 m,.slice R2 n2 k2] 27):=⟨_,rfl⟩;have hB:Below w.heap.size w Z:=by rw[hZ]; exact ((Below.refl _ _).alloc (Nat.le_refl _) _).alloc (by simp) _
 have hb1:Hid (Bxs Z s [.int .i64 F.p,.int .i64 F.m,.slice A1 F.mod.length c1,.int .i64 m,.slice R1 n1 k1]):=by rw[hZ,hs]; exact (Bxs.new w _ _).keep ((Below.refl _ _).alloc (Nat.le_refl _) _) (by simp)
 have hb2:Hid (Bxs Z (s+1) [.int .i64 F.p,.int .i64 F.m,.slice A2 F.mod.length c2,.int .i64 m,.slice R2 n2 k2]):=by rw[hZ,hs]; have:=Bxs.new (w.alloc (.cells #[.int .i64 F.p,.int .i64 F.m,.slice A1 F.mod.length c1,.int .i64 m,.slice R1 n1 k1] 27)) [.int .i64 F.p,.int .i64 F.m,.slice A2 F.mod.length c2,.int .i64 m,.slice R2 n2 k2] 27; rw[World.size_alloc]at this; exact this
 have hZs:s+1<Z.heap.size:=by rw[hZ,hs]; simp
 have hq:=hFi Z ((hr1.below hB).more hB.size) ((hr2.below hB).more hB.size) ((hm1'.below hB).more hB.size) ((hm2'.below hB).more hB.size);replace hZ:=Lib.hid hZ;have hno:=fun i a b=>Lib.hid (inAll_no (k:=n1) (n:=n2) (m:=m) (M:=M2) (B:=M1) (i:=i) a b)
 have hyes:=Lib.hid (inAll_yes (k:=n1) (n:=n2) (m:=m) (M:=M2) (B:=M1));clear hFi;go_enter Tryz.func41,Tryz.ntmps41;obtain⟨a0,a1,a2,a3,a4⟩:=hb1.out.c5;obtain⟨d0,d1,d2,d3,d4⟩:=hb2.out.c5;go_wp2_with (fail);rw[←hZ.out];simp only[←hs];replace hs:=Lib.hid hs;go_wp2_with (fail);(with_reducible refine hq.out.mono ?_);rintro e w1 ⟨rfl,hb3⟩;clear hq a0 a1 a2 a3 a4 d0 d1 d2 d3 d4;go_wp2_with (fail);go_loopw [7] (fun iS wr=>∃ i:Nat,i≤n1∧iS=.int .i64 i∧Below Z.heap.size Z wr∧Hid (∀ j,j<i→spB n2 m M2 (M1 j)=true)) (fun iS _=>n1 - (intOf iS).toNat)
 case atStart=>exact⟨0,by omega,rfl,hb3,fun j hj=>absurd hj (by omega)⟩
 case round =>
  clear hb3;obtain⟨w2,rfl⟩:∃ w2:World,w2=wr:=⟨_,rfl⟩;obtain⟨i,hi,rfl,hbw,hall⟩:=hrel;have hB2:=hB.trans (hbw.mono hB.size);by_cases hlt:i<n1
  ·have i0:(0:Int)≤(i:Int):=by omega
   have i1:(i:Int)<(n1:Int):=by omega
   obtain⟨br,orr,Ai,ci',rfl,hbr,hcr,hri,-,-⟩:=hm1'.at_ hlt;rw[rowsL_length]at hcr;have hcr2:=(hB2.cell (p:=⟨br,orr+i,none⟩) hbr).trans hcr;have hbd:Below w2.heap.size w2 w2.drew:=(Below.refl _ _).drew;have hBd:=hB2.trans (hbd.mono hB2.size);have hq:=(hIn i hlt Ai ci' w2.drew ((hr1.below hBd).more hBd.size) ((hm2'.below hBd).more hBd.size) ((hri.below hBd).more hBd.size)).out;obtain⟨a0,a1,a2,a3,a4⟩:=(hb1.out.keep hbw (by omega)).c5;have hd4:=(hb2.out.keep hbw hZs).c5.2.2.2.2;have hS0:=Lib.hid (show w2.cell? ⟨s,0,none⟩=some (.int .i64 F.p)∧w2.cell? ⟨s,1,none⟩=some (.int .i64 F.m)∧w2.cell? ⟨s,2,none⟩=some (.slice A1 F.mod.length c1)∧w2.cell? ⟨s+1,4,none⟩=some (.slice R2 n2 k2)∧w2.cell? ⟨s,4,none⟩=some (.slice (some ⟨br,orr,none⟩) n1 k1)∧w2.cell? ⟨br,orr+i,none⟩=some (.slice Ai m ci') from ⟨a0,a1,a2,hd4,a4,hcr2⟩);have hbl:br<w2.heap.size:=Nat.lt_of_lt_of_le hbr hB2.size;have hs2:s+1<w2.heap.size:=Nat.lt_of_lt_of_le hZs hbw.size;clear hcr hri hd4;by_cases hz:spB n2 m M2 (M1 i)=true
   ·rw[hz]at hq;replace hq:=Lib.hid hq;have hall2:Hid (∀ j,j<i+1→spB n2 m M2 (M1 j)=true):=fun j hj=>by
     by_cases e:j=i
     ·rw[e]; exact hz
     ·exact hall.out j (by omega)
    replace hz:=Lib.hid hz;clear hno;go_wp2_with (fail);clear a0 a1 a2 a3 a4 hcr2;refine wp_region_held_drew (S:=fun w'=>w'.cell? ⟨s,0,none⟩=some (.int .i64 F.p)∧w'.cell? ⟨s,1,none⟩=some (.int .i64 F.m)∧w'.cell? ⟨s,2,none⟩=some (.slice A1 F.mod.length c1)∧w'.cell? ⟨s+1,4,none⟩=some (.slice R2 n2 k2)∧w'.cell? ⟨s,4,none⟩=some (.slice (some ⟨br,orr,none⟩) n1 k1)∧w'.cell? ⟨br,orr+i,none⟩=some (.slice Ai m ci')) (by kernel_rfl) (by (try dsimp only); exact hS0.out) (fun hHeld=>?_);refine tk 0 ?_; try simp only[pS]
    refine tk 1 ?_; try simp only[pS]
    refine tk 2 ?_; try simp only[pS]
    refine tk 3 ?_; try simp only[pS]
    refine tk 4 ?_; try simp only[pS]
    refine tk 5 ?_; try simp only[pS]
    refine tk 6 ?_; try simp only[pS]
    refine tk 7 ?_; try simp only[pS]
    refine tk 8 ?_; try simp only[pS]
    refine rd 9 fun K hK=>?_
    go_simp;go_at_call 51;(with_reducible refine (hq).out.mono ?_);rintro e w3 ⟨rfl,hb4⟩;have hb23:=hbd.trans hb4;have hS3:=Lib.hid (show w3.cell? ⟨s,0,none⟩=some (.int .i64 F.p)∧w3.cell? ⟨s,1,none⟩=some (.int .i64 F.m)∧w3.cell? ⟨s,2,none⟩=some (.slice A1 F.mod.length c1)∧w3.cell? ⟨s+1,4,none⟩=some (.slice R2 n2 k2)∧w3.cell? ⟨s,4,none⟩=some (.slice (some ⟨br,orr,none⟩) n1 k1)∧w3.cell? ⟨br,orr+i,none⟩=some (.slice Ai m ci') from ⟨(hb23.cell (p:=⟨s,0,none⟩) (show s<w2.heap.size by omega)).trans hS0.out.1,(hb23.cell (p:=⟨s,1,none⟩) (show s<w2.heap.size by omega)).trans hS0.out.2.1,(hb23.cell (p:=⟨s,2,none⟩) (show s<w2.heap.size by omega)).trans hS0.out.2.2.1,(hb23.cell (p:=⟨s+1,4,none⟩) hs2).trans hS0.out.2.2.2.1,(hb23.cell (p:=⟨s,4,none⟩) (show s<w2.heap.size by omega)).trans hS0.out.2.2.2.2.1,(hb23.cell (p:=⟨br,orr+i,none⟩) hbl).trans hS0.out.2.2.2.2.2⟩);have hbe:=hbw.trans (hb23.mono hbw.size);go_wp2_with (fail);refine hK.out _ _ (by (try dsimp only); exact hS3.out) (fun hHeld=>?_);clear hK K;try simp only[pS]
    refine tk 10 ?_; try simp only[pS]
    refine wpAnyH_done (by kernel_rfl) ?_ _;go_wp2_with (fail);go_roundw
    case rel=>exact⟨i+1,by omega,by go_num,hbe,hall2⟩
    case measure=>simp[intOf]; omega
   ·rw[Bool.not_eq_true]at hz;rw[hz]at hq;replace hq:=Lib.hid hq;have hfin:=hno i hlt hz;replace hz:=Lib.hid hz;clear hno;go_wp2_with (fail);clear a0 a1 a2 a3 a4 hcr2;refine wp_region_held_drew (S:=fun w'=>w'.cell? ⟨s,0,none⟩=some (.int .i64 F.p)∧w'.cell? ⟨s,1,none⟩=some (.int .i64 F.m)∧w'.cell? ⟨s,2,none⟩=some (.slice A1 F.mod.length c1)∧w'.cell? ⟨s+1,4,none⟩=some (.slice R2 n2 k2)∧w'.cell? ⟨s,4,none⟩=some (.slice (some ⟨br,orr,none⟩) n1 k1)∧w'.cell? ⟨br,orr+i,none⟩=some (.slice Ai m ci')) (by kernel_rfl) (by (try dsimp only); exact hS0.out) (fun hHeld=>?_);refine tk 0 ?_; try simp only[pS]
    refine tk 1 ?_; try simp only[pS]
    refine tk 2 ?_; try simp only[pS]
    refine tk 3 ?_; try simp only[pS]
    refine tk 4 ?_; try simp only[pS]
    refine tk 5 ?_; try simp only[pS]
    refine tk 6 ?_; try simp only[pS]
    refine tk 7 ?_; try simp only[pS]
    refine tk 8 ?_; try simp only[pS]
    refine rd 9 fun K hK=>?_
    go_simp;go_at_call 51;(with_reducible refine (hq).out.mono ?_);rintro e w3 ⟨rfl,hb4⟩;have hb23:=hbd.trans hb4;have hS3:=Lib.hid (show w3.cell? ⟨s,0,none⟩=some (.int .i64 F.p)∧w3.cell? ⟨s,1,none⟩=some (.int .i64 F.m)∧w3.cell? ⟨s,2,none⟩=some (.slice A1 F.mod.length c1)∧w3.cell? ⟨s+1,4,none⟩=some (.slice R2 n2 k2)∧w3.cell? ⟨s,4,none⟩=some (.slice (some ⟨br,orr,none⟩) n1 k1)∧w3.cell? ⟨br,orr+i,none⟩=some (.slice Ai m ci') from ⟨(hb23.cell (p:=⟨s,0,none⟩) (show s<w2.heap.size by omega)).trans hS0.out.1,(hb23.cell (p:=⟨s,1,none⟩) (show s<w2.heap.size by omega)).trans hS0.out.2.1,(hb23.cell (p:=⟨s,2,none⟩) (show s<w2.heap.size by omega)).trans hS0.out.2.2.1,(hb23.cell (p:=⟨s+1,4,none⟩) hs2).trans hS0.out.2.2.2.1,(hb23.cell (p:=⟨s,4,none⟩) (show s<w2.heap.size by omega)).trans hS0.out.2.2.2.2.1,(hb23.cell (p:=⟨br,orr+i,none⟩) hbl).trans hS0.out.2.2.2.2.2⟩);have hbe:=hbw.trans (hb23.mono hbw.size);go_wp2_with (fail);refine hK.out _ _ (by (try dsimp only); exact hS3.out) (fun hHeld=>?_);clear hK K;try simp only[pS]
    refine tk 10 ?_; try simp only[pS]
    refine wpAnyH_done (by kernel_rfl) ?_ _;go_wp2_with (fail);go_ret2;exact⟨by rw[hfin.out]; rfl,hB.trans (hbe.mono hB.size)⟩
  ·obtain rfl:n1=i:=by omega
   obtain⟨a0,a1,a2,a3,a4⟩:=(hb1.out.keep hbw (by omega)).c5;go_wp2_with (fail);go_ret2;exact⟨by rw[hyes.out hall.out]; rfl,hB2⟩
end
end Go.Proofs.YtogfekjbpcfgmaaGreat

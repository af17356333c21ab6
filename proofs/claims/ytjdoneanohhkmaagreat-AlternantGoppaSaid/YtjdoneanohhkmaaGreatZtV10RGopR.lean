/- The reference's check of a Goppa description. -/
import Derived.Test.YtjdoneanohhkmaaGreatZtV10RPol5
import Derived.Test.YtjdoneanohhkmaaGreatZtV10RGopP
import Derived.Test.YtjdoneanohhkmaaGreatZtV10RGaoL
import Derived.Test.YtjdoneanohhkmaaGreatZtV10RMI
import Derived.Test.YtjdoneanohhkmaaGreatZtV10RTk
namespace Go.Proofs.YtjdoneanohhkmaaGreat
open Go.RowKit Cw
attribute [local go_sem] Oper.semAt_some

theorem fitB_mod (S D:Desc):fitB S D=(decide ((S.p:Int)=(D.p:Int))&&decide ((D.m:Int) % (S.m:Int)=0)):=by
 have h1:=S.m1;have h2:=D.m1;unfold fitB divB
 congr 1
 ·exact decide_eq_decide.2 (by omega)
 ·refine decide_eq_decide.2 ⟨fun h=>h.2.2,fun h=>⟨by omega,?_,h⟩⟩;have h3:S.m∣D.m:=by
   refine Nat.dvd_of_mod_eq_zero ?_;omega
  have:=Nat.le_of_dvd (by omega) h3;omega
set_option maxHeartbeats 1000000 in
theorem Fits_any (S D:Desc)(A B:Option Addr)(n c n2 b:Nat)(w:World) :
  Calls Tryz.prog 92 #[.agg #[.int .i64 S.p,.int .i64 S.m,.slice A n c],.agg #[.int .i64 D.p,.int .i64 D.m,.slice B n2 b]] w fun e w'=>e=.returned (.bool (fitB S D))∧Below w.heap.size w w':=by
 have hE:=Lib.hid (fitB_mod S D);have h1:=S.m1; have h2:=D.m1; have h3:=S.m8; have h4:=D.m8; have h5:=S.p256; have h6:=D.p256;have hB:Below w.heap.size w ((w.alloc (.cells #[.int .i64 S.p,.int .i64 S.m,.slice A n c] 24)).alloc (.cells #[.int .i64 D.p,.int .i64 D.m,.slice B n2 b] 24)):=((Below.refl _ _).alloc (Nat.le_refl _) _).alloc (by simp) _;have k0:¬ (S.m:Int)=0:=by omega
 have k1:(D.m:Int).tmod (S.m:Int)=(D.m:Int) % (S.m:Int):=Int.tmod_eq_emod_of_nonneg (by omega);by_cases hp:(S.p:Int)=(D.p:Int)
 ·have hpb:((S.p:Int)==(D.p:Int))=true:=beq_iff_eq.2 hp;by_cases hm:(D.m:Int) % (S.m:Int)=0
  ·have hmb:((D.m:Int) % (S.m:Int)==0)=true:=beq_iff_eq.2 hm;have hv:Hid (fitB S D=true):=by unfold Hid; rw[hE.out,decide_eq_true hp,decide_eq_true hm]; rfl
   clear hp hm;go_enter Tryz.func92,Tryz.ntmps92;go_wp2_with (fail);go_ret;exact⟨ret_bool hv.out.symm,hB⟩
  ·have hmb:((D.m:Int) % (S.m:Int)==0)=false:=beq_eq_false_iff_ne.2 hm;have hv:Hid (fitB S D=false):=by unfold Hid; rw[hE.out,decide_eq_true hp,decide_eq_false hm]; rfl
   clear hp hm;go_enter Tryz.func92,Tryz.ntmps92;go_wp2_with (fail);go_ret;exact⟨ret_bool hv.out.symm,hB⟩
 ·have hpb:((S.p:Int)==(D.p:Int))=false:=beq_eq_false_iff_ne.2 hp;have hv:Hid (fitB S D=false):=by unfold Hid; rw[hE.out,decide_eq_false hp]; rfl
  clear hp;go_enter Tryz.func92,Tryz.ntmps92;go_wp2_with (fail);go_ret;exact⟨ret_bool hv.out.symm,hB⟩
theorem can_top (D:Desc)(p:List Int)(he:elB D p=true):((canI D p).length=p.length→1≤p.length→p[p.length - 1]?.getD 0≠0)∧(1≤p.length→p[p.length - 1]?.getD 0≠0→(canI D p).length=p.length):=by
 have hc:canI D (canI D p)=canI D p:=canI_canI D p;have hlast:1≤p.length→(cfR D p (p.length - 1)=0↔p[p.length - 1]?.getD 0=0):=fun h1=>by
  have h2:=elB_iff.1 he (p.length - 1) (by omega);unfold cfR;rw[←ci_eq_zero,ci_eli_in h2]
 constructor
 ·intro h h1 h0;obtain⟨n,hn⟩:∃ n,p.length=n+1:=⟨p.length - 1,by omega⟩;have h2:=can_lead hc (n:=n) (by omega);rw[cfR_canI]at h2;have h3:=(hlast h1).2 h0;rw[show p.length - 1=n by omega]at h3;exact h2 h3
 ·intro h1 h0;have h3:cfR D p (p.length - 1)≠0:=fun e=>h0 ((hlast h1).1 e)
  have h4:¬ (canI D p).length≤p.length - 1:=fun h=>h3 (by rw[←cfR_canI]; exact cfR_out D h)
  have h5:=canI_le D p;omega
set_option maxHeartbeats 1000000 in
theorem Degree5_any (D:Desc)(p:List Int)(A A1:Option Addr)(c c1:Nat)(w:World)(hr1:Rd w w.heap.size A1 p)(hl:p.length≤70000) :
  Calls Tryz.prog 93 #[.agg #[.int .i64 D.p,.int .i64 D.m,.slice A D.mod.length c],.slice A1 p.length c1] w fun e w'=>e=.returned (.int .i64 (((canI D p).length:Int) - 1))∧Below w.heap.size w w':=by
 have hle:=canI_le D p;have hB:Below w.heap.size w (w.alloc (.cells #[.int .i64 D.p,.int .i64 D.m,.slice A D.mod.length c] 24)):=(Below.refl _ _).alloc (Nat.le_refl _) _;have k0:=(Bxs.new w [.int .i64 D.p,.int .i64 D.m,.slice A D.mod.length c] 24).c3;have hC:=Canon5_any D p A A1 c c1 _ ((hr1.below hB).more hB.size) hl;unfold Gives at hC;replace hC:=Lib.hid hC;go_enter Tryz.func93,Tryz.ntmps93;obtain⟨q0,q1,q2⟩:=k0;go_wp2_with (fail);(with_reducible refine hC.out.mono ?_);rintro e w1 ⟨gb,rfl,hgb,hib,hb1⟩;go_wp2_with (fail);go_ret;exact⟨rfl,hB.trans (hb1.mono hB.size)⟩
set_option maxRecDepth 100000 in
set_option maxHeartbeats 8000000 in
theorem GopChk_D (S D:Desc)(poly pts:List Int)(A B A1 A2:Option Addr)(c b c1 c2:Nat)(w:World)(hr:Rd w w.heap.size A (modL S))(hrB:Rd w w.heap.size B (modL D))(hS:Good S.p S.m (modL S))(hD:Good D.p D.m (modL D))(hr1:Rd w w.heap.size A1 poly)(hr2:Rd w w.heap.size A2 pts)(hl1:poly.length≤70000)(hl2:pts.length≤maxLen) :
  Calls Tryz.prog 26 #[.agg #[.int .i64 S.p,.int .i64 S.m,.slice A S.mod.length c,.int .i64 D.p,.int .i64 D.m,.slice B D.mod.length b,.slice A1 poly.length c1,.slice A2 pts.length c2]] w fun e w'=>e=.returned (.int .i64 (gopD S D poly pts))∧Below w.heap.size w w':=by
 have hp1:=S.p256; have hp2:=S.m8; have hp3:=D.p256; have hp4:=D.m8;have hmlS:(modL S).length≤maxLen:=by rw[modL_length]; have:=S.hlen; rw[this]; unfold maxLen; split <;> omega
 have hmlD:(modL D).length≤maxLen:=by rw[modL_length]; have:=D.hlen; rw[this]; unfold maxLen; split <;> omega
 have hN1:=fun W h=>Lib.hid (Check_any S.p S.m (modL S) A c W (by omega) (by omega) hmlS h)
 rw[chk_yes hS,modL_length]at hN1;have hN2:=fun W h=>Lib.hid (Check_any D.p D.m (modL D) B b W (by omega) (by omega) hmlD h)
 rw[chk_yes hD,modL_length]at hN2;have hFt:=fun W=>Fits_any S D A B S.mod.length c D.mod.length b W
 have hI:=fun x W=>Is_any D x B D.mod.length b W
 have hDg:=fun W h=>Lib.hid (Degree5_any D poly B A1 b c1 W h hl1)
 have hEv:=fun x W h1 h2=>Lib.hid (Eval5_any D poly x B A1 b c1 W h1 h2 (by unfold maxLen; omega))
 unfold maxLen at hl2;obtain⟨s,hs⟩:∃ s,s=w.heap.size:=⟨_,rfl⟩;obtain⟨Z,hZ⟩:∃ Z,Z=w.alloc (.cells #[.int .i64 S.p,.int .i64 S.m,.slice A S.mod.length c,.int .i64 D.p,.int .i64 D.m,.slice B D.mod.length b,.slice A1 poly.length c1,.slice A2 pts.length c2] 44):=⟨_,rfl⟩;have hB:Below w.heap.size w Z:=by rw[hZ]; exact (Below.refl _ _).alloc (Nat.le_refl _) _
 have hG:Hid (Bxs Z s [.int .i64 S.p,.int .i64 S.m,.slice A S.mod.length c,.int .i64 D.p,.int .i64 D.m,.slice B D.mod.length b,.slice A1 poly.length c1,.slice A2 pts.length c2]):=by rw[hZ,hs]; exact Lib.hid (Bxs.new w _ _)
 have hsZ:s<Z.heap.size:=by rw[hZ,hs]; simp
 have hq:=hN1 Z ((hr.below hB).more hB.size);replace hZ:=Lib.hid hZ;clear hN1 hmlS hmlD hS hD;go_enter Tryz.func26,Tryz.ntmps26;obtain⟨a0,a1,a2,a3,a4,a5,a6,a7⟩:=hG.out.c8;go_wp2_with (fail);rw[←hZ.out];simp only[←hs];have hsw:w.heap.size≤s:=Nat.le_of_eq hs.symm;replace hs:=Lib.hid hs;go_wp2_with (fail);(with_reducible refine hq.out.mono ?_);rintro e w1 ⟨rfl,hb⟩;clear hq a0 a1 a2 a3 a4 a5 a6 a7;replace hB:=hB.trans (hb.mono hB.size);replace hG:=Lib.hid (hG.out.keep hb hsZ);replace hsZ:=Nat.lt_of_lt_of_le hsZ hb.size;clear hb;have hq:=hN2 w1 ((hrB.below hB).more hB.size);obtain⟨a0,a1,a2,a3,a4,a5,a6,a7⟩:=hG.out.c8;go_wp2_with (fail);(with_reducible refine hq.out.mono ?_);rintro e w2 ⟨rfl,hb⟩;clear hq a0 a1 a2 a3 a4 a5 a6 a7 hN2;replace hB:=hB.trans (hb.mono hB.size);replace hG:=Lib.hid (hG.out.keep hb hsZ);replace hsZ:=Nat.lt_of_lt_of_le hsZ hb.size;clear hb;have hq:=hFt w2;obtain⟨fb,hfb⟩:∃ fb,fb=fitB S D:=⟨_,rfl⟩;rw[←hfb]at hq;replace hq:=Lib.hid hq;clear hFt
 cases fb with
 | false =>
  have hE:Hid (gopD S D poly pts=10):=gopD_fit hfb.symm;clear hfb;obtain⟨a0,a1,a2,a3,a4,a5,a6,a7⟩:=hG.out.c8;go_wp2_with (fail);(with_reducible refine hq.out.mono ?_);rintro e w3 ⟨rfl,hb⟩;go_wp2_with (fail);go_ret;exact⟨by rw[hE.out]; rfl,hB.trans (hb.mono hB.size)⟩
 | true =>
  replace hfb:=Lib.hid hfb.symm;obtain⟨a0,a1,a2,a3,a4,a5,a6,a7⟩:=hG.out.c8;go_wp2_with (fail);(with_reducible refine hq.out.mono ?_);rintro e w3 ⟨rfl,hb⟩;clear hq a0 a1 a2 a3 a4 a5 a6 a7;replace hB:=hB.trans (hb.mono hB.size);replace hG:=Lib.hid (hG.out.keep hb hsZ);replace hsZ:=Nat.lt_of_lt_of_le hsZ hb.size;clear hb;by_cases h1:pts.length<1∨64<pts.length
  ·have hE:Hid (gopD S D poly pts=4):=gopD_len hfb.out h1;rcases h1 with h1 | h1
   ·have h1b:decide ((pts.length:Int)<1)=true:=decide_eq_true (by omega);clear h1;go_wp2_with (fail);go_ret;exact⟨by rw[hE.out]; rfl,hB⟩
   ·have h1a:decide ((pts.length:Int)<1)=false:=decide_eq_false (by omega);have h1b:decide ((64:Int)<(pts.length:Int))=true:=decide_eq_true (by omega);clear h1;go_wp2_with (fail);go_ret;exact⟨by rw[hE.out]; rfl,hB⟩
  have h1a:decide ((pts.length:Int)<1)=false:=decide_eq_false (by omega);have h1b:decide ((64:Int)<(pts.length:Int))=false:=decide_eq_false (by omega);replace h1:=Lib.hid h1;go_wp2_with (fail);clear h1a h1b;go_loopw [4] (fun i wr=>∃ k:Nat,k≤pts.length∧i=.int .i64 k∧Hid (∀ j,j<k→0≤pts[j]?.getD 0∧pts[j]?.getD 0<(D.q:Int))∧Hid (Bxs wr s [.int .i64 S.p,.int .i64 S.m,.slice A S.mod.length c,.int .i64 D.p,.int .i64 D.m,.slice B D.mod.length b,.slice A1 poly.length c1,.slice A2 pts.length c2])∧Below w.heap.size w wr∧s<wr.heap.size) (fun i _=>pts.length - (intOf i).toNat)
  case atStart=>exact⟨0,by omega,rfl,fun j hj=>absurd hj (by omega),hG,hB,hsZ⟩
  case round =>
   clear hG hB hsZ;obtain⟨w4,rfl⟩:∃ w4:World,w4=wr:=⟨_,rfl⟩;obtain⟨k,hk,rfl,hall,hG,hB,hsZ⟩:=hrel;by_cases hlt:k<pts.length
   ·have hk0:(0:Int)≤(k:Int):=by omega
    have hk1:(k:Int)<(pts.length:Int):=by omega
    obtain⟨b1,o1,rfl,hb1,hc1⟩:=((hr2.below hB).more hB.size).at_ hlt;have hI1:=fun W=>hI (pts[k]?.getD 0) W
    have vF:=fun y (hy:pts[k]?.getD 0=y) W (h:Below w4.heap.size w4 W)=>Lib.hid (show W.cell? ⟨s,3,none⟩=some (.int .i64 D.p)∧W.cell? ⟨s,4,none⟩=some (.int .i64 D.m)∧W.cell? ⟨s,5,none⟩=some (.slice B D.mod.length b)∧W.cell? ⟨s,7,none⟩=some (.slice (some ⟨b1,o1,none⟩) pts.length c2)∧W.cell? ⟨b1,o1+k,none⟩=some (.int .i64 y) from ⟨(hG.out.keep h hsZ).c8.2.2.2.1,(hG.out.keep h hsZ).c8.2.2.2.2.1,(hG.out.keep h hsZ).c8.2.2.2.2.2.1,(hG.out.keep h hsZ).c8.2.2.2.2.2.2.2,hy ▸ (h.cell (p:=⟨b1,o1+k,none⟩) hb1).trans hc1⟩)
    clear hc1;by_cases e1:0≤pts[k]?.getD 0∧pts[k]?.getD 0<(D.q:Int)
    ·rw[decide_eq_true e1]at hI1;replace hI1:=fun W=>Lib.hid (hI1 W)
     have hall2:Hid (∀ j,j<k+1→0≤pts[j]?.getD 0∧pts[j]?.getD 0<(D.q:Int)):=fun j hj=>by
      by_cases e:j=k
      ·subst e; exact e1
      ·exact hall.out j (by omega)
     replace vF:=vF _ rfl;clear e1;generalize pts[k]?.getD 0=y at *;go_wp2_with (fail);refine wp_region_held_drew (S:=fun w'=>w'.cell? ⟨s,3,none⟩=some (.int .i64 D.p)∧w'.cell? ⟨s,4,none⟩=some (.int .i64 D.m)∧w'.cell? ⟨s,5,none⟩=some (.slice B D.mod.length b)∧w'.cell? ⟨s,7,none⟩=some (.slice (some ⟨b1,o1,none⟩) pts.length c2)∧w'.cell? ⟨b1,o1+k,none⟩=some (.int .i64 y)) (by kernel_rfl) (by (try dsimp only); exact (vF _ (Below.refl _ _).drew).out) (fun hHeld=>?_);refine tk 0 ?_; try simp only[pS]
     refine tk 1 ?_; try simp only[pS]
     refine tk 2 ?_; try simp only[pS]
     refine tk 3 ?_; try simp only[pS]
     refine tk 4 ?_; try simp only[pS]
     refine tk 5 ?_; try simp only[pS]
     refine tk 6 ?_; try simp only[pS]
     refine rd 7 fun K hK=>?_
     go_simp;go_at_call 28;(with_reducible refine (hI1 _).out.mono ?_);rintro e w5 ⟨rfl,hb5⟩;go_wp2_with (fail);refine hK.out _ _ (by (try dsimp only); exact (vF _ ((Below.refl _ _).drew.trans hb5)).out) (fun hHeld=>?_);clear hK K;try simp only[pS]
     refine tk 8 ?_; try simp only[pS]
     refine wpAnyH_done (by kernel_rfl) ?_ _;have hb45:Below w4.heap.size w4 w5:=(Below.refl _ _).drew.trans hb5;replace hG:=Lib.hid (hG.out.keep hb45 hsZ);replace hB:=hB.trans (hb45.mono hB.size);replace hsZ:=Nat.lt_of_lt_of_le hsZ hb45.size;go_wp2_with (fail);go_roundw
     case rel=>exact⟨k+1,by omega,by go_num,hall2,hG,hB,hsZ⟩
     case measure=>simp[intOf]; omega
    ·have hE:Hid (gopD S D poly pts=2):=gopD_el hfb.out h1.out (.inl (elB_no hlt e1));rw[decide_eq_false e1]at hI1;replace hI1:=fun W=>Lib.hid (hI1 W)
     replace vF:=vF _ rfl;clear e1;generalize pts[k]?.getD 0=y at *;go_wp2_with (fail);refine wp_region_held_drew (S:=fun w'=>w'.cell? ⟨s,3,none⟩=some (.int .i64 D.p)∧w'.cell? ⟨s,4,none⟩=some (.int .i64 D.m)∧w'.cell? ⟨s,5,none⟩=some (.slice B D.mod.length b)∧w'.cell? ⟨s,7,none⟩=some (.slice (some ⟨b1,o1,none⟩) pts.length c2)∧w'.cell? ⟨b1,o1+k,none⟩=some (.int .i64 y)) (by kernel_rfl) (by (try dsimp only); exact (vF _ (Below.refl _ _).drew).out) (fun hHeld=>?_);refine tk 0 ?_; try simp only[pS]
     refine tk 1 ?_; try simp only[pS]
     refine tk 2 ?_; try simp only[pS]
     refine tk 3 ?_; try simp only[pS]
     refine tk 4 ?_; try simp only[pS]
     refine tk 5 ?_; try simp only[pS]
     refine tk 6 ?_; try simp only[pS]
     refine rd 7 fun K hK=>?_
     go_simp;go_at_call 28;(with_reducible refine (hI1 _).out.mono ?_);rintro e w5 ⟨rfl,hb5⟩;go_wp2_with (fail);refine hK.out _ _ (by (try dsimp only); exact (vF _ ((Below.refl _ _).drew.trans hb5)).out) (fun hHeld=>?_);clear hK K;try simp only[pS]
     refine tk 8 ?_; try simp only[pS]
     refine wpAnyH_done (by kernel_rfl) ?_ _;have hb45:Below w4.heap.size w4 w5:=(Below.refl _ _).drew.trans hb5;go_wp2_with (fail);go_ret;exact⟨by rw[hE.out]; rfl,hB.trans (hb45.mono hB.size)⟩
   ·obtain rfl:k=pts.length:=by omega
    have hep:Hid (elB D pts=true):=elB_iff.2 hall.out;clear hall;go_wp2_with (fail);go_loopw [5] (fun i wr=>∃ k:Nat,k≤poly.length∧i=.int .i64 k∧Hid (∀ j,j<k→0≤poly[j]?.getD 0∧poly[j]?.getD 0<(D.q:Int))∧Hid (Bxs wr s [.int .i64 S.p,.int .i64 S.m,.slice A S.mod.length c,.int .i64 D.p,.int .i64 D.m,.slice B D.mod.length b,.slice A1 poly.length c1,.slice A2 pts.length c2])∧Below w.heap.size w wr∧s<wr.heap.size) (fun i _=>poly.length - (intOf i).toNat)
    case atStart=>exact⟨0,by omega,rfl,fun j hj=>absurd hj (by omega),hG,hB,hsZ⟩
    case round =>
     clear hG hB hsZ;obtain⟨w4,rfl⟩:∃ w4:World,w4=wr:=⟨_,rfl⟩;obtain⟨k,hk,rfl,hall,hG,hB,hsZ⟩:=hrel;by_cases hlt:k<poly.length
     ·have hk0:(0:Int)≤(k:Int):=by omega
      have hk1:(k:Int)<(poly.length:Int):=by omega
      obtain⟨b1,o1,rfl,hb1,hc1⟩:=((hr1.below hB).more hB.size).at_ hlt;have hI1:=fun W=>hI (poly[k]?.getD 0) W
      have vF:=fun y (hy:poly[k]?.getD 0=y) W (h:Below w4.heap.size w4 W)=>Lib.hid (show W.cell? ⟨s,3,none⟩=some (.int .i64 D.p)∧W.cell? ⟨s,4,none⟩=some (.int .i64 D.m)∧W.cell? ⟨s,5,none⟩=some (.slice B D.mod.length b)∧W.cell? ⟨s,6,none⟩=some (.slice (some ⟨b1,o1,none⟩) poly.length c1)∧W.cell? ⟨b1,o1+k,none⟩=some (.int .i64 y) from ⟨(hG.out.keep h hsZ).c8.2.2.2.1,(hG.out.keep h hsZ).c8.2.2.2.2.1,(hG.out.keep h hsZ).c8.2.2.2.2.2.1,(hG.out.keep h hsZ).c8.2.2.2.2.2.2.1,hy ▸ (h.cell (p:=⟨b1,o1+k,none⟩) hb1).trans hc1⟩)
      obtain⟨a0,a1,a2,a3,a4,a5,a6,a7⟩:=hG.out.c8;clear hc1;by_cases e1:0≤poly[k]?.getD 0∧poly[k]?.getD 0<(D.q:Int)
      ·rw[decide_eq_true e1]at hI1;replace hI1:=fun W=>Lib.hid (hI1 W)
       have hall2:Hid (∀ j,j<k+1→0≤poly[j]?.getD 0∧poly[j]?.getD 0<(D.q:Int)):=fun j hj=>by
        by_cases e:j=k
        ·subst e; exact e1
        ·exact hall.out j (by omega)
       replace vF:=vF _ rfl;clear e1;generalize poly[k]?.getD 0=y at *;go_wp2_with (fail);clear a0 a1 a2 a3 a4 a5 a6 a7;refine wp_region_held_drew (S:=fun w'=>w'.cell? ⟨s,3,none⟩=some (.int .i64 D.p)∧w'.cell? ⟨s,4,none⟩=some (.int .i64 D.m)∧w'.cell? ⟨s,5,none⟩=some (.slice B D.mod.length b)∧w'.cell? ⟨s,6,none⟩=some (.slice (some ⟨b1,o1,none⟩) poly.length c1)∧w'.cell? ⟨b1,o1+k,none⟩=some (.int .i64 y)) (by kernel_rfl) (by (try dsimp only); exact (vF _ (Below.refl _ _).drew).out) (fun hHeld=>?_);refine tk 0 ?_; try simp only[pS]
       refine tk 1 ?_; try simp only[pS]
       refine tk 2 ?_; try simp only[pS]
       refine tk 3 ?_; try simp only[pS]
       refine tk 4 ?_; try simp only[pS]
       refine tk 5 ?_; try simp only[pS]
       refine tk 6 ?_; try simp only[pS]
       refine rd 7 fun K hK=>?_
       go_simp;go_at_call 28;(with_reducible refine (hI1 _).out.mono ?_);rintro e w5 ⟨rfl,hb5⟩;go_wp2_with (fail);refine hK.out _ _ (by (try dsimp only); exact (vF _ ((Below.refl _ _).drew.trans hb5)).out) (fun hHeld=>?_);clear hK K;try simp only[pS]
       refine tk 8 ?_; try simp only[pS]
       refine wpAnyH_done (by kernel_rfl) ?_ _;have hb45:Below w4.heap.size w4 w5:=(Below.refl _ _).drew.trans hb5;replace hG:=Lib.hid (hG.out.keep hb45 hsZ);replace hB:=hB.trans (hb45.mono hB.size);replace hsZ:=Nat.lt_of_lt_of_le hsZ hb45.size;go_wp2_with (fail);go_roundw
       case rel=>exact⟨k+1,by omega,by go_num,hall2,hG,hB,hsZ⟩
       case measure=>simp[intOf]; omega
      ·have hE:Hid (gopD S D poly pts=2):=gopD_el hfb.out h1.out (.inr (elB_no hlt e1));rw[decide_eq_false e1]at hI1;replace hI1:=fun W=>Lib.hid (hI1 W)
       replace vF:=vF _ rfl;clear e1;generalize poly[k]?.getD 0=y at *;go_wp2_with (fail);clear a0 a1 a2 a3 a4 a5 a6 a7;refine wp_region_held_drew (S:=fun w'=>w'.cell? ⟨s,3,none⟩=some (.int .i64 D.p)∧w'.cell? ⟨s,4,none⟩=some (.int .i64 D.m)∧w'.cell? ⟨s,5,none⟩=some (.slice B D.mod.length b)∧w'.cell? ⟨s,6,none⟩=some (.slice (some ⟨b1,o1,none⟩) poly.length c1)∧w'.cell? ⟨b1,o1+k,none⟩=some (.int .i64 y)) (by kernel_rfl) (by (try dsimp only); exact (vF _ (Below.refl _ _).drew).out) (fun hHeld=>?_);refine tk 0 ?_; try simp only[pS]
       refine tk 1 ?_; try simp only[pS]
       refine tk 2 ?_; try simp only[pS]
       refine tk 3 ?_; try simp only[pS]
       refine tk 4 ?_; try simp only[pS]
       refine tk 5 ?_; try simp only[pS]
       refine tk 6 ?_; try simp only[pS]
       refine rd 7 fun K hK=>?_
       go_simp;go_at_call 28;(with_reducible refine (hI1 _).out.mono ?_);rintro e w5 ⟨rfl,hb5⟩;go_wp2_with (fail);refine hK.out _ _ (by (try dsimp only); exact (vF _ ((Below.refl _ _).drew.trans hb5)).out) (fun hHeld=>?_);clear hK K;try simp only[pS]
       refine tk 8 ?_; try simp only[pS]
       refine wpAnyH_done (by kernel_rfl) ?_ _;have hb45:Below w4.heap.size w4 w5:=(Below.refl _ _).drew.trans hb5;go_wp2_with (fail);go_ret;exact⟨by rw[hE.out]; rfl,hB.trans (hb45.mono hB.size)⟩
     ·obtain rfl:k=poly.length:=by omega
      have h2:Hid (¬ (elB D pts=false∨elB D poly=false)):=by
       unfold Hid;rw[hep.out,show elB D poly=true from elB_iff.2 hall.out]; simp
      have hley:=Lib.hid (elB_iff.2 hall.out);clear hall;obtain⟨a0,a1,a2,a3,a4,a5,a6,a7⟩:=hG.out.c8;go_wp2_with (fail);clear a0 a1 a2 a3 a4 a5 a6 a7;go_loopw [6,7] (fun i _ wr=>∃ k:Nat,k≤pts.length∧i=.int .i64 k∧Hid (∀ i j,j<i→i<k→pts[i]?.getD 0≠pts[j]?.getD 0)∧Hid (Bxs wr s [.int .i64 S.p,.int .i64 S.m,.slice A S.mod.length c,.int .i64 D.p,.int .i64 D.m,.slice B D.mod.length b,.slice A1 poly.length c1,.slice A2 pts.length c2])∧Below w.heap.size w wr∧s<wr.heap.size) (fun i _ _=>pts.length - (intOf i).toNat)
      case atStart=>exact⟨0,by omega,rfl,fun i j h1 h2=>absurd h2 (by omega),hG,hB,hsZ⟩
      case round =>
       clear hG hB hsZ;obtain⟨w4,rfl⟩:∃ w4:World,w4=wr:=⟨_,rfl⟩;obtain⟨k,hk,rfl,hall,hG,hB,hsZ⟩:=hrel;by_cases hlt:k<pts.length
       ·obtain⟨y,hy⟩:∃ y,y=pts[k]?.getD 0:=⟨_,rfl⟩;replace hy:=Lib.hid hy;go_wp2_with (fail);go_loopw [7] (fun i wr=>∃ j:Nat,j≤k∧i=.int .i64 j∧Hid (∀ t,t<j→y≠pts[t]?.getD 0)∧Hid (Bxs wr s [.int .i64 S.p,.int .i64 S.m,.slice A S.mod.length c,.int .i64 D.p,.int .i64 D.m,.slice B D.mod.length b,.slice A1 poly.length c1,.slice A2 pts.length c2])∧Below w.heap.size w wr∧s<wr.heap.size) (fun i _=>k - (intOf i).toNat)
        case atStart=>exact⟨0,by omega,rfl,fun t ht=>absurd ht (by omega),hG,hB,hsZ⟩
        case round =>
         clear hG hB hsZ;obtain⟨w5,rfl⟩:∃ w5:World,w5=wr:=⟨_,rfl⟩;obtain⟨j,hj,rfl,hall3,hG,hB,hsZ⟩:=hrel;by_cases hlt2:j<k
         ·have hk0:(0:Int)≤(k:Int):=by omega
          have hk1:(k:Int)<(pts.length:Int):=by omega
          have hj0:(0:Int)≤(j:Int):=by omega
          have hj1:(j:Int)<(pts.length:Int):=by omega
          obtain⟨b1,o1,rfl,hb1,hc1⟩:=((hr2.below hB).more hB.size).at_ hlt;obtain⟨b2,o2,e2,hb2,hc2⟩:=((hr2.below hB).more hB.size).at_ (by omega:j<pts.length)
          cases e2
          rw[←hy.out]at hc1;obtain⟨z,hz⟩:∃ z,z=pts[j]?.getD 0:=⟨_,rfl⟩;rw[←hz]at hc2;replace hz:=Lib.hid hz;have kk:=Lib.hid (show w5.cell? ⟨s,7,none⟩=some (.slice (some ⟨b1,o1,none⟩) pts.length c2)∧w5.cell? ⟨b1,o1+k,none⟩=some (.int .i64 y)∧w5.cell? ⟨b1,o1+j,none⟩=some (.int .i64 z) from ⟨hG.out.c8.2.2.2.2.2.2.2,hc1,hc2⟩);clear hc1 hc2;by_cases hyz:y=z
          ·have hE:Hid (gopD S D poly pts=18):=gopD_tw hfb.out h1.out h2.out (twB_yes hlt2 hlt (by rw[←hy.out,←hz.out,hyz]));have hb:(y==z)=true:=beq_iff_eq.2 hyz;clear hyz;go_wp2_with (fail);go_region_held3 (fun w'=>w'.cell? ⟨s,7,none⟩=some (.slice (some ⟨b1,o1,none⟩) pts.length c2)∧w'.cell? ⟨b1,o1+k,none⟩=some (.int .i64 y)∧w'.cell? ⟨b1,o1+j,none⟩=some (.int .i64 z)) (first | exact kk.out) (fail);go_wp2_with (fail);go_ret;exact⟨by rw[hE.out]; rfl,hB.drew⟩
          ·have hb:(y==z)=false:=beq_eq_false_iff_ne.2 hyz;have hall4:Hid (∀ t,t<j+1→y≠pts[t]?.getD 0):=fun t ht=>by
            by_cases e:t=j
            ·subst e; rw[←hz.out]; exact hyz
            ·exact hall3.out t (by omega)
           clear hyz;go_wp2_with (fail);go_region_held3 (fun w'=>w'.cell? ⟨s,7,none⟩=some (.slice (some ⟨b1,o1,none⟩) pts.length c2)∧w'.cell? ⟨b1,o1+k,none⟩=some (.int .i64 y)∧w'.cell? ⟨b1,o1+j,none⟩=some (.int .i64 z)) (first | exact kk.out) (fail);go_wp2_with (fail);go_roundw
           case rel=>exact⟨j+1,by omega,by go_num,hall4,hG,hB.drew,hsZ⟩
           case measure=>simp[intOf]; omega
         ·obtain rfl:j=k:=by omega
          have hall2:Hid (∀ i t,t<i→i<j+1→pts[i]?.getD 0≠pts[t]?.getD 0):=fun i t h1 h2=>by
           by_cases e:i=j
           ·subst e; rw[←hy.out]; exact hall3.out t h1
           ·exact hall.out i t h1 (by omega)
          clear hy;go_wp2_with (fail);go_roundw
          case rel=>exact⟨j+1,by omega,by go_num,hall2,hG,hB,hsZ⟩
          case measure=>simp[intOf]; omega
       ·obtain rfl:k=pts.length:=by omega
        have htw:Hid (twB pts=false):=twB_no hall.out;clear hall;have hq:=hDg w4 ((hr1.below hB).more hB.size);have hcl:=can_top D poly hley.out;have hle:=canI_le D poly;obtain⟨cl,hcle⟩:∃ cl,cl=(canI D poly).length:=⟨_,rfl⟩;rw[←hcle]at hq hcl hle;replace hcle:=Lib.hid hcle;obtain⟨a0,a1,a2,a3,a4,a5,a6,a7⟩:=hG.out.c8;go_wp2_with (fail);(with_reducible refine hq.out.mono ?_);rintro e w5 ⟨rfl,hb⟩;clear hq a0 a1 a2 a3 a4 a5 a6 a7;replace hB:=hB.trans (hb.mono hB.size);replace hG:=Lib.hid (hG.out.keep hb hsZ);replace hsZ:=Nat.lt_of_lt_of_le hsZ hb.size;clear hb;obtain⟨a0,a1,a2,a3,a4,a5,a6,a7⟩:=hG.out.c8;by_cases h4:poly.length<2∨65<poly.length∨poly[poly.length - 1]?.getD 0=0
        ·have hE:Hid (gopD S D poly pts=5):=gopD_form hfb.out h1.out h2.out htw.out h4;by_cases g1:cl=poly.length
         ·have g1b:(((cl:Int) - 1) !=((poly.length:Int) - 1))=false:=by rw[bne_eq_false_iff_eq]; omega
          by_cases g2:poly.length<2
          ·have g2b:decide ((cl:Int) - 1<1)=true:=decide_eq_true (by omega);clear g1 g2 h4 hcl;go_wp2_with (fail);go_ret;exact⟨by rw[hE.out]; rfl,hB⟩
          ·have g2b:decide ((cl:Int) - 1<1)=false:=decide_eq_false (by omega);have g3b:decide ((64:Int)<(cl:Int) - 1)=true:=decide_eq_true (by
            rcases h4 with h4 | h4 | h4
            ·omega
            ·omega
            ·exact absurd h4 (hcl.1 (by omega) (by omega)))
           clear g1 g2 h4 hcl;go_wp2_with (fail);go_ret;exact⟨by rw[hE.out]; rfl,hB⟩
         ·have g1b:(((cl:Int) - 1) !=((poly.length:Int) - 1))=true:=by rw[bne_iff_ne]; omega
          clear g1 h4 hcl;go_wp2_with (fail);go_ret;exact⟨by rw[hE.out]; rfl,hB⟩
        ·have g1:cl=poly.length:=hcl.2 (by omega) (by omega);have g1b:(((cl:Int) - 1) !=((poly.length:Int) - 1))=false:=by rw[bne_eq_false_iff_eq]; omega
         have g2b:decide ((cl:Int) - 1<1)=false:=decide_eq_false (by omega);have g3b:decide ((64:Int)<(cl:Int) - 1)=false:=decide_eq_false (by omega);replace h4:=Lib.hid h4;clear g1 hcl;obtain⟨f,hf⟩:∃ f:Nat→Int,f=fun i=>ci (pevI D poly (eli D (pts[i]?.getD 0))):=⟨_,rfl⟩
         have hvl:Hid (∀ j,j<pts.length→(valL D poly pts)[j]?.getD 0=f j):=fun j hj=>by rw[hf]; exact lst_get _ hj
         go_wp2_with (fail);clear a0 a1 a2 a3 a4 a5 a6 a7 g1b g2b g3b;go_loopw [9] (fun i wr=>∃ k:Nat,k≤pts.length∧i=.int .i64 k∧Hid (∀ j,j<k→f j≠0)∧Hid (Bxs wr s [.int .i64 S.p,.int .i64 S.m,.slice A S.mod.length c,.int .i64 D.p,.int .i64 D.m,.slice B D.mod.length b,.slice A1 poly.length c1,.slice A2 pts.length c2])∧Below w.heap.size w wr∧s<wr.heap.size) (fun i _=>pts.length - (intOf i).toNat)
         case atStart=>exact⟨0,by omega,rfl,fun j hj=>absurd hj (by omega),hG,hB,hsZ⟩
         case round =>
          clear hG hB hsZ;obtain⟨w6,rfl⟩:∃ w6:World,w6=wr:=⟨_,rfl⟩;obtain⟨k,hk,rfl,hall,hG,hB,hsZ⟩:=hrel;by_cases hlt:k<pts.length
          ·have hk0:(0:Int)≤(k:Int):=by omega
           have hk1:(k:Int)<(pts.length:Int):=by omega
           obtain⟨b1,o1,rfl,hb1,hc1⟩:=((hr2.below hB).more hB.size).at_ hlt;obtain⟨y,hy⟩:∃ y,y=pts[k]?.getD 0:=⟨_,rfl⟩;rw[←hy]at hc1;have hE1:=fun W a b=>hEv y W a b
           obtain⟨v,hv⟩:∃ v,v=f k:=⟨_,rfl⟩;have hvy:ci (pevI D poly (eli D y))=v:=by rw[hv,hf,hy]
           have hE2:∀ W,Rd W W.heap.size B (modL D)→Rd W W.heap.size A1 poly→Hid (Calls Tryz.prog 30 #[.agg #[.int .i64 D.p,.int .i64 D.m,.slice B D.mod.length b],.slice A1 poly.length c1,.int .i64 y] W fun e w'=>e=.returned (.int .i64 v)∧Below W.heap.size W w'):=fun W a b=>by
            have h:=hE1 W a b;rw[hvy]at h;exact h
           have vF:=fun W (h:Below w6.heap.size w6 W)=>Lib.hid (show W.cell? ⟨s,3,none⟩=some (.int .i64 D.p)∧W.cell? ⟨s,4,none⟩=some (.int .i64 D.m)∧W.cell? ⟨s,5,none⟩=some (.slice B D.mod.length b)∧W.cell? ⟨s,6,none⟩=some (.slice A1 poly.length c1)∧W.cell? ⟨s,7,none⟩=some (.slice (some ⟨b1,o1,none⟩) pts.length c2)∧W.cell? ⟨b1,o1+k,none⟩=some (.int .i64 y) from ⟨(hG.out.keep h hsZ).c8.2.2.2.1,(hG.out.keep h hsZ).c8.2.2.2.2.1,(hG.out.keep h hsZ).c8.2.2.2.2.2.1,(hG.out.keep h hsZ).c8.2.2.2.2.2.2.1,(hG.out.keep h hsZ).c8.2.2.2.2.2.2.2,(h.cell (p:=⟨b1,o1+k,none⟩) hb1).trans hc1⟩)
           have hq:=hE2 w6.drew (((hrB.below hB).more hB.size).drew) (((hr1.below hB).more hB.size).drew);replace hy:=Lib.hid hy;replace hvy:=Lib.hid hvy;clear hc1 hE1 hE2;by_cases hv0:v=0
           ·have hvb:(v==0)=true:=beq_iff_eq.2 hv0;have hm:(0:Int)∈valL D poly pts:=by
             rw[←hv0,hv,←hvl.out k hlt];exact mem_get (by unfold valL; rw[lst_length]; exact hlt)
            have hE:Hid (gopD S D poly pts=7):=gopD_root hfb.out h1.out h2.out htw.out h4.out hm;clear hm hv hv0;go_wp2_with (fail);refine wp_region_held_drew (S:=fun w'=>w'.cell? ⟨s,3,none⟩=some (.int .i64 D.p)∧w'.cell? ⟨s,4,none⟩=some (.int .i64 D.m)∧w'.cell? ⟨s,5,none⟩=some (.slice B D.mod.length b)∧w'.cell? ⟨s,6,none⟩=some (.slice A1 poly.length c1)∧w'.cell? ⟨s,7,none⟩=some (.slice (some ⟨b1,o1,none⟩) pts.length c2)∧w'.cell? ⟨b1,o1+k,none⟩=some (.int .i64 y)) (by kernel_rfl) (by (try dsimp only); exact (vF _ (Below.refl _ _).drew).out) (fun hHeld=>?_);refine tk 0 ?_; try simp only[pS]
            refine tk 1 ?_; try simp only[pS]
            refine tk 2 ?_; try simp only[pS]
            refine tk 3 ?_; try simp only[pS]
            refine tk 4 ?_; try simp only[pS]
            refine tk 5 ?_; try simp only[pS]
            refine tk 6 ?_; try simp only[pS]
            refine tk 7 ?_; try simp only[pS]
            refine tk 8 ?_; try simp only[pS]
            refine rd 9 fun K hK=>?_
            go_simp;go_at_call 30;(with_reducible refine (hq).out.mono ?_);rintro e w7 ⟨rfl,hb7⟩;go_wp2_with (fail);refine hK.out _ _ (by (try dsimp only); exact (vF _ ((Below.refl _ _).drew.trans hb7)).out) (fun hHeld=>?_);clear hK K;try simp only[pS]
            refine tk 10 ?_; try simp only[pS]
            refine wpAnyH_done (by kernel_rfl) ?_ _;have hb67:Below w6.heap.size w6 w7:=(Below.refl _ _).drew.trans hb7;go_wp2_with (fail);go_ret;exact⟨by rw[hE.out]; rfl,hB.trans (hb67.mono hB.size)⟩
           ·have hvb:(v==0)=false:=beq_eq_false_iff_ne.2 hv0;have hall2:Hid (∀ j,j<k+1→f j≠0):=fun j hj=>by
             by_cases e:j=k
             ·subst e; rw[←hv]; exact hv0
             ·exact hall.out j (by omega)
            clear hv hv0;go_wp2_with (fail);refine wp_region_held_drew (S:=fun w'=>w'.cell? ⟨s,3,none⟩=some (.int .i64 D.p)∧w'.cell? ⟨s,4,none⟩=some (.int .i64 D.m)∧w'.cell? ⟨s,5,none⟩=some (.slice B D.mod.length b)∧w'.cell? ⟨s,6,none⟩=some (.slice A1 poly.length c1)∧w'.cell? ⟨s,7,none⟩=some (.slice (some ⟨b1,o1,none⟩) pts.length c2)∧w'.cell? ⟨b1,o1+k,none⟩=some (.int .i64 y)) (by kernel_rfl) (by (try dsimp only); exact (vF _ (Below.refl _ _).drew).out) (fun hHeld=>?_);refine tk 0 ?_; try simp only[pS]
            refine tk 1 ?_; try simp only[pS]
            refine tk 2 ?_; try simp only[pS]
            refine tk 3 ?_; try simp only[pS]
            refine tk 4 ?_; try simp only[pS]
            refine tk 5 ?_; try simp only[pS]
            refine tk 6 ?_; try simp only[pS]
            refine tk 7 ?_; try simp only[pS]
            refine tk 8 ?_; try simp only[pS]
            refine rd 9 fun K hK=>?_
            go_simp;go_at_call 30;(with_reducible refine (hq).out.mono ?_);rintro e w7 ⟨rfl,hb7⟩;go_wp2_with (fail);refine hK.out _ _ (by (try dsimp only); exact (vF _ ((Below.refl _ _).drew.trans hb7)).out) (fun hHeld=>?_);clear hK K;try simp only[pS]
            refine tk 10 ?_; try simp only[pS]
            refine wpAnyH_done (by kernel_rfl) ?_ _;have hb67:Below w6.heap.size w6 w7:=(Below.refl _ _).drew.trans hb7;replace hG:=Lib.hid (hG.out.keep hb67 hsZ);replace hB:=hB.trans (hb67.mono hB.size);replace hsZ:=Nat.lt_of_lt_of_le hsZ hb67.size;go_wp2_with (fail);go_roundw
            case rel=>exact⟨k+1,by omega,by go_num,hall2,hG,hB,hsZ⟩
            case measure=>simp[intOf]; omega
          ·obtain rfl:k=pts.length:=by omega
           have hno:¬ (0:Int)∈valL D poly pts:=fun hm=>by
            obtain⟨j,hj,e⟩:=List.getElem_of_mem hm;have hj2:j<pts.length:=by unfold valL at hj; rw[lst_length]at hj; exact hj
            have h9:=hvl.out j hj2;rw[List.getElem?_eq_getElem hj]at h9;exact hall.out j hj2 (h9.symm.trans e)
           have hE:Hid (gopD S D poly pts=0):=gopD_ok hfb.out h1.out h2.out htw.out h4.out hno;clear hno;go_wp2_with (fail);go_ret;exact⟨by rw[hE.out]; rfl,hB⟩
end Go.Proofs.YtjdoneanohhkmaaGreat

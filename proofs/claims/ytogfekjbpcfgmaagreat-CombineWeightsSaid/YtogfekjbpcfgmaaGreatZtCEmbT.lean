/- Layer 7 of the program: Embed. -/
import Derived.Test.YtogfekjbpcfgmaaGreatZtCTowA
import Derived.Test.YtogfekjbpcfgmaaGreatZtCPoR
import Derived.Test.YtogfekjbpcfgmaaGreatZtCDot
import Derived.Test.YtogfekjbpcfgmaaGreatZtCTk
namespace Go.Proofs.YtogfekjbpcfgmaaGreat
open Go.RowKit Go.Shelf Cw
attribute [local go_sem] Oper.semAt_some

def ewl {D:FD} (r:R D.toDesc)(n:Nat):List Int:=lst n fun i=>ci (pw r i)
theorem ewl_length {D:FD} (r:R D.toDesc)(n:Nat):(ewl r n).length=n:=lst_length _ _
theorem ewl_get {D:FD} (r:R D.toDesc){n i:Nat} (h:i<n):(ewl r n)[i]?.getD 0=ci (pw r i):=lst_get _ h
theorem ewl_succ {D:FD} (r:R D.toDesc)(n:Nat):ewl r (n+1)=ewl r n ++ [ci (pw r n)]:=lst_succ _ _
theorem ewl_one {D:FD} (r:R D.toDesc):ewl r 1=[1]:=by
 rw[ewl_succ,pw_zero,ci_one]; rfl
theorem dot_phi (S F:FD)(hp:S.p=F.p)(r:R F.toDesc)(u:R S.toDesc):(rsum S.m fun i=>eli F.toDesc ((dl u)[i]?.getD 0)*eli F.toDesc ((ewl r S.m)[i]?.getD 0))=phi S F r u :=
 rsum_congr fun i hi=>by rw[kz_dl S F hp u hi,ewl_get r hi,eli_ci]

set_option maxHeartbeats 1000000 in
theorem tEmbed_no (S F:FD)(A:Option Addr)(c g:Nat)(w:World)(hg:GF w w.heap.size g F)(hr:Rd w w.heap.size A (modL S.toDesc))(hS:Good S.p S.m (modL S.toDesc))(hno:¬ (S.p=F.p∧divB F.m S.m=true)) :
  Calls Tryz.prog 113 #[.agg #[.int .i64 S.p,.int .i64 S.m,.slice A S.mod.length c],.pointer (some ⟨g,0,none⟩)] w fun e w'=>e=.returned (.tuple #[.slice none 0 0,.int .i64 10])∧Below w.heap.size w w':=by
 have hB:Below w.heap.size w (w.alloc (.cells #[.int .i64 S.p,.int .i64 S.m,.slice A S.mod.length c] 24)):=(Below.refl _ _).alloc (Nat.le_refl _) _;have hbx:=Bx.new w S.toDesc A S.mod.length c 24;have hN:=Lib.hid (New_good S.toDesc A c _ ((hr.below hB).more hB.size) hS);have hgl:=hg.lt;by_cases hp:S.p=F.p
 ·have hd:divB F.m S.m=false:=by rw[←Bool.not_eq_true]; exact fun h=>hno ⟨hp,h⟩
  have hI:=fun W h=>isDegree_any F S.m g W h
  rw[hd]at hI;replace hI:=fun W h=>Lib.hid (hI W h)
  have hpp:((S.p:Int) !=(F.p:Int))=false:=by rw[hp]; simp
  clear hS hno hd hp;go_enter Tryz.func113,Tryz.ntmps113;go_wp2_with (fail);(with_reducible refine hN.out.mono ?_);rintro e w1 ⟨g1,H,hH,rfl,hg1,hgf,hb1⟩;replace hH:=Lib.hid hH;have hB1:=hB.trans (hb1.mono hB.size);have hg1:=(hg.below hB1).more hB1.size;have hT:=Lib.hid (tprime_any F g w1 hg1);go_wp2_with (fail);(with_reducible refine hT.out.mono ?_);rintro e w2 ⟨rfl,hb2⟩;have hB2:=hB1.trans (hb2.mono hB1.size);have hg2:=(hg.below hB2).more hB2.size;have hs1:w.heap.size<w1.heap.size:=by have:=hb1.size; simp only[World.size_alloc]at this; omega
  obtain⟨q0,q1,q2⟩:=((hbx.below hb1 (by simp)).below hb2 hs1).cells;have hI2:=hI w2 hg2;go_wp2_with (fail);(with_reducible refine hI2.out.mono ?_);rintro e w3 ⟨rfl,hb3⟩;clear q0 q1 q2;go_wp2_with (fail);go_ret2;exact⟨rfl,hB2.trans (hb3.mono hB2.size)⟩
 ·have hpp:((S.p:Int) !=(F.p:Int))=true:=by rw[bne_iff_ne]; omega
  clear hS hno hp;go_enter Tryz.func113,Tryz.ntmps113;go_wp2_with (fail);(with_reducible refine hN.out.mono ?_);rintro e w1 ⟨g1,H,hH,rfl,hg1,hgf,hb1⟩;replace hH:=Lib.hid hH;have hB1:=hB.trans (hb1.mono hB.size);have hg1:=(hg.below hB1).more hB1.size;have hT:=Lib.hid (tprime_any F g w1 hg1);go_wp2_with (fail);(with_reducible refine hT.out.mono ?_);rintro e w2 ⟨rfl,hb2⟩;have hB2:=hB1.trans (hb2.mono hB1.size);have hs1:w.heap.size<w1.heap.size:=by have:=hb1.size; simp only[World.size_alloc]at this; omega
  obtain⟨q0,q1,q2⟩:=((hbx.below hb1 (by simp)).below hb2 hs1).cells;go_wp2_with (fail);go_ret2;exact⟨rfl,hB2⟩

set_option maxRecDepth 100000 in
set_option maxHeartbeats 4000000 in
theorem tEmbed_yes (S F:FD)(rt:Nat)(A:Option Addr)(c g:Nat)(w:World)(hg:GF w w.heap.size g F)(hr:Rd w w.heap.size A (modL S.toDesc))(hS:Good S.p S.m (modL S.toDesc))(hp:S.p=F.p)(hd:divB F.m S.m=true)(hrt:IsRt S F rt) :
  Calls Tryz.prog 113 #[.agg #[.int .i64 S.p,.int .i64 S.m,.slice A S.mod.length c],.pointer (some ⟨g,0,none⟩)] w fun e w'=>∃ v,e=.returned (.tuple #[v,.int .i64 0])∧Own w' w.heap.size v (embL S F rt)∧Below w.heap.size w w':=by
 have hm8:=S.m8; have hm1:=S.m1;have hq8:=S.q256;have hmk:=mk_ints S.q (by omega);obtain⟨f,hf⟩:∃ f:Nat→Int,f=fun x=>ci (phi S F (rel F.toDesc rt) (rel S.toDesc x)):=⟨_,rfl⟩
 replace hf:=Lib.hid hf;have hB:Below w.heap.size w (w.alloc (.cells #[.int .i64 S.p,.int .i64 S.m,.slice A S.mod.length c] 24)):=(Below.refl _ _).alloc (Nat.le_refl _) _;have hbx:=Bx.new w S.toDesc A S.mod.length c 24;have hN:=Lib.hid (New_good S.toDesc A c _ ((hr.below hB).more hB.size) hS);have hgl:=hg.lt;have hI:=fun W h=>isDegree_any F S.m g W h
 rw[hd]at hI;replace hI:=fun W h=>Lib.hid (hI W h)
 have hpp:((S.p:Int) !=(F.p:Int))=false:=by rw[hp]; simp
 replace hp:=Lib.hid hp;clear hS hd;go_enter Tryz.func113,Tryz.ntmps113;go_wp2_with (fail);(with_reducible refine hN.out.mono ?_);rintro e w1 ⟨g1,H,hH,rfl,hg1l,hgf,hb1⟩;have hHq:Hid (H.q=S.q):=by unfold Hid; show H.toDesc.q=S.toDesc.q; rw[hH]
 replace hH:=Lib.hid hH;have hB1:=hB.trans (hb1.mono hB.size);have hg1:=(hg.below hB1).more hB1.size;have hT:=Lib.hid (tprime_any F g w1 hg1);go_wp2_with (fail);(with_reducible refine hT.out.mono ?_);rintro e w2 ⟨rfl,hb2⟩;have hB2:=hB1.trans (hb2.mono hB1.size);have hg2:=(hg.below hB2).more hB2.size;have hs1:w.heap.size<w1.heap.size:=by have:=hb1.size; simp only[World.size_alloc]at this; omega
 have hs2:w.heap.size<w2.heap.size:=Nat.lt_of_lt_of_le hs1 hb2.size;have hbx2:=(hbx.below hb1 (by simp)).below hb2 hs1;have hgf2:=(hgf.below hb2).more hb2.size;obtain⟨q0,q1,q2⟩:=hbx2.cells;have hI2:=hI w2 hg2;go_wp2_with (fail);(with_reducible refine hI2.out.mono ?_);rintro e w3 ⟨rfl,hb3⟩;clear q0 q1 q2;have hB3:=hB2.trans (hb3.mono hB2.size);have hs3:w.heap.size<w3.heap.size:=Nat.lt_of_lt_of_le hs2 hb3.size;have hbx3:=hbx2.below hb3 hs2;have hgf3:=(hgf2.below hb3).more hb3.size;have hg3:=(hg.below hB3).more hB3.size;obtain⟨X,hX⟩:∃ X,X=w3.alloc (.cells #[.int .i64 1] 3):=⟨_,rfl⟩;have hXs:X.heap.size=w3.heap.size+1:=by rw[hX]; simp
 have hbX:Below w3.heap.size w3 X:=by rw[hX]; exact (Below.refl _ _).alloc (Nat.le_refl _) _
 have hown:Own X w3.heap.size (.slice (some ⟨w3.heap.size,0,none⟩) 1 1) (ewl (rel F.toDesc rt) 1):=by
  rw[ewl_one,hX];exact Own.of_IB (IB.new w3 [1]) (Nat.le_refl _) (by simp[maxLen])
 have hbxX:=hbx3.below hbX hs3;obtain⟨q0,q1,q2⟩:=hbxX.cells;rw[hX]at q0 q1 q2;replace hX:=Lib.hid hX;clear hbx hbx2 hN hI hI2 hT hgf hgf2 hg1 hg2 hb1 hb2 hb3 hB hB1 hB2;by_cases hm:S.m=1
 ·have hmd:decide (1<(S.m:Int))=false:=by simp; omega
  go_wp2_with (fail);rw[←hX.out];clear q0 q1 q2;have hoT:Own X w3.heap.size (.slice (some ⟨w3.heap.size,0,none⟩) 1 1) (ewl (rel F.toDesc rt) S.m):=by rw[hm]; exact hown
  replace hm:=Lib.hid hm;generalize (Value.slice (some ⟨w3.heap.size,0,none⟩) 1 1)=oT at *;obtain⟨Wt,rfl⟩:∃ W:World,W=X:=⟨_,rfl⟩;have hbT:=hbX;have hBT:=hB3.trans (hbT.mono hB3.size);clear hown hbxX hbX hXs hX;have hgT:=(hg3.below hbT).more hbT.size;have hfT:=(hgf3.below hbT).more hbT.size;have hO:=gOrder_any H g1 Wt hfT;rw[hHq.out]at hO;replace hO:=Lib.hid hO;obtain⟨Ap,cp,rfl,-,hrp,-⟩:=hoT.form;rw[ewl_length];replace hHq:=hHq;obtain⟨Y,hY⟩:∃ Y,Y=Wt.alloc (.cells (Array.replicate S.q (Value.int .i64 0)) 3):=⟨_,rfl⟩;have hib:IB Y Wt.heap.size (upd S.q 0 f):=by rw[upd_zero,hY]; exact IB.newz Wt S.q
  have hbY:Below Wt.heap.size Wt Y:=by rw[hY]; exact (Below.refl _ _).alloc (Nat.le_refl _) _
  replace hY:=Lib.hid hY;go_wp2_with (fail);(with_reducible refine hO.out.mono ?_);rintro e wz ⟨rfl,rfl⟩;go_wp2_with (fail);rw[←hY.out];go_loopw [82] (fun i wr=>∃ k:Nat,k≤S.q∧i=.int .i64 k∧IB wr Wt.heap.size (upd S.q k f)∧Below Wt.heap.size Wt wr) (fun i _=>S.q - (intOf i).toNat)
  case atStart=>exact⟨0,by omega,rfl,hib,hbY⟩
  case round =>
   obtain⟨k,hk,rfl,hibk,hbw⟩:=hrel;obtain⟨w8,rfl⟩:∃ w8:World,w8=wr:=⟨_,rfl⟩;clear hib hbY;by_cases hlt:k<S.q
   ·have hk0:(0:Int)≤(k:Int):=by omega
    have hk1:(k:Int)<(S.q:Int):=by omega
    have hD:=gDigits_any H k g1 w8 ((hfT.below hbw).more hbw.size);rw[hH.out,eli_nat (D:=S.toDesc) hlt]at hD;have hDt:=fun A' c' W a b d=>gDot_any F (dl (rel S.toDesc k)) (ewl (rel F.toDesc rt) S.m) S.m (dl_length _) (ewl_length _ _) A' Ap c' cp g W a b d (by unfold maxLen; omega)
    rw[dot_phi S F hp.out,show ci (phi S F (rel F.toDesc rt) (rel S.toDesc k))=f k from by rw[hf.out]]at hDt;replace hD:=Lib.hid hD;replace hDt:=fun A' c' W a b d=>Lib.hid (hDt A' c' W a b d)
    obtain⟨y,hy⟩:∃ y,y=f k:=⟨_,rfl⟩;have hl8:=hibk.lt;rw[←hy]at hDt;replace hy:=Lib.hid hy;go_wp2_with (fail);(with_reducible refine hD.out.mono ?_);rintro e w9 ⟨gb,rfl,hgb,hib9,hb9⟩;have hbw9:=hbw.trans (hb9.mono hbw.size);have hDt2:=hDt (some ⟨gb,0,none⟩) S.m w9 ((hgT.below hbw9).more hbw9.size) hib9.rd ((hrp.below hbw9).more hbw9.size);go_wp2_with (fail);(with_reducible refine hDt2.out.mono ?_);rintro e w10 ⟨rfl,hb10⟩;have hbw10:=hbw9.trans (hb10.mono hbw9.size);have hib10:=(hibk.below hb9 hl8).below hb10 (Nat.lt_of_lt_of_le hl8 hb9.size);have hkk:k<(upd S.q k f).length:=by rw[upd_length]; exact hlt
    have hcW:=hib10.cell hkk;have hfW:=hib10.frozen k;have hset:=hib10.set_ k y;rw[hy.out,upd_set,←hy.out]at hset;replace hset:=Lib.hid hset;have hbs:Below Wt.heap.size Wt (w10.setCell ⟨Wt.heap.size,k,none⟩ (.int .i64 y)):=hbw10.setCell (p:=⟨Wt.heap.size,k,none⟩) (Nat.le_refl _) _;clear hkk;go_wp2_with (fail);go_roundw
    case rel=>exact⟨k+1,by omega,by go_num,hset.out,hbs⟩
    case measure=>simp[intOf]; omega
   ·obtain rfl:k=S.q:=by omega
    rw[upd_full]at hibk;go_wp2_with (fail);go_ret2;have hfin:=Own.of_IB hibk (B:=w.heap.size) (Nat.le_trans hBT.size (Nat.le_refl _)) (by rw[lst_length]; unfold maxLen; omega);rw[lst_length]at hfin;refine⟨_,rfl,?_,hBT.trans (hbw.mono hBT.size)⟩;unfold embL;rw[←hf.out];exact hfin
 ·have hmd:decide (1<(S.m:Int))=true:=by simp; omega
  have hl1:=S.hlen;rw[if_neg hm]at hl1;have hlm:(modL S.toDesc).length=S.mod.length:=modL_length _;have hR:=fun A5 c5 W a b=>pRoots_any F (monL S) A5 c5 g W a b (by rw[monL_length S hm]; omega) (canI_mon S F hm)
  obtain⟨t,ht⟩:=rootF_head hp.out hm hrt;rw[show upI F.q=lst F.q (fun i=>(i:Int)) from rfl,ht]at hR;obtain⟨rl,hrl⟩:∃ rl,rl=(rt:Int) :: t:=⟨_,rfl⟩;rw[←hrl]at hR;have hrl0:Hid (rl[0]?.getD 0=(rt:Int)):=by rw[hrl]; rfl
  have hrlp:0<rl.length:=by rw[hrl]; simp
  have hrlz:((rl.length:Int)==0)=false:=by rw[beq_eq_false_iff_ne]; omega
  have hownE:Own (X.alloc (.cells #[] 3)) X.heap.size (.slice (some ⟨w3.heap.size+1,0,none⟩) 0 0) []:=by
   rw[←hXs];exact Own.of_IB (IB.new X []) (Nat.le_refl _) (by simp[maxLen])
  have hbXE:Below X.heap.size X (X.alloc (.cells #[] 3)):=(Below.refl _ _).alloc (Nat.le_refl _) _;have hBE:=(hB3.trans (hbX.mono hB3.size)).trans (hbXE.mono (Nat.le_trans hB3.size hbX.size));have hrE:=hr.below hBE;have hsE:=hbXE.size;rw[hX.out]at hownE hbXE hrE hsE;replace hrl:=Lib.hid hrl;replace ht:=Lib.hid ht;replace hl1:=Lib.hid hl1;replace hm:=Lib.hid hm;replace hXs:=Lib.hid hXs;go_wp2_with (first
   | (at_builtin; refine wpList_appN rfl _ _ rfl X.heap.size _ [] w.heap.size A c (modL S.toDesc) (by rw[hX.out]; exact hownE) hrE rfl rfl hlm.symm (by rw[hlm,hl1.out]; simp; omega) (by rw[hX.out]; exact hsE) ?_; intro v4 w4 ho4 hb4 _ _; rw[List.nil_append]at ho4)
   | (at_builtin; refine wpList_app1 rfl _ _ rfl X.heap.size _ _ _ ho4 rfl rfl rfl (by rw[hlm,hl1.out]; omega) (Nat.le_trans (by rw[hX.out]; exact hsE) hb4.size) ?_; intro v5 w5 ho5 hb5 _ _; rw[show modL S.toDesc ++ [1]=monL S from rfl]at ho5))
  rw[←hX.out]at hb4 hbXE;have hbX5:=(hbXE.trans hb4).trans hb5;have hbw5:=hbX.trans (hbX5.mono hbX.size);have hB5:=hB3.trans (hbw5.mono hB3.size);have ho5p:=hown.below hbX5 (Nat.le_refl _);obtain⟨A5,c5,rfl,-,hr5,-⟩:=ho5.form;have hR5:=Lib.hid (hR A5 c5 w5 ((hg.below hB5).more hB5.size) hr5);clear hR hownE hrE hsE hbXE hb4 hb5 q0 q1 q2;(with_reducible refine hR5.out.mono ?_);rintro e w6 ⟨v6,rfl,ho6,hb6⟩;have hbw6:=hbw5.trans (hb6.mono hbw5.size);have ho6p:=ho5p.below hb6 (Nat.le_refl _);obtain⟨A6,c6,rfl,-,hr6,hA6⟩:=ho6.form;obtain⟨b6,o6,rfl,-,-⟩:=hr6.at_ hrlp;have hdis:Dis (.slice (some ⟨w3.heap.size,0,none⟩) 1 1) (.slice (some ⟨b6,o6,none⟩) rl.length c6):=fun k h1 h2=>by
   have:=ho5p.lt k h1; have:=ho6.lt k h2; omega
  have ho6b:Own w6 w3.heap.size (.slice (some ⟨b6,o6,none⟩) rl.length c6) rl:=ho6.base hbw5.size;clear hR5 ho5 hr5 ho5p hr6 hA6 hb6 ho6;obtain⟨q0,q1,q2⟩:=(hbx3.below hbw6 hs3).cells;go_wp2_with (fail);generalize (Value.slice (some ⟨w3.heap.size,0,none⟩) 1 1)=o0 at *;clear q0 q1 q2;go_loopw [10,13] (fun o i wr=>∃ k:Nat,1≤k∧k≤S.m∧i=.int .i64 k∧Own wr w3.heap.size o (ewl (rel F.toDesc rt) k)∧Own wr w3.heap.size (.slice (some ⟨b6,o6,none⟩) rl.length c6) rl∧Dis o (.slice (some ⟨b6,o6,none⟩) rl.length c6)∧Below w3.heap.size w3 wr) (fun _ i _=>S.m - (intOf i).toNat)
  case atStart=>exact⟨1,by omega,hm1,rfl,ho6p,ho6b,hdis,hbw6⟩
  case round =>
   obtain⟨k,hk1,hkm,rfl,hop,hor,hds,hbT⟩:=hrel;obtain⟨Wt,rfl⟩:∃ W:World,W=wr:=⟨_,rfl⟩;clear ho6p ho6b hdis hbw6;obtain⟨q0,q1,q2⟩:=(hbx3.below hbT hs3).cells;by_cases hlt:k<S.m
   ·obtain⟨k',hk'⟩:∃ k',k=k'+1:=⟨k - 1,by omega⟩;have hwr:=wrap_pred hk' (by omega);have hk0:(0:Int)≤(k:Int):=by omega
    have hk2:(k:Int)<(S.m:Int):=by omega
    have hj0:(0:Int)≤(k':Int):=by omega
    have hj1:(k':Int)<(k:Int):=by omega
    have hrl1:(0:Int)<(rl.length:Int):=by omega
    obtain⟨Ap,cp,rfl,-,hrp,-⟩:=hop.form;rw[ewl_length]at hds hop ⊢;have hkl:k'<(ewl (rel F.toDesc rt) k).length:=by rw[ewl_length]; omega
    obtain⟨bp,op,rfl,hbp,hcp⟩:=hrp.at_ hkl;rw[ewl_get _ (by omega)]at hcp;have hcr:Wt.cell? ⟨b6,o6,none⟩=some (.int .i64 (rl[0]?.getD 0)):=hor.cell0 hrlp;rw[hrl0.out]at hcr;have hMl:=fun W h=>gMul_any F (ci (pw (rel F.toDesc rt) k')) (rt:Int) g W h
    rw[eli_ci,eli_nat (D:=F.toDesc) hrt.1,←pw_succ,←hk']at hMl;obtain⟨y1,hy1⟩:∃ y1,y1=ci (pw (rel F.toDesc rt) k'):=⟨_,rfl⟩;obtain⟨y,hy⟩:∃ y,y=ci (pw (rel F.toDesc rt) k):=⟨_,rfl⟩;rw[←hy1]at hMl hcp;rw[←hy]at hMl;have hgT:=(hg3.below hbT).more hbT.size;have hM2:=Lib.hid (hMl Wt.drew hgT.drew);have hle:(ewl (rel F.toDesc rt) k).length+[y].length≤1000000000:=by rw[ewl_length]; simp; omega
    have hsuc:ewl (rel F.toDesc rt) k ++ [y]=ewl (rel F.toDesc rt) (k+1):=by rw[hy,ewl_succ]
    have hb6l:b6<Wt.heap.size:=(hor.lt b6 rfl).2;have hcc:=Lib.hid hcr;replace hk':=Lib.hid hk';replace hy1:=Lib.hid hy1;replace hy:=Lib.hid hy;replace hsuc:=Lib.hid hsuc;replace hrt:=Lib.hid hrt;clear hMl hcr;go_wp2_with (fail);refine wp_region_held_drew (S:=fun w'=>w'.cell? ⟨b6,o6,none⟩=some (.int .i64 (rt:Int))) (by kernel_rfl) (by (try dsimp only); exact hcc.out) (fun hHeld=>?_);refine tk 0 ?_; try simp only[pS]
    refine tk 1 ?_; try simp only[pS]
    refine tk 2 ?_; try simp only[pS]
    refine tk 3 ?_; try simp only[pS]
    refine tk 4 ?_; try simp only[pS]
    refine tk 5 ?_; try simp only[pS]
    refine tk 7 ?_; try simp only[pS]
    refine tk 8 ?_; try simp only[pS]
    refine tk 9 ?_; try simp only[pS]
    refine rd 6 fun K hK=>?_
    go_simp;refine hK.out _ _ (by (try dsimp only); exact hcc.out) (fun hHeld=>?_);clear hK K;try simp only[pS]
    refine rd 10 fun K hK=>?_
    go_simp;go_at_call 90;(with_reducible refine (hM2).out.mono ?_);rintro e w7 ⟨rfl,hb7⟩;have hcc7:Hid (w7.cell? ⟨b6,o6,none⟩=some (.int .i64 (rt:Int))):=Lib.hid ((hb7.cell (p:=⟨b6,o6,none⟩) hb6l).trans hcc.out);have hs7:Wt.heap.size≤w7.heap.size:=hb7.size;have hbA7:Below w7.heap.size w7 (w7.alloc (.cells #[.int .i64 y] 3)):=(Below.refl _ _).alloc (Nat.le_refl _) _;have hb78:=(Below.refl Wt.heap.size Wt).drew.trans (hb7.trans (hbA7.mono hs7));have hop7:=hop.below hb78 (Nat.le_refl _);have hor7:=hor.below hb78 (Nat.le_refl _);have hr7:Rd (w7.alloc (.cells #[.int .i64 y] 3)) (w7.heap.size+1) (some ⟨w7.heap.size,0,none⟩) [y]:=by have:=(IB.new w7 [y]).rd; rw[World.size_alloc]at this; exact this
    go_wp2_with (fail);refine hK.out _ _ (by (try dsimp only); exact hcc7.out) (fun hHeld=>?_);clear hK K;try simp only[pS]
    refine rd 11 fun K hK=>?_
    go_simp;refine hK.out _ _ (by (try dsimp only); exact (hbA7.cell (p:=⟨b6,o6,none⟩) (Nat.lt_of_lt_of_le hb6l hs7)).trans hcc7.out) (fun hHeld=>?_);clear hK K;try simp only[pS]
    refine rd 12 fun K hK=>?_
    refine step_appN (n2:=1) rfl (.tmp 64) (.tmp 75) rfl w3.heap.size _ (ewl (rel F.toDesc rt) k) (w7.heap.size+1) (some ⟨w7.heap.size,0,none⟩) 1 [y] hop7 hr7 (by rfl) (by rfl) (by rfl) hle (Nat.le_trans hbT.size (Nat.le_trans hs7 hbA7.size)) ?_;intro v8 w8 ho8 hb8 hg8 hv8;have hor8:=hor7.kept hg8 hds.symm.ne;have hcc8:w8.cell? ⟨b6,o6,none⟩=some (.int .i64 (rl[0]?.getD 0)):=hor8.cell0 hrlp;rw[hrl0.out]at hcc8;replace hcc8:=Lib.hid hcc8;refine hK.out _ _ (by (try dsimp only); exact hcc8.out) (fun hHeld=>?_);clear hK K;try simp only[pS]
    refine tk 13 ?_; try simp only[pS]
    refine wpAnyH_done (by kernel_rfl) ?_ _;rw[hsuc.out]at ho8;have hds8:=hds.step (fun k h=>hor7.lt k h) hv8;have hb18:=hbT.trans ((hb78.mono hbT.size).trans hb8);clear q0 q1 q2;go_wp2_with (fail);go_roundw
    case rel=>exact⟨k+1,by omega,by omega,by go_num,ho8,hor8,hds8,hb18⟩
    case measure=>simp[intOf]; omega
   ·obtain hkm2:k=S.m:=by omega
    have hoT:=hop;rw[hkm2]at hoT ⊢;have hBT:=hB3.trans (hbT.mono hB3.size);replace hm:=hm;clear hop hkm2 hds hor;have hgT:=(hg3.below hbT).more hbT.size;have hfT:=(hgf3.below hbT).more hbT.size;have hO:=gOrder_any H g1 Wt hfT;rw[hHq.out]at hO;replace hO:=Lib.hid hO;obtain⟨Ap,cp,rfl,-,hrp,-⟩:=hoT.form;rw[ewl_length];replace hHq:=hHq;obtain⟨Y,hY⟩:∃ Y,Y=Wt.alloc (.cells (Array.replicate S.q (Value.int .i64 0)) 3):=⟨_,rfl⟩;have hib:IB Y Wt.heap.size (upd S.q 0 f):=by rw[upd_zero,hY]; exact IB.newz Wt S.q
    have hbY:Below Wt.heap.size Wt Y:=by rw[hY]; exact (Below.refl _ _).alloc (Nat.le_refl _) _
    replace hY:=Lib.hid hY;go_wp2_with (fail);(with_reducible refine hO.out.mono ?_);rintro e wz ⟨rfl,rfl⟩;go_wp2_with (fail);rw[←hY.out];go_loopw [82] (fun i wr=>∃ k:Nat,k≤S.q∧i=.int .i64 k∧IB wr Wt.heap.size (upd S.q k f)∧Below Wt.heap.size Wt wr) (fun i _=>S.q - (intOf i).toNat)
    case atStart=>exact⟨0,by omega,rfl,hib,hbY⟩
    case round =>
     obtain⟨k,hk,rfl,hibk,hbw⟩:=hrel;obtain⟨w8,rfl⟩:∃ w8:World,w8=wr:=⟨_,rfl⟩;clear hib hbY;by_cases hlt:k<S.q
     ·have hk0:(0:Int)≤(k:Int):=by omega
      have hk1:(k:Int)<(S.q:Int):=by omega
      have hD:=gDigits_any H k g1 w8 ((hfT.below hbw).more hbw.size);rw[hH.out,eli_nat (D:=S.toDesc) hlt]at hD;have hDt:=fun A' c' W a b d=>gDot_any F (dl (rel S.toDesc k)) (ewl (rel F.toDesc rt) S.m) S.m (dl_length _) (ewl_length _ _) A' Ap c' cp g W a b d (by unfold maxLen; omega)
      rw[dot_phi S F hp.out,show ci (phi S F (rel F.toDesc rt) (rel S.toDesc k))=f k from by rw[hf.out]]at hDt;replace hD:=Lib.hid hD;replace hDt:=fun A' c' W a b d=>Lib.hid (hDt A' c' W a b d)
      obtain⟨y,hy⟩:∃ y,y=f k:=⟨_,rfl⟩;have hl8:=hibk.lt;rw[←hy]at hDt;replace hy:=Lib.hid hy;go_wp2_with (fail);(with_reducible refine hD.out.mono ?_);rintro e w9 ⟨gb,rfl,hgb,hib9,hb9⟩;have hbw9:=hbw.trans (hb9.mono hbw.size);have hDt2:=hDt (some ⟨gb,0,none⟩) S.m w9 ((hgT.below hbw9).more hbw9.size) hib9.rd ((hrp.below hbw9).more hbw9.size);go_wp2_with (fail);(with_reducible refine hDt2.out.mono ?_);rintro e w10 ⟨rfl,hb10⟩;have hbw10:=hbw9.trans (hb10.mono hbw9.size);have hib10:=(hibk.below hb9 hl8).below hb10 (Nat.lt_of_lt_of_le hl8 hb9.size);have hkk:k<(upd S.q k f).length:=by rw[upd_length]; exact hlt
      have hcW:=hib10.cell hkk;have hfW:=hib10.frozen k;have hset:=hib10.set_ k y;rw[hy.out,upd_set,←hy.out]at hset;replace hset:=Lib.hid hset;have hbs:Below Wt.heap.size Wt (w10.setCell ⟨Wt.heap.size,k,none⟩ (.int .i64 y)):=hbw10.setCell (p:=⟨Wt.heap.size,k,none⟩) (Nat.le_refl _) _;clear hkk;go_wp2_with (fail);go_roundw
      case rel=>exact⟨k+1,by omega,by go_num,hset.out,hbs⟩
      case measure=>simp[intOf]; omega
     ·obtain rfl:k=S.q:=by omega
      rw[upd_full]at hibk;go_wp2_with (fail);go_ret2;have hfin:=Own.of_IB hibk (B:=w.heap.size) (Nat.le_trans hBT.size (Nat.le_refl _)) (by rw[lst_length]; unfold maxLen; omega);rw[lst_length]at hfin;refine⟨_,rfl,?_,hBT.trans (hbw.mono hBT.size)⟩;unfold embL;rw[←hf.out];exact hfin
end Go.Proofs.YtogfekjbpcfgmaaGreat

/- The reference of layer 7: Embed. -/
import Derived.IntWalk
import Derived.Test.YtogfekjbpcfgmaaGreatZtCGpoA
import Derived.Test.YtogfekjbpcfgmaaGreatZtCTk
namespace Go.Proofs.YtogfekjbpcfgmaaGreat
open Go.RowKit Cw
attribute [local go_sem] Oper.semAt_some

def TwoE (w:World)(b:Nat)(S F:Desc)(AS A:Option Addr)(cS c:Nat):Prop :=
 w.cell? ⟨b,0,none⟩=some (.int .i64 S.p)∧w.cell? ⟨b,1,none⟩=some (.int .i64 S.m)∧w.cell? ⟨b,2,none⟩=some (.slice AS S.mod.length cS)∧w.cell? ⟨b+1,0,none⟩=some (.int .i64 F.p)∧w.cell? ⟨b+1,1,none⟩=some (.int .i64 F.m)∧w.cell? ⟨b+1,2,none⟩=some (.slice A F.mod.length c)
theorem TwoE.keep {w w1:World} {b B:Nat} {S F:Desc} {AS A:Option Addr} {cS c:Nat} (h:TwoE w b S F AS A cS c)(hb:Below B w w1)(hlt:b+1<B):TwoE w1 b S F AS A cS c:=keep3x2 hb (by omega) hlt h

set_option maxRecDepth 100000 in
set_option maxHeartbeats 4000000 in
theorem Embed7_any (S F:FD)(rt:Nat)(AS A:Option Addr)(cS c:Nat)(w:World)(hrS:Rd w w.heap.size AS (modL S.toDesc))(hr:Rd w w.heap.size A (modL F.toDesc))(hp:S.p=F.p)(hrt:IsRt S F rt) :
  Calls Tryz.prog 119 #[.agg #[.int .i64 S.p,.int .i64 S.m,.slice AS S.mod.length cS],.agg #[.int .i64 F.p,.int .i64 F.m,.slice A F.mod.length c]] w fun e w'=>∃ v,e=.returned v∧Own w' w.heap.size v (embL S F rt)∧Below w.heap.size w w':=by
 have hm8:=S.m8; have hm1:=S.m1; have hp2:=S.p256;have hq8:=S.q256;have hfq:=F.q256;have hrq:rt<F.q:=hrt.1;have hmk:=mk_ints S.q (by omega);obtain⟨f,hf⟩:∃ f:Nat→Int,f=fun x=>ci (phi S F (rel F.toDesc rt) (rel S.toDesc x)):=⟨_,rfl⟩
 replace hf:=Lib.hid hf;have hO:=fun W=>Order_any S.p S.m AS S.mod.length cS W (by omega) (by omega)
 rw[qOf_D]at hO;replace hO:=fun W=>Lib.hid (hO W)
 obtain⟨Z,hZ⟩:∃ Z,Z=(w.alloc (.cells #[.int .i64 S.p,.int .i64 S.m,.slice AS S.mod.length cS] 24)).alloc (.cells #[.int .i64 F.p,.int .i64 F.m,.slice A F.mod.length c] 24):=⟨_,rfl⟩;have hB:Below w.heap.size w Z:=by rw[hZ]; exact ((Below.refl _ _).alloc (Nat.le_refl _) _).alloc (by simp) _
 have hZs:w.heap.size+1<Z.heap.size:=by rw[hZ]; simp
 have hbx:TwoE Z w.heap.size S.toDesc F.toDesc AS A cS c:=by rw[hZ]; unfold TwoE; simp[go_sem]
 replace hZ:=Lib.hid hZ;replace hp:=Lib.hid hp;go_enter Tryz.func119,Tryz.ntmps119;have hh:=hbx;unfold TwoE at hh;obtain⟨q0,q1,q2,q3,q4,q5⟩:=hh;go_wp2_with (fail);rw[←hZ.out];(with_reducible refine (hO Z).out.mono ?_);rintro e w1 ⟨rfl,hb1⟩;clear q0 q1 q2 q3 q4 q5;have hs1:w.heap.size+1<w1.heap.size:=Nat.lt_of_lt_of_le hZs hb1.size;have hB1:=hB.trans (hb1.mono hB.size);have hh1:=hbx.keep hb1 hZs;obtain⟨Y,hY⟩:∃ Y,Y=w1.alloc (.cells (Array.replicate S.q (Value.int .i64 0)) 3):=⟨_,rfl⟩;have hib:IB Y w1.heap.size (upd S.q 0 f):=by rw[upd_zero,hY]; exact IB.newz w1 S.q
 have hYs:Y.heap.size=w1.heap.size+1:=by rw[hY]; simp
 have hbY:Below w1.heap.size w1 Y:=by rw[hY]; exact (Below.refl _ _).alloc (Nat.le_refl _) _
 have hownE:Own (Y.alloc (.cells #[] 3)) Y.heap.size (.slice (some ⟨w1.heap.size+1,0,none⟩) 0 0) []:=by
  rw[←hYs];exact Own.of_IB (IB.new Y []) (Nat.le_refl _) (by simp[maxLen])
 have hbYE:Below Y.heap.size Y (Y.alloc (.cells #[] 3)):=(Below.refl _ _).alloc (Nat.le_refl _) _;have hb1E:=hbY.trans (hbYE.mono hbY.size);have hrE:=hrS.below (hB1.trans (hb1E.mono hB1.size));have hsE:=hbYE.size;have hhE:=hh1.keep hb1E hs1;unfold TwoE at hhE;obtain⟨q0,q1,q2,q3,q4,q5⟩:=hhE;rw[hY]at hownE hbYE hrE hsE q0 q1 q2 q3 q4 q5;have hlm:(modL S.toDesc).length=S.mod.length:=modL_length _;have hl8:S.mod.length≤8:=by have:=S.hlen; split at this <;> omega
 replace hYs:=Lib.hid hYs;replace hY:=Lib.hid hY;go_wp2_with (first
  | (at_builtin; refine wpList_appN rfl _ _ rfl Y.heap.size _ [] w.heap.size AS cS (modL S.toDesc) (by rw[hY.out]; exact hownE) hrE rfl rfl hlm.symm (by rw[hlm]; simp; omega) (by rw[hY.out]; exact hsE) ?_; intro v4 w4 ho4 hb4 _ _; rw[List.nil_append]at ho4)
  | (at_builtin; refine wpList_app1 rfl _ _ rfl Y.heap.size _ _ _ ho4 rfl rfl rfl (by rw[hlm]; omega) (Nat.le_trans (by rw[hY.out]; exact hsE) hb4.size) ?_; intro v5 w5 ho5 hb5 _ _; rw[show modL S.toDesc ++ [1]=monL S from rfl]at ho5))
 rw[←hY.out]at hb4 hbYE;have hbY5:=(hbYE.trans hb4).trans hb5;have hib5:=hib.below hbY5 hib.lt;have hb15:=hbY.trans (hbY5.mono hbY.size);have hh5:=hh1.keep hb15 hs1;obtain⟨A5,c5,rfl,-,hr5,-⟩:=ho5.form;have hlM:(monL S).length≤70000:=by unfold monL; rw[List.length_append,hlm]; simp; omega
 have hE:=fun k W a b=>Eval5_any F.toDesc (monL S) k A A5 c c5 W a b (by unfold maxLen; omega)
 replace hB1:=hB1;clear ho5 hb5 hb4 hbYE hownE hrE hsE hib hY hbY5 q0 q1 q2 q3 q4 q5 ho4;go_loopw [8] (fun r wr=>∃ k:Nat,k≤rt∧r=.int .i64 k∧Below w5.heap.size w5 wr) (fun r _=>rt - (intOf r).toNat)
 case atStart=>exact⟨0,by omega,rfl,Below.refl _ _⟩
 case round =>
  obtain⟨k,hk,rfl,hbw⟩:=hrel;obtain⟨w6,rfl⟩:∃ w6:World,w6=wr:=⟨_,rfl⟩;have hb16:=hb15.trans (hbw.mono hb15.size);have hB6:=hB1.trans (hb16.mono hB1.size);have hh6:=hh1.keep hb16 hs1;by_cases hlt:k<rt
  ·have hm:S.m≠1:=fun e=>by
    have:=hrt.uniq (isRt_one e); omega
   have hmd:decide (1<(S.m:Int))=true:=by simp; omega
   have hE1:=hE k w6 ((hr.below hB6).more hB6.size) ((hr5.below hbw).more hbw.size);rw[eli_nat (D:=F.toDesc) (by omega),pevI_mon S F hp.out hm]at hE1;obtain⟨y,hy⟩:∃ y,y=ci (muV S F (rel F.toDesc k)):=⟨_,rfl⟩;have hyz:(y !=0)=true:=by rw[bne_iff_ne,hy]; exact fun e=>hrt.2.2 k hlt (ci_eq_zero.1 e)
   rw[←hy]at hE1;replace hE1:=Lib.hid hE1;replace hy:=Lib.hid hy;replace hm:=Lib.hid hm;unfold TwoE at hh6;obtain⟨q0,q1,q2,q3,q4,q5⟩:=hh6;go_wp2_with (fail);(with_reducible refine hE1.out.mono ?_);rintro e w7 ⟨rfl,hb7⟩;clear q0 q1 q2 q3 q4 q5;go_wp2_with (fail);go_roundw
   case rel=>exact⟨k+1,by omega,by go_num,hbw.trans (hb7.mono hbw.size)⟩
   case measure=>simp[intOf]; omega
  ·obtain rfl:k=rt:=by omega
   by_cases hm:S.m=1
   ·have hmd:decide (1<(S.m:Int))=false:=by simp; omega
    have hib6:=hib5.below hbw hib5.lt;replace hm:=Lib.hid hm;have hh7:=hh6;unfold TwoE at hh7;obtain⟨q0,q1,q2,q3,q4,q5⟩:=hh7;go_wp2_with (fail);clear q0 q1 q2 q3 q4 q5;obtain⟨Wt,rfl⟩:∃ W:World,W=w6:=⟨_,rfl⟩;have hibT:=hib6;have hbT:=hb16;clear hib6 hib5 hb16 hh5 hbw;go_loopw [9] (fun i wr=>∃ j:Nat,j≤S.q∧i=.int .i64 j∧IB wr w1.heap.size (upd S.q j f)∧Below w1.heap.size w1 wr) (fun i _=>S.q - (intOf i).toNat)
    case atStart=>exact⟨0,by omega,rfl,hibT,hbT⟩
    case round =>
     obtain⟨j,hj,rfl,hibk,hbw⟩:=hrel;obtain⟨w8,rfl⟩:∃ w8:World,w8=wr:=⟨_,rfl⟩;clear hibT hbT;have hB8:=hB1.trans (hbw.mono hB1.size);by_cases hlt:j<S.q
     ·have hj0:(0:Int)≤(j:Int):=by omega
      have hj1:(j:Int)<(S.q:Int):=by omega
      have hh8:=hh1.keep hbw hs1;have hl8w:=hibk.lt;have hD:=Digits_any S.toDesc j AS S.mod.length cS w8.drew;rw[eli_nat (D:=S.toDesc) hlt]at hD;have hEv:=fun A' c' W a b=>Eval5_any F.toDesc (dl (rel S.toDesc j)) k A A' c c' W a b (by rw[dl_length]; unfold maxLen; omega)
      rw[eli_nat (D:=F.toDesc) hrq,pevI_dl S F hp.out,show ci (phi S F (rel F.toDesc k) (rel S.toDesc j))=f j from by rw[hf.out],dl_length]at hEv;unfold Gives at hD;rw[dl_length]at hD;replace hD:=Lib.hid hD;replace hEv:=fun A' c' W a b=>Lib.hid (hEv A' c' W a b)
      obtain⟨y,hy⟩:∃ y,y=f j:=⟨_,rfl⟩;rw[←hy]at hEv;replace hy:=Lib.hid hy;have hcc:=Lib.hid hh8;have hw18:w.heap.size+1<w8.heap.size:=Nat.lt_of_lt_of_le hs1 hbw.size;have hkk:Hid (j<(upd S.q j f).length):=by unfold Hid; rw[upd_length]; exact hlt
      clear hh8;go_wp2_with (fail);refine wp_region_held_drew (S:=fun w'=>w'.cell? ⟨w.heap.size,0,none⟩=some (.int .i64 S.p)∧w'.cell? ⟨w.heap.size,1,none⟩=some (.int .i64 S.m)∧w'.cell? ⟨w.heap.size,2,none⟩=some (.slice AS S.mod.length cS)∧w'.cell? ⟨w.heap.size+1,0,none⟩=some (.int .i64 F.p)∧w'.cell? ⟨w.heap.size+1,1,none⟩=some (.int .i64 F.m)∧w'.cell? ⟨w.heap.size+1,2,none⟩=some (.slice A F.mod.length c)) (by kernel_rfl) (by (try dsimp only); exact hcc.out) (fun hHeld=>?_);refine tk 0 ?_; try simp only[pS]
      refine tk 1 ?_; try simp only[pS]
      refine tk 2 ?_; try simp only[pS]
      refine tk 3 ?_; try simp only[pS]
      refine tk 4 ?_; try simp only[pS]
      refine tk 6 ?_; try simp only[pS]
      refine rd 5 fun K hK=>?_
      go_simp;go_at_call 120;(with_reducible refine (hD).out.mono ?_);rintro e w9 ⟨gd,rfl,hgd,hib9,hb9⟩;have hs9:w8.heap.size≤w9.heap.size:=hb9.size;have hb89:=(Below.refl w8.heap.size w8).drew.trans hb9;have hcc9:=Lib.hid (hcc.out.keep hb89 hw18);have hEv2:=hEv (some ⟨gd,0,none⟩) S.m w9 ((hr.below (hB8.trans (hb89.mono hB8.size))).more (hB8.trans (hb89.mono hB8.size)).size) hib9.rd;go_wp2_with (fail);refine hK.out _ _ (by (try dsimp only); exact hcc9.out) (fun hHeld=>?_);clear hK K;try simp only[pS]
      refine rd 7 fun K hK=>?_
      go_simp;go_at_call 72;(with_reducible refine (hEv2).out.mono ?_);rintro e w10 ⟨rfl,hb10⟩;have hcc10:=Lib.hid (hcc9.out.keep hb10 (Nat.lt_of_lt_of_le hw18 hs9));have hib10:=(hibk.below hb89 hl8w).below hb10 (Nat.lt_of_lt_of_le hl8w hs9);have hcW:=hib10.cell hkk.out;have hfW:=hib10.frozen j;go_wp2_with (fail);refine hK.out _ _ (by (try dsimp only); exact hcc10.out) (fun hHeld=>?_);clear hK K;try simp only[pS]
      refine tk 8 ?_; try simp only[pS]
      refine rd 9 fun K hK=>?_
      go_simp;refine hK.out _ _ (by (try dsimp only); exact hcc10.out.keep (B:=w1.heap.size) ((Below.refl _ _).setCell (p:=⟨w1.heap.size,j,none⟩) (Nat.le_refl _) _) hs1) (fun hHeld=>?_);clear hK K;try simp only[pS]
      refine wpAnyH_done (by kernel_rfl) ?_ _;have hset:=hib10.set_ j y;rw[hy.out,upd_set,←hy.out]at hset;replace hset:=Lib.hid hset;have hbs:=((hbw.trans (hb89.mono hbw.size)).trans (hb10.mono (Nat.le_trans hbw.size hs9))).setCell (p:=⟨w1.heap.size,j,none⟩) (Nat.le_refl _) (.int .i64 y);clear hcW hfW;go_wp2_with (fail);go_roundw
      case rel=>exact⟨j+1,by omega,by go_num,hset.out,hbs⟩
      case measure=>simp[intOf]; omega
     ·obtain rfl:j=S.q:=by omega
      rw[upd_full]at hibk;go_wp2_with (fail);go_ret;have hfin:=Own.of_IB hibk (B:=w.heap.size) hB1.size (by rw[lst_length]; unfold maxLen; omega);rw[lst_length]at hfin;refine⟨_,rfl,?_,hB8⟩;unfold embL;rw[←hf.out];exact hfin
   ·have hmd:decide (1<(S.m:Int))=true:=by simp; omega
    have hE1:=hE k w6 ((hr.below hB6).more hB6.size) ((hr5.below hbw).more hbw.size);rw[eli_nat (D:=F.toDesc) hrq,pevI_mon S F hp.out hm,hrt.2.1,ci_zero]at hE1;replace hE1:=Lib.hid hE1;have hib6:=hib5.below hbw hib5.lt;replace hm:=Lib.hid hm;unfold TwoE at hh6;obtain⟨q0,q1,q2,q3,q4,q5⟩:=hh6;go_wp2_with (fail);(with_reducible refine hE1.out.mono ?_);rintro e Wt ⟨rfl,hb7⟩;clear q0 q1 q2 q3 q4 q5;have hbT:=hb16.trans (hb7.mono hb16.size);have hibT:=hib6.below hb7 hib6.lt;go_wp2_with (fail);clear hib6 hib5 hb16 hh5 hbw hb7;go_loopw [9] (fun i wr=>∃ j:Nat,j≤S.q∧i=.int .i64 j∧IB wr w1.heap.size (upd S.q j f)∧Below w1.heap.size w1 wr) (fun i _=>S.q - (intOf i).toNat)
    case atStart=>exact⟨0,by omega,rfl,hibT,hbT⟩
    case round =>
     obtain⟨j,hj,rfl,hibk,hbw⟩:=hrel;obtain⟨w8,rfl⟩:∃ w8:World,w8=wr:=⟨_,rfl⟩;clear hibT hbT;have hB8:=hB1.trans (hbw.mono hB1.size);by_cases hlt:j<S.q
     ·have hj0:(0:Int)≤(j:Int):=by omega
      have hj1:(j:Int)<(S.q:Int):=by omega
      have hh8:=hh1.keep hbw hs1;have hl8w:=hibk.lt;have hD:=Digits_any S.toDesc j AS S.mod.length cS w8.drew;rw[eli_nat (D:=S.toDesc) hlt]at hD;have hEv:=fun A' c' W a b=>Eval5_any F.toDesc (dl (rel S.toDesc j)) k A A' c c' W a b (by rw[dl_length]; unfold maxLen; omega)
      rw[eli_nat (D:=F.toDesc) hrq,pevI_dl S F hp.out,show ci (phi S F (rel F.toDesc k) (rel S.toDesc j))=f j from by rw[hf.out],dl_length]at hEv;unfold Gives at hD;rw[dl_length]at hD;replace hD:=Lib.hid hD;replace hEv:=fun A' c' W a b=>Lib.hid (hEv A' c' W a b)
      obtain⟨y,hy⟩:∃ y,y=f j:=⟨_,rfl⟩;rw[←hy]at hEv;replace hy:=Lib.hid hy;have hcc:=Lib.hid hh8;have hw18:w.heap.size+1<w8.heap.size:=Nat.lt_of_lt_of_le hs1 hbw.size;have hkk:Hid (j<(upd S.q j f).length):=by unfold Hid; rw[upd_length]; exact hlt
      clear hh8;go_wp2_with (fail);refine wp_region_held_drew (S:=fun w'=>w'.cell? ⟨w.heap.size,0,none⟩=some (.int .i64 S.p)∧w'.cell? ⟨w.heap.size,1,none⟩=some (.int .i64 S.m)∧w'.cell? ⟨w.heap.size,2,none⟩=some (.slice AS S.mod.length cS)∧w'.cell? ⟨w.heap.size+1,0,none⟩=some (.int .i64 F.p)∧w'.cell? ⟨w.heap.size+1,1,none⟩=some (.int .i64 F.m)∧w'.cell? ⟨w.heap.size+1,2,none⟩=some (.slice A F.mod.length c)) (by kernel_rfl) (by (try dsimp only); exact hcc.out) (fun hHeld=>?_);refine tk 0 ?_; try simp only[pS]
      refine tk 1 ?_; try simp only[pS]
      refine tk 2 ?_; try simp only[pS]
      refine tk 3 ?_; try simp only[pS]
      refine tk 4 ?_; try simp only[pS]
      refine tk 6 ?_; try simp only[pS]
      refine rd 5 fun K hK=>?_
      go_simp;go_at_call 120;(with_reducible refine (hD).out.mono ?_);rintro e w9 ⟨gd,rfl,hgd,hib9,hb9⟩;have hs9:w8.heap.size≤w9.heap.size:=hb9.size;have hb89:=(Below.refl w8.heap.size w8).drew.trans hb9;have hcc9:=Lib.hid (hcc.out.keep hb89 hw18);have hEv2:=hEv (some ⟨gd,0,none⟩) S.m w9 ((hr.below (hB8.trans (hb89.mono hB8.size))).more (hB8.trans (hb89.mono hB8.size)).size) hib9.rd;go_wp2_with (fail);refine hK.out _ _ (by (try dsimp only); exact hcc9.out) (fun hHeld=>?_);clear hK K;try simp only[pS]
      refine rd 7 fun K hK=>?_
      go_simp;go_at_call 72;(with_reducible refine (hEv2).out.mono ?_);rintro e w10 ⟨rfl,hb10⟩;have hcc10:=Lib.hid (hcc9.out.keep hb10 (Nat.lt_of_lt_of_le hw18 hs9));have hib10:=(hibk.below hb89 hl8w).below hb10 (Nat.lt_of_lt_of_le hl8w hs9);have hcW:=hib10.cell hkk.out;have hfW:=hib10.frozen j;go_wp2_with (fail);refine hK.out _ _ (by (try dsimp only); exact hcc10.out) (fun hHeld=>?_);clear hK K;try simp only[pS]
      refine tk 8 ?_; try simp only[pS]
      refine rd 9 fun K hK=>?_
      go_simp;refine hK.out _ _ (by (try dsimp only); exact hcc10.out.keep (B:=w1.heap.size) ((Below.refl _ _).setCell (p:=⟨w1.heap.size,j,none⟩) (Nat.le_refl _) _) hs1) (fun hHeld=>?_);clear hK K;try simp only[pS]
      refine wpAnyH_done (by kernel_rfl) ?_ _;have hset:=hib10.set_ j y;rw[hy.out,upd_set,←hy.out]at hset;replace hset:=Lib.hid hset;have hbs:=((hbw.trans (hb89.mono hbw.size)).trans (hb10.mono (Nat.le_trans hbw.size hs9))).setCell (p:=⟨w1.heap.size,j,none⟩) (Nat.le_refl _) (.int .i64 y);clear hcW hfW;go_wp2_with (fail);go_roundw
      case rel=>exact⟨j+1,by omega,by go_num,hset.out,hbs⟩
      case measure=>simp[intOf]; omega
     ·obtain rfl:j=S.q:=by omega
      rw[upd_full]at hibk;go_wp2_with (fail);go_ret;have hfin:=Own.of_IB hibk (B:=w.heap.size) hB1.size (by rw[lst_length]; unfold maxLen; omega);rw[lst_length]at hfin;refine⟨_,rfl,?_,hB8⟩;unfold embL;rw[←hf.out];exact hfin
end Go.Proofs.YtogfekjbpcfgmaaGreat

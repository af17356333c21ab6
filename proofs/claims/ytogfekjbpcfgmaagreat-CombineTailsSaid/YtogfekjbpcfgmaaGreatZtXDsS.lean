/- The number of words: ref03.Exp, ref12.Size, Count. The reference's Combine, At, Of, Weight. The reference's Of, Weight, Distance. The reference's Distance. -/
import Derived.IntWalk
import Derived.Test.YtogfekjbpcfgmaaGreatZtXHasB
import Derived.Test.YtogfekjbpcfgmaaGreatZtXCodF
import Derived.Test.YtogfekjbpcfgmaaGreatZtXTk
namespace Go.Proofs.YtogfekjbpcfgmaaGreat
section
open Go.RowKit Cw
attribute [local go_sem] Oper.semAt_some

def exV (q k:Nat):Int:=if q ^ k≤65536 then (q ^ k:Nat) else 0
def exE (q k:Nat):Int:=if q ^ k≤65536 then 0 else 8
theorem exp_no {q k i:Nat} (hq:2≤q)(hi:i<k)(h:65536 / q<q ^ i):¬ q ^ k≤65536:=fun hc=>by
 have h1:q ^ (i+1)≤q ^ k:=Nat.pow_le_pow_right (by omega) hi;have h2:65536<q ^ i*q:=(Nat.div_lt_iff_lt_mul (by omega)).1 h;rw[Nat.pow_succ]at h1;omega
set_option maxHeartbeats 1000000 in
theorem Exp3_any (q k:Nat)(w:World)(hq:2≤q)(hq2:q≤256)(hk:k≤1000) :
  Calls Tryz.prog 161 #[.int .i64 q,.int .i64 k,.int .i64 65536] w fun e w'=>e=.returned (.tuple #[.int .i64 (exV q k),.int .i64 (exE q k)])∧w'=w:=by
 have b1:¬ (q:Int)<0:=by omega
 have b2:¬ (k:Int)<0:=by omega
 have b3:((q:Int)==0)=false:=by rw[beq_eq_false_iff_ne]; omega
 have b4:(1:Int)<(q:Int):=by omega
 have b5:¬ (q:Int)=0:=by omega
 obtain⟨V,hV⟩:∃ V,V=exV q k:=⟨_,rfl⟩;obtain⟨E,hE⟩:∃ E,E=exE q k:=⟨_,rfl⟩;rw[←hV,←hE];replace hV:=Lib.hid hV;replace hE:=Lib.hid hE;go_enter Tryz.func161,Tryz.ntmps161;go_wp2_with (fail);go_loop [9,8] (fun iS oS=>∃ i p:Nat,i≤k∧iS=.int .i64 i∧oS=.int .i64 p∧p≤65536∧Hid (p=q ^ i)) (fun iS _=>k - (intOf iS).toNat)
 case atStart=>exact⟨0,1,by omega,rfl,rfl,by omega,by unfold Hid; rw[Nat.pow_zero]⟩
 case round =>
  obtain⟨i,p,hi,rfl,rfl,hp,hpe⟩:=hrel;by_cases hlt:i<k
  ·by_cases hbig:65536 / q<p
   ·have hb2:(65536:Int) / (q:Int)<(p:Int):=by
     rw[show (65536:Int) / (q:Int)=((65536 / q:Nat):Int) from (Int.natCast_ediv 65536 q).symm]; omega
    have hno:=exp_no hq hlt (by rw[←hpe.out]; exact hbig);have hV0:Hid (V=0):=by unfold Hid; rw[hV.out]; exact if_neg hno
    have hE0:Hid (E=8):=by unfold Hid; rw[hE.out]; exact if_neg hno
    clear hno hbig;go_wp2_with (fail);go_ret2;exact⟨by rw[hV0.out,hE0.out]; rfl,rfl⟩
   ·have hb2:¬ (65536:Int) / (q:Int)<(p:Int):=by
     rw[show (65536:Int) / (q:Int)=((65536 / q:Nat):Int) from (Int.natCast_ediv 65536 q).symm]; omega
    have hpq:p*q≤65536:=(Nat.le_div_iff_mul_le (by omega)).1 (by omega);obtain⟨r,hr⟩:∃ r,r=p*q:=⟨_,rfl⟩;have hw:IntKind.i64.wrap ((p:Int)*(q:Int))=(r:Int):=by
     rw[show ((p:Int)*(q:Int))=(r:Int) from by rw[hr]; push_cast; rfl];exact IntWalk.i64_in _ (by omega)
    have hr2:Hid (r=q ^ (i+1)):=by unfold Hid; rw[hr,hpe.out,Nat.pow_succ]
    have hr3:r≤65536:=by omega
    clear hbig hpq hr;go_wp2_with (fail);go_round
    case rel=>exact⟨i+1,r,by omega,by go_num,rfl,hr3,hr2⟩
    case measure=>simp[intOf]; omega
  ·obtain rfl:k=i:=by omega
   have hV0:Hid (V=(p:Int)):=by unfold Hid; rw[hV.out,exV,if_pos (by rw[←hpe.out]; exact hp),hpe.out]
   have hE0:Hid (E=0):=by unfold Hid; rw[hE.out,exE,if_pos (by rw[←hpe.out]; exact hp)]
   have hp2:¬ (65536:Int)<(p:Int):=by omega
   go_wp2_with (fail);go_ret2;exact⟨by rw[hV0.out,hE0.out]; rfl,rfl⟩

noncomputable def szV (E:Int)(q n:Nat):Int:=if E=0 then exV q n else 0
noncomputable def szE (E:Int)(q n:Nat):Int:=if E=0 then exE q n else E
set_option maxHeartbeats 2000000 in
theorem Size12_any (Pa Ma Na:Int)(mla:List Int)(na:Nat)(rowsa:Nat→List Int)(Aa Ra:Option Addr)(ca ka:Nat)(w:World)(hPa:I64 Pa)(hMa:I64 Ma)(hla:mla.length≤maxLen)(hna:na≤64)(hka:∀ i,i<na→(rowsa i).length≤4200)(hra:Rd w w.heap.size Aa mla)(hma:RdM w w.heap.size Ra na rowsa) :
  Calls Tryz.prog 105 #[.agg #[.int .i64 Pa,.int .i64 Ma,.slice Aa mla.length ca,.int .i64 Na,.slice Ra na ka]] w fun e w'=>e=.returned (.tuple #[.int .i64 (szV (cErr Pa Ma Na mla na rowsa) (qOf Pa Ma) na),.int .i64 (szE (cErr Pa Ma Na mla na rowsa) (qOf Pa Ma) na)])∧Below w.heap.size w w':=by
 obtain⟨Z,hZ⟩:∃ Z,Z=w.alloc (.cells #[.int .i64 Pa,.int .i64 Ma,.slice Aa mla.length ca,.int .i64 Na,.slice Ra na ka] 27):=⟨_,rfl⟩;have hB:Below w.heap.size w Z:=by rw[hZ]; exact (Below.refl _ _).alloc (Nat.le_refl _) _
 have hZs:w.heap.size<Z.heap.size:=by rw[hZ]; simp
 have f5:=Five.new w (.int .i64 Pa) (.int .i64 Ma) (.slice Aa mla.length ca) (.int .i64 Na) (.slice Ra na ka) 27;have f5H:Hid (Five Z w.heap.size (.int .i64 Pa) (.int .i64 Ma) (.slice Aa mla.length ca) (.int .i64 Na) (.slice Ra na ka)):=by rw[hZ]; exact f5
 have hC1:=Check12_any Pa Ma Na mla na rowsa Aa Ra ca ka Z hPa hMa hla hna hka ((hra.below hB).more hB.size) ((hma.below hB).more hB.size);replace hZ:=Lib.hid hZ;by_cases hE:cErr Pa Ma Na mla na rowsa=0
 ·rw[show szV (cErr Pa Ma Na mla na rowsa) (qOf Pa Ma) na=exV (qOf Pa Ma) na from if_pos hE,show szE (cErr Pa Ma Na mla na rowsa) (qOf Pa Ma) na=exE (qOf Pa Ma) na from if_pos hE];obtain⟨F,m1,M1,va⟩:=cErr_zero hE;have hqq:qOf Pa Ma=F.q:=by rw[va.hP,va.hM]; exact qOf_D F.toDesc
  have hq2:2≤F.q:=F.q2;have hq3:F.q≤256:=F.q256;have hO:=fun W=>Order_any Pa Ma Aa mla.length ca W hPa.2 hMa.2
  rw[hE]at hC1;have hX:=fun W=>Exp3_any (qOf Pa Ma) na W (by rw[hqq]; exact hq2) (by rw[hqq]; exact hq3) (by omega)
  generalize exV (qOf Pa Ma) na=V at *;generalize exE (qOf Pa Ma) na=E at *;generalize qOf Pa Ma=q at *;replace hC1:=Lib.hid hC1;replace hX:=fun W=>Lib.hid (hX W)
  replace hO:=fun W=>Lib.hid (hO W)
  replace hE:=Lib.hid hE;replace hqq:=Lib.hid hqq;clear va hka;go_enter Tryz.func105,Tryz.ntmps105;obtain⟨a0,a1,a2,a3,a4,-⟩:=f5;go_wp2_with (fail);rw[←hZ.out];(with_reducible refine hC1.out.mono ?_);rintro e w1 ⟨rfl,hb1⟩;have hB1:=hB.trans (hb1.mono hB.size);have hs1:w.heap.size<w1.heap.size:=Nat.lt_of_lt_of_le hZs hb1.size;clear a0 a1 a2 a3 a4;have f51:=f5H.out.keep hb1 hZs;have kk:=Lib.hid (show w1.cell? ⟨w.heap.size,0,none⟩=some (.int .i64 Pa)∧w1.cell? ⟨w.heap.size,1,none⟩=some (.int .i64 Ma)∧w1.cell? ⟨w.heap.size,2,none⟩=some (.slice Aa mla.length ca)∧w1.cell? ⟨w.heap.size,4,none⟩=some (.slice Ra na ka) from ⟨f51.1,f51.2.1,f51.2.2.1,f51.2.2.2.2.1⟩);clear f51;go_wp2_with (fail);refine wp_region_held_drew (S:=fun w'=>w'.cell? ⟨w.heap.size,0,none⟩=some (.int .i64 Pa)∧w'.cell? ⟨w.heap.size,1,none⟩=some (.int .i64 Ma)∧w'.cell? ⟨w.heap.size,2,none⟩=some (.slice Aa mla.length ca)∧w'.cell? ⟨w.heap.size,4,none⟩=some (.slice Ra na ka)) (by kernel_rfl) (by (try dsimp only); exact kk.out) (fun hHeld=>?_);refine tk 0 ?_; try simp only[pS]
  refine tk 1 ?_; try simp only[pS]
  refine tk 3 ?_; try simp only[pS]
  refine tk 4 ?_; try simp only[pS]
  refine tk 5 ?_; try simp only[pS]
  refine rd 2 fun K hK=>?_
  go_simp;go_at_call 74;(with_reducible refine ((hO _)).out.mono ?_);rintro e w2 ⟨rfl,hb2⟩;have hb2':Below w1.heap.size w1 w2:=(Below.refl _ w1).drew.trans hb2;have kk2:=Lib.hid (show w2.cell? ⟨w.heap.size,0,none⟩=some (.int .i64 Pa)∧w2.cell? ⟨w.heap.size,1,none⟩=some (.int .i64 Ma)∧w2.cell? ⟨w.heap.size,2,none⟩=some (.slice Aa mla.length ca)∧w2.cell? ⟨w.heap.size,4,none⟩=some (.slice Ra na ka) from ⟨(hb2'.cell (p:=⟨w.heap.size,0,none⟩) hs1).trans kk.out.1,(hb2'.cell (p:=⟨w.heap.size,1,none⟩) hs1).trans kk.out.2.1,(hb2'.cell (p:=⟨w.heap.size,2,none⟩) hs1).trans kk.out.2.2.1,(hb2'.cell (p:=⟨w.heap.size,4,none⟩) hs1).trans kk.out.2.2.2⟩);go_wp2_with (fail);refine hK.out _ _ (by (try dsimp only); exact kk2.out) (fun hHeld=>?_);clear hK K;try simp only[pS]
  refine rd 6 fun K hK=>?_
  go_simp;go_at_call 161;(with_reducible refine ((hX _)).out.mono ?_);rintro e w3 ⟨rfl,rfl⟩;go_wp2_with (fail);refine hK.out _ _ (by (try dsimp only); exact kk2.out) (fun hHeld=>?_);clear hK K;try simp only[pS]
  refine tk 7 ?_; try simp only[pS]
  refine tk 8 ?_; try simp only[pS]
  refine tk 9 ?_; try simp only[pS]
  refine tk 10 ?_; try simp only[pS]
  refine wpAnyH_done (by kernel_rfl) ?_ _;go_wp2_with (fail);go_ret2;exact⟨rfl,hB1.trans (hb2'.mono hB1.size)⟩
 ·rw[show szV (cErr Pa Ma Na mla na rowsa) (qOf Pa Ma) na=0 from if_neg hE,show szE (cErr Pa Ma Na mla na rowsa) (qOf Pa Ma) na=cErr Pa Ma Na mla na rowsa from if_neg hE];generalize cErr Pa Ma Na mla na rowsa=E at *;have hEb:(E !=0)=true:=by rw[bne_iff_ne]; exact hE
  replace hC1:=Lib.hid hC1;replace hE:=Lib.hid hE;clear hka;go_enter Tryz.func105,Tryz.ntmps105;obtain⟨a0,a1,a2,a3,a4,-⟩:=f5;go_wp2_with (fail);rw[←hZ.out];(with_reducible refine hC1.out.mono ?_);rintro e w1 ⟨rfl,hb1⟩;go_wp2_with (fail);go_ret2;exact⟨rfl,hB.trans (hb1.mono hB.size)⟩

noncomputable def cnV (E:Int)(q n:Nat)(most:Int):Int:=if E=0∧q ^ n≤65536∧((q ^ n:Nat):Int)≤most then (q ^ n:Nat) else 0
theorem cnV_no {E:Int} {q n:Nat} {most:Int} (h:szE E q n≠0∨most<szV E q n):cnV E q n most=0:=if_neg fun⟨h1,h2,h3⟩=>by
 unfold szE szV exE exV at h;rw[if_pos h1,if_pos h2,if_pos h1,if_pos h2]at h;omega
theorem cnV_yes {E:Int} {q n:Nat} {most:Int} (h:szE E q n=0)(h2:szV E q n≤most):cnV E q n most=szV E q n:=by
 unfold szE exE at h;by_cases h1:E=0
 ·rw[if_pos h1]at h;by_cases h3:q ^ n≤65536
  ·unfold szV exV at h2 ⊢;rw[if_pos h1,if_pos h3]at h2 ⊢;exact if_pos ⟨h1,h3,h2⟩
  ·rw[if_neg h3]at h; cases h
 ·rw[if_neg h1]at h; exact absurd h h1
set_option maxHeartbeats 1000000 in
theorem Count12_any (Pa Ma Na:Int)(mla:List Int)(na:Nat)(rowsa:Nat→List Int)(Aa Ra:Option Addr)(ca ka:Nat)(most:Int)(w:World)(hPa:I64 Pa)(hMa:I64 Ma)(hla:mla.length≤maxLen)(hna:na≤64)(hka:∀ i,i<na→(rowsa i).length≤4200)(hra:Rd w w.heap.size Aa mla)(hma:RdM w w.heap.size Ra na rowsa)(_hmo:I64 most) :
  Calls Tryz.prog 47 #[.agg #[.int .i64 Pa,.int .i64 Ma,.slice Aa mla.length ca,.int .i64 Na,.slice Ra na ka],.int .i64 most] w fun e w'=>e=.returned (.int .i64 (cnV (cErr Pa Ma Na mla na rowsa) (qOf Pa Ma) na most))∧Below w.heap.size w w':=by
 obtain⟨Z,hZ⟩:∃ Z,Z=w.alloc (.cells #[.int .i64 Pa,.int .i64 Ma,.slice Aa mla.length ca,.int .i64 Na,.slice Ra na ka] 27):=⟨_,rfl⟩;have hB:Below w.heap.size w Z:=by rw[hZ]; exact (Below.refl _ _).alloc (Nat.le_refl _) _
 have hS:=Size12_any Pa Ma Na mla na rowsa Aa Ra ca ka Z hPa hMa hla hna hka ((hra.below hB).more hB.size) ((hma.below hB).more hB.size);replace hZ:=Lib.hid hZ;clear hka;generalize cErr Pa Ma Na mla na rowsa=E at *;generalize qOf Pa Ma=q at *;by_cases h1:szE E q na=0
 ·by_cases h2:szV E q na≤most
  ·rw[cnV_yes h1 h2];rw[h1]at hS;generalize szV E q na=V at *;have h3:¬ most<V:=by omega
   replace h1:=Lib.hid h1;replace hS:=Lib.hid hS;go_enter Tryz.func47,Tryz.ntmps47;go_wp2_with (fail);rw[←hZ.out];(with_reducible refine hS.out.mono ?_);rintro e w1 ⟨rfl,hb1⟩;go_wp2_with (fail);go_ret;exact⟨rfl,hB.trans (hb1.mono hB.size)⟩
  ·rw[cnV_no (.inr (by omega))];rw[h1]at hS;generalize szV E q na=V at *;have h3:most<V:=by omega
   replace h1:=Lib.hid h1;replace hS:=Lib.hid hS;go_enter Tryz.func47,Tryz.ntmps47;go_wp2_with (fail);rw[←hZ.out];(with_reducible refine hS.out.mono ?_);rintro e w1 ⟨rfl,hb1⟩;go_wp2_with (fail);go_ret;exact⟨rfl,hB.trans (hb1.mono hB.size)⟩
 ·rw[cnV_no (.inl h1)];generalize szV E q na=V at *;generalize szE E q na=E2 at *;have hEb:(E2 !=0)=true:=by rw[bne_iff_ne]; exact h1
  replace h1:=Lib.hid h1;replace hS:=Lib.hid hS;go_enter Tryz.func47,Tryz.ntmps47;go_wp2_with (fail);rw[←hZ.out];(with_reducible refine hS.out.mono ?_);rintro e w1 ⟨rfl,hb1⟩;go_wp2_with (fail);go_ret;exact⟨rfl,hB.trans (hb1.mono hB.size)⟩
end
section
open Go.RowKit Cw
attribute [local go_sem] Oper.semAt_some

def cmb {D:Desc} (n:Nat)(g:Nat→R D)(M:Nat→Nat→R D):Nat→R D:=fun j=>rsum n fun i=>g i*M i j
theorem rowL_zero' (D:Desc)(n:Nat):List.replicate n (0:Int)=rowL D n (fun _=>0):=by
 unfold rowL;rw[lst_zero];exact lst_congr fun j _=>ci_zero.symm
set_option maxHeartbeats 2000000 in
theorem Combine9_any (D:Desc)(n m:Nat)(g:Nat→R D)(M:Nat→Nat→R D)(A A1 Ar:Option Addr)(c c1 cr:Nat)(w:World)(hr:Rd w w.heap.size A (modL D))(hr1:Rd w w.heap.size A1 (rowL D n g))(hrm:RdM w w.heap.size Ar n (rowsL D m M))(hn:n≤1000)(hm:m≤70000) :
  Calls Tryz.prog 43 #[.agg #[.int .i64 D.p,.int .i64 D.m,.slice A D.mod.length c],.slice A1 n c1,.slice Ar n cr,.int .i64 m] w fun e w'=>∃ A2 c2,e=.returned (.slice A2 m c2)∧Rd w' w'.heap.size A2 (rowL D m (cmb n g M))∧(∀ a,A2=some a→w.heap.size≤a.block)∧m≤c2∧c2≤maxLen∧Below w.heap.size w w':=by
 have hAT:=fun f h a A1 A2 c1 c2 W x y z=>AddTo9_any D m f h a A A1 A2 c c1 c2 W x y z hm
 have hmk:=mk_ints m hm;obtain⟨Z,hZ⟩:∃ Z,Z=w.alloc (.cells #[.int .i64 D.p,.int .i64 D.m,.slice A D.mod.length c] 24):=⟨_,rfl⟩;have hB:Below w.heap.size w Z:=by rw[hZ]; exact (Below.refl _ _).alloc (Nat.le_refl _) _
 have k0:=Lib.hid (show Z.cell? ⟨w.heap.size,0,none⟩=some (.int .i64 D.p)∧Z.cell? ⟨w.heap.size,1,none⟩=some (.int .i64 D.m)∧Z.cell? ⟨w.heap.size,2,none⟩=some (.slice A D.mod.length c) from by rw[hZ]; exact alloc3 w _ _ _ _);have hZe:Z.heap.size=w.heap.size+1:=by rw[hZ]; simp
 obtain⟨Y,hY⟩:∃ Y,Y=Z.alloc (.cells (Array.replicate m (Value.int .i64 0)) 3):=⟨_,rfl⟩;have hbY:Below Z.heap.size Z Y:=by rw[hY]; exact (Below.refl _ _).alloc (Nat.le_refl _) _
 have hBY:=hB.trans (hbY.mono hB.size);have hlt0:w.heap.size<Y.heap.size:=by have:=hbY.size; omega
 have kY:=Lib.hid (keep3 hbY (by omega) k0.out);have hr0:Rd Y Y.heap.size (some ⟨w.heap.size+1,0,none⟩) (rowL D m (cmb 0 g M)):=by
  rw[show rowL D m (cmb 0 g M)=List.replicate m 0 from (rowL_zero' D m).symm,hY,←hZe]; exact (IB.newz Z m).rd
 rw[hZ]at hY;replace hZ:=Lib.hid hZ;replace hY:=Lib.hid hY;replace hZe:=Lib.hid hZe;go_enter Tryz.func43,Tryz.ntmps43;go_wp2_with (fail);rw[←hY.out];go_loopw [10,9] (fun iS v wr=>∃ (k:Nat) (Av:Option Addr) (cv:Nat),k≤n∧iS=.int .i64 k∧v=.slice Av m cv∧Rd wr wr.heap.size Av (rowL D m (cmb k g M))∧(∀ a,Av=some a→w.heap.size≤a.block)∧m≤cv∧cv≤maxLen∧Below Y.heap.size Y wr) (fun iS _ _=>n - (intOf iS).toNat)
 case atStart=>exact⟨0,some ⟨w.heap.size+1,0,none⟩,m,by omega,rfl,rfl,hr0,(fun a e=>by cases e; exact Nat.le_succ _),Nat.le_refl _,by unfold maxLen; omega,Below.refl _ _⟩
 case round =>
  obtain⟨k,Av,cv,hk,rfl,rfl,hrv,hAv,hmc,hcv,hbw⟩:=hrel;obtain⟨w3,rfl⟩:∃ w3:World,w3=wr:=⟨_,rfl⟩;have hB3:=hBY.trans (hbw.mono hBY.size);by_cases hlt:k<n
  ·have hk0:(0:Int)≤(k:Int):=by omega
   have hk1:(k:Int)<(n:Int):=by omega
   obtain⟨b,o,Ak,ck,rfl,hb,hc,hrk,-,-⟩:=hrm.at_ hlt;obtain⟨b1,o1,rfl,hb1,hc1⟩:=hr1.at_ (show k<(rowL D n g).length by rw[rowL_length]; exact hlt);rw[rowL_get D g hlt]at hc1;rw[show (rowsL D m M k).length=m from rowL_length _ _ _]at hc;have hd:=(hB3.cell (p:=⟨b,o+k,none⟩) hb).trans hc;have hd1:=(hB3.cell (p:=⟨b1,o1+k,none⟩) hb1).trans hc1;have hgk:eli D (ci (g k))=g k:=eli_ci _;have hst:cmb (k+1) g M=fun j=>cmb k g M j+g k*M k j:=funext fun j=>rsum_succ _ _
   by_cases hz:ci (g k)=0
   ·have hzz:(ci (g k) !=0)=false:=by rw[bne_eq_false_iff_eq]; exact hz
    have hnx:Hid (rowL D m (cmb (k+1) g M)=rowL D m (cmb k g M)):=by
     unfold Hid;rw[hst,←hgk,hz,eli_zero]
     congr 1
     exact funext fun j=>by rw[zero_mul,add_zero]
    rw[←hnx.out]at hrv;generalize ci (g k)=y at *;clear hgk hst hz hc hc1 hd;go_wp2_with (fail);go_roundw
    case rel=>exact⟨k+1,Av,cv,by omega,by go_num,rfl,hrv,hAv,hmc,hcv,hbw⟩
    case measure=>simp[intOf]; omega
   ·have hzz:(ci (g k) !=0)=true:=by rw[bne_iff_ne]; exact hz
    have hA3:=hAT (cmb k g M) (M k) (ci (g k)) Av Ak cv ck w3.drew ((hr.below hB3).more hB3.size).drew hrv.drew ((hrk.below hB3).more hB3.size).drew;rw[hgk,←hst]at hA3;unfold Gives at hA3;replace hA3:=Lib.hid hA3;generalize hy:ci (g k)=y at *;replace hy:=Lib.hid hy;have kk:=Lib.hid (show (w3.cell? ⟨w.heap.size,0,none⟩=some (.int .i64 D.p)∧w3.cell? ⟨w.heap.size,1,none⟩=some (.int .i64 D.m)∧w3.cell? ⟨w.heap.size,2,none⟩=some (.slice A D.mod.length c))∧w3.cell? ⟨b,o+k,none⟩=some (.slice Ak m ck)∧w3.cell? ⟨b1,o1+k,none⟩=some (.int .i64 y) from ⟨keep3 hbw hlt0 kY.out,hd,hd1⟩);have x1:w.heap.size<w3.heap.size:=Nat.lt_of_lt_of_le hlt0 hbw.size;have x2:b<w3.heap.size:=Nat.lt_of_lt_of_le hb hB3.size;have x3:b1<w3.heap.size:=Nat.lt_of_lt_of_le hb1 hB3.size;clear hgk hst hz hc hc1;go_wp2_with (fail);clear hd hd1;refine wp_region_held_drew (S:=fun w'=>(w'.cell? ⟨w.heap.size,0,none⟩=some (.int .i64 D.p)∧w'.cell? ⟨w.heap.size,1,none⟩=some (.int .i64 D.m)∧w'.cell? ⟨w.heap.size,2,none⟩=some (.slice A D.mod.length c))∧w'.cell? ⟨b,o+k,none⟩=some (.slice Ak m ck)∧w'.cell? ⟨b1,o1+k,none⟩=some (.int .i64 y)) (by kernel_rfl) (by (try dsimp only); exact kk.out) (fun hHeld=>?_);refine tk 0 ?_; try simp only[pS]
    refine tk 1 ?_; try simp only[pS]
    refine tk 2 ?_; try simp only[pS]
    refine tk 3 ?_; try simp only[pS]
    refine tk 4 ?_; try simp only[pS]
    refine tk 5 ?_; try simp only[pS]
    refine tk 6 ?_; try simp only[pS]
    refine tk 7 ?_; try simp only[pS]
    refine tk 8 ?_; try simp only[pS]
    refine tk 9 ?_; try simp only[pS]
    refine rd 10 fun K hK=>?_
    go_simp;go_at_call 99;(with_reducible refine (hA3).out.mono ?_);rintro e w4 ⟨g4,rfl,hg4,hib4,hb4⟩;rw[rowL_length];go_wp2_with (fail);refine hK.out _ _ (by (try dsimp only); exact⟨keep3 hb4 x1 kk.out.1,(hb4.cell (p:=⟨b,o+k,none⟩) x2).trans kk.out.2.1,(hb4.cell (p:=⟨b1,o1+k,none⟩) x3).trans kk.out.2.2⟩) (fun hHeld=>?_);clear hK K;try simp only[pS]
    refine tk 11 ?_; try simp only[pS]
    refine wpAnyH_done (by kernel_rfl) ?_ _;go_wp2_with (fail);go_roundw
    case rel=>exact⟨k+1,some ⟨g4,0,none⟩,m,by omega,by go_num,rfl,hib4.rd,(fun a e=>by cases e; exact Nat.le_trans (Nat.le_of_lt x1) hg4),Nat.le_refl _,by unfold maxLen; omega,hbw.drew.trans (hb4.mono hbw.size)⟩
    case measure=>simp[intOf]; omega
  ·obtain rfl:n=k:=by omega
   go_wp2_with (fail);go_ret;exact⟨Av,cv,rfl,hrv,hAv,hmc,hcv,hB3⟩

def msgF (q n v p:Nat):Nat:=v / q ^ (n - 1 - p) % q
def msgT (q n v t:Nat):List Int:=lst n fun p=>if n - t≤p then (msgF q n v p:Int) else 0
theorem msgT_set {q n v t:Nat} (ht:t<n):(msgT q n v t).set (n - 1 - t) ((v / q ^ t % q:Nat):Int)=msgT q n v (t+1):=by
 unfold msgT;rw[lst_set];refine lst_congr fun p hp=>?_
 by_cases e:p=n - 1 - t
 ·rw[if_pos e,if_pos (by omega),e];unfold msgF;rw[show n - 1 - (n - 1 - t)=t by omega]
 ·rw[if_neg e];by_cases h:n - t≤p
  ·rw[if_pos h,if_pos (by omega)]
  ·rw[if_neg h,if_neg (by omega)]
theorem msgT_full (D:Desc)(n v:Nat):msgT D.q n v n=rowL D n (fun p=>eli D (msgF D.q n v p:Nat)):=by
 unfold msgT rowL;refine lst_congr fun p _=>?_
 rw[if_pos (by omega)];have hq:=D.q2;have h:msgF D.q n v p<D.q:=Nat.mod_lt _ (by omega);rw[ci_eli_in ⟨by omega,by omega⟩]
def atF {D:Desc} (n:Nat)(M:Nat→Nat→R D)(v:Nat):Nat→R D:=cmb n (fun p=>eli D (msgF D.q n v p:Nat)) M
set_option maxRecDepth 100000 in
set_option maxHeartbeats 2000000 in
theorem At12_any (D:Desc)(n m v:Nat)(M:Nat→Nat→R D)(A Ar:Option Addr)(c cr:Nat)(w:World)(hr:Rd w w.heap.size A (modL D))(hrm:RdM w w.heap.size Ar n (rowsL D m M))(hn:n≤1000)(hm:m≤70000)(hv:v≤1000000) :
  Calls Tryz.prog 48 #[.agg #[.int .i64 D.p,.int .i64 D.m,.slice A D.mod.length c,.int .i64 m,.slice Ar n cr],.int .i64 v] w fun e w'=>∃ A2 c2,e=.returned (.slice A2 m c2)∧Rd w' w'.heap.size A2 (rowL D m (atF n M v))∧(∀ a,A2=some a→w.heap.size≤a.block)∧m≤c2∧c2≤maxLen∧Below w.heap.size w w':=by
 have hq2:=D.q2; have hq3:=D.q256; have hp1:=D.p256; have hp2:=D.m8;have hO:=fun W=>Order_any D.p D.m A D.mod.length c W (by omega) (by omega)
 rw[qOf_D]at hO;have hCo:=fun g A1 c1 W a b d=>Combine9_any D n m g M A A1 Ar c c1 cr W a b d hn hm
 have hmk:=mk_ints n (by omega);obtain⟨q,hq⟩:∃ q,q=D.q:=⟨_,rfl⟩;rw[←hq]at hO hq2 hq3;replace hO:=fun W=>Lib.hid (hO W)
 replace hCo:=fun g A1 c1 W a b d=>Lib.hid (hCo g A1 c1 W a b d)
 replace hq:=Lib.hid hq;have hqz:¬ (q:Int)=0:=by omega
 obtain⟨Z,hZ⟩:∃ Z,Z=w.alloc (.cells #[.int .i64 D.p,.int .i64 D.m,.slice A D.mod.length c,.int .i64 m,.slice Ar n cr] 27):=⟨_,rfl⟩;have hB:Below w.heap.size w Z:=by rw[hZ]; exact (Below.refl _ _).alloc (Nat.le_refl _) _
 have hZs:w.heap.size<Z.heap.size:=by rw[hZ]; simp
 have f5:=Five.new w (.int .i64 D.p) (.int .i64 D.m) (.slice A D.mod.length c) (.int .i64 m) (.slice Ar n cr) 27;have f5H:Hid (Five Z w.heap.size (.int .i64 D.p) (.int .i64 D.m) (.slice A D.mod.length c) (.int .i64 m) (.slice Ar n cr)):=by rw[hZ]; exact f5
 replace hZ:=Lib.hid hZ;go_enter Tryz.func48,Tryz.ntmps48;obtain⟨a0,a1,a2,a3,a4,-⟩:=f5;go_wp2_with (fail);rw[←hZ.out];(with_reducible refine (hO _).out.mono ?_);rintro e w1 ⟨rfl,hb1⟩;have hB1:=hB.trans (hb1.mono hB.size);have hs1:w.heap.size<w1.heap.size:=Nat.lt_of_lt_of_le hZs hb1.size;have f51:=f5H.out.keep hb1 hZs;have f51H:=Lib.hid f51;clear a0 a1 a2 a3 a4;obtain⟨a0,a1,a2,a3,a4,-⟩:=f51;obtain⟨g,hg⟩:∃ g,g=w1.heap.size:=⟨_,rfl⟩;obtain⟨Y,hY⟩:∃ Y,Y=w1.alloc (.cells (Array.replicate n (Value.int .i64 0)) 3):=⟨_,rfl⟩;have hbY:Below w1.heap.size w1 Y:=by rw[hY]; exact (Below.refl _ _).alloc (Nat.le_refl _) _
 have hib0:IB Y g (msgT q n v 0):=by
  rw[show msgT q n v 0=List.replicate n 0 from by unfold msgT; rw[lst_zero]; exact lst_congr fun p hp=>if_neg (by omega),hY,hg]; exact IB.newz w1 n
 have hYs:g<Y.heap.size:=by rw[hY,hg]; simp
 have hgH:=Lib.hid hg;replace hY:=Lib.hid hY;clear hg;go_wp2_with (fail);rw[←hY.out,←hgH.out];clear a0 a1 a2 a3 a4;go_loopw [7,1] (fun iS vS wr=>∃ t z:Nat,t≤n∧iS=.int .i64 ((n:Int) - 1 - (t:Int))∧vS=.int .i64 z∧z≤1000000∧Hid (z=v / q ^ t)∧IB wr g (msgT q n v t)∧Below w1.heap.size w1 wr∧g<wr.heap.size) (fun iS _ _=>(intOf iS+1).toNat)
 case atStart=>exact⟨0,v,by omega,by go_num,rfl,hv,by unfold Hid; rw[Nat.pow_zero,Nat.div_one],hib0,hbY,hYs⟩
 case round =>
  obtain⟨t,z,ht,rfl,rfl,hz6,hz,hib,hbw,hgl⟩:=hrel;obtain⟨w3,rfl⟩:∃ w3:World,w3=wr:=⟨_,rfl⟩;by_cases hlt:t<n
  ·obtain⟨x,hx⟩:∃ x:Nat,x=n - 1 - t:=⟨_,rfl⟩;have hxe:(n:Int) - 1 - (t:Int)=(x:Int):=by omega
   rw[hxe];have hset:=hib.set_ x ((z % q:Nat):Int);have hzq:z % q=v / q ^ t % q:=by rw[hz.out]
   rw[show (msgT q n v t).set x ((z % q:Nat):Int)=msgT q n v (t+1) from by rw[hzq,hx]; exact msgT_set hlt]at hset;have hfz:=hib.frozen x;have hcl:=hib.cell (i:=x) (by unfold msgT; rw[lst_length]; omega);have hzn:Hid (z / q=v / q ^ (t+1)):=by unfold Hid; rw[hz.out,Nat.div_div_eq_div_mul,Nat.pow_succ]
   have hm1:((z:Int) % (q:Int))=((z % q:Nat):Int):=by push_cast; rfl
   have hm2:((z:Int) / (q:Int))=((z / q:Nat):Int):=by push_cast; rfl
   have hd6:z / q≤1000000:=Nat.le_trans (Nat.div_le_self _ _) hz6;have hx0:(0:Int)≤(x:Int):=by omega
   have hx1:(x:Int)<(n:Int):=by omega
   have hsB:=Lib.hid (hbw.setCell (p:=⟨g,x,none⟩) (Nat.le_of_eq hgH.out.symm) (.int .i64 ((z % q:Nat):Int)));have hsz:Hid (g<(w3.setCell ⟨g,x,none⟩ (.int .i64 ((z % q:Nat):Int))).heap.size):=by unfold Hid; simp[World.setCell]; exact hgl
   replace hset:=Lib.hid hset;have hxn:Hid ((x:Int) - 1=(n:Int) - 1 - ((t+1:Nat):Int)):=by unfold Hid; omega
   have hxt:Hid (x+t+1=n):=by unfold Hid; omega
   clear hx hxe hzq;obtain⟨r,hr9⟩:∃ r,r=z % q:=⟨_,rfl⟩;obtain⟨d,hd9⟩:∃ d,d=z / q:=⟨_,rfl⟩;rw[←hr9]at hset hm1 hsB hsz;rw[←hd9]at hm2 hd6 hzn;replace hr9:=Lib.hid hr9;replace hd9:=Lib.hid hd9;go_wp2_with (fail);go_roundw
   case rel=>exact⟨t+1,d,by omega,by rw[←hxn.out],rfl,hd6,hzn,hset.out,hsB.out,hsz.out⟩
   case measure=>simp[intOf]
  ·obtain rfl:n=t:=by omega
   rw[show (n:Int) - 1 - (n:Int)=-1 by omega];have hful:=msgT_full D n v;rw[←hq.out]at hful;rw[hful]at hib;have hB3:=hB1.trans (hbw.mono hB1.size);obtain⟨a0,a1,a2,a3,a4,-⟩:=f51H.out.keep hbw hs1;have hC3:=hCo (fun p=>eli D (msgF q n v p:Nat)) (some ⟨g,0,none⟩) n w3 ((hr.below hB3).more hB3.size) hib.rd ((hrm.below hB3).more hB3.size);rw[hq.out]at hC3;replace hful:=Lib.hid hful;clear hib hCo;go_wp2_with (fail);(with_reducible refine hC3.out.mono ?_);rintro e w4 ⟨A2,c2,rfl,hr4,hA2,hmc,hcm,hb4⟩;go_wp2_with (fail);go_ret;exact⟨A2,c2,rfl,hr4,fun a e=>Nat.le_trans hB3.size (hA2 a e),hmc,hcm,hB3.trans (hb4.mono hB3.size)⟩
end
section
open Go.RowKit Cw
attribute [local go_sem] Oper.semAt_some

def ofF {D:Desc} (n:Nat)(M:Nat→Nat→R D)(msg:List Int):Nat→R D:=cmb n (fun i=>eli D (msg[i]?.getD 0)) M
def ofT (D:Desc)(n:Nat)(msg:List Int)(t:Nat):List Int:=lst n fun p=>if p<t then ci (eli D (msg[p]?.getD 0)) else 0
theorem ofT_set {D:Desc} {n t:Nat} (msg:List Int):(ofT D n msg t).set t (ci (eli D (msg[t]?.getD 0)))=ofT D n msg (t+1):=by
 unfold ofT;rw[lst_set];refine lst_congr fun p _=>?_
 by_cases e:p=t
 ·rw[if_pos e,if_pos (by omega),e]
 ·rw[if_neg e];by_cases h:p<t
  ·rw[if_pos h,if_pos (by omega)]
  ·rw[if_neg h,if_neg (by omega)]
theorem ofT_full {D:Desc} {n t:Nat} {msg:List Int} (ht:n≤t∨msg.length≤t):ofT D n msg t=rowL D n (fun i=>eli D (msg[i]?.getD 0)):=by
 unfold ofT rowL;refine lst_congr fun p hp=>?_
 by_cases h:p<t
 ·rw[if_pos h]
 ·rw[if_neg h]
  show 0=ci (eli D (msg[p]?.getD 0))
  rw[List.getElem?_eq_none (by omega),Option.getD_none,eli_zero,ci_zero]
set_option maxRecDepth 100000 in
set_option maxHeartbeats 2000000 in
theorem Of14_any (D:Desc)(n m:Nat)(M:Nat→Nat→R D)(msg:List Int)(A Ar A1:Option Addr)(c cr c1:Nat)(w:World)(hr:Rd w w.heap.size A (modL D))(hrm:RdM w w.heap.size Ar n (rowsL D m M))(hr1:Rd w w.heap.size A1 msg)(hl1:msg.length≤maxLen)(hn:n≤1000)(hm:m≤70000) :
  Calls Tryz.prog 13 #[.agg #[.int .i64 D.p,.int .i64 D.m,.slice A D.mod.length c,.int .i64 m,.slice Ar n cr],.slice A1 msg.length c1] w fun e w'=>∃ A2 c2,e=.returned (.slice A2 m c2)∧Rd w' w'.heap.size A2 (rowL D m (ofF n M msg))∧(∀ a,A2=some a→w.heap.size≤a.block)∧m≤c2∧c2≤maxLen∧Below w.heap.size w w':=by
 unfold maxLen at hl1;have hI:=fun x W=>In_any D x A D.mod.length c W
 have hCo:=fun g A1 c1 W a b d=>Combine9_any D n m g M A A1 Ar c c1 cr W a b d hn hm
 have hmk:=mk_ints n (by omega);replace hCo:=fun g A1 c1 W a b d=>Lib.hid (hCo g A1 c1 W a b d)
 obtain⟨Z,hZ⟩:∃ Z,Z=w.alloc (.cells #[.int .i64 D.p,.int .i64 D.m,.slice A D.mod.length c,.int .i64 m,.slice Ar n cr] 27):=⟨_,rfl⟩;have hB:Below w.heap.size w Z:=by rw[hZ]; exact (Below.refl _ _).alloc (Nat.le_refl _) _
 have f5:Five Z w.heap.size (.int .i64 D.p) (.int .i64 D.m) (.slice A D.mod.length c) (.int .i64 m) (.slice Ar n cr):=by rw[hZ]; exact Five.new w (.int .i64 D.p) (.int .i64 D.m) (.slice A D.mod.length c) (.int .i64 m) (.slice Ar n cr) 27
 have hZe:Z.heap.size=w.heap.size+1:=by rw[hZ]; simp
 obtain⟨g,hg⟩:∃ g,g=w.heap.size+1:=⟨_,rfl⟩;obtain⟨Y,hY⟩:∃ Y,Y=Z.alloc (.cells (Array.replicate n (Value.int .i64 0)) 3):=⟨_,rfl⟩;have hbY:Below Z.heap.size Z Y:=by rw[hY]; exact (Below.refl _ _).alloc (Nat.le_refl _) _
 have hBY:=hB.trans (hbY.mono hB.size);have hib0:IB Y g (ofT D n msg 0):=by
  rw[show ofT D n msg 0=List.replicate n 0 from by unfold ofT; rw[lst_zero]; exact lst_congr fun p hp=>if_neg (by omega),hY,hg,←hZe]; exact IB.newz Z n
 have hYs:g<Y.heap.size:=by rw[hY,hg,World.size_alloc,hZe]; omega
 have hlt0:w.heap.size<Y.heap.size:=by omega
 have f5Y:=Lib.hid (f5.keep hbY (by omega));have hgH:=Lib.hid hg;rw[hZ]at hY;replace hZ:=Lib.hid hZ;replace hY:=Lib.hid hY;replace hZe:=Lib.hid hZe;clear hg;go_enter Tryz.func13,Tryz.ntmps13;go_wp2_with (fail);rw[←hY.out,←hgH.out];go_loopw [6] (fun iS wr=>∃ t:Nat,t≤n∧t≤msg.length∧iS=.int .i64 t∧IB wr g (ofT D n msg t)∧Below w.heap.size w wr∧Hid (Five wr w.heap.size (.int .i64 D.p) (.int .i64 D.m) (.slice A D.mod.length c) (.int .i64 m) (.slice Ar n cr))∧g<wr.heap.size) (fun iS _=>n - (intOf iS).toNat)
 case atStart=>exact⟨0,by omega,by omega,rfl,hib0,hBY,f5Y,hYs⟩
 case round =>
  obtain⟨t,ht,htm,rfl,hib,hB3,f53,hgl⟩:=hrel;obtain⟨w3,rfl⟩:∃ w3:World,w3=wr:=⟨_,rfl⟩;have hlt3:w.heap.size<w3.heap.size:=by have:=hgH.out; omega
  by_cases hlt:t<n∧t<msg.length
  ·obtain⟨hlt1,hlt2⟩:=hlt;have hk0:(0:Int)≤(t:Int):=by omega
   have hk1:(t:Int)<(n:Int):=by omega
   have hk2:(t:Int)<(msg.length:Int):=by omega
   obtain⟨b1,o1,rfl,hb1,hc1⟩:=hr1.at_ hlt2;have hd1:=(hB3.cell (p:=⟨b1,o1+t,none⟩) hb1).trans hc1;have hset:=hib.set_ t (ci (eli D (msg[t]?.getD 0)));rw[ofT_set]at hset;have hfz:=hib.frozen t;have hcl:=hib.cell (i:=t) (by unfold ofT; rw[lst_length]; omega);have hI3:=hI (msg[t]?.getD 0) w3.drew;generalize hv9:ci (eli D (msg[t]?.getD 0))=v9 at *;generalize hy9:msg[t]?.getD 0=y at *;replace hI3:=Lib.hid hI3;replace hv9:=Lib.hid hv9;replace hy9:=Lib.hid hy9;have kk:=Lib.hid (show (w3.cell? ⟨w.heap.size,0,none⟩=some (.int .i64 D.p)∧w3.cell? ⟨w.heap.size,1,none⟩=some (.int .i64 D.m)∧w3.cell? ⟨w.heap.size,2,none⟩=some (.slice A D.mod.length c))∧w3.cell? ⟨b1,o1+t,none⟩=some (.int .i64 y) from ⟨⟨f53.out.1,f53.out.2.1,f53.out.2.2.1⟩,hd1⟩);have x3:b1<w3.heap.size:=Nat.lt_of_lt_of_le hb1 hB3.size;have hgw:w.heap.size<g:=by have:=hgH.out; omega
   have hbg:b1≠g:=by omega
   have hwg:w.heap.size≠g:=by omega
   clear hc1 hset;go_wp2_with (fail);clear hd1 hfz hcl;refine wp_region_held_drew (S:=fun w'=>(w'.cell? ⟨w.heap.size,0,none⟩=some (.int .i64 D.p)∧w'.cell? ⟨w.heap.size,1,none⟩=some (.int .i64 D.m)∧w'.cell? ⟨w.heap.size,2,none⟩=some (.slice A D.mod.length c))∧w'.cell? ⟨b1,o1+t,none⟩=some (.int .i64 y)) (by kernel_rfl) (by (try dsimp only); exact kk.out) (fun hHeld=>?_);refine tk 0 ?_; try simp only[pS]
   refine tk 1 ?_; try simp only[pS]
   refine tk 2 ?_; try simp only[pS]
   refine tk 3 ?_; try simp only[pS]
   refine tk 4 ?_; try simp only[pS]
   refine tk 5 ?_; try simp only[pS]
   refine tk 6 ?_; try simp only[pS]
   refine tk 7 ?_; try simp only[pS]
   refine rd 8 fun K hK=>?_
   go_simp;go_at_call 49;(with_reducible refine (hI3).out.mono ?_);rintro e w4 ⟨rfl,hb4⟩;have hib4:=(show IB w3.drew g _ from hib).below hb4 hgl;have kk4:=Lib.hid (show (w4.cell? ⟨w.heap.size,0,none⟩=some (.int .i64 D.p)∧w4.cell? ⟨w.heap.size,1,none⟩=some (.int .i64 D.m)∧w4.cell? ⟨w.heap.size,2,none⟩=some (.slice A D.mod.length c))∧w4.cell? ⟨b1,o1+t,none⟩=some (.int .i64 y) from ⟨keep3 hb4 hlt3 kk.out.1,(hb4.cell (p:=⟨b1,o1+t,none⟩) x3).trans kk.out.2⟩);have hfz:=hib4.frozen t;have hcl:=hib4.cell (i:=t) (by unfold ofT; rw[lst_length]; omega);have f54:=Lib.hid ((show Five w3.drew w.heap.size _ _ _ _ _ from f53.out).keep hb4 hlt3);have hs4:w3.heap.size≤w4.heap.size:=hb4.size;go_wp2_with (fail);refine hK.out _ _ (by (try dsimp only); exact kk4.out) (fun hHeld=>?_);clear hK K;try simp only[pS]
   refine tk 9 ?_; try simp only[pS]
   refine rd 10 fun K hK=>?_
   go_simp;have kk5:=Lib.hid (show ((w4.setCell ⟨g,t,none⟩ (.int .i64 v9)).cell? ⟨w.heap.size,0,none⟩=some (.int .i64 D.p)∧(w4.setCell ⟨g,t,none⟩ (.int .i64 v9)).cell? ⟨w.heap.size,1,none⟩=some (.int .i64 D.m)∧(w4.setCell ⟨g,t,none⟩ (.int .i64 v9)).cell? ⟨w.heap.size,2,none⟩=some (.slice A D.mod.length c))∧(w4.setCell ⟨g,t,none⟩ (.int .i64 v9)).cell? ⟨b1,o1+t,none⟩=some (.int .i64 y) from ⟨⟨(World.cell?_setCell_far _ _ _ _ (Ne.symm hwg)).trans kk4.out.1.1,(World.cell?_setCell_far _ _ _ _ (Ne.symm hwg)).trans kk4.out.1.2.1,(World.cell?_setCell_far _ _ _ _ (Ne.symm hwg)).trans kk4.out.1.2.2⟩,(World.cell?_setCell_far _ _ _ _ (Ne.symm hbg)).trans kk4.out.2⟩);refine hK.out _ _ (by (try dsimp only); exact kk5.out) (fun hHeld=>?_);clear hK K;try simp only[pS]
   refine wpAnyH_done (by kernel_rfl) ?_ _;have hset:=hib4.set_ t v9;rw[←hv9.out,←hy9.out,ofT_set,hy9.out,hv9.out]at hset;have hBf:=Lib.hid ((hB3.drew.trans (hb4.mono hB3.size)).setCell (p:=⟨g,t,none⟩) (Nat.le_of_lt hgw) (.int .i64 v9));have f55:=Lib.hid (f54.out.keep ((Below.refl g w4).setCell (p:=⟨g,t,none⟩) (Nat.le_refl _) (.int .i64 v9)) hgw);have hsz:Hid (g<(w4.setCell ⟨g,t,none⟩ (.int .i64 v9)).heap.size):=by unfold Hid; simp[World.setCell]; omega
   replace hset:=Lib.hid hset;clear hfz hcl;go_wp2_with (fail);go_roundw
   case rel=>exact⟨t+1,by omega,by omega,by go_num,hset.out,hBf.out,f55,hsz.out⟩
   case measure=>simp[intOf]; omega
  ·have hful:=ofT_full (D:=D) (n:=n) (t:=t) (msg:=msg) (by omega);rw[hful]at hib;obtain⟨a0,a1,a2,a3,a4,-⟩:=f53.out;have hC3:=hCo (fun i=>eli D (msg[i]?.getD 0)) (some ⟨g,0,none⟩) n w3 ((hr.below hB3).more hB3.size) hib.rd ((hrm.below hB3).more hB3.size);replace hful:=Lib.hid hful;clear hib hCo;by_cases h1:t<n
   ·have h2:¬ t<msg.length:=fun h=>hlt ⟨h1,h⟩
    have h1':(t:Int)<(n:Int):=by omega
    have h2':¬ (t:Int)<(msg.length:Int):=by omega
    clear hlt;go_wp2_with (fail);(with_reducible refine hC3.out.mono ?_);rintro e w4 ⟨A2,c2,rfl,hr4,hA2,hmc,hcm,hb4⟩;go_wp2_with (fail);go_ret;exact⟨A2,c2,rfl,hr4,fun a e=>Nat.le_trans hB3.size (hA2 a e),hmc,hcm,hB3.trans (hb4.mono hB3.size)⟩
   ·have h1':¬ (t:Int)<(n:Int):=by omega
    have hd:decide ((t:Int)<(n:Int))=false:=decide_eq_false h1';have hd2:decide (t<n)=false:=decide_eq_false h1;clear hlt;go_wp2_with (fail);(with_reducible refine hC3.out.mono ?_);rintro e w4 ⟨A2,c2,rfl,hr4,hA2,hmc,hcm,hb4⟩;go_wp2_with (fail);go_ret;exact⟨A2,c2,rfl,hr4,fun a e=>Nat.le_trans hB3.size (hA2 a e),hmc,hcm,hB3.trans (hb4.mono hB3.size)⟩

def wtN (l:List Int):Nat→Nat
 | 0=>0
 | k+1=>wtN l k+if l[k]?.getD 0=0 then 0 else 1
theorem wtN_le (l:List Int):∀ k,wtN l k≤k
 | 0=>Nat.le_refl _
 | k+1=>by
  have:=wtN_le l k
  show wtN l k+(if l[k]?.getD 0=0 then 0 else 1)≤k+1
  split <;> omega
def wtI (l:List Int):Nat:=wtN l l.length
set_option maxHeartbeats 1000000 in
theorem Weight14_any (l:List Int)(A:Option Addr)(c:Nat)(w:World)(hr:Rd w w.heap.size A l)(hl:l.length≤1000000) :
  Calls Tryz.prog 15 #[.slice A l.length c] w fun e w'=>e=.returned (.int .i64 (wtI l))∧w'=w:=by
 obtain⟨V,hV⟩:∃ V,V=wtI l:=⟨_,rfl⟩;rw[←hV];replace hV:=Lib.hid hV;go_enter Tryz.func15,Tryz.ntmps15;go_wp2_with (fail);go_loop [4,3] (fun iS oS=>∃ k x:Nat,k≤l.length∧iS=.int .i64 k∧oS=.int .i64 x∧x≤k∧Hid (x=wtN l k)) (fun iS _=>l.length - (intOf iS).toNat)
 case atStart=>exact⟨0,0,by omega,rfl,rfl,by omega,by unfold Hid; rfl⟩
 case round =>
  obtain⟨k,x,hk,rfl,rfl,hxk,hx⟩:=hrel;by_cases hlt:k<l.length
  ·obtain⟨b,o,rfl,-,hc⟩:=hr.at_ hlt;have hn:Hid (wtN l (k+1)=x+if l[k]?.getD 0=0 then 0 else 1):=by unfold Hid; rw[hx.out]; rfl
   by_cases hz:l[k]?.getD 0=0
   ·have hn2:Hid (x=wtN l (k+1)):=by unfold Hid; rw[hn.out,if_pos hz,Nat.add_zero]
    have hzb:(l[k]?.getD 0 !=0)=false:=by rw[bne_eq_false_iff_eq]; exact hz
    generalize l[k]?.getD 0=y at *;clear hn hz;go_wp2_with (fail);go_round
    case rel=>exact⟨k+1,x,by omega,by go_num,rfl,by omega,hn2⟩
    case measure=>simp[intOf]; omega
   ·have hn2:Hid (x+1=wtN l (k+1)):=by unfold Hid; rw[hn.out,if_neg hz]
    have hzb:(l[k]?.getD 0 !=0)=true:=by rw[bne_iff_ne]; exact hz
    generalize l[k]?.getD 0=y at *;clear hn hz;go_wp2_with (fail);go_round
    case rel=>exact⟨k+1,x+1,by omega,by go_num,by go_num,by omega,hn2⟩
    case measure=>simp[intOf]; omega
  ·obtain rfl:l.length=k:=by omega
   have hV2:Hid (V=x):=by unfold Hid; rw[hV.out,hx.out]; rfl
   go_wp2_with (fail);go_ret;exact⟨by rw[hV2.out]; rfl,rfl⟩
end
section
open Go.RowKit Cw
attribute [local go_sem] Oper.semAt_some

theorem at_vc {P M N:Int} {ml:List Int} {n:Nat} {rows:Nat→List Int} {F:FD} {m:Nat} {B:Nat→Nat→R F.toDesc} (hv:VC P M N ml n rows F m B)(A Ar:Option Addr)(c cr v:Nat)(w:World)(hr:Rd w w.heap.size A ml)(hrm:RdM w w.heap.size Ar n rows)(hv6:v≤1000000) :
  Calls Tryz.prog 48 #[.agg #[.int .i64 P,.int .i64 M,.slice A ml.length c,.int .i64 N,.slice Ar n cr],.int .i64 v] w fun e w'=>∃ A2 c2,e=.returned (.slice A2 m c2)∧Rd w' w'.heap.size A2 (rowL F.toDesc m (atF n B v))∧Below w.heap.size w w':=by
 have eP:=hv.hP; have eM:=hv.hM; have eL:=hv.hl; have eN:=hv.hN;have h1:=hv.le; have h2:=hv.m64;have hrm2:=hrm.congr hv.hr;clear hv hrm;subst eP eM eL eN;rw[modL_length];refine (At12_any F.toDesc n m v B A Ar c cr w hr hrm2 (by omega) (by omega) hv6).mono ?_;rintro e w' ⟨A2,c2,rfl,h3,-,-,-,h4⟩;exact⟨A2,c2,rfl,h3,h4⟩
theorem of_vc {P M N:Int} {ml:List Int} {n:Nat} {rows:Nat→List Int} {F:FD} {m:Nat} {B:Nat→Nat→R F.toDesc} (hv:VC P M N ml n rows F m B)(msg:List Int)(A Ar A1:Option Addr)(c cr c1:Nat)(w:World)(hr:Rd w w.heap.size A ml)(hrm:RdM w w.heap.size Ar n rows)(hr1:Rd w w.heap.size A1 msg)(hl1:msg.length≤maxLen) :
  Calls Tryz.prog 13 #[.agg #[.int .i64 P,.int .i64 M,.slice A ml.length c,.int .i64 N,.slice Ar n cr],.slice A1 msg.length c1] w fun e w'=>∃ A2 c2,e=.returned (.slice A2 m c2)∧Rd w' w'.heap.size A2 (rowL F.toDesc m (ofF n B msg))∧(∀ a,A2=some a→w.heap.size≤a.block)∧m≤c2∧c2≤maxLen∧Below w.heap.size w w':=by
 have eP:=hv.hP; have eM:=hv.hM; have eL:=hv.hl; have eN:=hv.hN;have h1:=hv.le; have h2:=hv.m64;have hrm2:=hrm.congr hv.hr;clear hv hrm;subst eP eM eL eN;rw[modL_length];exact Of14_any F.toDesc n m B msg A Ar A1 c cr c1 w hr hrm2 hr1 hl1 (by omega) (by omega)

def dmin (f:Nat→Nat):Nat→Nat
 | 0=>0
 | k+1=>if dmin f k=0∨f (k+1)<dmin f k then f (k+1) else dmin f k
theorem dmin_le {f:Nat→Nat} {B:Nat} (h:∀ i,f i≤B):∀ k,dmin f k≤B
 | 0=>Nat.zero_le _
 | k+1=>by
  show (if dmin f k=0∨f (k+1)<dmin f k then f (k+1) else dmin f k)≤B
  split
  ·exact h _
  ·exact dmin_le h k
def wtAt {D:Desc} (n m:Nat)(M:Nat→Nat→R D)(i:Nat):Nat:=wtI (rowL D m (atF n M i))
theorem wtAt_le {D:Desc} (n m:Nat)(M:Nat→Nat→R D)(i:Nat):wtAt n m M i≤m:=by
 unfold wtAt wtI;have:=wtN_le (rowL D m (atF n M i)) (rowL D m (atF n M i)).length;rw[rowL_length]at this ⊢;exact this
theorem cnV_pos {E:Int} {q n:Nat} {most:Int} (h:cnV E q n most≠0):E=0∧q ^ n≤65536∧((q ^ n:Nat):Int)≤most∧cnV E q n most=((q ^ n:Nat):Int):=by
 unfold cnV at h ⊢;by_cases hc:E=0∧q ^ n≤65536∧((q ^ n:Nat):Int)≤most
 ·rw[if_pos hc]; exact⟨hc.1,hc.2.1,hc.2.2,rfl⟩
 ·rw[if_neg hc]at h; exact absurd rfl h
set_option maxHeartbeats 1000000 in
theorem Dist_no (Pa Ma Na:Int)(mla:List Int)(na:Nat)(rowsa:Nat→List Int)(Aa Ra:Option Addr)(ca ka:Nat)(most:Int)(w:World)(hPa:I64 Pa)(hMa:I64 Ma)(hla:mla.length≤maxLen)(hna:na≤64)(hka:∀ i,i<na→(rowsa i).length≤4200)(hra:Rd w w.heap.size Aa mla)(hma:RdM w w.heap.size Ra na rowsa)(hmo:I64 most)(h0:cnV (cErr Pa Ma Na mla na rowsa) (qOf Pa Ma) na most=0) :
  Calls Tryz.prog 12 #[.agg #[.int .i64 Pa,.int .i64 Ma,.slice Aa mla.length ca,.int .i64 Na,.slice Ra na ka],.int .i64 most] w fun e w'=>e=.returned (.int .i64 (-1))∧Below w.heap.size w w':=by
 obtain⟨Z,hZ⟩:∃ Z,Z=w.alloc (.cells #[.int .i64 Pa,.int .i64 Ma,.slice Aa mla.length ca,.int .i64 Na,.slice Ra na ka] 27):=⟨_,rfl⟩;have hB:Below w.heap.size w Z:=by rw[hZ]; exact (Below.refl _ _).alloc (Nat.le_refl _) _
 have hC:=Count12_any Pa Ma Na mla na rowsa Aa Ra ca ka most Z hPa hMa hla hna hka ((hra.below hB).more hB.size) ((hma.below hB).more hB.size) hmo;rw[h0]at hC;replace hC:=Lib.hid hC;replace hZ:=Lib.hid hZ;replace h0:=Lib.hid h0;clear hka;go_enter Tryz.func12,Tryz.ntmps12;go_wp2_with (fail);rw[←hZ.out];(with_reducible refine hC.out.mono ?_);rintro e w1 ⟨rfl,hb1⟩;go_wp2_with (fail);go_ret;exact⟨rfl,hB.trans (hb1.mono hB.size)⟩
set_option maxHeartbeats 2000000 in
theorem Dist_ok (Pa Ma Na:Int)(mla:List Int)(na:Nat)(rowsa:Nat→List Int)(Aa Ra:Option Addr)(ca ka:Nat)(most:Int)(w:World)(hPa:I64 Pa)(hMa:I64 Ma)(hla:mla.length≤maxLen)(hna:na≤64)(hka:∀ i,i<na→(rowsa i).length≤4200)(hra:Rd w w.heap.size Aa mla)(hma:RdM w w.heap.size Ra na rowsa)(hmo:I64 most){F:FD} {m:Nat} {M1:Nat→Nat→R F.toDesc} (va:VC Pa Ma Na mla na rowsa F m M1)(NN:Nat)(hNN:NN=F.q ^ na)(h0:cnV (cErr Pa Ma Na mla na rowsa) (qOf Pa Ma) na most=(NN:Int))(hN6:NN≤65536) :
  Calls Tryz.prog 12 #[.agg #[.int .i64 Pa,.int .i64 Ma,.slice Aa mla.length ca,.int .i64 Na,.slice Ra na ka],.int .i64 most] w fun e w'=>e=.returned (.int .i64 (dmin (wtAt na m M1) (NN - 1):Nat))∧Below w.heap.size w w':=by
 have hm64:=va.m64;obtain⟨f,hf⟩:∃ f,f=wtAt na m M1:=⟨_,rfl⟩;have hfB:∀ i,f i≤64:=fun i=>by rw[hf]; exact Nat.le_trans (wtAt_le na m M1 i) hm64
 have hdB:=fun k=>Lib.hid (dmin_le hfB k)
 replace hfB:=fun i=>Lib.hid (hfB i)
 have hNp:1≤NN:=by rw[hNN]; exact Nat.pow_pos (by have:=F.q2; omega)
 have hAt:=fun v W g1 g2 h6=>Lib.hid (at_vc va Aa Ra ca ka v W g1 g2 h6)
 have hWt:=fun v A c W g=>Weight14_any (rowL F.toDesc m (atF na M1 v)) A c W g (by rw[rowL_length]; omega)
 simp only[rowL_length]at hWt;have hWf:∀ v,wtI (rowL F.toDesc m (atF na M1 v))=f v:=fun v=>by rw[hf]; rfl
 simp only[hWf]at hWt;replace hWt:=fun v A c W g=>Lib.hid (hWt v A c W g)
 rw[←hf];replace hf:=Lib.hid hf;replace hWf:=fun v=>Lib.hid (hWf v)
 obtain⟨Z,hZ⟩:∃ Z,Z=w.alloc (.cells #[.int .i64 Pa,.int .i64 Ma,.slice Aa mla.length ca,.int .i64 Na,.slice Ra na ka] 27):=⟨_,rfl⟩;have hB:Below w.heap.size w Z:=by rw[hZ]; exact (Below.refl _ _).alloc (Nat.le_refl _) _
 have hZs:w.heap.size<Z.heap.size:=by rw[hZ]; simp
 have f5:=Five.new w (.int .i64 Pa) (.int .i64 Ma) (.slice Aa mla.length ca) (.int .i64 Na) (.slice Ra na ka) 27;have f5H:Hid (Five Z w.heap.size (.int .i64 Pa) (.int .i64 Ma) (.slice Aa mla.length ca) (.int .i64 Na) (.slice Ra na ka)):=by rw[hZ]; exact f5
 have hC:=Count12_any Pa Ma Na mla na rowsa Aa Ra ca ka most Z hPa hMa hla hna hka ((hra.below hB).more hB.size) ((hma.below hB).more hB.size) hmo;rw[h0]at hC;replace hC:=Lib.hid hC;replace hZ:=Lib.hid hZ;replace h0:=Lib.hid h0;replace hNN:=Lib.hid hNN;have hNz:((NN:Int)==0)=false:=by rw[beq_eq_false_iff_ne]; omega
 clear hka va f5;go_enter Tryz.func12,Tryz.ntmps12;go_wp2_with (fail);rw[←hZ.out];(with_reducible refine hC.out.mono ?_);rintro e w1 ⟨rfl,hb1⟩;go_wp2_with (fail);go_loopw [7,6,8] (fun iS oS _ wr=>∃ t o:Nat,t<NN∧iS=.int .i64 ((t+1:Nat):Int)∧oS=.int .i64 o∧Hid (o=dmin f t)∧Below Z.heap.size Z wr) (fun iS _ _ _=>NN - (intOf iS).toNat)
 case atStart=>exact⟨0,0,by omega,rfl,rfl,by unfold Hid; rfl,hb1⟩
 case round =>
  obtain⟨t,o,ht,rfl,rfl,ho,hbw⟩:=hrel;obtain⟨w3,rfl⟩:∃ w3:World,w3=wr:=⟨_,rfl⟩;have hB3:=hB.trans (hbw.mono hB.size);have ho64:o≤64:=by rw[ho.out]; exact (hdB t).out
  by_cases hlt:t+1<NN
  ·have hk1:((t+1:Nat):Int)<(NN:Int):=by omega
   obtain⟨a0,a1,a2,a3,a4,-⟩:=f5H.out.keep hbw hZs;have hA3:=hAt (t+1) w3 ((hra.below hB3).more hB3.size) ((hma.below hB3).more hB3.size) (by omega);generalize hv9:((t+1:Nat):Int)=v9 at *;go_wp2_with (fail);(with_reducible refine hA3.out.mono ?_);rintro e w4 ⟨A2,c2,rfl,hr4,hb4⟩;have hW4:=(hWt (t+1) A2 c2 w4 hr4).out;have hfx:=(hfB (t+1)).out;obtain⟨x,hx⟩:∃ x,x=f (t+1):=⟨_,rfl⟩;rw[←hx]at hW4 hfx;replace hW4:=Lib.hid hW4;have hbF:=Lib.hid (hbw.trans (hb4.mono hbw.size));have hv10:v9≤65536:=by omega
   have hv11:0≤v9:=by omega
   have hnext:Hid (v9+1=((t+1+1:Nat):Int)):=by unfold Hid; omega
   have hst:Hid (dmin f (t+1)=if o=0∨x<o then x else o):=by unfold Hid; rw[ho.out,hx]; rfl
   replace hx:=Lib.hid hx;clear hA3 hr4;by_cases ho0:o=0
   ·have hob:((o:Int)==0)=true:=by rw[beq_iff_eq]; omega
    have hn2:Hid (x=dmin f (t+1)):=by unfold Hid; rw[hst.out,if_pos (.inl ho0)]
    replace ho0:=Lib.hid ho0;replace hv9:=Lib.hid hv9;go_wp2_with (fail);(with_reducible refine hW4.out.mono ?_);rintro e w5 ⟨rfl,rfl⟩;go_wp2_with (fail);go_roundw
    case rel=>exact⟨t+1,x,hlt,by rw[←hnext.out],rfl,hn2,hbF.out⟩
    case measure=>simp[intOf]; have:=hv9.out; omega
   ·have hob:((o:Int)==0)=false:=by rw[beq_eq_false_iff_ne]; omega
    by_cases hxo:x<o
    ·have hxo2:(x:Int)<(o:Int):=by omega
     have hn2:Hid (x=dmin f (t+1)):=by unfold Hid; rw[hst.out,if_pos (.inr hxo)]
     replace hv9:=Lib.hid hv9;go_wp2_with (fail);(with_reducible refine hW4.out.mono ?_);rintro e w5 ⟨rfl,rfl⟩;go_wp2_with (fail);go_roundw
     case rel=>exact⟨t+1,x,hlt,by rw[←hnext.out],rfl,hn2,hbF.out⟩
     case measure=>simp[intOf]; have:=hv9.out; omega
    ·have hxo2:¬ (x:Int)<(o:Int):=by omega
     have hn2:Hid (o=dmin f (t+1)):=by unfold Hid; rw[hst.out,if_neg (by omega)]
     replace hv9:=Lib.hid hv9;go_wp2_with (fail);(with_reducible refine hW4.out.mono ?_);rintro e w5 ⟨rfl,rfl⟩;go_wp2_with (fail);go_roundw
     case rel=>exact⟨t+1,o,hlt,by rw[←hnext.out],rfl,hn2,hbF.out⟩
     case measure=>simp[intOf]; have:=hv9.out; omega
  ·have hk1:¬ ((t+1:Nat):Int)<(NN:Int):=by omega
   have hfin:Hid ((o:Int)=((dmin f (NN - 1):Nat):Int)):=by unfold Hid; rw[ho.out,show NN - 1=t by omega]
   generalize hv9:((t+1:Nat):Int)=v9 at *;replace hv9:=Lib.hid hv9;go_wp2_with (fail);go_ret;exact⟨by rw[←hfin.out]; rfl,hB3⟩
end
end Go.Proofs.YtogfekjbpcfgmaaGreat

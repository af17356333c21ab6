/- The reference's codes: Check, List, Word, Has of a canonical code. -/
import Derived.Test.YtogfekjbpcfgmaaGreatZtXLA
import Derived.Test.YtogfekjbpcfgmaaGreatZtXHasB
import Derived.Test.YtogfekjbpcfgmaaGreatZtXRG
import Derived.Test.YtogfekjbpcfgmaaGreatZtXTk
namespace Go.Proofs.YtogfekjbpcfgmaaGreat
open Go.RowKit Cw
attribute [local go_sem] Oper.semAt_some

def Canl (F:FD)(n m:Nat)(M:Nat→Nat→R F.toDesc):Prop:=rkS F n m M=n∧∀ i,i<n→rowsL F.toDesc m (elS n M m).1 i=rowsL F.toDesc m M i
theorem elB_rowL (D:Desc)(m:Nat)(f:Nat→R D):elB D (rowL D m f)=true:=elB_iff.2 fun j hj=>by
 rw[rowL_length]at hj;rw[rowL_get D f hj];exact⟨ci_nonneg _,ci_lt _⟩

set_option maxHeartbeats 2000000 in
theorem Check9_ok (F:FD)(hgood:Good F.p F.m (modL F.toDesc))(n m:Nat)(M:Nat→Nat→R F.toDesc)(A Ar:Option Addr)(c cr:Nat)(w:World)(hr:Rd w w.heap.size A (modL F.toDesc))(hrm:RdM w w.heap.size Ar n (rowsL F.toDesc m M))(hn:n≤256)(hm:m≤256) :
  Calls Tryz.prog 158 #[.agg #[.int .i64 F.p,.int .i64 F.m,.slice A F.mod.length c],.agg #[.int .i64 m,.slice Ar n cr]] w fun e w'=>e=.returned (.int .i64 0)∧Below w.heap.size w w':=by
 have hp1:=F.p256; have hp2:=F.m8;have hml:(modL F.toDesc).length≤maxLen:=by have:=F.hlen; have:=F.m8; rw[modL_length,F.hlen]; unfold maxLen; split <;> omega
 have hC:=fun W a=>Check_any F.p F.m (modL F.toDesc) A c W (by omega) (by omega) hml a
 rw[chk_yes hgood,modL_length]at hC;replace hC:=fun W a=>Lib.hid (hC W a)
 have hE:=fun i A1 c1 W a=>Entries9_any F.toDesc (rowsL F.toDesc m M i) A A1 c c1 W a (by rw[rowsL,rowL_length]; omega)
 have hel:∀ i,elB F.toDesc (rowsL F.toDesc m M i)=true:=fun i=>elB_rowL _ _ _
 obtain⟨Z,hZ⟩:∃ Z,Z=(w.alloc (.cells #[.int .i64 F.p,.int .i64 F.m,.slice A F.mod.length c] 24)).alloc (.cells #[.int .i64 m,.slice Ar n cr] 120):=⟨_,rfl⟩;have hB:Below w.heap.size w Z:=by rw[hZ]; exact ((Below.refl _ _).alloc (Nat.le_refl _) _).alloc (by simp) _
 have hZs:w.heap.size+1<Z.heap.size:=by rw[hZ]; simp
 have kz:=Lib.hid (show (Z.cell? ⟨w.heap.size,0,none⟩=some (.int .i64 F.p)∧Z.cell? ⟨w.heap.size,1,none⟩=some (.int .i64 F.m)∧Z.cell? ⟨w.heap.size,2,none⟩=some (.slice A F.mod.length c))∧Z.cell? ⟨w.heap.size+1,0,none⟩=some (.int .i64 m)∧Z.cell? ⟨w.heap.size+1,1,none⟩=some (.slice Ar n cr) from by rw[hZ]; simp[go_sem]);replace hZ:=Lib.hid hZ;have kp:∀ {B:Nat} {W W':World},Below B W W'→w.heap.size+1<B→Hid ((W.cell? ⟨w.heap.size,0,none⟩=some (.int .i64 F.p)∧W.cell? ⟨w.heap.size,1,none⟩=some (.int .i64 F.m)∧W.cell? ⟨w.heap.size,2,none⟩=some (.slice A F.mod.length c))∧W.cell? ⟨w.heap.size+1,0,none⟩=some (.int .i64 m)∧W.cell? ⟨w.heap.size+1,1,none⟩=some (.slice Ar n cr)) →
   Hid ((W'.cell? ⟨w.heap.size,0,none⟩=some (.int .i64 F.p)∧W'.cell? ⟨w.heap.size,1,none⟩=some (.int .i64 F.m)∧W'.cell? ⟨w.heap.size,2,none⟩=some (.slice A F.mod.length c))∧W'.cell? ⟨w.heap.size+1,0,none⟩=some (.int .i64 m)∧W'.cell? ⟨w.heap.size+1,1,none⟩=some (.slice Ar n cr)):=fun {B W W'} hb hlt h =>
  ⟨keep3 hb (by omega) h.out.1,(hb.cell (p:=⟨w.heap.size+1,0,none⟩) hlt).trans h.out.2.1,(hb.cell (p:=⟨w.heap.size+1,1,none⟩) hlt).trans h.out.2.2⟩
 replace kp:=fun {B:Nat} {W W':World} a b d=>Lib.hid (@kp B W W' a b d)
 have hC1:=hC Z ((hr.below hB).more hB.size);go_enter Tryz.func158,Tryz.ntmps158;obtain⟨⟨q0,q1,q2⟩,q3,q4⟩:=kz.out;go_wp2_with (fail);rw[←hZ.out];(with_reducible refine hC1.out.mono ?_);rintro e w1 ⟨rfl,hb1⟩;have k1:=(kp hb1 hZs kz).out;have hB1:=hB.trans (hb1.mono hB.size);have hs1:w.heap.size+1<w1.heap.size:=Nat.lt_of_lt_of_le hZs hb1.size;clear q0 q1 q2 q3 q4;obtain⟨⟨q0,q1,q2⟩,q3,q4⟩:=k1.out;have hm0:¬ (m:Int)<0:=by omega
 have hm1:¬ (256:Int)<(m:Int):=by omega
 have hn1:¬ (256:Int)<(n:Int):=by omega
 go_wp2_with (fail);clear q0 q1 q2 q3 q4;go_loopw [6] (fun i wr=>∃ k:Nat,k≤n∧i=.int .i64 k∧Below w1.heap.size w1 wr) (fun i _=>n - (intOf i).toNat)
 case atStart=>exact⟨0,by omega,rfl,Below.refl _ _⟩
 case round =>
  obtain⟨k,hk,rfl,hbw⟩:=hrel;obtain⟨w3,rfl⟩:∃ w3:World,w3=wr:=⟨_,rfl⟩;have hB3:=hB1.trans (hbw.mono hB1.size);have k3:=(kp hbw hs1 k1).out;obtain⟨⟨q0,q1,q2⟩,q3,q4⟩:=k3.out;by_cases hlt:k<n
  ·have hk0:(0:Int)≤(k:Int):=by omega
   have hk1:(k:Int)<(n:Int):=by omega
   obtain⟨b,o,Ak,ck,rfl,hb,hc,-,-,-⟩:=hrm.at_ hlt;have hd:=(hB3.cell (p:=⟨b,o+k,none⟩) hb).trans hc;rw[show (rowsL F.toDesc m M k).length=m from rowL_length _ _ _]at hd;have hmb:((m:Int) !=(m:Int))=false:=by simp
   clear hc;go_wp2_with (fail);go_quiet (fail);go_wp2_with (fail);go_roundw
   case rel=>exact⟨k+1,by omega,by go_num,⟨hbw.os,hbw.tape,hbw.output,hbw.size,hbw.block⟩⟩
   case measure=>simp[intOf]; omega
  ·obtain rfl:k=n:=by omega
   go_wp2_with (fail);clear q0 q1 q2 q3 q4;go_loopw [7,5] (fun i e wr=>∃ j:Nat,j≤k∧i=.int .i64 j∧(∃ x,e=.int .i64 x)∧Below w3.heap.size w3 wr) (fun i _ _=>k - (intOf i).toNat)
   case atStart=>exact⟨0,by omega,rfl,⟨_,rfl⟩,Below.refl _ _⟩
   case round =>
    obtain⟨j,hj,rfl,⟨x5,rfl⟩,hbx⟩:=hrel;obtain⟨w5,rfl⟩:∃ w5:World,w5=wr:=⟨_,rfl⟩;have hB5:=hB3.trans (hbx.mono hB3.size);have k5:=(kp hbx (Nat.lt_of_lt_of_le hs1 hbw.size) k3).out;by_cases hjn:j<k
    ·have hj0:(0:Int)≤(j:Int):=by omega
     have hj1:(j:Int)<(k:Int):=by omega
     obtain⟨b,o,Ak,ck,rfl,hb,hc,hrk,-,-⟩:=hrm.at_ hjn;have hd:=(hB5.cell (p:=⟨b,o+j,none⟩) hb).trans hc;have hE5:=hE j Ak ck w5.drew ((hrk.below hB5).more hB5.size).drew;rw[show elE F.toDesc (rowsL F.toDesc m M j)=0 from if_neg (by rw[hel j]; simp)]at hE5;rw[show (rowsL F.toDesc m M j).length=m from rowL_length _ _ _]at hd hE5;replace hE5:=Lib.hid hE5;have hcc:=Lib.hid (show _∧_ from ⟨k5.out,hd⟩);have hb5:b<w5.heap.size:=Nat.lt_of_lt_of_le hb hB5.size;have hs5:w.heap.size+1<w5.heap.size:=Nat.lt_of_lt_of_le (Nat.lt_of_lt_of_le hs1 hbw.size) hbx.size;obtain⟨⟨q0,q1,q2⟩,q3,q4⟩:=k5.out;clear hc hd hrk;go_wp2_with (fail);clear q0 q1 q2 q3 q4;refine wp_region_held_drew (S:=fun w'=>((w'.cell? ⟨w.heap.size,0,none⟩=some (.int .i64 F.p)∧w'.cell? ⟨w.heap.size,1,none⟩=some (.int .i64 F.m)∧w'.cell? ⟨w.heap.size,2,none⟩=some (.slice A F.mod.length c))∧w'.cell? ⟨w.heap.size+1,0,none⟩=some (.int .i64 m)∧w'.cell? ⟨w.heap.size+1,1,none⟩=some (.slice (some ⟨b,o,none⟩) k cr))∧w'.cell? ⟨b,o+j,none⟩=some (.slice Ak m ck)) (by kernel_rfl) (by (try dsimp only); exact hcc.out) (fun hHeld=>?_);refine tk 0 ?_; try simp only[pS]
     refine tk 1 ?_; try simp only[pS]
     refine tk 2 ?_; try simp only[pS]
     refine tk 3 ?_; try simp only[pS]
     refine tk 4 ?_; try simp only[pS]
     refine tk 5 ?_; try simp only[pS]
     refine rd 6 fun K hK=>?_
     go_simp;go_at_call 162;(with_reducible refine (hE5).out.mono ?_);rintro e w6 ⟨rfl,hb6⟩;go_wp2_with (fail);refine hK.out _ _ (by (try dsimp only); exact⟨(kp hb6 hs5 (Lib.hid hcc.out.1)).out.out,(hb6.cell (p:=⟨b,o+j,none⟩) hb5).trans hcc.out.2⟩) (fun hHeld=>?_);clear hK K;try simp only[pS]
     refine tk 7 ?_; try simp only[pS]
     refine wpAnyH_done (by kernel_rfl) ?_ _;go_wp2_with (fail);go_roundw
     case rel=>exact⟨j+1,by omega,by go_num,⟨_,rfl⟩,hbx.drew.trans (hb6.mono hbx.size)⟩
     case measure=>simp[intOf]; omega
    ·obtain rfl:j=k:=by omega
     obtain⟨⟨q0,q1,q2⟩,q3,q4⟩:=k5.out;go_wp2_with (fail);go_ret;exact⟨rfl,hB5⟩

set_option maxHeartbeats 2000000 in
theorem Check10_ok (F:FD)(hgood:Good F.p F.m (modL F.toDesc))(n m:Nat)(M:Nat→Nat→R F.toDesc)(hcan:Canl F n m M)(A Ar:Option Addr)(c cr:Nat)(w:World)(hr:Rd w w.heap.size A (modL F.toDesc))(hrm:RdM w w.heap.size Ar n (rowsL F.toDesc m M))(hn:n≤256)(hm:m≤256) :
  Calls Tryz.prog 97 #[.agg #[.int .i64 F.p,.int .i64 F.m,.slice A F.mod.length c],.agg #[.int .i64 m,.slice Ar n cr]] w fun e w'=>e=.returned (.int .i64 0)∧Below w.heap.size w w':=by
 have h9:=fun W a b=>Lib.hid (Check9_ok F hgood n m M A Ar c cr W a b hn hm)
 have hCa:=fun W a b=>Canon9_any F n m m M A Ar c cr W a b (by omega) (by omega) (Nat.le_refl _)
 unfold CanonPost at hCa;rw[hcan.1]at hCa;replace hCa:=fun W a b=>Lib.hid (hCa W a b)
 have hS:=fun A1 c1 W a b=>Lib.hid (SameRows_eq n (rowsL F.toDesc m M) A1 Ar c1 cr W a b (by omega) (fun i _=>by rw[rowsL,rowL_length]; omega))
 obtain⟨Z,hZ⟩:∃ Z,Z=(w.alloc (.cells #[.int .i64 F.p,.int .i64 F.m,.slice A F.mod.length c] 24)).alloc (.cells #[.int .i64 m,.slice Ar n cr] 120):=⟨_,rfl⟩;have hB:Below w.heap.size w Z:=by rw[hZ]; exact ((Below.refl _ _).alloc (Nat.le_refl _) _).alloc (by simp) _
 have hZs:w.heap.size+1<Z.heap.size:=by rw[hZ]; simp
 have kz:=show (Z.cell? ⟨w.heap.size,0,none⟩=some (.int .i64 F.p)∧Z.cell? ⟨w.heap.size,1,none⟩=some (.int .i64 F.m)∧Z.cell? ⟨w.heap.size,2,none⟩=some (.slice A F.mod.length c))∧Z.cell? ⟨w.heap.size+1,0,none⟩=some (.int .i64 m)∧Z.cell? ⟨w.heap.size+1,1,none⟩=some (.slice Ar n cr) from by rw[hZ]; simp[go_sem]
 have h9Z:=h9 Z ((hr.below hB).more hB.size) ((hrm.below hB).more hB.size);have hkeep:∀ {B:Nat} {W W':World},Below B W W'→w.heap.size+1<B→((W.cell? ⟨w.heap.size,0,none⟩=some (.int .i64 F.p)∧W.cell? ⟨w.heap.size,1,none⟩=some (.int .i64 F.m)∧W.cell? ⟨w.heap.size,2,none⟩=some (.slice A F.mod.length c))∧W.cell? ⟨w.heap.size+1,0,none⟩=some (.int .i64 m)∧W.cell? ⟨w.heap.size+1,1,none⟩=some (.slice Ar n cr)) →
   ((W'.cell? ⟨w.heap.size,0,none⟩=some (.int .i64 F.p)∧W'.cell? ⟨w.heap.size,1,none⟩=some (.int .i64 F.m)∧W'.cell? ⟨w.heap.size,2,none⟩=some (.slice A F.mod.length c))∧W'.cell? ⟨w.heap.size+1,0,none⟩=some (.int .i64 m)∧W'.cell? ⟨w.heap.size+1,1,none⟩=some (.slice Ar n cr)):=fun {B W W'} hb hlt h =>
  ⟨keep3 hb (by omega) h.1,(hb.cell (p:=⟨w.heap.size+1,0,none⟩) hlt).trans h.2.1,(hb.cell (p:=⟨w.heap.size+1,1,none⟩) hlt).trans h.2.2⟩
 have kzH:=Lib.hid kz;replace hkeep:=fun {B:Nat} {W W':World} a b d=>Lib.hid (@hkeep B W W' a b d)
 rw[hZ]at kz;replace hZ:=Lib.hid hZ;have hcan2:=Lib.hid hcan.2;clear hcan h9;go_enter Tryz.func97,Tryz.ntmps97;obtain⟨⟨q0,q1,q2⟩,q3,q4⟩:=kz;go_wp2_with (fail);rw[←hZ.out];(with_reducible refine h9Z.out.mono ?_);rintro e w1 ⟨rfl,hb1⟩;have hB1:=hB.trans (hb1.mono hB.size);have k1:=(hkeep hb1 hZs kzH.out).out;have k1H:=Lib.hid k1;have hs1:w.heap.size+1<w1.heap.size:=Nat.lt_of_lt_of_le hZs hb1.size;clear q0 q1 q2 q3 q4;obtain⟨⟨q0,q1,q2⟩,q3,q4⟩:=k1;go_wp2_with (fail);(with_reducible refine (hCa w1 ((hr.below hB1).more hB1.size) ((hrm.below hB1).more hB1.size)).out.mono ?_);rintro e w2 ⟨Al,cl,Ap,cp,rfl,hb2,hru,-,-,-,-⟩;have hB2:=hB1.trans (hb2.mono hB1.size);have k2:=(hkeep hb2 hs1 k1H.out).out;have hS2:=hS Al cl w2 (hru.rdm.congr hcan2.out) ((hrm.below hB2).more hB2.size);clear q0 q1 q2 q3 q4;obtain⟨⟨q0,q1,q2⟩,q3,q4⟩:=k2;go_wp2_with (fail);(with_reducible refine hS2.out.mono ?_);rintro e w3 ⟨rfl,hb3⟩;go_wp2_with (fail);go_ret;exact⟨rfl,hB2.trans (hb3.mono hB2.size)⟩
theorem canl_elS (F:FD)(n0 m:Nat)(M0:Nat→Nat→R F.toDesc):Canl F (rkS F n0 m M0) m (elS n0 M0 m).1:=by
 obtain⟨h1,h2⟩:=elS_uniq (elS_span n0 m M0);refine⟨h1,fun i hi=>?_⟩;unfold rowsL rowL;exact lst_congr fun j hj=>congrArg ci ((h2 i (by unfold rkS at hi; omega)).2 j hj)
theorem list_rowL {D:Desc} {l:List Int} (h:elB D l=true):l=rowL D l.length (fun j=>eli D (l[j]?.getD 0)):=by
 apply List.ext_getElem
 ·rw[rowL_length]
 ·intro j h1 h2;have h3:=rowL_get D (fun j=>eli D (l[j]?.getD 0)) (j:=j) (m:=l.length) h1;rw[List.getElem?_eq_getElem h2,Option.getD_some]at h3;rw[h3];have h4:=elB_iff.1 h j h1;rw[ci_eli_in h4,List.getElem?_eq_getElem h1,Option.getD_some]
end Go.Proofs.YtogfekjbpcfgmaaGreat

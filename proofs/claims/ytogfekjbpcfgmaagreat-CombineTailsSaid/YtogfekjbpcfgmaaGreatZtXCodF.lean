/- The reference's Check of a matrix, of a space and of a code, for any rows. Small enough codes: Few, few. -/
import Derived.Outline
import Derived.Test.YtogfekjbpcfgmaaGreatZtXHasC
import Derived.Test.YtogfekjbpcfgmaaGreatZtXCodP
import Derived.Test.YtogfekjbpcfgmaaGreatZtXTk
namespace Go.Proofs.YtogfekjbpcfgmaaGreat
section
open Go.RowKit Cw
attribute [local go_sem] Oper.semAt_some

set_option maxHeartbeats 2000000 in
theorem Check9_any (F:FD)(hgood:Good F.p F.m (modL F.toDesc))(N:Int)(n:Nat)(rows:Nat→List Int)(A Ar:Option Addr)(c cr:Nat)(w:World)(hr:Rd w w.heap.size A (modL F.toDesc))(hrm:RdM w w.heap.size Ar n rows)(hn:n≤1000000)(hl:∀ i,i<n→(rows i).length≤1000000) :
  Calls Tryz.prog 158 #[.agg #[.int .i64 F.p,.int .i64 F.m,.slice A F.mod.length c],.agg #[.int .i64 N,.slice Ar n cr]] w fun e w'=>e=.returned (.int .i64 (mErr F.toDesc N n rows))∧Below w.heap.size w w':=by
 have hp1:=F.p256; have hp2:=F.m8;have hml:(modL F.toDesc).length≤maxLen:=by have:=F.hlen; have:=F.m8; rw[modL_length,F.hlen]; unfold maxLen; split <;> omega
 have hC:=fun W a=>Check_any F.p F.m (modL F.toDesc) A c W (by omega) (by omega) hml a
 rw[chk_yes hgood,modL_length]at hC;replace hC:=fun W a=>Lib.hid (hC W a)
 have hE:=fun i A1 c1 W a hi=>Entries9_any F.toDesc (rows i) A A1 c c1 W a (hl i hi)
 obtain⟨E,hE0⟩:∃ E,E=mErr F.toDesc N n rows:=⟨_,rfl⟩;rw[←hE0];replace hE0:=Lib.hid hE0;obtain⟨Z,hZ⟩:∃ Z,Z=(w.alloc (.cells #[.int .i64 F.p,.int .i64 F.m,.slice A F.mod.length c] 24)).alloc (.cells #[.int .i64 N,.slice Ar n cr] 120):=⟨_,rfl⟩;have hB:Below w.heap.size w Z:=by rw[hZ]; exact ((Below.refl _ _).alloc (Nat.le_refl _) _).alloc (by simp) _
 have hZs:w.heap.size+1<Z.heap.size:=by rw[hZ]; simp
 have kz:=Lib.hid (show ((Z.cell? ⟨w.heap.size,0,none⟩=some (.int .i64 F.p)∧Z.cell? ⟨w.heap.size,1,none⟩=some (.int .i64 F.m)∧Z.cell? ⟨w.heap.size,2,none⟩=some (.slice A F.mod.length c))∧Z.cell? ⟨w.heap.size+1,0,none⟩=some (.int .i64 N)∧Z.cell? ⟨w.heap.size+1,1,none⟩=some (.slice Ar n cr)) from by rw[hZ]; simp[go_sem]);replace hZ:=Lib.hid hZ;have kp:∀ {Ar:Option Addr} {B:Nat} {W W':World},Below B W W'→w.heap.size+1<B→Hid ((W.cell? ⟨w.heap.size,0,none⟩=some (.int .i64 F.p)∧W.cell? ⟨w.heap.size,1,none⟩=some (.int .i64 F.m)∧W.cell? ⟨w.heap.size,2,none⟩=some (.slice A F.mod.length c))∧W.cell? ⟨w.heap.size+1,0,none⟩=some (.int .i64 N)∧W.cell? ⟨w.heap.size+1,1,none⟩=some (.slice Ar n cr))→Hid ((W'.cell? ⟨w.heap.size,0,none⟩=some (.int .i64 F.p)∧W'.cell? ⟨w.heap.size,1,none⟩=some (.int .i64 F.m)∧W'.cell? ⟨w.heap.size,2,none⟩=some (.slice A F.mod.length c))∧W'.cell? ⟨w.heap.size+1,0,none⟩=some (.int .i64 N)∧W'.cell? ⟨w.heap.size+1,1,none⟩=some (.slice Ar n cr)):=fun {_ B W W'} hb hlt h =>
  ⟨keep3 hb (by omega) h.out.1,(hb.cell (p:=⟨w.heap.size+1,0,none⟩) hlt).trans h.out.2.1,(hb.cell (p:=⟨w.heap.size+1,1,none⟩) hlt).trans h.out.2.2⟩
 replace kp:=fun {Ar:Option Addr} {B:Nat} {W W':World} a b d=>Lib.hid (@kp Ar B W W' a b d)
 have hC1:=hC Z ((hr.below hB).more hB.size);clear hC;by_cases b1:N<0
 ·have he3:Hid (E=3):=by rw[hE0.out]; exact mErr_shape fun h=>absurd h.1 (by omega)
  have hd:decide (N<0)=true:=decide_eq_true b1;clear hE hl b1;go_enter Tryz.func158,Tryz.ntmps158;obtain⟨⟨q0,q1,q2⟩,q3,q4⟩:=kz.out;go_wp2_with (fail);rw[←hZ.out];(with_reducible refine hC1.out.mono ?_);rintro e w1 ⟨rfl,hb1⟩;have k1:=(kp hb1 hZs kz).out;clear q0 q1 q2 q3 q4;obtain⟨⟨q0,q1,q2⟩,q3,q4⟩:=k1.out;go_wp2_with (fail);go_ret;exact⟨by rw[he3.out]; rfl,hB.trans (hb1.mono hB.size)⟩
 by_cases b2:(256:Int)<N
 ·have he3:Hid (E=3):=by rw[hE0.out]; exact mErr_shape fun h=>absurd h.2.1 (by omega)
  clear hE hl;go_enter Tryz.func158,Tryz.ntmps158;obtain⟨⟨q0,q1,q2⟩,q3,q4⟩:=kz.out;go_wp2_with (fail);rw[←hZ.out];(with_reducible refine hC1.out.mono ?_);rintro e w1 ⟨rfl,hb1⟩;have k1:=(kp hb1 hZs kz).out;clear q0 q1 q2 q3 q4;obtain⟨⟨q0,q1,q2⟩,q3,q4⟩:=k1.out;go_wp2_with (fail);go_ret;exact⟨by rw[he3.out]; rfl,hB.trans (hb1.mono hB.size)⟩
 by_cases b3:(256:Int)<(n:Int)
 ·have he3:Hid (E=3):=by rw[hE0.out]; exact mErr_shape fun h=>absurd h.2.2.1 (by omega)
  clear hE hl;go_enter Tryz.func158,Tryz.ntmps158;obtain⟨⟨q0,q1,q2⟩,q3,q4⟩:=kz.out;go_wp2_with (fail);rw[←hZ.out];(with_reducible refine hC1.out.mono ?_);rintro e w1 ⟨rfl,hb1⟩;have k1:=(kp hb1 hZs kz).out;clear q0 q1 q2 q3 q4;obtain⟨⟨q0,q1,q2⟩,q3,q4⟩:=k1.out;go_wp2_with (fail);go_ret;exact⟨by rw[he3.out]; rfl,hB.trans (hb1.mono hB.size)⟩
 go_enter Tryz.func158,Tryz.ntmps158;obtain⟨⟨q0,q1,q2⟩,q3,q4⟩:=kz.out;go_wp2_with (fail);rw[←hZ.out];(with_reducible refine hC1.out.mono ?_);rintro e w1 ⟨rfl,hb1⟩;have k1:=(kp hb1 hZs kz).out;have hB1:=hB.trans (hb1.mono hB.size);have hs1:w.heap.size+1<w1.heap.size:=Nat.lt_of_lt_of_le hZs hb1.size;clear q0 q1 q2 q3 q4;obtain⟨⟨q0,q1,q2⟩,q3,q4⟩:=k1.out;go_wp2_with (fail);clear q0 q1 q2 q3 q4;go_loopw [6] (fun i wr=>∃ k:Nat,k≤n∧i=.int .i64 k∧(∀ j,j<k→((rows j).length:Int)=N)∧Below w1.heap.size w1 wr) (fun i _=>n - (intOf i).toNat)
 case atStart=>exact⟨0,by omega,rfl,fun j hj=>absurd hj (Nat.not_lt_zero _),Below.refl _ _⟩
 case round =>
  obtain⟨k,hk,rfl,hin,hbw⟩:=hrel;obtain⟨w3,rfl⟩:∃ w3:World,w3=wr:=⟨_,rfl⟩;have hB3:=hB1.trans (hbw.mono hB1.size);have k3:=(kp hbw hs1 k1).out;obtain⟨⟨q0,q1,q2⟩,q3,q4⟩:=k3.out;by_cases hlt:k<n
  ·have hk0:(0:Int)≤(k:Int):=by omega
   have hk1:(k:Int)<(n:Int):=by omega
   obtain⟨b,o,Ak,ck,rfl,hb,hc,-,-,-⟩:=hrm.at_ hlt;have hd:=(hB3.cell (p:=⟨b,o+k,none⟩) hb).trans hc;clear hc;by_cases hq:((rows k).length:Int)=N
   ·have hmb:(((rows k).length:Int) !=N)=false:=by rw[bne_eq_false_iff_eq]; exact hq
    have hin2:Hid (∀ j,j<k+1→((rows j).length:Int)=N):=fun j hj=>by
     by_cases e:j=k
     ·rw[e]; exact hq
     ·exact hin j (by omega)
    clear hin hq hE;go_wp2_with (fail);go_quiet (fail);go_wp2_with (fail);go_roundw
    case rel=>exact⟨k+1,by omega,by go_num,hin2.out,⟨hbw.os,hbw.tape,hbw.output,hbw.size,hbw.block⟩⟩
    case measure=>simp[intOf]; omega
   ·have hmb:(((rows k).length:Int) !=N)=true:=by rw[bne_iff_ne]; exact hq
    have he3:Hid (E=3):=by rw[hE0.out]; exact mErr_shape fun h=>hq (h.2.2.2 k hlt)
    clear hin hq hE;go_wp2_with (fail);go_quiet (fail);go_wp2_with (fail);go_ret;exact⟨by rw[he3.out]; rfl,⟨hB3.os,hB3.tape,hB3.output,hB3.size,hB3.block⟩⟩
  ·obtain rfl:k=n:=by omega
   have hsh:Hid (ShpOk N k rows):=⟨by omega,by omega,by omega,hin⟩;clear hin;go_wp2_with (fail);clear q0 q1 q2 q3 q4;go_loopw [7,5] (fun i e wr=>∃ j:Nat,j≤k∧i=.int .i64 j∧(∃ x,e=.int .i64 x)∧(∀ t,t<j→elB F.toDesc (rows t)=true)∧Below w3.heap.size w3 wr) (fun i _ _=>k - (intOf i).toNat)
   case atStart=>exact⟨0,by omega,rfl,⟨_,rfl⟩,fun j hj=>absurd hj (Nat.not_lt_zero _),Below.refl _ _⟩
   case round =>
    obtain⟨j,hj,rfl,⟨x5,rfl⟩,hin,hbx⟩:=hrel;obtain⟨w5,rfl⟩:∃ w5:World,w5=wr:=⟨_,rfl⟩;have hB5:=hB3.trans (hbx.mono hB3.size);have k5:=(kp hbx (Nat.lt_of_lt_of_le hs1 hbw.size) k3).out;by_cases hjn:j<k
    ·have hj0:(0:Int)≤(j:Int):=by omega
     have hj1:(j:Int)<(k:Int):=by omega
     obtain⟨b,o,Ak,ck,rfl,hb,hc,hrk,-,-⟩:=hrm.at_ hjn;have hd:=(hB5.cell (p:=⟨b,o+j,none⟩) hb).trans hc;have hE5:=hE j Ak ck w5.drew ((hrk.below hB5).more hB5.size).drew hjn;have hcc:=Lib.hid (show _∧_ from ⟨k5.out,hd⟩);have hb5:b<w5.heap.size:=Nat.lt_of_lt_of_le hb hB5.size;have hs5:w.heap.size+1<w5.heap.size:=Nat.lt_of_lt_of_le (Nat.lt_of_lt_of_le hs1 hbw.size) hbx.size;obtain⟨⟨q0,q1,q2⟩,q3,q4⟩:=k5.out;clear hc hd hrk;by_cases hel:elB F.toDesc (rows j)=true
     ·rw[show elE F.toDesc (rows j)=0 from if_neg (by rw[hel]; simp)]at hE5;replace hE5:=Lib.hid hE5;have hin2:Hid (∀ t,t<j+1→elB F.toDesc (rows t)=true):=fun t ht=>by
       by_cases e:t=j
       ·rw[e]; exact hel
       ·exact hin t (by omega)
      clear hin hel hE;go_wp2_with (fail);clear q0 q1 q2 q3 q4;refine wp_region_held_drew (S:=fun w'=>((w'.cell? ⟨w.heap.size,0,none⟩=some (.int .i64 F.p)∧w'.cell? ⟨w.heap.size,1,none⟩=some (.int .i64 F.m)∧w'.cell? ⟨w.heap.size,2,none⟩=some (.slice A F.mod.length c))∧w'.cell? ⟨w.heap.size+1,0,none⟩=some (.int .i64 N)∧w'.cell? ⟨w.heap.size+1,1,none⟩=some (.slice (some ⟨b,o,none⟩) k cr))∧w'.cell? ⟨b,o+j,none⟩=some (.slice Ak (rows j).length ck)) (by kernel_rfl) (by (try dsimp only); exact hcc.out) (fun hHeld=>?_);refine tk 0 ?_; try simp only[pS]
      refine tk 1 ?_; try simp only[pS]
      refine tk 2 ?_; try simp only[pS]
      refine tk 3 ?_; try simp only[pS]
      refine tk 4 ?_; try simp only[pS]
      refine tk 5 ?_; try simp only[pS]
      refine rd 6 fun K hK=>?_
      go_simp;go_at_call 162;(with_reducible refine (hE5).out.mono ?_);rintro e w6 ⟨rfl,hb6⟩;go_wp2_with (fail);refine hK.out _ _ (by (try dsimp only); exact⟨(kp hb6 hs5 (Lib.hid hcc.out.1)).out.out,(hb6.cell (p:=⟨b,o+j,none⟩) hb5).trans hcc.out.2⟩) (fun hHeld=>?_);clear hK K;try simp only[pS]
      refine tk 7 ?_; try simp only[pS]
      refine wpAnyH_done (by kernel_rfl) ?_ _;go_wp2_with (fail);go_roundw
      case rel=>exact⟨j+1,by omega,by go_num,⟨_,rfl⟩,hin2.out,hbx.drew.trans (hb6.mono hbx.size)⟩
      case measure=>simp[intOf]; omega
     ·rw[show elE F.toDesc (rows j)=2 from if_pos (by simpa using hel)]at hE5;replace hE5:=Lib.hid hE5;have he2:Hid (E=2):=by rw[hE0.out]; exact mErr_els hsh.out fun h=>hel (h j hjn)
      clear hin hel hE;go_wp2_with (fail);clear q0 q1 q2 q3 q4;refine wp_region_held_drew (S:=fun w'=>((w'.cell? ⟨w.heap.size,0,none⟩=some (.int .i64 F.p)∧w'.cell? ⟨w.heap.size,1,none⟩=some (.int .i64 F.m)∧w'.cell? ⟨w.heap.size,2,none⟩=some (.slice A F.mod.length c))∧w'.cell? ⟨w.heap.size+1,0,none⟩=some (.int .i64 N)∧w'.cell? ⟨w.heap.size+1,1,none⟩=some (.slice (some ⟨b,o,none⟩) k cr))∧w'.cell? ⟨b,o+j,none⟩=some (.slice Ak (rows j).length ck)) (by kernel_rfl) (by (try dsimp only); exact hcc.out) (fun hHeld=>?_);refine tk 0 ?_; try simp only[pS]
      refine tk 1 ?_; try simp only[pS]
      refine tk 2 ?_; try simp only[pS]
      refine tk 3 ?_; try simp only[pS]
      refine tk 4 ?_; try simp only[pS]
      refine tk 5 ?_; try simp only[pS]
      refine rd 6 fun K hK=>?_
      go_simp;go_at_call 162;(with_reducible refine (hE5).out.mono ?_);rintro e w6 ⟨rfl,hb6⟩;go_wp2_with (fail);refine hK.out _ _ (by (try dsimp only); exact⟨(kp hb6 hs5 (Lib.hid hcc.out.1)).out.out,(hb6.cell (p:=⟨b,o+j,none⟩) hb5).trans hcc.out.2⟩) (fun hHeld=>?_);clear hK K;try simp only[pS]
      refine tk 7 ?_; try simp only[pS]
      refine wpAnyH_done (by kernel_rfl) ?_ _;go_wp2_with (fail);go_ret;exact⟨by rw[he2.out]; rfl,hB5.drew.trans (hb6.mono hB5.size)⟩
    ·obtain rfl:j=k:=by omega
     have he0:Hid (E=0):=by rw[hE0.out]; exact mErr_ok hsh.out hin
     clear hin hE;obtain⟨⟨q0,q1,q2⟩,q3,q4⟩:=k5.out;go_wp2_with (fail);go_ret;exact⟨by rw[he0.out]; rfl,hB5⟩

set_option maxHeartbeats 2000000 in
theorem Check10_err (F:FD)(hgood:Good F.p F.m (modL F.toDesc))(N:Int)(n:Nat)(rows:Nat→List Int)(A Ar:Option Addr)(c cr:Nat)(w:World)(hr:Rd w w.heap.size A (modL F.toDesc))(hrm:RdM w w.heap.size Ar n rows)(hn:n≤1000000)(hl:∀ i,i<n→(rows i).length≤1000000){E:Int} (hE:mErr F.toDesc N n rows=E)(hE0:E≠0) :
  Calls Tryz.prog 97 #[.agg #[.int .i64 F.p,.int .i64 F.m,.slice A F.mod.length c],.agg #[.int .i64 N,.slice Ar n cr]] w fun e w'=>e=.returned (.int .i64 E)∧Below w.heap.size w w':=by
 have h9:=fun W a b=>Check9_any F hgood N n rows A Ar c cr W a b hn hl
 rw[hE]at h9;replace h9:=fun W a b=>Lib.hid (h9 W a b)
 obtain⟨Z,hZ⟩:∃ Z,Z=(w.alloc (.cells #[.int .i64 F.p,.int .i64 F.m,.slice A F.mod.length c] 24)).alloc (.cells #[.int .i64 N,.slice Ar n cr] 120):=⟨_,rfl⟩;have hB:Below w.heap.size w Z:=by rw[hZ]; exact ((Below.refl _ _).alloc (Nat.le_refl _) _).alloc (by simp) _
 have h9Z:=h9 Z ((hr.below hB).more hB.size) ((hrm.below hB).more hB.size);have hEb:(E !=0)=true:=by rw[bne_iff_ne]; exact hE0
 replace hZ:=Lib.hid hZ;replace hE:=Lib.hid hE;replace hE0:=Lib.hid hE0;clear h9 hl;go_enter Tryz.func97,Tryz.ntmps97;go_wp2_with (fail);rw[←hZ.out];(with_reducible refine h9Z.out.mono ?_);rintro e w1 ⟨rfl,hb1⟩;go_wp2_with (fail);go_ret;exact⟨rfl,hB.trans (hb1.mono hB.size)⟩

set_option maxHeartbeats 2000000 in
theorem Check10_form (F:FD)(hgood:Good F.p F.m (modL F.toDesc))(n m:Nat)(M:Nat→Nat→R F.toDesc)(hcan:¬ Canl F n m M)(A Ar:Option Addr)(c cr:Nat)(w:World)(hr:Rd w w.heap.size A (modL F.toDesc))(hrm:RdM w w.heap.size Ar n (rowsL F.toDesc m M))(hn:n≤256)(hm:m≤256) :
  Calls Tryz.prog 97 #[.agg #[.int .i64 F.p,.int .i64 F.m,.slice A F.mod.length c],.agg #[.int .i64 m,.slice Ar n cr]] w fun e w'=>e=.returned (.int .i64 5)∧Below w.heap.size w w':=by
 have h9:=fun W a b=>Lib.hid (Check9_ok F hgood n m M A Ar c cr W a b hn hm)
 have hCa:=fun W a b=>Canon9_any F n m m M A Ar c cr W a b (by omega) (by omega) (Nat.le_refl _)
 unfold CanonPost at hCa;replace hCa:=fun W a b=>Lib.hid (hCa W a b)
 have hrk:rkS F n m M≤n:=(elS_le n M m).1;have hq:eqR (rkS F n m M) n (rowsL F.toDesc m (elS n M m).1) (rowsL F.toDesc m M)=false:=by
  cases h:eqR (rkS F n m M) n (rowsL F.toDesc m (elS n M m).1) (rowsL F.toDesc m M) with
  | false=>rfl
  | true=>exact absurd (canl_iff.2 h) hcan
 have hS:=fun A1 c1 W a b=>SameRows_any (rkS F n m M) n (rowsL F.toDesc m (elS n M m).1) (rowsL F.toDesc m M) A1 Ar c1 cr W a b (by omega) (fun i _=>by rw[rowsL,rowL_length]; omega)
 rw[hq]at hS;replace hS:=fun A1 c1 W a b=>Lib.hid (hS A1 c1 W a b)
 obtain⟨Z,hZ⟩:∃ Z,Z=(w.alloc (.cells #[.int .i64 F.p,.int .i64 F.m,.slice A F.mod.length c] 24)).alloc (.cells #[.int .i64 m,.slice Ar n cr] 120):=⟨_,rfl⟩;have hB:Below w.heap.size w Z:=by rw[hZ]; exact ((Below.refl _ _).alloc (Nat.le_refl _) _).alloc (by simp) _
 have hZs:w.heap.size+1<Z.heap.size:=by rw[hZ]; simp
 have kz:=Lib.hid (show ((Z.cell? ⟨w.heap.size,0,none⟩=some (.int .i64 F.p)∧Z.cell? ⟨w.heap.size,1,none⟩=some (.int .i64 F.m)∧Z.cell? ⟨w.heap.size,2,none⟩=some (.slice A F.mod.length c))∧Z.cell? ⟨w.heap.size+1,0,none⟩=some (.int .i64 m)∧Z.cell? ⟨w.heap.size+1,1,none⟩=some (.slice Ar n cr)) from by rw[hZ]; simp[go_sem]);have kp:∀ {B:Nat} {W W':World},Below B W W'→w.heap.size+1<B→Hid ((W.cell? ⟨w.heap.size,0,none⟩=some (.int .i64 F.p)∧W.cell? ⟨w.heap.size,1,none⟩=some (.int .i64 F.m)∧W.cell? ⟨w.heap.size,2,none⟩=some (.slice A F.mod.length c))∧W.cell? ⟨w.heap.size+1,0,none⟩=some (.int .i64 m)∧W.cell? ⟨w.heap.size+1,1,none⟩=some (.slice Ar n cr))→Hid ((W'.cell? ⟨w.heap.size,0,none⟩=some (.int .i64 F.p)∧W'.cell? ⟨w.heap.size,1,none⟩=some (.int .i64 F.m)∧W'.cell? ⟨w.heap.size,2,none⟩=some (.slice A F.mod.length c))∧W'.cell? ⟨w.heap.size+1,0,none⟩=some (.int .i64 m)∧W'.cell? ⟨w.heap.size+1,1,none⟩=some (.slice Ar n cr)):=fun {B W W'} hb hlt h =>
  ⟨keep3 hb (by omega) h.out.1,(hb.cell (p:=⟨w.heap.size+1,0,none⟩) hlt).trans h.out.2.1,(hb.cell (p:=⟨w.heap.size+1,1,none⟩) hlt).trans h.out.2.2⟩
 replace kp:=fun {B:Nat} {W W':World} a b d=>Lib.hid (@kp B W W' a b d)
 have h9Z:=h9 Z ((hr.below hB).more hB.size) ((hrm.below hB).more hB.size);replace hZ:=Lib.hid hZ;clear hcan h9 hq;go_enter Tryz.func97,Tryz.ntmps97;obtain⟨⟨q0,q1,q2⟩,q3,q4⟩:=kz.out;go_wp2_with (fail);rw[←hZ.out];(with_reducible refine h9Z.out.mono ?_);rintro e w1 ⟨rfl,hb1⟩;have hB1:=hB.trans (hb1.mono hB.size);have k1:=(kp hb1 hZs kz).out;have hs1:w.heap.size+1<w1.heap.size:=Nat.lt_of_lt_of_le hZs hb1.size;clear q0 q1 q2 q3 q4;obtain⟨⟨q0,q1,q2⟩,q3,q4⟩:=k1.out;go_wp2_with (fail);(with_reducible refine (hCa w1 ((hr.below hB1).more hB1.size) ((hrm.below hB1).more hB1.size)).out.mono ?_);rintro e w2 ⟨Al,cl,Ap,cp,rfl,hb2,hru,-,-,-,-⟩;have hB2:=hB1.trans (hb2.mono hB1.size);have k2:=(kp hb2 hs1 k1).out;have hS2:=hS Al cl w2 hru.rdm ((hrm.below hB2).more hB2.size);clear q0 q1 q2 q3 q4;obtain⟨⟨q0,q1,q2⟩,q3,q4⟩:=k2.out;go_wp2_with (fail);(with_reducible refine hS2.out.mono ?_);rintro e w3 ⟨rfl,hb3⟩;go_wp2_with (fail);go_ret;exact⟨rfl,hB2.trans (hb3.mono hB2.size)⟩

theorem Check10_any (F:FD)(hgood:Good F.p F.m (modL F.toDesc))(N:Int)(ml:List Int)(n:Nat)(rows:Nat→List Int)(A Ar:Option Addr)(c cr:Nat)(w:World)(hml:ml=modL F.toDesc)(hr:Rd w w.heap.size A (modL F.toDesc))(hrm:RdM w w.heap.size Ar n rows)(hn:n≤64)(hl:∀ i,i<n→(rows i).length≤4200)(h4:¬ (N<1∨64<N)) :
  Calls Tryz.prog 97 #[.agg #[.int .i64 F.p,.int .i64 F.m,.slice A F.mod.length c],.agg #[.int .i64 N,.slice Ar n cr]] w fun e w'=>e=.returned (.int .i64 (cErr F.p F.m N ml n rows))∧Below w.heap.size w w':=by
 have hg2:Good F.p F.m ml:=by rw[hml]; exact hgood
 by_cases hz:mErr F.toDesc N n rows=0
 ·obtain⟨hs,he⟩:=mErr_zero hz;obtain⟨m,rfl⟩:∃ m:Nat,N=m:=⟨N.toNat,by omega⟩;have hrows:=entM_rows hs he;have hrm2:=hrm.congr hrows;have hci:=codeOk_iff (P:=(F.p:Int)) (M:=(F.m:Int)) (N:=(m:Int)) rfl rfl hml rfl hrows;by_cases hc:Canl F n m (entM F.toDesc rows)
  ·rw[cErr_ok hg2 rfl rfl hml h4 hs he (hci.2 hc)];exact Check10_ok F hgood n m _ hc A Ar c cr w hr hrm2 (by omega) (by omega)
  ·rw[cErr_form hg2 rfl rfl hml h4 hs he (fun h=>hc (hci.1 h))];exact Check10_form F hgood n m _ hc A Ar c cr w hr hrm2 (by omega) (by omega)
 ·exact Check10_err F hgood N n rows A Ar c cr w hr hrm (by omega) (fun i hi=>Nat.le_trans (hl i hi) (by omega)) (cErr_m hg2 rfl rfl hml h4 hz).symm (by rw[cErr_m hg2 rfl rfl hml h4 hz]; exact hz)

set_option maxHeartbeats 2000000 in
theorem Check12_any (Pa Ma Na:Int)(mla:List Int)(na:Nat)(rowsa:Nat→List Int)(Aa Ra:Option Addr)(ca ka:Nat)(w:World)(hPa:I64 Pa)(hMa:I64 Ma)(hla:mla.length≤maxLen)(hna:na≤64)(hka:∀ i,i<na→(rowsa i).length≤4200)(hra:Rd w w.heap.size Aa mla)(hma:RdM w w.heap.size Ra na rowsa) :
  Calls Tryz.prog 39 #[.agg #[.int .i64 Pa,.int .i64 Ma,.slice Aa mla.length ca,.int .i64 Na,.slice Ra na ka]] w fun e w'=>e=.returned (.int .i64 (cErr Pa Ma Na mla na rowsa))∧Below w.heap.size w w':=by
 have hC:=fun W h=>Check_any Pa Ma mla Aa ca W hPa.2 hMa.2 hla h
 obtain⟨Z,hZ⟩:∃ Z,Z=w.alloc (.cells #[.int .i64 Pa,.int .i64 Ma,.slice Aa mla.length ca,.int .i64 Na,.slice Ra na ka] 27):=⟨_,rfl⟩;have hB:Below w.heap.size w Z:=by rw[hZ]; exact (Below.refl _ _).alloc (Nat.le_refl _) _
 have hZs:w.heap.size<Z.heap.size:=by rw[hZ]; simp
 have f5:=Five.new w (.int .i64 Pa) (.int .i64 Ma) (.slice Aa mla.length ca) (.int .i64 Na) (.slice Ra na ka) 27;have f5H:Hid (Five Z w.heap.size (.int .i64 Pa) (.int .i64 Ma) (.slice Aa mla.length ca) (.int .i64 Na) (.slice Ra na ka)):=by rw[hZ]; exact f5
 have hC1:=hC Z ((hra.below hB).more hB.size);replace hZ:=Lib.hid hZ;clear hC;by_cases hg:Good Pa Ma mla
 ·rw[chk_yes hg]at hC1;replace hC1:=Lib.hid hC1;by_cases h4:Na<1∨64<Na
  ·rw[cErr_len hg h4];clear hg hPa hMa hla;rcases h4 with h4 | h4
   ·have hd:decide (Na<1)=true:=decide_eq_true h4;go_enter Tryz.func39,Tryz.ntmps39;obtain⟨a0,a1,a2,a3,a4,-⟩:=f5;go_wp2_with (fail);rw[←hZ.out];(with_reducible refine hC1.out.mono ?_);rintro e w1 ⟨rfl,hb1⟩;have hB1:=hB.trans (hb1.mono hB.size);clear a0 a1 a2 a3 a4;obtain⟨a0,a1,a2,a3,a4,-⟩:=f5H.out.keep hb1 hZs;go_wp2_with (fail);go_ret;exact⟨rfl,hB1⟩
   ·have h5:¬ Na<1:=by omega
    go_enter Tryz.func39,Tryz.ntmps39;obtain⟨a0,a1,a2,a3,a4,-⟩:=f5;go_wp2_with (fail);rw[←hZ.out];(with_reducible refine hC1.out.mono ?_);rintro e w1 ⟨rfl,hb1⟩;have hB1:=hB.trans (hb1.mono hB.size);clear a0 a1 a2 a3 a4;obtain⟨a0,a1,a2,a3,a4,-⟩:=f5H.out.keep hb1 hZs;go_wp2_with (fail);go_ret;exact⟨rfl,hB1⟩
  ·have hgH:=hg;obtain⟨D,rfl,rfl,rfl,-⟩:=hg;obtain⟨F,rfl⟩:=good_FD hgH;have hS:=fun W h1 h2=>Check10_any F hgH Na (modL F.toDesc) na rowsa Aa Ra ca ka W rfl h1 h2 hna hka h4
   generalize cErr F.p F.m Na (modL F.toDesc) na rowsa=E at *;replace hS:=fun W h1 h2=>Lib.hid (hS W h1 h2)
   rw[modL_length]at *;have h5:¬ Na<1:=by omega
   have h6:¬ 64<Na:=by omega
   clear hgH h4 hPa hMa hla;go_enter Tryz.func39,Tryz.ntmps39;obtain⟨a0,a1,a2,a3,a4,-⟩:=f5;go_wp2_with (fail);rw[←hZ.out];(with_reducible refine hC1.out.mono ?_);rintro e w1 ⟨rfl,hb1⟩;have hB1:=hB.trans (hb1.mono hB.size);clear a0 a1 a2 a3 a4;obtain⟨a0,a1,a2,a3,a4,-⟩:=f5H.out.keep hb1 hZs;go_wp2_with (fail);(with_reducible refine (hS w1 ((hra.below hB1).more hB1.size) ((hma.below hB1).more hB1.size)).out.mono ?_);rintro e w2 ⟨rfl,hb2⟩;go_wp2_with (fail);go_ret;exact⟨rfl,hB1.trans (hb2.mono hB1.size)⟩
 ·rw[chk_no hg]at hC1;replace hC1:=Lib.hid hC1;rw[cErr_bad hg];clear hg hPa hMa hla;go_enter Tryz.func39,Tryz.ntmps39;obtain⟨a0,a1,a2,a3,a4,-⟩:=f5;go_wp2_with (fail);rw[←hZ.out];(with_reducible refine hC1.out.mono ?_);rintro e w1 ⟨rfl,hb1⟩;go_wp2_with (fail);go_ret;exact⟨rfl,hB.trans (hb1.mono hB.size)⟩
end
section
open Go.RowKit Cw
attribute [local go_sem] Oper.semAt_some

def sumL (rows:Nat→List Int):Nat→Nat
 | 0=>0
 | k+1=>sumL rows k+(rows k).length
theorem sumL_mono (rows:Nat→List Int):∀ {a b:Nat},a≤b→sumL rows a≤sumL rows b:=fun {a b} h=>by
  induction b with
  | zero => obtain rfl : a = 0 := by omega
            exact Nat.le_refl _
  | succ b ih =>
    by_cases e:a=b+1
    · rw[e]; exact Nat.le_refl _
    · exact Nat.le_trans (ih (by omega)) (Nat.le_add_right _ _)
theorem sumL_one (rows:Nat→List Int){i n:Nat} (h:i<n):(rows i).length≤sumL rows n :=
 Nat.le_trans (Nat.le_add_left _ (sumL rows i)) (sumL_mono rows h)
def fewM (n:Nat)(rows:Nat→List Int):Bool:=decide (n+sumL rows n≤4200)
theorem fewM_no {n:Nat} {rows:Nat→List Int} {k:Nat} (hk:k<n)(h:4200<n+sumL rows (k+1)):fewM n rows=false:=decide_eq_false fun h2=>by
 have:=sumL_mono rows (show k+1≤n from hk); omega
set_option maxHeartbeats 1000000 in
theorem Few9_any (n:Nat)(rows:Nat→List Int)(Ar:Option Addr)(cr:Nat)(w:World)(hrm:RdM w w.heap.size Ar n rows)(hn:n≤maxLen)(hl:∀ i,i<n→(rows i).length≤maxLen) :
  Calls Tryz.prog 81 #[.agg #[.int .i64 0,.slice Ar n cr],.int .i64 4200] w fun e w'=>e=.returned (.bool (fewM n rows))∧Below w.heap.size w w':=by
 obtain⟨Z,hZ⟩:∃ Z,Z=w.alloc (.cells #[.int .i64 0,.slice Ar n cr] 120):=⟨_,rfl⟩;have hB:Below w.heap.size w Z:=by rw[hZ]; exact (Below.refl _ _).alloc (Nat.le_refl _) _
 have z0:Z.cell? ⟨w.heap.size,0,none⟩=some (.int .i64 0):=by rw[hZ]; simp[go_sem]
 have z1:Z.cell? ⟨w.heap.size,1,none⟩=some (.slice Ar n cr):=by rw[hZ]; simp[go_sem]
 have hrz:=(hrm.below hB).more hB.size;unfold maxLen at hn hl;replace hZ:=Lib.hid hZ;by_cases b1:(4200:Int)<(n:Int)
 ·rw[show fewM n rows=false from decide_eq_false fun h=>by omega];clear hl;go_enter Tryz.func81,Tryz.ntmps81;go_wp2_with (fail);go_ret;rw[←hZ.out];exact⟨rfl,hB⟩
 ·go_enter Tryz.func81,Tryz.ntmps81;go_wp2_with (fail);rw[←hZ.out];go_loop [6,5] (fun i r=>∃ k:Nat,k≤n∧i=.int .i64 k∧∃ q:Nat,r=.int .i64 q∧q+n+sumL rows k=4200) (fun i _=>n - (intOf i).toNat)
  case atStart=>exact⟨0,by omega,rfl,4200 - n,by go_num,by show 4200 - n+n+0=4200; omega⟩
  case round =>
   obtain⟨k,hk,rfl,q,rfl,hq⟩:=hrel;by_cases hlt:k<n
   ·obtain⟨b,o,Ak,ck,rfl,hb,hc,-,-,-⟩:=hrz.at_ hlt;have hlk:=hl k hlt;obtain⟨t,ht⟩:∃ t,t=(rows k).length:=⟨_,rfl⟩;rw[←ht]at hc hlk;have hsu:sumL rows (k+1)=sumL rows k+t:=by rw[ht]; rfl
    by_cases b2:(q:Int)<(t:Int)
    ·have he:Hid (fewM n rows=false):=fewM_no hlt (by rw[hsu]; omega);clear hl hsu ht hq;go_wp2_with (fail);go_ret;exact⟨by rw[he.out]; rfl,hB⟩
    ·have hq2:Hid (q - t+n+sumL rows (k+1)=4200):=by unfold Hid; rw[hsu]; omega
     have htq:t≤q:=by omega
     have hq42:q≤4200:=by omega
     clear hl hsu ht hq;go_wp2_with (fail);go_round
     case rel=>exact⟨k+1,by omega,by go_num,q - t,by go_num,hq2.out⟩
     case measure=>simp[intOf]; omega
   ·obtain rfl:k=n:=by omega
    have he:Hid (fewM k rows=true):=decide_eq_true (by omega);clear hq hl;go_wp2_with (fail);go_ret;exact⟨by rw[he.out]; rfl,hB⟩
theorem Few12_any (Pa Ma Na:Int)(mla:List Int)(na:Nat)(rowsa:Nat→List Int)(Aa Ra:Option Addr)(ca ka:Nat)(w:World)(hm:RdM w w.heap.size Ra na rowsa)(hn:na≤maxLen)(hl:∀ i,i<na→(rowsa i).length≤maxLen) :
  Calls Tryz.prog 27 #[.agg #[.int .i64 Pa,.int .i64 Ma,.slice Aa mla.length ca,.int .i64 Na,.slice Ra na ka],.int .i64 4200] w fun e w'=>e=.returned (.bool (fewM na rowsa))∧Below w.heap.size w w':=by
 obtain⟨Z,hZ⟩:∃ Z,Z=w.alloc (.cells #[.int .i64 Pa,.int .i64 Ma,.slice Aa mla.length ca,.int .i64 Na,.slice Ra na ka] 27):=⟨_,rfl⟩;have hB:Below w.heap.size w Z:=by rw[hZ]; exact (Below.refl _ _).alloc (Nat.le_refl _) _
 have hF:=Lib.hid (Few9_any na rowsa Ra ka Z ((hm.below hB).more hB.size) hn hl);replace hZ:=Lib.hid hZ;clear hn hl;go_enter Tryz.func27,Tryz.ntmps27;go_wp2_with (fail);rw[←hZ.out];(with_reducible refine hF.out.mono ?_);rintro e w1 ⟨rfl,hb1⟩;go_wp2_with (fail);go_ret;exact⟨rfl,hB.trans (hb1.mono hB.size)⟩
end
end Go.Proofs.YtogfekjbpcfgmaaGreat

/- The reference's codes: Rest, In, Check, Word, Has of a canonical code. -/
import Derived.Test.YtogfekjbpcfgmaaGreatZtXHasA
import Derived.Test.YtogfekjbpcfgmaaGreatZtXTk
namespace Go.Proofs.YtogfekjbpcfgmaaGreat
open Go.RowKit Cw
attribute [local go_sem] Oper.semAt_some

def restF {D:Desc} (n:Nat)(p:Nat→Nat)(M:Nat→Nat→R D)(u:Nat→R D):Nat→R D:=fun j=>u j+rsum n (fun i=>-(u (p i))*M i j)
set_option maxRecDepth 100000 in
set_option maxHeartbeats 4000000 in
theorem Rest10_any (D:Desc)(n m:Nat)(M:Nat→Nat→R D)(u:Nat→R D)(A Ar A1:Option Addr)(c cr c1:Nat)(w:World)(hr:Rd w w.heap.size A (modL D))(hrm:RdM w w.heap.size Ar n (rowsL D m M))(hr1:Rd w w.heap.size A1 (rowL D m u))(hn:n≤1000)(hm:m≤70000)
  (hp:∀ i,i<n→fnz (rowsL D m M i)<m) :
  Calls Tryz.prog 108 #[.agg #[.int .i64 D.p,.int .i64 D.m,.slice A D.mod.length c],.slice Ar n cr,.slice A1 m c1] w fun e w'=>∃ A2 c2,e=.returned (.slice A2 m c2)∧Rd w' w'.heap.size A2 (rowL D m (restF n (fun i=>fnz (rowsL D m M i)) M u))∧Below w.heap.size w w':=by
 have hP:=fun W a=>Lib.hid (Pivots10_any n (rowsL D m M) Ar cr W a hn (fun i _=>by rw[rowsL,rowL_length]; omega))
 have hN:=fun y W=>Neg_any D y A D.mod.length c W
 have hAT:=fun f h a A1 A2 c1 c2 W x y z=>AddTo9_any D m f h a A A1 A2 c c1 c2 W x y z hm
 obtain⟨Z,hZ⟩:∃ Z,Z=w.alloc (.cells #[.int .i64 D.p,.int .i64 D.m,.slice A D.mod.length c] 24):=⟨_,rfl⟩;have hB:Below w.heap.size w Z:=by rw[hZ]; exact (Below.refl _ _).alloc (Nat.le_refl _) _
 have k0:=Lib.hid (show Z.cell? ⟨w.heap.size,0,none⟩=some (.int .i64 D.p)∧Z.cell? ⟨w.heap.size,1,none⟩=some (.int .i64 D.m)∧Z.cell? ⟨w.heap.size,2,none⟩=some (.slice A D.mod.length c) from by rw[hZ]; exact alloc3 w _ _ _ _);have hlt0:w.heap.size<Z.heap.size:=by rw[hZ]; simp
 replace hZ:=Lib.hid hZ;have hP1:=hP Z ((hrm.below hB).more hB.size);clear hP;go_enter Tryz.func108,Tryz.ntmps108;go_wp2_with (fail);rw[←hZ.out];(with_reducible refine hP1.out.mono ?_);rintro e w1 ⟨v1,rfl,ho1,hb1⟩;have hs1:=hb1.size;have kk1:=Lib.hid (keep3 hb1 hlt0 k0.out);have hB1:=hB.trans (hb1.mono hB.size);obtain⟨Ap,cp,rfl,hcp,hrp,-⟩:=ho1.form;rw[lst_length]at hcp;have hlt1:w.heap.size<w1.heap.size:=by omega
 obtain⟨W1,hW1⟩:∃ W1,W1=w1.alloc (.cells #[] 3):=⟨_,rfl⟩;have hbe:Below w1.heap.size w1 W1:=by rw[hW1]; exact (Below.refl _ _).alloc (Nat.le_refl _) _
 have hse:w1.heap.size<W1.heap.size:=by rw[hW1]; simp
 have hoe:Own W1 w1.heap.size (.slice (some ⟨w1.heap.size,0,none⟩) 0 0) []:=by rw[hW1]; exact Own.of_IB (l:=[]) (heap_alloc_new _ _) (Nat.le_refl _) (by simp[maxLen])
 have hB1e:=hB1.trans (hbe.mono hB1.size);have hr1e:=(hr1.below hB1e).more hB1e.size;have hle:([]:List Int).length+(rowL D m u).length≤1000000000:=by rw[rowL_length]; simp; omega
 have hrl:m=(rowL D m u).length:=(rowL_length _ _ _).symm;have hrl2:=Lib.hid hrl;subst hW1;clear ho1 hrl;rw[lst_length];go_wp2_with (at_builtin; refine wpList_appN (n2:=m) rfl (.tmp 12) (.tmp 13) rfl w1.heap.size _ [] _ A1 c1 (rowL D m u) hoe hr1e rfl rfl hrl2.out hle (Nat.le_of_lt hse) ?_; intro v2 w2 ho2 hb2 hg2 hv2; rw[List.nil_append]at ho2; obtain⟨A2,c2,rfl,hc2,hr2,hA2⟩:=ho2.form; rw[rowL_length]at hc2);have hb12:=hbe.trans hb2;have hs2:=hb12.size;have hrp2:=(hrp.below hb12).more hs2;have hB2:=hB1.trans (hb12.mono hB1.size);have kk2:=Lib.hid (keep3 hb12 hlt1 kk1.out);clear ho2 hr1e hle hoe;rw[rowL_length];go_loopw [9,8] (fun i v wr=>∃ (k:Nat) (Av:Option Addr) (cv:Nat),k≤n∧i=.int .i64 k∧v=.slice Av m cv∧Rd wr wr.heap.size Av (rowL D m (restF k (fun i=>fnz (rowsL D m M i)) M u))∧Below w2.heap.size w2 wr) (fun i _ _=>n - (intOf i).toNat)
 case atStart=>exact⟨0,A2,c2,by omega,rfl,rfl,by rw[show restF 0 (fun i=>fnz (rowsL D m M i)) M u=u from funext fun j=>add_zero _]; exact hr2,Below.refl _ _⟩
 case round =>
  obtain⟨k,Av,cv,hk,rfl,rfl,hrv,hbw⟩:=hrel;obtain⟨w3,rfl⟩:∃ w3:World,w3=wr:=⟨_,rfl⟩;have hB3:=hB2.trans (hbw.mono hB2.size);by_cases hlt:k<n
  ·have hk0:(0:Int)≤(k:Int):=by omega
   have hk1:(k:Int)<(n:Int):=by omega
   have hpk:=hp k hlt;obtain⟨b,o,Ak,ck,rfl,hb,hc,hrk,-,-⟩:=hrm.at_ hlt;have hd:=(hB3.cell (p:=⟨b,o+k,none⟩) hb).trans hc;rw[show (rowsL D m M k).length=m from rowL_length _ _ _]at hd;have hrk3:=(hrk.below hB3).more hB3.size;obtain⟨bp,op,rfl,hbp,hcp'⟩:=hrp2.at_ (by rw[lst_length]; exact hlt:k<(lst n fun i=>(fnz (rowsL D m M i):Int)).length);rw[lst_get _ hlt]at hcp';have hdp:=(hbw.cell (p:=⟨bp,op+k,none⟩) hbp).trans hcp';obtain⟨bu,ou,rfl,hbu,hcu⟩:=hr1.at_ (by rw[rowL_length]; exact hpk:fnz (rowsL D m M k)<(rowL D m u).length);rw[rowL_get D u hpk]at hcu;have hdu:=(hB3.cell (p:=⟨bu,ou+fnz (rowsL D m M k),none⟩) hbu).trans hcu;have hN3:=fun W=>Lib.hid (hN (ci (u (fnz (rowsL D m M k)))) W)
   have hAT3:=fun W x y z=>hAT (restF k (fun i=>fnz (rowsL D m M i)) M u) (M k) (ci (-(eli D (ci (u (fnz (rowsL D m M k))))))) Av Ak cv ck W x y z
   have hstep:Hid ((fun j=>restF k (fun i=>fnz (rowsL D m M i)) M u j+eli D (ci (-(eli D (ci (u (fnz (rowsL D m M k)))))))*M k j)=restF (k+1) (fun i=>fnz (rowsL D m M i)) M u):=funext fun j=>by
    rw[eli_ci,eli_ci];unfold restF;rw[rsum_succ,add_a]
   rw[hstep.out]at hAT3;unfold Gives at hAT3;rw[rowL_length]at hAT3;replace hAT3:=fun W x y z=>Lib.hid (hAT3 W x y z)
   obtain⟨pk,hpke⟩:∃ pk,pk=fnz (rowsL D m M k):=⟨_,rfl⟩;rw[←hpke]at hdp hdu hpk;have hp0:(0:Int)≤(pk:Int):=by omega
   have hp1:(pk:Int)<(m:Int):=by omega
   obtain⟨y,hy⟩:∃ y,y=ci (u pk):=⟨_,rfl⟩;rw[←hpke,←hy]at hN3;rw[←hpke,←hy]at hAT3;rw[←hy]at hdu;replace hpke:=Lib.hid hpke;replace hy:=Lib.hid hy;have hlt3:w.heap.size<w3.heap.size:=by have:=hbw.size; omega
   have hsw3:w.heap.size≤w3.heap.size:=hB3.size;have kk3:=keep3 hbw (by omega) kk2.out;have hcc:=Lib.hid (show (_∧_∧_)∧_∧_∧_ from ⟨kk3,hd,hdp,hdu⟩);have hb3:b<w3.heap.size:=Nat.lt_of_lt_of_le hb hsw3;have hbp3:bp<w3.heap.size:=Nat.lt_of_lt_of_le hbp hbw.size;have hbu3:bu<w3.heap.size:=Nat.lt_of_lt_of_le hbu hsw3;clear hc hcp' hcu hd hdp hdu kk3 hrk hN hAT;go_wp2_with (fail);refine wp_region_held_drew (S:=fun w'=>(w'.cell? ⟨w.heap.size,0,none⟩=some (.int .i64 D.p)∧w'.cell? ⟨w.heap.size,1,none⟩=some (.int .i64 D.m)∧w'.cell? ⟨w.heap.size,2,none⟩=some (.slice A D.mod.length c))∧w'.cell? ⟨b,o+k,none⟩=some (.slice Ak m ck)∧w'.cell? ⟨bp,op+k,none⟩=some (.int .i64 pk)∧w'.cell? ⟨bu,ou+pk,none⟩=some (.int .i64 y)) (by kernel_rfl) (by (try dsimp only); exact hcc.out) (fun hHeld=>?_);refine tk 0 ?_; try simp only[pS]
   refine tk 1 ?_; try simp only[pS]
   refine tk 2 ?_; try simp only[pS]
   refine tk 3 ?_; try simp only[pS]
   refine tk 4 ?_; try simp only[pS]
   refine tk 5 ?_; try simp only[pS]
   refine tk 6 ?_; try simp only[pS]
   refine tk 7 ?_; try simp only[pS]
   refine tk 8 ?_; try simp only[pS]
   refine tk 9 ?_; try simp only[pS]
   refine tk 11 ?_; try simp only[pS]
   refine tk 12 ?_; try simp only[pS]
   refine tk 13 ?_; try simp only[pS]
   refine tk 14 ?_; try simp only[pS]
   refine rd 10 fun K hK=>?_
   go_simp;go_at_call 101;(with_reducible refine (hN3 _).out.mono ?_);rintro e w4 ⟨rfl,hb4⟩;have hcc4:=Lib.hid (show (_∧_∧_)∧_∧_∧_ from ⟨keep3 hb4 hlt3 hcc.out.1,(hb4.cell (p:=⟨b,o+k,none⟩) hb3).trans hcc.out.2.1,(hb4.cell (p:=⟨bp,op+k,none⟩) hbp3).trans hcc.out.2.2.1,(hb4.cell (p:=⟨bu,ou+pk,none⟩) hbu3).trans hcc.out.2.2.2⟩);have hb34:Below w3.heap.size w3 w4:=(Below.refl _ w3).drew.trans hb4;have hB4:=hB3.trans (hb34.mono hB3.size);have hs4:w3.heap.size≤w4.heap.size:=hb4.size;have hAT4:=hAT3 w4 ((hr.below hB4).more hB4.size) ((hrv.below hb34).more hb34.size) ((hrk3.below hb34).more hb34.size);go_wp2_with (fail);refine hK.out _ _ (by (try dsimp only); exact hcc4.out) (fun hHeld=>?_);clear hK K;try simp only[pS]
   refine rd 15 fun K hK=>?_
   go_simp;go_at_call 99;(with_reducible refine (hAT4).out.mono ?_);rintro e w5 ⟨g5,rfl,hg5,hib5,hb5⟩;go_wp2_with (fail);refine hK.out _ _ (by (try dsimp only); exact⟨keep3 hb5 (Nat.lt_of_lt_of_le hlt3 hs4) hcc4.out.1,(hb5.cell (p:=⟨b,o+k,none⟩) (Nat.lt_of_lt_of_le hb3 hs4)).trans hcc4.out.2.1,(hb5.cell (p:=⟨bp,op+k,none⟩) (Nat.lt_of_lt_of_le hbp3 hs4)).trans hcc4.out.2.2.1,(hb5.cell (p:=⟨bu,ou+pk,none⟩) (Nat.lt_of_lt_of_le hbu3 hs4)).trans hcc4.out.2.2.2⟩) (fun hHeld=>?_);clear hK K;try simp only[pS]
   refine tk 16 ?_; try simp only[pS]
   refine wpAnyH_done (by kernel_rfl) ?_ _;go_wp2_with (fail);go_roundw
   case rel=>exact⟨k+1,some ⟨g5,0,none⟩,m,by omega,by go_num,rfl,hib5.rd,hbw.trans ((hb34.trans (hb5.mono hs4)).mono hbw.size)⟩
   case measure=>simp[intOf]; omega
  ·obtain rfl:k=n:=by omega
   go_wp2_with (fail);go_ret;exact⟨Av,cv,rfl,hrv,hB3⟩

set_option maxHeartbeats 1000000 in
theorem In10_any (D:Desc)(n m:Nat)(M:Nat→Nat→R D)(u:Nat→R D)(A Ar A1:Option Addr)(c cr c1:Nat)(w:World)(hr:Rd w w.heap.size A (modL D))(hrm:RdM w w.heap.size Ar n (rowsL D m M))(hr1:Rd w w.heap.size A1 (rowL D m u))(hn:n≤1000)(hm:m≤70000)
  (hp:∀ i,i<n→fnz (rowsL D m M i)<m) :
  Calls Tryz.prog 51 #[.agg #[.int .i64 D.p,.int .i64 D.m,.slice A D.mod.length c],.slice Ar n cr,.slice A1 m c1] w fun e w'=>e=.returned (.bool (all0 (rowL D m (restF n (fun i=>fnz (rowsL D m M i)) M u))))∧Below w.heap.size w w':=by
 obtain⟨Z,hZ⟩:∃ Z,Z=w.alloc (.cells #[.int .i64 D.p,.int .i64 D.m,.slice A D.mod.length c] 24):=⟨_,rfl⟩;have hB:Below w.heap.size w Z:=by rw[hZ]; exact (Below.refl _ _).alloc (Nat.le_refl _) _
 obtain⟨q0,q1,q2⟩:=(show Z.cell? ⟨w.heap.size,0,none⟩=some (.int .i64 D.p)∧Z.cell? ⟨w.heap.size,1,none⟩=some (.int .i64 D.m)∧Z.cell? ⟨w.heap.size,2,none⟩=some (.slice A D.mod.length c) from by rw[hZ]; exact alloc3 w _ _ _ _);have hR:=Lib.hid (Rest10_any D n m M u A Ar A1 c cr c1 Z ((hr.below hB).more hB.size) ((hrm.below hB).more hB.size) ((hr1.below hB).more hB.size) hn hm hp);have hZe:=fun A2 c2 W a=>Zero10_any (rowL D m (restF n (fun i=>fnz (rowsL D m M i)) M u)) A2 c2 W a (by rw[rowL_length]; omega)
 rw[rowL_length]at hZe;replace hZe:=fun A2 c2 W a=>Lib.hid (hZe A2 c2 W a)
 rw[hZ]at q0 q1 q2;replace hZ:=Lib.hid hZ;clear hp;go_enter Tryz.func51,Tryz.ntmps51;go_wp2_with (fail);rw[←hZ.out];(with_reducible refine hR.out.mono ?_);rintro e w1 ⟨A2,c2,rfl,hr2,hb1⟩;go_wp2_with (fail);(with_reducible refine (hZe A2 c2 w1 hr2).out.mono ?_);rintro e w2 ⟨rfl,rfl⟩;go_wp2_with (fail);go_ret;exact⟨rfl,hB.trans (hb1.mono hB.size)⟩
end Go.Proofs.YtogfekjbpcfgmaaGreat

/- The program's rows: Scale, entries, check, Clone, clone. The program's rows, changed in place: add, Clone, clone. Words for a matrix whose rows are changed in place: each row in a block of its own. The program's clone of rows. -/
import Derived.Maps.Range
import Derived.Maps.RangeWalk
import Derived.Test.YtogfekjbpcfgmaaGreatZtXGA
import Derived.Test.YtogfekjbpcfgmaaGreatZtXMH
import Derived.Test.YtogfekjbpcfgmaaGreatZtXKerI
import Derived.Test.YtogfekjbpcfgmaaGreatZtXTk
namespace Go.Proofs.YtogfekjbpcfgmaaGreat
section
open Go.RowKit Cw
attribute [local go_sem] Oper.semAt_some

set_option maxHeartbeats 1000000 in
theorem gEntries_ok (F:FD)(m:Nat)(f:Nat→R F.toDesc)(A1:Option Addr)(c1 gf:Nat)(w:World)(hg:GF w w.heap.size gf F)(hr1:Rd w w.heap.size A1 (rowL F.toDesc m f))(hm:m≤70000) :
  Calls Tryz.prog 155 #[.pointer (some ⟨gf,0,none⟩),.slice A1 m c1] w fun e w'=>e=.returned (.int .i64 0)∧w=w':=by
 have hI:=fun x=>Lib.hid (gIs_any F x gf w hg)
 go_enter Tryz.func155,Tryz.ntmps155;go_wp2_with (fail);go_loop [9,6] (fun i _=>∃ k:Nat,k≤m∧i=.int .i64 k) (fun i _=>m - (intOf i).toNat)
 case atStart=>exact⟨0,by omega,rfl⟩
 case round =>
  obtain⟨k,hk,rfl⟩:=hrel;by_cases hlt:k<m
  ·obtain⟨b,o,rfl,-,hc⟩:=hr1.at_ (by rw[rowL_length]; exact hlt:k<(rowL F.toDesc m f).length);rw[rowL_get _ f hlt]at hc;have hI2:=(hI (ci (f k))).out;rw[decide_eq_true ⟨ci_nonneg _,ci_lt _⟩]at hI2;generalize ci (f k)=y at *;replace hI2:=Lib.hid hI2;go_wp2_with (fail);(with_reducible refine hI2.out.mono ?_);rintro e w1 ⟨rfl,rfl⟩;go_wp2_with (fail);go_round
   case rel=>exact⟨k+1,by omega,by go_num⟩
   case measure=>simp[intOf]; omega
  ·obtain rfl:k=m:=by omega
   go_wp2_with (fail);go_ret;exact⟨rfl,rfl⟩

set_option maxHeartbeats 2000000 in
theorem gCheckM_ok (F:FD)(n m:Nat)(M:Nat→Nat→R F.toDesc)(Ar:Option Addr)(cr gf:Nat)(w:World)(hg:GF w w.heap.size gf F)(hrm:RdM w w.heap.size Ar n (rowsL F.toDesc m M))(hn:n≤256)(hm:m≤256) :
  Calls Tryz.prog 200 #[.pointer (some ⟨gf,0,none⟩),.agg #[.int .i64 m,.slice Ar n cr]] w fun e w'=>e=.returned (.int .i64 0)∧Below w.heap.size w w':=by
 obtain⟨Z,hZ⟩:∃ Z,Z=w.alloc (.cells #[.int .i64 m,.slice Ar n cr] 120):=⟨_,rfl⟩;have hB:Below w.heap.size w Z:=by rw[hZ]; exact (Below.refl _ _).alloc (Nat.le_refl _) _
 have z0:Z.cell? ⟨w.heap.size,0,none⟩=some (.int .i64 m):=by rw[hZ]; simp[go_sem]
 have z1:Z.cell? ⟨w.heap.size,1,none⟩=some (.slice Ar n cr):=by rw[hZ]; simp[go_sem]
 have hrz:=(hrm.below hB).more hB.size;have hgz:=(hg.below hB).more hB.size;have hE:=fun i A1 c1 h=>Lib.hid (gEntries_ok F m (M i) A1 c1 gf Z hgz h (by omega))
 have b1:¬ (m:Int)<0:=by omega
 have b2:¬ (256:Int)<(m:Int):=by omega
 have b3:¬ (256:Int)<(n:Int):=by omega
 replace hZ:=Lib.hid hZ;go_enter Tryz.func200,Tryz.ntmps200;go_wp2_with (fail);rw[←hZ.out];go_loop [27,6] (fun i _=>∃ k:Nat,k≤n∧i=.int .i64 k) (fun i _=>n - (intOf i).toNat)
 case atStart=>exact⟨0,by omega,rfl⟩
 case round =>
  obtain⟨k,hk,rfl⟩:=hrel;by_cases hlt:k<n
  ·obtain⟨b,o,Ak,ck,rfl,hb,hc,hrk,-,-⟩:=hrz.at_ hlt;rw[rowsL_length]at hc;have hmm:((m:Int) !=(m:Int))=false:=by simp
   go_wp2_with (fail);go_round
   case rel=>exact⟨k+1,by omega,by go_num⟩
   case measure=>simp[intOf]; omega
  ·obtain rfl:k=n:=by omega
   go_wp2_with (fail);go_loop [40,8,9] (fun i _ _=>∃ k':Nat,k'≤k∧i=.int .i64 k') (fun i _ _=>k - (intOf i).toNat)
   case atStart=>exact⟨0,by omega,rfl⟩
   case round =>
    obtain⟨k',hk',rfl⟩:=hrel;by_cases hlt':k'<k
    ·obtain⟨b,o,Ak,ck,rfl,hb,hc,hrk,-,-⟩:=hrz.at_ hlt';rw[rowsL_length]at hc;have hE2:=hE k' Ak ck hrk;go_wp2_with (fail);(with_reducible refine hE2.out.mono ?_);rintro e w1 ⟨rfl,rfl⟩;go_wp2_with (fail);go_round
     case rel=>exact⟨k'+1,by omega,by go_num⟩
     case measure=>simp[intOf]; omega
    ·obtain rfl:k'=k:=by omega
     go_wp2_with (fail);go_ret;exact⟨rfl,hB⟩
end
section
open Go.RowKit Cw
attribute [local go_sem] Oper.semAt_some

theorem ite_succ {X:Type} {j k:Nat} (h:j≠k){x y:X}:(if j<k+1 then x else y)=if j<k then x else y:=by
 by_cases h2:j<k
 ·rw[if_pos h2,if_pos (by omega)]
 ·rw[if_neg h2,if_neg (by omega)]
set_option maxRecDepth 100000 in
set_option maxHeartbeats 3000000 in
theorem gAddRow_any (F:FD)(m:Nat)(f h:Nat→R F.toDesc)(a:Int)(bv cv bu cu gf B:Nat)(w:World)(hg:GF w B gf F)(hB:B≤bv)(hbv:bv<w.heap.size)
  (hv:∀ j,j<m→w.cell? ⟨bv,j,none⟩=some (.int .i64 (ci (f j)))∧w.frozen? ⟨bv,j,none⟩=false) (hu:∀ j,j<m→w.cell? ⟨bu,j,none⟩=some (.int .i64 (ci (h j)))) (hne:bu≠bv) (hm:m≤70000) :
  Calls Tryz.prog 204 #[.pointer (some ⟨gf,0,none⟩),.slice (some ⟨bv,0,none⟩) m cv,.int .i64 a,.slice (some ⟨bu,0,none⟩) m cu] w fun e w'=>e=.returned (.tuple #[])∧w.grownBy w' (some bv) ∧
   ∀ j,j<m→w'.cell? ⟨bv,j,none⟩=some (.int .i64 (ci (f j+eli F.toDesc a*h j)))∧w'.frozen? ⟨bv,j,none⟩=false:=by
 have hM:=fun z W h'=>Lib.hid (gMul_any F a z gf W h')
 have hA:=fun y z W h'=>Lib.hid (gAdd_any F y z gf W h')
 replace hv:=Lib.hid hv;replace hu:=Lib.hid hu;go_enter Tryz.func204,Tryz.ntmps204;go_wp2_with (fail);go_loopw [12,8,9] (fun i _ _ wr=>∃ k:Nat,k≤m∧i=.int .i64 k∧w.grownBy wr (some bv)∧Hid (∀ j,j<m→wr.cell? ⟨bv,j,none⟩=some (.int .i64 (ci (if j<k then f j+eli F.toDesc a*h j else f j)))∧wr.frozen? ⟨bv,j,none⟩=false)) (fun i _ _ _=>m - (intOf i).toNat)
 case atStart=>exact⟨0,by omega,rfl,World.grownBy.refl _ _,fun j hj=>by simpa using hv.out j hj⟩
 case round =>
  obtain⟨w3,rfl⟩:∃ w3:World,w3=wr:=⟨_,rfl⟩;obtain⟨k,hk,rfl,hgr,hvk⟩:=hrel;by_cases hlt:k<m
  ·have hk0:(0:Int)≤(k:Int):=by omega
   have hk1:(k:Int)<(m:Int):=by omega
   have hbw:=grown_below hgr hB hbv;have hbv3:bv<w3.heap.size:=Nat.lt_of_lt_of_le hbv hgr.size;have hB3:B≤w3.heap.size:=by omega
   have hxu:=hgr.cell (hu.out k hlt) (fun e=>hne (by injection e));obtain⟨hxv,hfv⟩:=hvk.out k hlt;rw[if_neg (Nat.lt_irrefl _)]at hxv;obtain⟨y1,hy1⟩:∃ y,y=ci (f k):=⟨_,rfl⟩;obtain⟨y2,hy2⟩:∃ y,y=ci (h k):=⟨_,rfl⟩;rw[←hy1]at hxv;rw[←hy2]at hxu;by_cases hz:y2=0
   ·have hzb:(y2 !=0)=false:=by rw[bne_eq_false_iff_eq]; exact hz
    have hvk2:Hid (∀ j,j<m→w3.cell? ⟨bv,j,none⟩=some (.int .i64 (ci (if j<k+1 then f j+eli F.toDesc a*h j else f j)))∧w3.frozen? ⟨bv,j,none⟩=false):=fun j hj=>by
     have h0:=hvk.out j hj;by_cases e:j=k
     ·subst e;rw[if_neg (Nat.lt_irrefl _)]at h0;rw[if_pos (Nat.lt_succ_self _),ci_eq_zero.1 (hy2 ▸ hz:ci (h j)=0),mul_zero,add_zero];exact h0
     ·rw[ite_succ e];exact h0
    replace hy1:=Lib.hid hy1;replace hy2:=Lib.hid hy2;clear hz;go_wp2_with (fail);go_roundw
    case rel=>exact⟨k+1,by omega,by go_num,hgr,hvk2⟩
    case measure=>simp[intOf]; omega
   ·have hzb:(y2 !=0)=true:=by rw[bne_iff_ne]; exact hz
    have hM2:=(hM y2 w3.drew ((hg.below hbw).more hB3).drew).out;rw[hy2,eli_ci,←hy2]at hM2;obtain⟨y3,hy3⟩:∃ y,y=ci (eli F.toDesc a*h k):=⟨_,rfl⟩;obtain⟨y4,hy4⟩:∃ y,y=ci (f k+eli F.toDesc a*h k):=⟨_,rfl⟩;rw[←hy3]at hM2;have hA2:=fun W h'=>(hA y1 y3 W h').out
    rw[hy1,hy3,eli_ci,eli_ci,←hy1,←hy3,←hy4]at hA2;replace hM2:=Lib.hid hM2;replace hA2:=fun W h'=>Lib.hid (hA2 W h')
    replace hy1:=Lib.hid hy1;replace hy2:=Lib.hid hy2;replace hy3:=Lib.hid hy3;replace hy4:=Lib.hid hy4;have hgf3:=(hg.below hbw).more hB3;clear hz;go_wp2_with (fail);refine wp_region_held_drew (S:=fun w'=>True) (by kernel_rfl) (by (try dsimp only); all_goals trivial) (fun hHeld=>?_);refine tk 0 ?_; try simp only[pS]
    refine tk 1 ?_; try simp only[pS]
    refine tk 2 ?_; try simp only[pS]
    refine tk 3 ?_; try simp only[pS]
    refine tk 4 ?_; try simp only[pS]
    refine tk 5 ?_; try simp only[pS]
    refine tk 7 ?_; try simp only[pS]
    refine tk 8 ?_; try simp only[pS]
    refine tk 9 ?_; try simp only[pS]
    refine wpAnyH_ready (rs:=[6,10]) (by kernel_rfl) (by simp) ?_;refine AllReadyH.cons (o:=⟨_,_,_,_,_,_⟩) rfl (fun K hK=>?_) ?_
    ·go_simp;refine hK.out _ _ (by (try dsimp only); all_goals trivial) (fun hHeld=>?_);clear hK K;try simp only[pS]
     refine rd 10 fun K hK=>?_
     go_simp;go_at_call 90;(with_reducible refine (hM2).out.mono ?_);rintro e w4 ⟨rfl,hb4⟩;have hx4:=(hb4.cell (p:=⟨bv,k,none⟩) hbv3).trans hxv;have hA4:=hA2 w4 ((hgf3.drew.below hb4).more hb4.size);go_wp2_with (fail);refine hK.out _ _ (by (try dsimp only); all_goals trivial) (fun hHeld=>?_);clear hK K;try simp only[pS]
     refine rd 11 fun K hK=>?_
     go_simp;go_at_call 91;(with_reducible refine (hA4).out.mono ?_);rintro e w5 ⟨rfl,hb5⟩;have hb35:Below w3.heap.size w3 w5:=(Below.refl _ w3).drew.trans ((hb4.mono (Nat.le_refl _)).trans (hb5.mono hb4.size));have hx5:=(hb35.cell (p:=⟨bv,k,none⟩) hbv3).trans hxv;have hf5:=(hb35.frozen (p:=⟨bv,k,none⟩) hbv3).trans hfv;go_wp2_with (fail);refine hK.out _ _ (by (try dsimp only); all_goals trivial) (fun hHeld=>?_);clear hK K;try simp only[pS]
     refine tk 12 ?_; try simp only[pS]
     refine rd 13 fun K hK=>?_
     go_simp;refine hK.out _ _ (by (try dsimp only); all_goals trivial) (fun hHeld=>?_);clear hK K;try simp only[pS]
     refine wpAnyH_done (by kernel_rfl) ?_ _;have hg5:Hid (w.grownBy (w5.setCell ⟨bv,k,none⟩ (.int .i64 y4)) (some bv)):=(hgr.trans ((below_grown hb35 (Nat.le_refl _)).but _)).trans (grown_set _ _ _);have hvk2:Hid (∀ j,j<m→(w5.setCell ⟨bv,k,none⟩ (.int .i64 y4)).cell? ⟨bv,j,none⟩=some (.int .i64 (ci (if j<k+1 then f j+eli F.toDesc a*h j else f j)))∧(w5.setCell ⟨bv,k,none⟩ (.int .i64 y4)).frozen? ⟨bv,j,none⟩=false):=fun j hj=>by
      have h0:=hvk.out j hj;have h1:=(hb35.frozen (p:=⟨bv,j,none⟩) hbv3).trans h0.2;refine⟨?_,by simp[go_sem,h1]⟩;by_cases e:j=k
      ·subst e;rw[if_pos (Nat.lt_succ_self _),←hy4.out];exact World.cell?_setCell_same _ _ _ hx5
      ·rw[ite_succ e];rw[World.cell?_setCell_other _ _ _ _ (by intro e2; injection e2 with e3 e4; exact e (by first | exact e4 | exact e4.symm))];exact (hb35.cell (p:=⟨bv,j,none⟩) hbv3).trans h0.1
     clear hx5 hf5 hx4;go_wp2_with (fail);go_roundw
     case rel=>exact⟨k+1,by omega,by go_num,hg5.out,hvk2⟩
     case measure=>simp[intOf]; omega
    refine AllReadyH.cons (o:=⟨_,_,_,_,_,_⟩) rfl (fun K hK=>?_) AllReadyH.nil;go_simp;go_at_call 90;(with_reducible refine (hM2).out.mono ?_);rintro e w4 ⟨rfl,hb4⟩;have hx4:=(hb4.cell (p:=⟨bv,k,none⟩) hbv3).trans hxv;have hA4:=hA2 w4 ((hgf3.drew.below hb4).more hb4.size);go_wp2_with (fail);refine hK.out _ _ (by (try dsimp only); all_goals trivial) (fun hHeld=>?_);clear hK K;try simp only[pS]
    refine rd 6 fun K hK=>?_
    go_simp;refine hK.out _ _ (by (try dsimp only); all_goals trivial) (fun hHeld=>?_);clear hK K;try simp only[pS]
    refine rd 11 fun K hK=>?_
    go_simp;go_at_call 91;(with_reducible refine (hA4).out.mono ?_);rintro e w5 ⟨rfl,hb5⟩;have hb35:Below w3.heap.size w3 w5:=(Below.refl _ w3).drew.trans ((hb4.mono (Nat.le_refl _)).trans (hb5.mono hb4.size));have hx5:=(hb35.cell (p:=⟨bv,k,none⟩) hbv3).trans hxv;have hf5:=(hb35.frozen (p:=⟨bv,k,none⟩) hbv3).trans hfv;go_wp2_with (fail);refine hK.out _ _ (by (try dsimp only); all_goals trivial) (fun hHeld=>?_);clear hK K;try simp only[pS]
    refine tk 12 ?_; try simp only[pS]
    refine rd 13 fun K hK=>?_
    go_simp;refine hK.out _ _ (by (try dsimp only); all_goals trivial) (fun hHeld=>?_);clear hK K;try simp only[pS]
    refine wpAnyH_done (by kernel_rfl) ?_ _;have hg5:Hid (w.grownBy (w5.setCell ⟨bv,k,none⟩ (.int .i64 y4)) (some bv)):=(hgr.trans ((below_grown hb35 (Nat.le_refl _)).but _)).trans (grown_set _ _ _);have hvk2:Hid (∀ j,j<m→(w5.setCell ⟨bv,k,none⟩ (.int .i64 y4)).cell? ⟨bv,j,none⟩=some (.int .i64 (ci (if j<k+1 then f j+eli F.toDesc a*h j else f j)))∧(w5.setCell ⟨bv,k,none⟩ (.int .i64 y4)).frozen? ⟨bv,j,none⟩=false):=fun j hj=>by
     have h0:=hvk.out j hj;have h1:=(hb35.frozen (p:=⟨bv,j,none⟩) hbv3).trans h0.2;refine⟨?_,by simp[go_sem,h1]⟩;by_cases e:j=k
     ·subst e;rw[if_pos (Nat.lt_succ_self _),←hy4.out];exact World.cell?_setCell_same _ _ _ hx5
     ·rw[ite_succ e];rw[World.cell?_setCell_other _ _ _ _ (by intro e2; injection e2 with e3 e4; exact e (by first | exact e4 | exact e4.symm))];exact (hb35.cell (p:=⟨bv,j,none⟩) hbv3).trans h0.1
    clear hx5 hf5 hx4;go_wp2_with (fail);go_roundw
    case rel=>exact⟨k+1,by omega,by go_num,hg5.out,hvk2⟩
    case measure=>simp[intOf]; omega
  ·obtain rfl:k=m:=by omega
   have hfin:Hid (∀ j,j<k→w3.cell? ⟨bv,j,none⟩=some (.int .i64 (ci (f j+eli F.toDesc a*h j)))∧w3.frozen? ⟨bv,j,none⟩=false):=fun j hj=>by
    have:=hvk.out j hj
    rwa [if_pos hj]at this
   go_wp2_with (fail);go_end0;exact⟨rfl,hgr,hfin.out⟩
end
section
open Go.RowKit Cw
attribute [local go_sem] Oper.semAt_some

set_option maxHeartbeats 1000000 in
theorem Clone_ints (l:List Int)(a:Addr)(c:Nat)(w:World)(hr:Rd w w.heap.size (some a) l)(hl:l.length≤1000000) :
  Calls Tryz.prog 32 #[.slice (some a) l.length c] w (GivesA w.heap.size l w):=by
 have hn:=fun W=>Lib.run_eql_slice_nil (P:=Tryz.prog) W 22 3 (some a) l.length c 0 0 Tryz.underlying22
 have o1:Own (w.alloc (.cells #[] 3)) w.heap.size (.slice (some ⟨w.heap.size,0,none⟩) 0 0) []:=Own.of_IB (l:=[]) (heap_alloc_new w _) (Nat.le_refl _) (by simp[maxLen]);have r1:Rd (w.alloc (.cells #[] 3)) w.heap.size (some a) l:=hr.alloc (Nat.le_refl _) _;have hle:([]:List Int).length+l.length≤1000000000:=by simp; omega
 unfold GivesA;go_enter Tryz.func32,Tryz.ntmps32;go_wp2_with (at_builtin; refine wpList_appN rfl (.tmp 5) (.tmp 6) rfl w.heap.size _ [] _ (some a) c l o1 r1 rfl rfl rfl hle (by simp) ?_; intro v1 w1 ho1 hb1 _ _; rw[List.nil_append]at ho1);go_ret;exact⟨v1,rfl,ho1,((Below.refl _ _).alloc (Nat.le_refl _) _).trans hb1⟩

theorem addr_add0 (b j:Nat):(⟨b,0,none⟩:Addr).add j=⟨b,j,none⟩:=by unfold Addr.add; split <;> simp_all
theorem Own.rowCells {D:Desc} {w:World} {B b c m:Nat} {f:Nat→R D} (h:Own w B (.slice (some ⟨b,0,none⟩) m c) (rowL D m f)):B≤b∧b<w.heap.size∧m≤c∧c≤maxLen∧∀ j,j<m→w.cell? ⟨b,j,none⟩=some (.int .i64 (ci (f j)))∧w.frozen? ⟨b,j,none⟩=false:=by
 have h':=h;rcases h.2 with ⟨e,-⟩ | ⟨g,cap,cur,hv,hb,hg,hc,hm,_⟩
 ·cases e
 ·obtain⟨rfl,rfl⟩:b=g∧c=cap:=by
   injection hv with e1 e2 e3
   injection e1 with e1
   injection e1 with e1
   exact⟨e1,e3⟩
  rw[rowL_length]at hc;refine⟨hb,(Array.getElem?_eq_some_iff.1 hg).1,hc,hm,fun j hj=>⟨?_,by simp[World.frozen?,hg]⟩⟩;have:=World.ownsRow.cells h' (g:=b) rfl j (.int .i64 (ci (f j))) (by rw[List.getElem?_map]; unfold rowL lst; simp[hj]);rw[addr_add0]at this;exact this
theorem Own.zero {w:World} {B n c:Nat} {A:Option Addr} {l:List Int} (h:Own w B (.slice A n c) l)(hl:0<l.length):∃ b,A=some ⟨b,0,none⟩:=by
 rcases h.2 with ⟨-,h0⟩ | ⟨g,cap,cur,hv,-⟩
 ·omega
 ·cases hv; exact⟨g,rfl⟩
theorem MP.snoc {D:Desc} {w3 w4:World} {L g k m b1 c1:Nat} {M:Nat→Nat→R D} {v:Value} (h:MP w3 L g k m none M)(hb:Below w3.heap.size w3 w4)(hx:w4.cell? ⟨g,k,none⟩=some v)(hf:w4.frozen? ⟨g,k,none⟩=false)
  (ho:Own w4 w3.heap.size (.slice (some ⟨b1,0,none⟩) m c1) (rowL D m (M k))) (hL:L≤w3.heap.size):MP (w4.setCell ⟨g,k,none⟩ (.slice (some ⟨b1,0,none⟩) m c1)) L g (k+1) m none M:=by
 obtain⟨o1,o2,o3,o4,o5⟩:=ho.rowCells;have hg3:=h.1;have hBl:∀ t b c,t<k→RowAt w3 L g m none t b c (M t)→b<w3.heap.size:=fun t b c _ h=>h.lt
 obtain⟨hgl0,B,C,h30,h4⟩:=h;have hne:b1≠g:=by omega
 refine⟨by simp only[World.setCell,Array.size_modify]; exact Nat.lt_of_lt_of_le hgl0 hb.size,fun t=>if t=k then b1 else B t,fun t=>if t=k then c1 else C t,fun t ht=>?_,fun s t hs ht=>?_⟩
 ·by_cases e:t=k
  ·subst e;simp only[if_true];exact⟨World.cell?_setCell_same _ _ _ hx,by simp[go_sem,hf],by simp only[World.setCell,Array.size_modify]; exact o2,hne,by simp,by omega,o3,o4,fun j hj=>⟨(World.cell?_setCell_far _ _ _ _ hne.symm).trans (o5 j hj).1,by have:=(o5 j hj).2; simp[go_sem,this]⟩⟩
  ·simp only[if_neg e];exact ((h30 t (by omega)).grown hgl0 (below_grown hb (Nat.le_refl _)) (by simp) (by simp) (by simp)).other e
 ·intro e;have h1:=fun t (ht:t<k)=>(h30 t ht).lt
  by_cases s1:s=k <;> by_cases t1:t=k
  ·omega
  ·simp only[s1,t1,if_true,if_false]at e; have:=h1 t (by omega); omega
  ·simp only[s1,t1,if_true,if_false]at e; have:=h1 s (by omega); omega
  ·simp only[s1,t1,if_false]at e; exact h4 s t (by omega) (by omega) e

set_option maxRecDepth 100000 in
set_option maxHeartbeats 2000000 in
theorem gClone_any {D:Desc} (n m:Nat)(M:Nat→Nat→R D)(Ar:Option Addr)(cr:Nat)(w:World)(hrm:RdM w w.heap.size Ar n (rowsL D m M))(hn:n≤70000)(hm1:1≤m)(hm:m≤70000) :
  Calls Tryz.prog 201 #[.slice Ar n cr] w fun e w'=>∃ g,e=.returned (.slice (some ⟨g,0,none⟩) n n)∧w.heap.size≤g∧MP w' w.heap.size g n m none M∧Below w.heap.size w w':=by
 have hCl:=fun k a c W h=>(Clone_ints (rowL D m (M k)) a c W h (by rw[rowL_length]; omega))
 have hmk:=mk_rows n hn;obtain⟨g,hg⟩:∃ g,g=w.heap.size:=⟨_,rfl⟩;obtain⟨Y,hY⟩:∃ Y,Y=w.alloc (.cells (Array.replicate n (Value.slice none 0 0)) 22):=⟨_,rfl⟩;have hB:Below w.heap.size w Y:=by rw[hY]; exact (Below.refl _ _).alloc (Nat.le_refl _) _
 have hgY:g<Y.heap.size:=by rw[hY,hg]; simp
 have hcY:Hid (∀ i,i<n→(∃ v,Y.cell? ⟨g,i,none⟩=some v)∧Y.frozen? ⟨g,i,none⟩=false):=fun i hi=>by
  rw[hY,hg];refine⟨⟨.slice none 0 0,?_⟩,World.frozen?_alloc_at _ _ _ _ rfl⟩;rw[cell_of_row _ _ i _ _ (0,0) (heap_alloc_new w _)];simp[hi]
 have hmp:MP Y w.heap.size g 0 m none M:=⟨hgY,fun _=>0,fun _=>0,fun i hi=>absurd hi (by omega),fun i k hi=>absurd hi (by omega)⟩;have hgw:w.heap.size≤g:=Nat.le_of_eq hg.symm;replace hY:=Lib.hid hY;go_enter Tryz.func201,Tryz.ntmps201;go_wp2_with (fail);rw[←hY.out];simp only[←hg];replace hg:=Lib.hid hg;go_loopw [11,4,5] (fun i _ _ wr=>∃ k:Nat,k≤n∧i=.int .i64 k∧Hid (∀ i,i<n→(∃ v,wr.cell? ⟨g,i,none⟩=some v)∧wr.frozen? ⟨g,i,none⟩=false)∧MP wr w.heap.size g k m none M∧Below w.heap.size w wr) (fun i _ _ _=>n - (intOf i).toNat)
 case atStart=>exact⟨0,by omega,rfl,hcY,hmp,hB⟩
 case round =>
  clear hcY hmp hB hgY hY;obtain⟨w3,rfl⟩:∃ w3:World,w3=wr:=⟨_,rfl⟩;obtain⟨k,hk,rfl,hx,hmp,hbw⟩:=hrel;by_cases hlt:k<n
  ·have hk0:(0:Int)≤(k:Int):=by omega
   have hk1:(k:Int)<(n:Int):=by omega
   obtain⟨b,o,Ak,ck,rfl,hb,hc,hrk,hlk,hck⟩:=hrm.at_ hlt;have hd:=(hbw.cell (p:=⟨b,o+k,none⟩) hb).trans hc;rw[rowsL_length]at hd;have hrk3:=(hrk.below hbw).more hbw.size;obtain⟨b2,o2,rfl,-,-⟩:=hrk.at_ (k:=0) (by rw[rowsL_length]; omega);have hCl2:=hCl k ⟨b2,o2,none⟩ ck w3 hrk3;rw[rowL_length]at hCl2;unfold GivesA at hCl2;replace hCl2:=Lib.hid hCl2;have hg3:=hmp.1;obtain⟨⟨vk,hvk⟩,hfk⟩:=hx.out k hlt;clear hc hrk hlk;go_wp2_with (fail);(with_reducible refine hCl2.out.mono ?_);rintro e w4 ⟨v,rfl,ho,hb4⟩;obtain⟨A1,c1,rfl,-⟩:=ho.form;rw[rowL_length]at ho ⊢;obtain⟨b1,rfl⟩:=ho.zero (by rw[rowL_length]; omega);have hv4:=(hb4.cell (p:=⟨g,k,none⟩) hg3).trans hvk;have hf4:=(hb4.frozen (p:=⟨g,k,none⟩) hg3).trans hfk;have hmp5:=Lib.hid (hmp.snoc hb4 hv4 hf4 ho hbw.size);have hx5:Hid (∀ i,i<n→(∃ v,(w4.setCell ⟨g,k,none⟩ (.slice (some ⟨b1,0,none⟩) m c1)).cell? ⟨g,i,none⟩=some v)∧(w4.setCell ⟨g,k,none⟩ (.slice (some ⟨b1,0,none⟩) m c1)).frozen? ⟨g,i,none⟩=false):=fun i hi=>by
    obtain⟨⟨vi,hvi⟩,hfi⟩:=hx.out i hi;have e1:=(hb4.cell (p:=⟨g,i,none⟩) hg3).trans hvi;have e2:=(hb4.frozen (p:=⟨g,i,none⟩) hg3).trans hfi;refine⟨?_,by simp[go_sem,e2]⟩;by_cases e:i=k
    ·subst e; exact⟨_,World.cell?_setCell_same _ _ _ e1⟩
    ·exact⟨vi,(hdr_other e).trans e1⟩
   have hB5:=Lib.hid ((hbw.trans (hb4.mono hbw.size)).setCell (p:=⟨g,k,none⟩) hgw (.slice (some ⟨b1,0,none⟩) m c1));clear hd;go_wp2_with (fail);go_roundw
   case rel=>exact⟨k+1,by omega,by go_num,hx5,hmp5.out,hB5.out⟩
   case measure=>simp[intOf]; omega
  ·obtain rfl:k=n:=by omega
   go_wp2_with (fail);go_ret;exact⟨g,rfl,hgw,hmp,hbw⟩
end
end Go.Proofs.YtogfekjbpcfgmaaGreat

/- The reference's value of a polynomial. The reference's polynomials: Canon. The row of a law of layer 18: an argument of type api.GRS, opened. Layer 18 of the program: open. Layer 18 of the reference: Check. The row of a law: an argument of type api.Code, opened. The row of a law of layer 19: an argument of type api.Goppa, opened. -/
import Derived.Deep.Slices
import Derived.Test.YtjdoneanohhkmaaGreatZtV10RP1
import Derived.Test.YtjdoneanohhkmaaGreatZtV10RRF
import Derived.Test.YtjdoneanohhkmaaGreatZtV10RMat
import Derived.Test.YtjdoneanohhkmaaGreatZtV10RGrsA
import Derived.Test.YtjdoneanohhkmaaGreatZtV10RTk
namespace Go.Proofs.YtjdoneanohhkmaaGreat
section
open Go.RowKit Cw

set_option maxHeartbeats 1000000 in
theorem Eval5_any (D:Desc)(l:List Int)(x:Int)(A A1:Option Addr)(c c1:Nat)(w:World)(hr:Rd w w.heap.size A (modL D))(hr1:Rd w w.heap.size A1 l)(hl:l.length≤maxLen) :
  Calls Tryz.prog 30 #[.agg #[.int .i64 D.p,.int .i64 D.m,.slice A D.mod.length c],.slice A1 l.length c1,.int .i64 x] w fun e w'=>e=.returned (.int .i64 (ci (pevI D l (eli D x))))∧Below w.heap.size w w':=by
 unfold maxLen at hl;have hM:=fun y z W hr=>Lib.hid (Mul_any D y z A c W hr)
 have hA:=fun y z W=>Lib.hid (Add_any D y z A D.mod.length c W)
 have hbx0:=Bx.new w D A D.mod.length c 24;have hB0:Below w.heap.size w (w.alloc (.cells #[.int .i64 D.p,.int .i64 D.m,.slice A D.mod.length c] 24)):=(Below.refl _ _).alloc (Nat.le_refl _) _;obtain⟨u,hu⟩:∃ u,u=eli D x:=⟨_,rfl⟩;rw[←hu];replace hu:=Lib.hid hu;go_enter Tryz.func30,Tryz.ntmps30;go_wp2_with (fail);go_loopw [9,7,8] (fun i o p wr=>∃ k:Nat,k≤l.length∧i=.int .i64 k∧o=.int .i64 (ci (rsum k fun i=>eli D (l[i]?.getD 0)*pw u i))∧p=.int .i64 (ci (pw u k))∧Bx wr w.heap.size D A D.mod.length c∧Below w.heap.size w wr∧w.heap.size<wr.heap.size) (fun i _ _ _=>l.length - (intOf i).toNat)
 case atStart=>exact⟨0,by omega,rfl,by rw[rsum_zero,ci_zero],by rw[pw_zero,ci_one],hbx0,hB0,by simp⟩
 case round =>
  obtain⟨k,hk,rfl,rfl,rfl,hbx,hbw,hsz⟩:=hrel;by_cases hlt:k<l.length
  ·have hk0:(0:Int)≤(k:Int):=by omega
   have hk1:(k:Int)<(l.length:Int):=by omega
   obtain⟨b,o,rfl,hb,hc⟩:=hr1.at_ hlt;have hc2:=(hbw.cell (p:=⟨b,o+k,none⟩) hb).trans hc;obtain⟨y,hy⟩:∃ y,y=l[k]?.getD 0:=⟨_,rfl⟩;rw[←hy]at hc2;have hM2:=fun W hr=>(hM y (ci (pw u k)) W hr).out
   rw[eli_ci]at hM2;replace hM2:=fun W hr=>Lib.hid (hM2 W hr)
   have hA2:=fun W=>(hA (ci (rsum k fun i=>eli D (l[i]?.getD 0)*pw u i)) (ci (eli D y*pw u k)) W).out
   have hs:rsum k (fun i=>eli D (l[i]?.getD 0)*pw u i)+eli D y*pw u k=rsum (k+1) (fun i=>eli D (l[i]?.getD 0)*pw u i):=by rw[rsum_succ,hy]
   rw[eli_ci,eli_ci,hs]at hA2;replace hA2:=fun W=>Lib.hid (hA2 W)
   have hM3:=fun W hr=>(hM (ci (pw u k)) x W hr).out
   rw[eli_ci,←hu.out,←pw_succ]at hM3;replace hM3:=fun W hr=>Lib.hid (hM3 W hr)
   have hrr:=(hr.below hbw).more hbw.size;have hbo:b<wr.heap.size:=Nat.lt_of_lt_of_le hb hbw.size;have hcc:Hid (_∧_∧_∧wr.cell? ⟨b,o+k,none⟩=_):=Lib.hid (show _∧_∧_∧_ from ⟨hbx.cells.1,hbx.cells.2.1,hbx.cells.2.2,hc2⟩);have hk4:∀ {W w1:World} {v0 v1 v2 v3:Value},Below W.heap.size W w1→w.heap.size<W.heap.size→b<W.heap.size→(W.cell? ⟨w.heap.size,0,none⟩=some v0∧W.cell? ⟨w.heap.size,1,none⟩=some v1∧W.cell? ⟨w.heap.size,2,none⟩=some v2∧W.cell? ⟨b,o+k,none⟩=some v3) →
     w1.cell? ⟨w.heap.size,0,none⟩=some v0∧w1.cell? ⟨w.heap.size,1,none⟩=some v1∧w1.cell? ⟨w.heap.size,2,none⟩=some v2∧w1.cell? ⟨b,o+k,none⟩=some v3:=fun h1 h2 h3 h4 =>
    have:=keep3 h1 h2 ⟨h4.1,h4.2.1,h4.2.2.1⟩
    ⟨this.1,this.2.1,this.2.2,(h1.cell (p:=⟨b,o+k,none⟩) h3).trans h4.2.2.2⟩
   replace hk4:=fun {W w1:World} {v0 v1 v2 v3:Value} a1 a2 a3 a4=>Lib.hid (@hk4 W w1 v0 v1 v2 v3 a1 a2 a3 a4)
   clear hc hs hy hbx hc2;go_wp2_with (fail);go_region_held3 (fun w'=>w'.cell? ⟨w.heap.size,0,none⟩=some (.int .i64 D.p)∧w'.cell? ⟨w.heap.size,1,none⟩=some (.int .i64 D.m)∧w'.cell? ⟨w.heap.size,2,none⟩=some (.slice A D.mod.length c)∧w'.cell? ⟨b,o+k,none⟩=some (.int .i64 y)) (first | exact hcc.out | exact hcc1.out | exact hcc2.out)
    (first
     | (go_at_call 29; (with_reducible refine (hM2 _ hrr.drew).out.mono ?_); rintro e w1 ⟨rfl,hb1⟩; have hcc1:=hk4 hb1 hsz hbo hcc.out; have hs1:wr.heap.size≤w1.heap.size:=hb1.size; have hbw1:=(hbw.drew).trans (hb1.mono hbw.size))
     | (go_at_call 96; (with_reducible refine (hA2 _).out.mono ?_); rintro e w2 ⟨rfl,hb2⟩; have hcc2:=hk4 hb2 (Nat.lt_of_lt_of_le hsz hs1) (Nat.lt_of_lt_of_le hbo hs1) hcc1.out; have hbw2:=hbw1.trans (hb2.mono hbw1.size)))
   have hs2:w.heap.size<w2.heap.size:=Nat.lt_of_lt_of_le (Nat.lt_of_lt_of_le hsz hs1) hb2.size;have hbx2:Bx w2 w.heap.size D A D.mod.length c:=⟨hcc2.out.1,hcc2.out.2.1,hcc2.out.2.2.1⟩;have hrr2:=(hr.below hbw2).more hbw2.size;obtain⟨q0,q1,q2⟩:=hbx2.cells;go_wp2_with (fail);(with_reducible refine (hM3 _ hrr2).out.mono ?_);rintro e w3 ⟨rfl,hb3⟩;clear q0 q1 q2;go_wp2_with (fail);go_roundw
   case rel=>exact⟨k+1,by omega,by go_num,rfl,rfl,hbx2.below hb3 hs2,hbw2.trans (hb3.mono hbw2.size),Nat.lt_of_lt_of_le hs2 hb3.size⟩
   case measure=>simp[intOf]; omega
  ·obtain rfl:k=l.length:=by omega
   go_wp2_with (fail);go_ret;exact⟨rfl,hbw⟩
end
section
open Go.RowKit Cw

def cfR (D:Desc)(p:List Int):Nat→R D:=fun i=>eli D (p[i]?.getD 0)
def cfI (D:Desc)(p:List Int):Nat→Int:=fun i=>ci (cfR D p i)
theorem cfR_out (D:Desc){p:List Int} {i:Nat} (h:p.length≤i):cfR D p i=0:=by
 unfold cfR; rw[List.getElem?_eq_none h]; exact eli_zero
theorem cfR_can {D:Desc} (f:Nat→R D)(n:Nat)(h:∀ i,n≤i→f i=0):cfR D (canL (fun i=>ci (f i)) n)=f:=funext fun i=>by
 unfold cfR;by_cases hi:i<n
 ·rw[canL_get _ hi,eli_ci]
 ·rw[canL_out _ (by omega),h i (by omega)]; exact eli_zero
def canI (D:Desc)(p:List Int):List Int:=canL (cfI D p) p.length
theorem canI_le (D:Desc)(p:List Int):(canI D p).length≤p.length:=by unfold canI; rw[canL_length]; exact cdeg_le _ _
theorem cfR_canI (D:Desc)(p:List Int):cfR D (canI D p)=cfR D p:=cfR_can (cfR D p) p.length fun _ h=>cfR_out D h
set_option maxRecDepth 100000 in
set_option maxHeartbeats 2000000 in
theorem Canon5_any (D:Desc)(p:List Int)(A A1:Option Addr)(c c1:Nat)(w:World)(hr1:Rd w w.heap.size A1 p)(hl:p.length≤70000) :
    Calls Tryz.prog 104 #[.agg #[.int .i64 D.p,.int .i64 D.m,.slice A D.mod.length c],.slice A1 p.length c1] w (Gives w.heap.size (canI D p) w):=by
  have hI:=fun x W=>Lib.hid (In_any D x A D.mod.length c W)
  have hbx0:=Bx.new w D A D.mod.length c 24;have hB0:Below w.heap.size w (w.alloc (.cells #[.int .i64 D.p,.int .i64 D.m,.slice A D.mod.length c] 24)):=(Below.refl _ _).alloc (Nat.le_refl _) _;obtain⟨f,hf⟩:∃ f,f=cfI D p:=⟨_,rfl⟩;have hfk:∀ k,ci (eli D (p[k]?.getD 0))=f k:=fun k=>by rw[hf]; rfl
  unfold canI;rw[←hf];replace hf:=Lib.hid hf;replace hfk:=Lib.hid hfk;go_enter Tryz.func104,Tryz.ntmps104;go_wp2_with (fail);go_loopw [6,5] (fun i n wr=>∃ k:Nat,k≤p.length∧i=.int .i64 k∧n=.int .i64 (cdeg f k)∧Bx wr w.heap.size D A D.mod.length c∧Below w.heap.size w wr∧w.heap.size<wr.heap.size) (fun i _ _=>p.length - (intOf i).toNat)
  case atStart=>exact⟨0,by omega,rfl,rfl,hbx0,hB0,by simp⟩
  case round =>
    clear hbx0 hB0;obtain⟨w2,rfl⟩:∃ w2:World,w2=wr:=⟨_,rfl⟩;obtain⟨k,hk,rfl,rfl,hbx,hbw,hsz⟩:=hrel;by_cases hlt:k<p.length
    · have hk0:(0:Int)≤(k:Int):=by omega
      have hk1:(k:Int)<(p.length:Int):=by omega
      obtain⟨b,o,rfl,hb,hc⟩:=hr1.at_ hlt;have hd:=(hbw.cell (p:=⟨b,o+k,none⟩) hb).trans hc;have hI2:=fun W=>(hI (p[k]?.getD 0) W).out
      rw[hfk.out]at hI2;replace hI2:=fun W=>Lib.hid (hI2 W)
      generalize p[k]?.getD 0=y at *;have hcc:=Lib.hid (show _∧_∧_∧_ from ⟨hbx.cells.1,hbx.cells.2.1,hbx.cells.2.2,hd⟩);have hb':=Nat.lt_of_lt_of_le hb hbw.size;by_cases hz:f k=0
      all_goals
       first
       | (have hs:=Lib.hid (cdeg_yes hz); have hzb:(f k !=0)=false:=by rw[bne_eq_false_iff_eq]; exact hz)
       | (have hs:=Lib.hid (cdeg_no hz); have hzb:(f k !=0)=true:=by rw[bne_iff_ne]; exact hz)
       clear hc hd hbx hz;go_wp2_with (fail);go_region_held3 (fun w'=>w'.cell? ⟨w.heap.size,0,none⟩=some (.int .i64 D.p)∧w'.cell? ⟨w.heap.size,1,none⟩=some (.int .i64 D.m)∧w'.cell? ⟨w.heap.size,2,none⟩=some (.slice A D.mod.length c)∧w'.cell? ⟨b,o+k,none⟩=some (.int .i64 y)) (first | exact hcc.out | exact hcc1.out)
         (first
           | (go_at_call 80; (with_reducible refine (hI2 _).out.mono ?_); rintro e w3 ⟨rfl,hb3⟩; have hcc1:=Lib.hid (keep4 hb3 hsz hb' hcc.out)))
       go_wp2_with (fail);go_roundw
       case rel=>exact⟨k+1,by omega,by go_num,by first | (rw[hs.out]; done) | (rw[hs.out]; go_num),⟨hcc1.out.1,hcc1.out.2.1,hcc1.out.2.2.1⟩,hbw.drew.trans (hb3.mono hbw.size),Nat.lt_of_lt_of_le hsz hb3.size⟩
       case measure=>simp[intOf]; omega
    · obtain rfl:k=p.length:=by omega
      have hdl:=cdeg_le f p.length;obtain⟨N,hN⟩:∃ N,N=cdeg f p.length:=⟨_,rfl⟩;rw[←hN]at hdl ⊢;have hmk:=mk_ints N (by omega);have hI0:=IB.newz w2 N;obtain⟨g,hg⟩:∃ g,g=w2.heap.size:=⟨_,rfl⟩;obtain⟨Y,hY⟩:∃ Y,Y=w2.alloc (.cells (Array.replicate N (Value.int .i64 0)) 3):=⟨_,rfl⟩;have hib:IB Y g (upd N 0 f):=by rw[upd_zero,hY,hg]; exact hI0
      have hbY:Below w2.heap.size w2 Y:=by rw[hY]; exact (Below.refl _ _).alloc (Nat.le_refl _) _
      have hYs:g<Y.heap.size:=by rw[hY,hg]; simp
      have hbx1:=hbx.below hbY hsz;have hBY:=hbw.trans (hbY.mono hbw.size);have hgw:w.heap.size<g:=by omega
      have hgl:w.heap.size≤g:=Nat.le_of_lt hgw;replace hN:=Lib.hid hN;replace hY:=Lib.hid hY;replace hg:=Lib.hid hg;clear hI0 hbx hbw hbY;go_wp2_with (fail);rw[←hY.out];rw[←hg.out];clear hsz hY hg;go_loopw [8] (fun i wr=>∃ k:Nat,k≤N∧i=.int .i64 k∧IB wr g (upd N k f)∧Bx wr w.heap.size D A D.mod.length c∧Below w.heap.size w wr) (fun i _=>N - (intOf i).toNat)
      case atStart=>exact⟨0,by omega,rfl,hib,hbx1,hBY⟩
      case round =>
        clear hib hbx1 hBY hYs;obtain⟨w3,rfl⟩:∃ w3:World,w3=wr:=⟨_,rfl⟩;obtain⟨k,hk,rfl,hib,hbx,hbw⟩:=hrel;have hg3:=hib.lt;by_cases hlt:k<N
        · have hk0:(0:Int)≤(k:Int):=by omega
          have hk1:(k:Int)<(p.length:Int):=by omega
          have hk2:(k:Int)<(N:Int):=by omega
          obtain⟨b,o,rfl,hb,hc⟩:=hr1.at_ (by omega:k<p.length);have hd:=(hbw.cell (p:=⟨b,o+k,none⟩) hb).trans hc;have hI2:=fun W=>(hI (p[k]?.getD 0) W).out
          rw[hfk.out]at hI2;obtain⟨v,hv⟩:∃ v,v=f k:=⟨_,rfl⟩;rw[←hv]at hI2;have hI3:=Lib.hid (hI2 w3.drew);generalize p[k]?.getD 0=y at *;have hsz3:w.heap.size<w3.heap.size:=by omega
          have hcc:=Lib.hid (show _∧_∧_∧_ from ⟨hbx.cells.1,hbx.cells.2.1,hbx.cells.2.2,hd⟩);have hb':=Nat.lt_of_lt_of_le hb hbw.size;have hbg:b≠g:=by omega
          have hkk:Hid (k<(upd N k f).length):=by unfold Hid; rw[upd_length]; exact hlt
          replace hv:=Lib.hid hv;clear hc hd hbx hI2 hI;go_wp2_with (fail);refine wp_region_held_drew (S:=fun w'=>w'.cell? ⟨w.heap.size,0,none⟩=some (.int .i64 D.p)∧w'.cell? ⟨w.heap.size,1,none⟩=some (.int .i64 D.m)∧w'.cell? ⟨w.heap.size,2,none⟩=some (.slice A D.mod.length c)∧w'.cell? ⟨b,o+k,none⟩=some (.int .i64 y)) (by kernel_rfl) (by (try dsimp only); exact hcc.out) (fun hHeld=>?_);refine tk 0 ?_; try simp only[pS]
          refine tk 1 ?_; try simp only[pS]
          refine tk 2 ?_; try simp only[pS]
          refine tk 3 ?_; try simp only[pS]
          refine tk 4 ?_; try simp only[pS]
          refine tk 5 ?_; try simp only[pS]
          refine tk 6 ?_; try simp only[pS]
          refine rd 7 fun K hK=>?_
          go_simp;go_at_call 80;(with_reducible refine (hI3).out.mono ?_);rintro e w4 ⟨rfl,hb4⟩;go_wp2_with (fail);refine hK.out _ _ (by (try dsimp only); exact keep4 hb4 hsz3 hb' hcc.out) (fun hHeld=>?_);clear hK K;try simp only[pS]
          have hib4:=hib.drew.below hb4 hg3;have hcW:=hib4.cell hkk.out;have hfW:=hib4.frozen k;refine tk 8 ?_; try simp only[pS]
          refine rd 9 fun K hK=>?_
          go_simp;refine hK.out _ _ (by (try dsimp only); exact keep4 (B:=g) ((Below.refl _ _).setCell (p:=⟨g,k,none⟩) (Nat.le_refl _) _) (by omega) (by omega) (keep4 hb4 hsz3 hb' hcc.out)) (fun hHeld=>?_);clear hK K;try simp only[pS]
          refine wpAnyH_done (by kernel_rfl) ?_ _;have hB4:=hbw.drew.trans (hb4.mono hbw.size);have hs4:w3.heap.size≤w4.heap.size:=hb4.size;have hset:=hib4.set_ k v;rw[hv.out,upd_set,←hv.out]at hset;have kk4:=keep4 (B:=g) ((Below.refl _ _).setCell (p:=⟨g,k,none⟩) (Nat.le_refl _) (.int .i64 v)) (by omega) (by omega) (keep4 hb4 hsz3 hb' hcc.out);replace hset:=Lib.hid hset;replace kk4:=Lib.hid kk4;clear hcW hfW;go_wp2_with (fail);go_roundw
          case rel=>exact⟨k+1,by omega,by go_num,hset,⟨kk4.out.1,kk4.out.2.1,kk4.out.2.2.1⟩,hB4.setCell (p:=⟨g,k,none⟩) hgl _⟩
          case measure=>simp[intOf]; omega
        · obtain rfl:k=N:=by omega
          rw[upd_full]at hib;go_wp2_with (fail);go_ret;exact⟨g,by rw[canL_length,←hN.out]; rfl,hgl,by unfold canL; rw[←hN.out]; exact hib,hbw⟩
end
section
open Go.ChangeShapes Go.WideShapes Go.ChangeAt Go.RowKit Go.Joins Go.Deep

section
variable {H:Type} {enc:TypeId×Value→H} {W:World} {base:Nat}
theorem cells_ints':Tryz.prog.cellsOf 22=1:=by kernel_rfl
end
end
section
open Go.RowKit Cw

theorem keep6 {B b:Nat} {W w1:World} {v0 v1 v2 v3 v4 v5:Value} (hb:Below B W w1)(hlt:b<B)(h:W.cell? ⟨b,0,none⟩=some v0∧W.cell? ⟨b,1,none⟩=some v1∧W.cell? ⟨b,2,none⟩=some v2∧W.cell? ⟨b,3,none⟩=some v3∧W.cell? ⟨b,4,none⟩=some v4∧W.cell? ⟨b,5,none⟩=some v5) :
  w1.cell? ⟨b,0,none⟩=some v0∧w1.cell? ⟨b,1,none⟩=some v1∧w1.cell? ⟨b,2,none⟩=some v2∧w1.cell? ⟨b,3,none⟩=some v3∧w1.cell? ⟨b,4,none⟩=some v4∧w1.cell? ⟨b,5,none⟩=some v5 :=
 ⟨(hb.cell (p:=⟨b,0,none⟩) hlt).trans h.1,(hb.cell (p:=⟨b,1,none⟩) hlt).trans h.2.1,(hb.cell (p:=⟨b,2,none⟩) hlt).trans h.2.2.1,(hb.cell (p:=⟨b,3,none⟩) hlt).trans h.2.2.2.1,(hb.cell (p:=⟨b,4,none⟩) hlt).trans h.2.2.2.2.1,(hb.cell (p:=⟨b,5,none⟩) hlt).trans h.2.2.2.2.2⟩
theorem alloc6 (w:World)(v0 v1 v2 v3 v4 v5:Value)(t:TypeId):(w.alloc (.cells #[v0,v1,v2,v3,v4,v5] t)).cell? ⟨w.heap.size,0,none⟩=some v0∧(w.alloc (.cells #[v0,v1,v2,v3,v4,v5] t)).cell? ⟨w.heap.size,1,none⟩=some v1∧(w.alloc (.cells #[v0,v1,v2,v3,v4,v5] t)).cell? ⟨w.heap.size,2,none⟩=some v2 ∧
  (w.alloc (.cells #[v0,v1,v2,v3,v4,v5] t)).cell? ⟨w.heap.size,3,none⟩=some v3∧(w.alloc (.cells #[v0,v1,v2,v3,v4,v5] t)).cell? ⟨w.heap.size,4,none⟩=some v4∧(w.alloc (.cells #[v0,v1,v2,v3,v4,v5] t)).cell? ⟨w.heap.size,5,none⟩=some v5:=by
 simp[go_sem]

def gchkD (D:Desc)(K:Int)(pts mul:List Int):Int :=
 if pts.length<1∨64<pts.length then 4 else if mul.length≠pts.length then 10 else if elB D pts=false∨elB D mul=false then 2
 else if twB pts=true then 18 else if (0:Int)∈mul then 7 else if K<0∨(pts.length:Int)<K then 6 else 0

set_option maxHeartbeats 1000000 in
theorem gOpen_bad (P M K:Int)(ml pts mul:List Int)(A A1 A2:Option Addr)(c c1 c2:Nat)(w:World)(hP:I64 P)(hM:I64 M)(hl:ml.length≤maxLen)(hr:Rd w w.heap.size A ml)(hb:¬ Good P M ml) :
  Calls Tryz.prog 181 #[.agg #[.int .i64 P,.int .i64 M,.slice A ml.length c,.int .i64 K,.slice A1 pts.length c1,.slice A2 mul.length c2]] w fun e w'=>e=.returned (.tuple #[.pointer none,.int .i64 1])∧Below w.heap.size w w':=by
 have hN:=fun W h=>Lib.hid (New_no P M ml A c W hP.2 hM.2 hl h hb)
 have k0:=Lib.hid (alloc6 w (.int .i64 P) (.int .i64 M) (.slice A ml.length c) (.int .i64 K) (.slice A1 pts.length c1) (.slice A2 mul.length c2) 72);have hB:Below w.heap.size w (w.alloc (.cells #[.int .i64 P,.int .i64 M,.slice A ml.length c,.int .i64 K,.slice A1 pts.length c1,.slice A2 mul.length c2] 72)):=(Below.refl _ _).alloc (Nat.le_refl _) _;have hN2:=hN _ ((hr.below hB).more hB.size);clear hP hM hl hb hN;go_enter Tryz.func181,Tryz.ntmps181;go_wp2_with (fail);(with_reducible refine hN2.out.mono ?_);rintro e w1 ⟨rfl,hb1⟩;obtain⟨q0,q1,q2,q3,q4,q5⟩:=keep6 hb1 (by simp) k0.out;go_wp2_with (fail);go_ret2;exact⟨rfl,hB.trans (hb1.mono hB.size)⟩

def OpenPost (D:Desc)(K:Int)(pts mul:List Int)(w:World)(e:Ending)(w':World):Prop :=
 Below w.heap.size w w'∧∃ g,∃ F:FD,F.toDesc=D∧GF w' w'.heap.size g F∧w.heap.size≤g ∧
  ((gchkD D K pts mul=0∧e=.returned (.tuple #[.pointer (some ⟨g,0,none⟩),.int .i64 0]))∨(gchkD D K pts mul≠0∧e=.returned (.tuple #[.pointer none,.int .i64 (gchkD D K pts mul)])))

set_option maxRecDepth 100000 in
set_option maxHeartbeats 2000000 in
theorem gOpen_D (D:Desc)(K:Int)(pts mul:List Int)(A A1 A2:Option Addr)(c c1 c2:Nat)(w:World)(hr:Rd w w.heap.size A (modL D))(hg:Good D.p D.m (modL D))(hr1:Rd w w.heap.size A1 pts)(hr2:Rd w w.heap.size A2 mul)(h1:pts.length≤c1)(h1':c1≤maxLen)(h2:mul.length≤maxLen) :
  Calls Tryz.prog 181 #[.agg #[.int .i64 D.p,.int .i64 D.m,.slice A D.mod.length c,.int .i64 K,.slice A1 pts.length c1,.slice A2 mul.length c2]] w (OpenPost D K pts mul w):=by
 have hN:=fun W h=>Lib.hid (New_good D A c W h hg)
 have k0:=Lib.hid (alloc6 w (.int .i64 D.p) (.int .i64 D.m) (.slice A D.mod.length c) (.int .i64 K) (.slice A1 pts.length c1) (.slice A2 mul.length c2) 72);have hB:Below w.heap.size w (w.alloc (.cells #[.int .i64 D.p,.int .i64 D.m,.slice A D.mod.length c,.int .i64 K,.slice A1 pts.length c1,.slice A2 mul.length c2] 72)):=(Below.refl _ _).alloc (Nat.le_refl _) _;have hN2:=hN _ ((hr.below hB).more hB.size);have hm:c1≤maxLen:=h1';unfold maxLen at hm;have hm2:=h2;unfold maxLen at hm2;clear hN hg;unfold OpenPost;go_enter Tryz.func181,Tryz.ntmps181;go_wp2_with (fail);(with_reducible refine hN2.out.mono ?_);rintro e w1 ⟨g,F,rfl,rfl,hgl,hgf,hb1⟩;have hB1:=hB.trans (hb1.mono hB.size);have hfin:∀ (w2:World) (e:Ending),GF w2 w2.heap.size g F→Below w.heap.size w w2→((gchkD F.toDesc K pts mul=0∧e=.returned (.tuple #[.pointer (some ⟨g,0,none⟩),.int .i64 0]))∨(gchkD F.toDesc K pts mul≠0∧e=.returned (.tuple #[.pointer none,.int .i64 (gchkD F.toDesc K pts mul)]))) →
   Below w.heap.size w w2∧∃ g,∃ F':FD,F'.toDesc=F.toDesc∧GF w2 w2.heap.size g F'∧w.heap.size≤g∧((gchkD F.toDesc K pts mul=0∧e=.returned (.tuple #[.pointer (some ⟨g,0,none⟩),.int .i64 0]))∨(gchkD F.toDesc K pts mul≠0∧e=.returned (.tuple #[.pointer none,.int .i64 (gchkD F.toDesc K pts mul)]))) :=
  fun w2 e h1 h2 h3=>⟨h2,g,F,rfl,h1,Nat.le_trans hB.size hgl,h3⟩
 have hr1':=(hr1.below hB1).more hB1.size;have hr2':=(hr2.below hB1).more hB1.size;have hE1:=Lib.hid (gElems_any F pts A1 c1 g w1 hgf hr1' (Nat.le_trans h1 h1'));have hE2:=Lib.hid (gElems_any F mul A2 c2 g w1 hgf hr2' h2);have hT:=Lib.hid (gTwice_any pts A1 c1 w1 hr1' h1 h1');have hns:w.heap.size<w1.heap.size:=by have:=hb1.size; simp only[World.size_alloc]at this; omega
 obtain⟨q0,q1,q2,q3,q4,q5⟩:=keep6 hb1 (by simp) k0.out;replace hfin:=Lib.hid hfin;clear hb1 hN2 k0 hB hgl;by_cases c1':pts.length<1
 ·have hv:Hid (gchkD F.toDesc K pts mul=4):=if_pos (.inl c1');go_wp2_with (fail);go_ret2;exact hfin.out _ _ hgf hB1 (.inr ⟨by rw[hv.out]; decide,by rw[hv.out]; rfl⟩)
 by_cases c2':64<pts.length
 ·have hv:Hid (gchkD F.toDesc K pts mul=4):=if_pos (.inr c2');go_wp2_with (fail);go_ret2;exact hfin.out _ _ hgf hB1 (.inr ⟨by rw[hv.out]; decide,by rw[hv.out]; rfl⟩)
 have hch0:gchkD F.toDesc K pts mul=if mul.length≠pts.length then 10 else if elB F.toDesc pts=false∨elB F.toDesc mul=false then 2
   else if twB pts=true then 18 else if (0:Int)∈mul then 7 else if K<0∨(pts.length:Int)<K then 6 else 0:=if_neg (by omega)
 by_cases c3':mul.length=pts.length;rotate_left
 ·have hv:Hid (gchkD F.toDesc K pts mul=10):=hch0.trans (if_pos c3');have hz:((mul.length:Int) !=(pts.length:Int))=true:=by rw[bne_iff_ne]; omega
  clear hch0;go_wp2_with (fail);go_ret2;exact hfin.out _ _ hgf hB1 (.inr ⟨by rw[hv.out]; decide,by rw[hv.out]; rfl⟩)
 have hz3:((mul.length:Int) !=(pts.length:Int))=false:=by rw[bne_eq_false_iff_eq]; omega
 rw[if_neg (not_not_intro c3')]at hch0;replace c3':=Lib.hid c3';by_cases c4':elB F.toDesc pts=true;rotate_left
 ·rw[Bool.not_eq_true]at c4';have hv:Hid (gchkD F.toDesc K pts mul=2):=hch0.trans (if_pos (.inl c4'));rw[c4']at hE1;clear hch0 c4';go_wp2_with (fail);(with_reducible refine hE1.out.mono ?_);rintro e w2 ⟨rfl,rfl⟩;go_wp2_with (fail);go_ret2;exact hfin.out _ _ hgf hB1 (.inr ⟨by rw[hv.out]; decide,by rw[hv.out]; rfl⟩)
 rw[c4']at hE1;by_cases c5':elB F.toDesc mul=true;rotate_left
 ·rw[Bool.not_eq_true]at c5';have hv:Hid (gchkD F.toDesc K pts mul=2):=hch0.trans (if_pos (.inr c5'));rw[c5']at hE2;clear hch0 c5' c4';go_wp2_with (fail);(with_reducible refine hE1.out.mono ?_);rintro e w2 ⟨rfl,rfl⟩;go_wp2_with (fail);(with_reducible refine hE2.out.mono ?_);rintro e w2 ⟨rfl,rfl⟩;go_wp2_with (fail);go_ret2;exact hfin.out _ _ hgf hB1 (.inr ⟨by rw[hv.out]; decide,by rw[hv.out]; rfl⟩)
 rw[c5']at hE2;rw[if_neg (by rw[c4',c5']; simp)]at hch0;clear c4' c5';by_cases c6':twB pts=true
 ·have hv:Hid (gchkD F.toDesc K pts mul=18):=hch0.trans (if_pos c6');rw[c6']at hT;clear hch0 c6';go_wp2_with (fail);(with_reducible refine hE1.out.mono ?_);rintro e w2 ⟨rfl,rfl⟩;go_wp2_with (fail);(with_reducible refine hE2.out.mono ?_);rintro e w2 ⟨rfl,rfl⟩;go_wp2_with (fail);(with_reducible refine hT.out.mono ?_);rintro e w2 ⟨rfl,rfl⟩;go_wp2_with (fail);go_ret2;exact hfin.out _ _ hgf hB1 (.inr ⟨by rw[hv.out]; decide,by rw[hv.out]; rfl⟩)
 rw[if_neg c6']at hch0;rw[Bool.not_eq_true]at c6';rw[c6']at hT;clear c6';replace hch0:=Lib.hid hch0;go_wp2_with (fail);(with_reducible refine hE1.out.mono ?_);rintro e w2 ⟨rfl,rfl⟩;go_wp2_with (fail);(with_reducible refine hE2.out.mono ?_);rintro e w2 ⟨rfl,rfl⟩;go_wp2_with (fail);(with_reducible refine hT.out.mono ?_);rintro e w2 ⟨rfl,rfl⟩;go_wp2_with (fail);go_loop [53,8] (fun i _=>∃ k:Nat,k≤mul.length∧i=.int .i64 k∧Hid (∀ j,j<k→mul[j]?.getD 0≠0)) (fun i _=>mul.length - (intOf i).toNat)
 case atStart=>exact⟨0,by omega,rfl,fun j hj=>absurd hj (by omega)⟩
 case round =>
  obtain⟨k,hk,rfl,hall⟩:=hrel;by_cases hlt:k<mul.length
  ·obtain⟨b,o,rfl,-,hc⟩:=hr2'.at_ hlt;have hin:mul[k]?.getD 0∈mul:=by rw[List.getElem?_eq_getElem hlt]; exact List.getElem_mem _
   by_cases hy:mul[k]?.getD 0=0
   ·have hv:Hid (gchkD F.toDesc K pts mul=7):=hch0.out.trans (if_pos (hy ▸ hin));rw[hy]at hc;clear hin hy;go_wp2_with (fail);go_ret2;exact hfin.out _ _ hgf hB1 (.inr ⟨by rw[hv.out]; decide,by rw[hv.out]; rfl⟩)
   ·have hall2:Hid (∀ j,j<k+1→mul[j]?.getD 0≠0):=fun j hj=>by
     by_cases e:j=k
     ·subst e; exact hy
     ·exact hall.out j (by omega)
    clear hin;generalize mul[k]?.getD 0=y at *;have hyb:(y==0)=false:=beq_eq_false_iff_ne.2 hy;clear hy;go_wp2_with (fail);go_round
    case rel=>exact⟨k+1,by omega,by go_num,hall2⟩
    case measure=>simp[intOf]; omega
  ·obtain rfl:k=mul.length:=by omega
   have hno:¬ (0:Int)∈mul:=fun h=>by
    obtain⟨j,hj,e⟩:=List.getElem_of_mem h;refine hall.out j hj ?_;rw[List.getElem?_eq_getElem hj]; exact e
   by_cases c7':K<0
   ·have hv:Hid (gchkD F.toDesc K pts mul=6):=hch0.out.trans ((if_neg hno).trans (if_pos (.inl c7')));clear hno;go_wp2_with (fail);go_ret2;exact hfin.out _ _ hgf hB1 (.inr ⟨by rw[hv.out]; decide,by rw[hv.out]; rfl⟩)
   by_cases c8':(pts.length:Int)<K
   ·have hv:Hid (gchkD F.toDesc K pts mul=6):=hch0.out.trans ((if_neg hno).trans (if_pos (.inr c8')));clear hno;go_wp2_with (fail);go_ret2;exact hfin.out _ _ hgf hB1 (.inr ⟨by rw[hv.out]; decide,by rw[hv.out]; rfl⟩)
   have hv:Hid (gchkD F.toDesc K pts mul=0):=hch0.out.trans ((if_neg hno).trans (if_neg (by omega)));clear hno;go_wp2_with (fail);go_ret2;exact hfin.out _ _ hgf hB1 (.inl ⟨hv.out,rfl⟩)
end
section
open Go.RowKit Cw

theorem keep8 {B b b1 o1 b2 o2:Nat} {W w1:World} {v0 v1 v2 v3 v4 v5 v6 v7:Value} (hb:Below B W w1)(hlt:b<B)(h1:b1<B)(h2:b2<B)
  (h:W.cell? ⟨b,0,none⟩=some v0∧W.cell? ⟨b,1,none⟩=some v1∧W.cell? ⟨b,2,none⟩=some v2∧W.cell? ⟨b,3,none⟩=some v3∧W.cell? ⟨b,4,none⟩=some v4∧W.cell? ⟨b,5,none⟩=some v5∧W.cell? ⟨b1,o1,none⟩=some v6∧W.cell? ⟨b2,o2,none⟩=some v7) :
  w1.cell? ⟨b,0,none⟩=some v0∧w1.cell? ⟨b,1,none⟩=some v1∧w1.cell? ⟨b,2,none⟩=some v2∧w1.cell? ⟨b,3,none⟩=some v3∧w1.cell? ⟨b,4,none⟩=some v4∧w1.cell? ⟨b,5,none⟩=some v5∧w1.cell? ⟨b1,o1,none⟩=some v6∧w1.cell? ⟨b2,o2,none⟩=some v7 :=
 have k:=keep6 hb hlt ⟨h.1,h.2.1,h.2.2.1,h.2.2.2.1,h.2.2.2.2.1,h.2.2.2.2.2.1⟩
 ⟨k.1,k.2.1,k.2.2.1,k.2.2.2.1,k.2.2.2.2.1,k.2.2.2.2.2,(hb.cell (p:=⟨b1,o1,none⟩) h1).trans h.2.2.2.2.2.2.1,(hb.cell (p:=⟨b2,o2,none⟩) h2).trans h.2.2.2.2.2.2.2⟩

end
section
open Go.ChangeShapes Go.WideShapes Go.ChangeAt Go.RowKit Go.Joins Go.Deep

section
variable {H:Type} {enc:TypeId×Value→H} {W:World} {base:Nat}
theorem cells_fieldC {n:Nat} {c0 c1 c2:Value} {y:DataW H×List MemPlace} (h:DataW.trod enc Tryz.prog W 0 (fun _=>true) true n 24 [c0,c1,c2]=some y)(hlt:∀ x∈y.2,x.block<W.heap.size) :
  ∃ (p m:Int) (A:Option Addr) (l:List Int) (c:Nat),c0=.int .i64 p∧c1=.int .i64 m∧c2=.slice A l.length c∧I64 p∧I64 m∧l.length≤maxLen∧Rd W W.heap.size A l:=by
 obtain⟨f0,f1,f2,hs,t0,t1,t2,hone,hC⟩:=ty_field;obtain⟨o0,k0⟩:=hone_of hone 0 f0 rfl;obtain⟨o1,k1⟩:=hone_of hone 1 f1 rfl;obtain⟨o2,k2⟩:=hone_of hone 2 f2 rfl;obtain⟨y0,y1,y2,n',hx,-,h0,h1,h2⟩:=trod_struct3 hs h;simp only[o0,o1,o2,k0,k1,k2]at h0 h1 h2;rw[t0]at h0; rw[t1]at h1; rw[t2]at h2;subst hx;obtain⟨x0,rfl,i0⟩:=cell_int (v:=c0) h0;obtain⟨x1,rfl,i1⟩:=cell_int (v:=c1) h1;obtain⟨A,l,c,rfl,hl,hm,hi,hr⟩:=cell_ints (v:=c2) h2 fun x hx=>hlt x (by simp[hx])
 exact⟨x0,x1,A,l,c,rfl,rfl,rfl,i0,i1,by omega,hr⟩
theorem cells_fieldT5:Tryz.prog.cellsOf 24=3:=by kernel_rfl
end
end
section
open Go.ChangeShapes Go.WideShapes Go.ChangeAt Go.RowKit Go.Joins Go.Deep

section
variable {H:Type} {enc:TypeId×Value→H} {W:World} {base:Nat}
theorem array8 {α:Type} {cs:Array α} (h:cs.size=8):∃ c0 c1 c2 c3 c4 c5 c6 c7,cs=#[c0,c1,c2,c3,c4,c5,c6,c7]:=by
 obtain⟨l⟩:=cs
 match l,h with
 | [c0,c1,c2,c3,c4,c5,c6,c7],_=>exact⟨c0,c1,c2,c3,c4,c5,c6,c7,rfl⟩
theorem ty_gop:∃ f0 f1 f2 f3:Field,Tryz.prog.underlying 44=some (.struct #[f0,f1,f2,f3])∧(f0.type=24∧f0.offset=0)∧(f1.type=24∧f1.offset=3)∧(f2.type=22∧f2.offset=6)∧(f3.type=22∧f3.offset=7) :=
 ⟨_,_,_,_,Tryz.underlying44,⟨rfl,rfl⟩,⟨rfl,rfl⟩,⟨rfl,rfl⟩,⟨rfl,rfl⟩⟩
theorem cells_gop:Tryz.prog.cellsOf 44=8:=by kernel_rfl
set_option maxRecDepth 100000 in
theorem arg_gop {v:Value} {d:DataW H} {p:List MemPlace} (hv:Value.okWide Tryz.prog W .any base 44 v)(h:DataW.Trod enc Tryz.prog W 0 (fun _=>true) true 44 v d p)(hlt:∀ x∈p,x.block<W.heap.size) :
  ∃ (P M Q N:Int) (A B C D:Option Addr) (ml nl poly pts:List Int) (c b k e:Nat),v=.agg #[.int .i64 P,.int .i64 M,.slice A ml.length c,.int .i64 Q,.int .i64 N,.slice B nl.length b,.slice C poly.length k,.slice D pts.length e] ∧
   I64 P∧I64 M∧I64 Q∧I64 N∧ml.length≤maxLen∧nl.length≤maxLen∧(poly.length≤k∧k≤maxLen)∧(pts.length≤e∧e≤maxLen)∧(∀ x∈poly,I64 x)∧(∀ x∈pts,I64 x)∧Rd W W.heap.size A ml∧Rd W W.heap.size B nl∧Rd W W.heap.size C poly∧Rd W W.heap.size D pts:=by
 obtain⟨f0,f1,f2,f3,hs,⟨t0,o0⟩,⟨t1,o1⟩,⟨t2,o2⟩,⟨t3,o3⟩⟩:=ty_gop;obtain⟨cs,rfl,hsz⟩:=okWide_struct hs hv;obtain⟨c0,c1,c2,c3,c4,c5,c6,c7,rfl⟩:=array8 (hsz.trans cells_gop);obtain⟨fuel,hf⟩:=h;obtain⟨xs,n,_,hx,_,hlen,hg⟩:=DataW.trod_struct hs hf
 match xs,hlen with
 | [y0,y1,y2,y3],_ =>
  have g0:=hg 0 f0 rfl;have g1:=hg 1 f1 rfl;have g2:=hg 2 f2 rfl;have g3:=hg 3 f3 rfl;rw[t0,o0,cells_fieldT5]at g0;rw[t1,o1,cells_fieldT5]at g1;rw[t2,o2,cells_ints']at g2;rw[t3,o3,cells_ints']at g3;simp only[Prod.mk.injEq]at hx;have hp:=hx.2;obtain⟨P,M,A,ml,c,rfl,rfl,rfl,i0,i1,hl,hr⟩:=cells_fieldC (c0:=c0) (c1:=c1) (c2:=c2) g0 fun x hx=>hlt x (by rw[hp]; simp[hx])
  obtain⟨Q,N,B,nl,b,rfl,rfl,rfl,i2,i3,hl2,hr2⟩:=cells_fieldC (c0:=c3) (c1:=c4) (c2:=c5) g1 fun x hx=>hlt x (by rw[hp]; simp[hx])
  obtain⟨C,poly,k,rfl,a1,b1,d1,r1⟩:=cell_ints (v:=c6) g2 fun x hx=>hlt x (by rw[hp]; simp[hx])
  obtain⟨D,pts,e,rfl,a2,b2,d2,r2⟩:=cell_ints (v:=c7) g3 fun x hx=>hlt x (by rw[hp]; simp[hx])
  exact⟨P,M,Q,N,A,B,C,D,ml,nl,poly,pts,c,b,k,e,rfl,i0,i1,i2,i3,hl,hl2,⟨a1,b1⟩,⟨a2,b2⟩,d1,d2,hr,hr2,r1,r2⟩
end
end
end Go.Proofs.YtjdoneanohhkmaaGreat

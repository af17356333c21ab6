/- Layer 12 of the program: list of a good list, Encode of a valid message (matrix.Vec). -/
import Derived.Test.YtogfekjbpcfgmaaGreatZtXCodD
import Derived.Test.YtogfekjbpcfgmaaGreatZtXDsM
import Derived.Test.YtogfekjbpcfgmaaGreatZtXVecW
import Derived.Test.YtogfekjbpcfgmaaGreatZtXCodN
import Derived.Test.YtogfekjbpcfgmaaGreatZtXTk
namespace Go.Proofs.YtogfekjbpcfgmaaGreat
open Go.RowKit Cw
attribute [local go_sem] Oper.semAt_some

set_option maxHeartbeats 1000000 in
theorem list1_in (F:FD)(x:Int)(h0:0≤x)(h1:x<F.q)(g c:Nat)(w:World)(hg:GF w w.heap.size g F)(hc:w.cell? ⟨c,0,none⟩=some (.pointer (some ⟨g,0,none⟩))) :
  Calls Tryz.prog 154 #[.int .i64 x,.pointer (some ⟨c,0,none⟩)] w fun e w'=>e=.returned (.bool false)∧w=w':=by
 have hI:=gIs_any F x g w hg;rw[decide_eq_true (show 0≤x∧x<(F.q:Int) from ⟨h0,h1⟩)]at hI;replace hI:=Lib.hid hI;replace h0:=Lib.hid h0;replace h1:=Lib.hid h1;go_enter Tryz.func154,Tryz.ntmps154;go_wp2_with (fail);(with_reducible refine hI.out.mono ?_);rintro e w1 ⟨rfl,rfl⟩;go_wp2_with (fail);go_ret;exact⟨rfl,rfl⟩

set_option maxHeartbeats 1000000 in
theorem slIxF_in (F:FD)(l:List Int)(n:Nat)(hln:l.length=n)(hn:n≤1000000)(hin:∀ j,j<n→0≤l[j]?.getD 0∧l[j]?.getD 0<F.q)(A:Option Addr)(cp g c:Nat)(w:World)(hg:GF w w.heap.size g F)(hc:w.cell? ⟨c,0,none⟩=some (.pointer (some ⟨g,0,none⟩)))(hr:Rd w w.heap.size A l) :
  Calls Tryz.prog 203 #[.slice A n cp,.func (.func 154) #[] #[.pointer (some ⟨c,0,none⟩)]] w fun e w'=>e=.returned (.int .i64 (-1))∧Below w.heap.size w w':=by
 have hI:=fun x W a b d e=>Lib.hid (list1_in F x a b g c W d e)
 replace hln:=Lib.hid hln;go_enter Tryz.func203,Tryz.ntmps203;go_wp2_with (fail);go_loopw [8,5] (fun i _ wr=>∃ k:Nat,k≤n∧i=.int .i64 k∧wr=w) (fun i _ _=>n - (intOf i).toNat)
 case atStart=>exact⟨0,by omega,rfl,rfl⟩
 case round =>
  obtain⟨k,hk,rfl,hww⟩:=hrel;by_cases hlt:k<n
  ·have hk0:(0:Int)≤(k:Int):=by omega
   have hk1:(k:Int)<(n:Int):=by omega
   obtain⟨b1,o1,rfl,hb1,hc1⟩:=hr.at_ (by rw[hln.out]; exact hlt);obtain⟨y1,hy1⟩:∃ y,y=l[k]?.getD 0:=⟨_,rfl⟩;have hy2:=hin k hlt;rw[←hy1]at hc1 hy2;have hI2:=hI y1 w hy2.1 hy2.2 hg hc;subst hww;replace hy1:=Lib.hid hy1;clear hy2 hI hin;go_wp2_with (fail);(with_reducible refine hI2.out.mono ?_);rintro e w4 ⟨rfl,rfl⟩;go_wp2_with (fail);go_roundw
   case rel=>exact⟨k+1,by omega,by go_num,trivial⟩
   case measure=>simp[intOf]; omega
  ·obtain rfl:k=n:=by omega
   subst hww;clear hI hin;go_wp2_with (fail);go_ret;exact⟨rfl,Below.refl _ _⟩
set_option maxHeartbeats 1000000 in
theorem slCtF_in (F:FD)(l:List Int)(n:Nat)(hln:l.length=n)(hn:n≤1000000)(hin:∀ j,j<n→0≤l[j]?.getD 0∧l[j]?.getD 0<F.q)(A:Option Addr)(cp g c:Nat)(w:World)(hg:GF w w.heap.size g F)(hc:w.cell? ⟨c,0,none⟩=some (.pointer (some ⟨g,0,none⟩)))(hr:Rd w w.heap.size A l) :
  Calls Tryz.prog 153 #[.slice A n cp,.func (.func 154) #[] #[.pointer (some ⟨c,0,none⟩)]] w fun e w'=>e=.returned (.bool false)∧Below w.heap.size w w':=by
 have hI:=Lib.hid (slIxF_in F l n hln hn hin A cp g c w hg hc hr);clear hin hln;go_enter Tryz.func153,Tryz.ntmps153;go_wp2_with (fail);(with_reducible refine hI.out.mono ?_);rintro e w1 ⟨rfl,hb1⟩;go_wp2_with (fail);go_ret;exact⟨rfl,hb1⟩

set_option maxHeartbeats 2000000 in
theorem cList_in (F:FD)(hgood:Good F.p F.m (modL F.toDesc))(l:List Int)(n:Nat)(hln:l.length=n)(hn:n≤1000000)(hin:∀ j,j<n→0≤l[j]?.getD 0∧l[j]?.getD 0<F.q)(A A1:Option Addr)(c c1:Nat)(w:World)(hr:Rd w w.heap.size A (modL F.toDesc))(hr1:Rd w w.heap.size A1 l) :
  Calls Tryz.prog 94 #[.agg #[.int .i64 F.p,.int .i64 F.m,.slice A F.mod.length c],.slice A1 n c1,.int .i64 n] w fun e w'=>e=.returned (.int .i64 0)∧Below w.heap.size w w':=by
 have hmf:∀ (fn:Fn) (first cap:Array Value) (w:World),(Instr.makeFunc fn first cap).run Tryz.prog w=.ok (.func fn first cap) w:=fun _ _ _ _=>rfl
 have hN:=fun W h=>Lib.hid (New_good F.toDesc A c W h hgood)
 have hC:=fun (F1:FD) (h:F1.toDesc=F.toDesc) g X W b d e=>Lib.hid (slCtF_in F1 l n hln hn (by rw[h]; exact hin) A1 c1 g X W b d e)
 have hb0:((n:Int) !=(n:Int))=false:=by simp
 have hb1:(n !=n)=false:=by simp
 obtain⟨Z,hZ⟩:∃ Z,Z=w.alloc (.cells #[.int .i64 F.p,.int .i64 F.m,.slice A F.mod.length c] 24):=⟨_,rfl⟩;have hB:Below w.heap.size w Z:=by rw[hZ]; exact (Below.refl _ _).alloc (Nat.le_refl _) _
 have k0:=Lib.hid (show Z.cell? ⟨w.heap.size,0,none⟩=some (.int .i64 F.p)∧Z.cell? ⟨w.heap.size,1,none⟩=some (.int .i64 F.m)∧Z.cell? ⟨w.heap.size,2,none⟩=some (.slice A F.mod.length c) from by rw[hZ]; exact alloc3 w _ _ _ _);have hN1:=hN Z ((hr.below hB).more hB.size);replace hZ:=Lib.hid hZ;clear hN hin hgood;replace hln:=Lib.hid hln;go_enter Tryz.func94,Tryz.ntmps94;obtain⟨a0,a1,a2⟩:=k0.out;go_wp2_with (fail);rw[←hZ.out];(with_reducible refine hN1.out.mono ?_);rintro e w1 ⟨g,F1,hF1,rfl,hgl,hg1,hb1⟩;clear a0 a1 a2;go_wp2_with (fail);have hC1:=Lib.hid (hC F1 hF1 g w1.heap.size (w1.alloc (.cells #[.pointer (some ⟨g,0,none⟩)] 66)) ((hg1.below ((Below.refl _ _).alloc (Nat.le_refl _) _)).more (by simp)) (by simp[go_sem]) ((((hr1.below hB).below (hb1.mono hB.size)).below (((Below.refl _ w1).alloc (Nat.le_refl _) _).mono (Nat.le_trans hB.size hb1.size))).more (by simp; have:=hB.size; have:=hb1.size; omega))).out;(with_reducible refine hC1.out.mono ?_);rintro e w2 ⟨rfl,hb2⟩;go_wp2_with (fail);go_ret;exact⟨rfl,(hB.trans (hb1.mono hB.size)).trans ((((Below.refl _ w1).alloc (Nat.le_refl _) _).mono (Nat.le_trans hB.size hb1.size)).trans (hb2.mono (by simp; have:=hB.size; have:=hb1.size; omega)))⟩

theorem gVec_two (F F1:FD)(h:F1.toDesc=F.toDesc)(n m:Nat)(x:Nat→R F.toDesc)(M:Nat→Nat→R F.toDesc)(A1 Ar:Option Addr)(c1 cr gf:Nat)(w:World)(hg:GF w w.heap.size gf F1)(hr1:Rd w w.heap.size A1 (rowL F.toDesc n x))(hrm:RdM w w.heap.size Ar n (rowsL F.toDesc m M))(hn:n≤1000)(hm1:1≤m)(hm:m≤70000) :
  Calls Tryz.prog 156 #[.pointer (some ⟨gf,0,none⟩),.slice A1 n c1,.slice Ar n cr,.int .i64 m] w fun e w'=>e=.returned (.slice (some ⟨w.heap.size,0,none⟩) m m)∧Rd w' w'.heap.size (some ⟨w.heap.size,0,none⟩) (rowL F.toDesc m (cmb n x M))∧Below w.heap.size w w':=by
 obtain⟨D0,g0,a0,b0,c0⟩:=F;obtain⟨D1,g1,a1,b1,d1⟩:=F1;dsimp only at h;subst h;exact gVec_any ⟨D1,g1,a1,b1,d1⟩ n m x M A1 Ar c1 cr gf w hg hr1 hrm hn hm1 hm

def VecPost (L:List Int)(m:Nat)(w:World)(e:Ending)(w':World):Prop :=
 ∃ b,e=.returned (.tuple #[.slice (some ⟨b,0,none⟩) m m,.int .i64 0])∧w.heap.size≤b∧Rd w' w'.heap.size (some ⟨b,0,none⟩) L∧Below w.heap.size w w'
theorem vc_bounds {P Mf N:Int} {ml:List Int} {n:Nat} {rows:Nat→List Int} {F:FD} {m:Nat} {M:Nat→Nat→R F.toDesc} (va:VC P Mf N ml n rows F m M):I64 P∧I64 Mf∧ml.length≤maxLen∧n≤64∧∀ i,i<n→(rows i).length≤4200:=by
 have h1:=va.le; have h2:=va.m64;exact⟨by rw[va.hP]; exact (fd_i64 F).1,by rw[va.hM]; exact (fd_i64 F).2,by rw[va.hl]; exact fd_len F,by omega,fun i hi=>by rw[va.hr i hi,rowsL_length]; omega⟩
theorem fi_bne (n:Nat):((n:Int) !=(n:Int))=false:=by simp
theorem fn_bne (n:Nat):(n !=n)=false:=by simp
set_option maxRecDepth 100000 in
set_option maxHeartbeats 2000000 in
theorem gVecM_ok (F:FD)(hgood:Good F.p F.m (modL F.toDesc))(n m:Nat)(x:Nat→R F.toDesc)(M:Nat→Nat→R F.toDesc)(A Ar A1:Option Addr)(c cr c1:Nat)(w:World)(hr:Rd w w.heap.size A (modL F.toDesc))(hrm:RdM w w.heap.size Ar n (rowsL F.toDesc m M))(hr1:Rd w w.heap.size A1 (rowL F.toDesc n x))(hn:n≤256)(hm1:1≤m)(hm:m≤256) :
  Calls Tryz.prog 95 #[.agg #[.int .i64 F.p,.int .i64 F.m,.slice A F.mod.length c],.slice A1 n c1,.agg #[.int .i64 m,.slice Ar n cr]] w (VecPost (rowL F.toDesc m (cmb n x M)) m w):=by
 have hO:=fun X W h1 h2 h3 h4 h5=>Lib.hid (gOpenM_ok F hgood n m M A Ar c cr X W h1 h2 hn hm h3 h4 h5)
 have hE:=fun (F1:FD) (h:F1.toDesc=F.toDesc) g W a b=>gEntries_any F1 (rowL F.toDesc n x) A1 c1 g W a b (by rw[rowL_length]; omega)
 have hE1:∀ (F1:FD),F1.toDesc=F.toDesc→elE F1.toDesc (rowL F.toDesc n x)=0:=fun F1 h=>by rw[h]; unfold elE; rw[if_neg (by rw[elB_rowL]; simp)]
 have hV:=fun (F1:FD) (h:F1.toDesc=F.toDesc) g W a b d=>Lib.hid (gVec_two F F1 h n m x M A1 Ar c1 cr g W a b d (by omega) hm1 (by omega))
 have hb0:=fi_bne n;have hb1:=fn_bne n;obtain⟨Z,hZ⟩:∃ Z,Z=(w.alloc (.cells #[.int .i64 F.p,.int .i64 F.m,.slice A F.mod.length c] 24)).alloc (.cells #[.int .i64 m,.slice Ar n cr] 120):=⟨_,rfl⟩;have hB:Below w.heap.size w Z:=by rw[hZ]; exact ((Below.refl _ _).alloc (Nat.le_refl _) _).alloc (by simp) _
 have hZs:Z.heap.size=w.heap.size+1+1:=by rw[hZ]; simp
 have kz:(Z.cell? ⟨w.heap.size,0,none⟩=some (.int .i64 F.p)∧Z.cell? ⟨w.heap.size,1,none⟩=some (.int .i64 F.m)∧Z.cell? ⟨w.heap.size,2,none⟩=some (.slice A F.mod.length c)) ∧
   Z.cell? ⟨w.heap.size+1,0,none⟩=some (.int .i64 m)∧Z.cell? ⟨w.heap.size+1,1,none⟩=some (.slice Ar n cr):=by rw[hZ]; simp[go_sem]
 obtain⟨s,hs⟩:∃ s,s=w.heap.size:=⟨_,rfl⟩;rw[←hs]at kz hZs;obtain⟨⟨z0,z1,z2⟩,y0,y1⟩:=kz;have hb2:Below Z.heap.size Z (Z.alloc (.cells #[.int .i64 m,.slice Ar n cr] 120)):=(Below.refl _ _).alloc (Nat.le_refl _) _;have hB2:=hB.trans (hb2.mono hB.size);have hO2:=hO (s+1+1) _ ((hr.below hB2).more hB2.size) ((hrm.below hB2).more hB2.size) (by rw[World.size_alloc]; omega) (by rw[←hZs]; simp[go_sem]) (by rw[←hZs]; simp[go_sem]);replace hZ:=Lib.hid hZ;clear hO;unfold VecPost;go_enter Tryz.func95,Tryz.ntmps95;go_wp2_with (fail);rw[←hZ.out];simp only[←hs];have hsw:w.heap.size≤s:=Nat.le_of_eq hs.symm;replace hs:=Lib.hid hs;(with_reducible refine hO2.out.mono ?_);rintro e w1 ⟨g,F1,h1,rfl,hgf,hx1⟩;have hB1:=hB2.trans (hx1.mono hB2.size);have hbz:=hb2.trans (hx1.mono hb2.size);have hE2:=hE F1 h1 g w1 hgf ((hr1.below hB1).more hB1.size);rw[hE1 F1 h1,rowL_length]at hE2;have hV2:=hV F1 h1 g w1 hgf ((hr1.below hB1).more hB1.size) ((hrm.below hB1).more hB1.size);replace hE2:=Lib.hid hE2;have y0':=(hbz.cell (p:=⟨s+1,0,none⟩) (show s+1<Z.heap.size by omega)).trans y0;have y1':=(hbz.cell (p:=⟨s+1,1,none⟩) (show s+1<Z.heap.size by omega)).trans y1;clear hE hE1 hV y0 y1 z0 z1 z2 hO2 h1;replace hZs:=Lib.hid hZs;go_wp2_with (fail);(with_reducible refine hE2.out.mono ?_);rintro e w2 ⟨rfl,rfl⟩;go_wp2_with (fail);(with_reducible refine hV2.out.mono ?_);rintro e w3 ⟨rfl,hr3,hb3⟩;go_wp2_with (fail);go_ret2;exact⟨w1.heap.size,rfl,hB1.size,hr3,hB1.trans (hb3.mono hB1.size)⟩

set_option maxRecDepth 100000 in
set_option maxHeartbeats 4000000 in
theorem cEncode_ok (P Mf N:Int)(ml:List Int)(n:Nat)(rows:Nat→List Int)(A Ar:Option Addr)(c cr:Nat)(F:FD)(m:Nat)(M:Nat→Nat→R F.toDesc)(hv:VC P Mf N ml n rows F m M)(x:Nat→R F.toDesc)(A1:Option Addr)(c1:Nat)(w:World)(hra:Rd w w.heap.size A ml)(hma:RdM w w.heap.size Ar n rows)(hr1:Rd w w.heap.size A1 (rowL F.toDesc n x)) :
  Calls Tryz.prog 36 #[.agg #[.int .i64 P,.int .i64 Mf,.slice A ml.length c,.int .i64 N,.slice Ar n cr],.slice A1 n c1] w (VecPost (rowL F.toDesc m (cmb n x M)) m w):=by
 obtain⟨q1,q2,q3,q4,q5⟩:=vc_bounds hv;have hn:n≤256:=by omega
 have hm1:=hv.m1;have hm64:=hv.m64;have hnm:=hv.hN;have hgood:=hv.good;have hC1:=fun W a b=>cCheck_any P Mf N ml n rows A Ar c cr W q1 q2 q3 q4 q5 a b
 rw[vc_err hv]at hC1;replace hC1:=fun W a b=>Lib.hid (hC1 W a b)
 have hL:∀ W,Rd W W.heap.size A ml→Rd W W.heap.size A1 (rowL F.toDesc n x)→Hid (Calls Tryz.prog 94 #[.agg #[.int .i64 P,.int .i64 Mf,.slice A ml.length c],.slice A1 n c1,.int .i64 n] W fun e w'=>e=.returned (.int .i64 0)∧Below W.heap.size W w'):=fun W a b=>by
  rw[hv.hP,hv.hM,hv.hl,modL_length] ;rw[hv.hl]at a;exact cList_in F hgood _ n (rowL_length _ _ _) (by omega) (fun j hj=>by rw[rowL_get F.toDesc x hj]; exact⟨ci_nonneg _,ci_lt _⟩) A A1 c c1 W a b
 have hG:=fun W=>Lib.hid (cGen_any P Mf N ml n rows A Ar c cr W)
 have hV:∀ W,Rd W W.heap.size A ml→RdM W W.heap.size Ar n rows→Rd W W.heap.size A1 (rowL F.toDesc n x)→Hid (Calls Tryz.prog 95 #[.agg #[.int .i64 P,.int .i64 Mf,.slice A ml.length c],.slice A1 n c1,.agg #[.int .i64 N,.slice Ar n cr]] W (VecPost (rowL F.toDesc m (cmb n x M)) m W)):=fun W a b d=>by
  rw[hv.hP,hv.hM,hv.hl,modL_length,hnm];rw[hv.hl]at a;exact gVecM_ok F hgood n m x M A Ar A1 c cr c1 W a (hv.rdm b) d hn hm1 (by omega)
 obtain⟨Z,hZ⟩:∃ Z,Z=w.alloc (.cells #[.int .i64 P,.int .i64 Mf,.slice A ml.length c,.int .i64 N,.slice Ar n cr] 27):=⟨_,rfl⟩;have hB:Below w.heap.size w Z:=by rw[hZ]; exact (Below.refl _ _).alloc (Nat.le_refl _) _
 have hZs:w.heap.size<Z.heap.size:=by rw[hZ]; simp
 have f5H:Hid (Five Z w.heap.size (.int .i64 P) (.int .i64 Mf) (.slice A ml.length c) (.int .i64 N) (.slice Ar n cr)):=by rw[hZ]; exact Five.new w _ _ _ _ _ _
 have hC2:=hC1 Z ((hra.below hB).more hB.size) ((hma.below hB).more hB.size);obtain⟨s,hs⟩:∃ s,s=w.heap.size:=⟨_,rfl⟩;rw[←hs]at hZs f5H;replace hZ:=Lib.hid hZ;replace hnm:=Lib.hid hnm;clear hC1 hv q1 q2 q3 q4 q5 hgood;unfold VecPost;go_enter Tryz.func36,Tryz.ntmps36;obtain⟨a0,a1,a2,a3,a4,-⟩:=f5H.out;go_wp2_with (fail);rw[←hZ.out];simp only[←hs];have hsw:w.heap.size≤s:=Nat.le_of_eq hs.symm;replace hs:=Lib.hid hs;(with_reducible refine hC2.out.mono ?_);rintro e w1 ⟨rfl,hb1⟩;have hB1:=hB.trans (hb1.mono hB.size);clear a0 a1 a2 a3 a4;obtain⟨a0,a1,a2,a3,a4,-⟩:=f5H.out.keep hb1 hZs;have hL1:=hL w1 ((hra.below hB1).more hB1.size) ((hr1.below hB1).more hB1.size);go_wp2_with (fail);(with_reducible refine hL1.out.mono ?_);rintro e w2 ⟨rfl,hb2⟩;have hB2:=hB1.trans (hb2.mono hB1.size);have hbz2:=hb1.trans (hb2.mono hb1.size);have hs2:s<w2.heap.size:=Nat.lt_of_lt_of_le hZs hbz2.size;clear a0 a1 a2 a3 a4 hL1 hL hC2;have f52:=Lib.hid (f5H.out.keep hbz2 hZs);obtain⟨a0,a1,a2,a3,a4,-⟩:=f52.out;have k5:=Lib.hid (show _∧_∧_∧_∧_ from ⟨a0,a1,a2,a3,a4⟩);go_wp2_with (fail);clear a0 a1 a2 a3 a4;refine wp_region_held_drew (S:=fun w'=>w'.cell? ⟨s,0,none⟩=some (.int .i64 P)∧w'.cell? ⟨s,1,none⟩=some (.int .i64 Mf)∧w'.cell? ⟨s,2,none⟩=some (.slice A ml.length c)∧w'.cell? ⟨s,3,none⟩=some (.int .i64 N)∧w'.cell? ⟨s,4,none⟩=some (.slice Ar n cr)) (by kernel_rfl) (by (try dsimp only); exact k5.out) (fun hHeld=>?_);refine tk 0 ?_; try simp only[pS]
 refine tk 1 ?_; try simp only[pS]
 refine tk 2 ?_; try simp only[pS]
 refine tk 3 ?_; try simp only[pS]
 refine rd 4 fun K hK=>?_
 go_simp;go_at_call 85;(with_reducible refine (hG w2.drew).out.mono ?_);rintro e w4 ⟨rfl,hx4⟩;have hb4:=(Below.refl w2.heap.size w2).drew.trans hx4;have hB4:=hB2.trans (hb4.mono hB2.size);have f54:=f52.out.keep hb4 hs2;have k54:=Lib.hid (show _∧_∧_∧_∧_ from ⟨f54.1,f54.2.1,f54.2.2.1,f54.2.2.2.1,f54.2.2.2.2.1⟩);have hV4:=hV w4 ((hra.below hB4).more hB4.size) ((hma.below hB4).more hB4.size) ((hr1.below hB4).more hB4.size);have hs4:s<w4.heap.size:=Nat.lt_of_lt_of_le hs2 hb4.size;replace f54:=Lib.hid f54;go_wp2_with (fail);refine hK.out _ _ (by (try dsimp only); exact k54.out) (fun hHeld=>?_);clear hK K;try simp only[pS]
 refine rd 5 fun K hK=>?_
 go_simp;go_at_call 95;(with_reducible refine (hV4).out.mono ?_);rintro e w5 ⟨b,rfl,hbl,hr5,hb5⟩;have f55:=f54.out.keep hb5 hs4;have k55:=Lib.hid (show _∧_∧_∧_∧_ from ⟨f55.1,f55.2.1,f55.2.2.1,f55.2.2.2.1,f55.2.2.2.2.1⟩);go_wp2_with (fail);refine hK.out _ _ (by (try dsimp only); exact k55.out) (fun hHeld=>?_);clear hK K;try simp only[pS]
 refine tk 6 ?_; try simp only[pS]
 refine tk 7 ?_; try simp only[pS]
 refine tk 8 ?_; try simp only[pS]
 refine tk 9 ?_; try simp only[pS]
 refine wpAnyH_done (by kernel_rfl) ?_ _;go_wp2_with (fail);go_ret2;exact⟨b,rfl,Nat.le_trans hB4.size hbl,hr5,hB4.trans (hb5.mono hB4.size)⟩
end Go.Proofs.YtogfekjbpcfgmaaGreat

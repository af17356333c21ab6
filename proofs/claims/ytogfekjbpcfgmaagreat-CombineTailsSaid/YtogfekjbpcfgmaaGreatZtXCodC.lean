/- The program's field.Check; code.length, code.gen; open and Canonical of a matrix with an error; space.Check and code.Check, for any code. -/
import Derived.Test.YtogfekjbpcfgmaaGreatZtXCodP
import Derived.Test.YtogfekjbpcfgmaaGreatZtXMatX
import Derived.Test.YtogfekjbpcfgmaaGreatZtXTk
namespace Go.Proofs.YtogfekjbpcfgmaaGreat
open Go.RowKit Cw
attribute [local go_sem] Oper.semAt_some

theorem gen_yes (D:Desc)(A:Option Addr)(c:Nat)(w:World)(hr:Rd w w.heap.size A (modL D))(hg:Good D.p D.m (modL D)) :
  Calls Tryz.prog 88 #[.agg #[.int .i64 D.p,.int .i64 D.m,.slice A D.mod.length c],.int .i64 D.q] w fun e w'=>∃ a n cv,e=.returned (.slice (some a) n cv)∧Below w.heap.size w w':=by
 refine (generator_any D A c w hr).mono ?_;rintro e w' ⟨v,rfl,hb,⟨u,-,ho⟩ | ⟨hno,-⟩⟩
 ·obtain⟨Av,cv,rfl,-,hrv,-⟩:=ho.form;obtain⟨b,o,rfl,-⟩:=hrv (by have:=D.q2; rw[show (pwl u (D.q - 1)).length=D.q - 1 from lst_length _ _]; omega);exact⟨_,_,_,rfl,hb⟩
 ·obtain⟨u,hu⟩:=gen_of_good hg;exact absurd hu (hno u)
theorem gen_no (D:Desc)(A:Option Addr)(c:Nat)(w:World)(hr:Rd w w.heap.size A (modL D))(hg:¬ Good D.p D.m (modL D)) :
  Calls Tryz.prog 88 #[.agg #[.int .i64 D.p,.int .i64 D.m,.slice A D.mod.length c],.int .i64 D.q] w fun e w'=>e=.returned (.slice none 0 0)∧Below w.heap.size w w':=by
 refine (generator_any D A c w hr).mono ?_;rintro e w' ⟨v,rfl,hb,⟨u,hu,-⟩ | ⟨-,rfl⟩⟩
 ·exact absurd (good_of_gen hu) hg
 ·exact⟨rfl,hb⟩

set_option maxHeartbeats 1000000 in
theorem fCheck_inv (P M:Int)(ml:List Int)(A:Option Addr)(c:Nat)(w:World)(hP:I64 P)(hM:I64 M)(hl:ml.length≤maxLen)(hr:Rd w w.heap.size A ml)(hb:¬ Valid P M ml) :
  Calls Tryz.prog 109 #[.agg #[.int .i64 P,.int .i64 M,.slice A ml.length c]] w fun e w'=>e=.returned (.int .i64 1)∧Below w.heap.size w w':=by
 obtain⟨Z,hZ⟩:∃ Z,Z=w.alloc (.cells #[.int .i64 P,.int .i64 M,.slice A ml.length c] 24):=⟨_,rfl⟩;have hB:Below w.heap.size w Z:=by rw[hZ]; exact (Below.refl _ _).alloc (Nat.le_refl _) _
 have hZs:w.heap.size<Z.heap.size:=by rw[hZ]; simp
 have k0:=Lib.hid (show Z.cell? ⟨w.heap.size,0,none⟩=some (.int .i64 P)∧Z.cell? ⟨w.heap.size,1,none⟩=some (.int .i64 M)∧Z.cell? ⟨w.heap.size,2,none⟩=some (.slice A ml.length c) from by rw[hZ]; simp[go_sem]);have hS:=shape_any P M ml A c Z.drew hP.2 hM.2 hl ((hr.below hB).more hB.size).drew;rw[validB_false hb]at hS;replace hS:=Lib.hid hS;replace hZ:=Lib.hid hZ;clear hP hM hl hb;go_enter Tryz.func109,Tryz.ntmps109;go_wp2_with (fail);rw[←hZ.out];refine wp_region_held_drew (S:=fun w'=>w'.cell? ⟨w.heap.size,0,none⟩=some (.int .i64 P)∧w'.cell? ⟨w.heap.size,1,none⟩=some (.int .i64 M)∧w'.cell? ⟨w.heap.size,2,none⟩=some (.slice A ml.length c)) (by kernel_rfl) (by (try dsimp only); exact k0.out) (fun hHeld=>?_);refine tk 0 ?_; try simp only[pS]
 refine rd 1 fun K hK=>?_
 go_simp;go_at_call 86;(with_reducible refine (hS).out.mono ?_);rintro e w1 ⟨rfl,hb1⟩;go_wp2_with (fail);refine hK.out _ _ (by (try dsimp only); exact keep3 hb1 hZs k0.out) (fun hHeld=>?_);clear hK K;try simp only[pS]
 refine tk 2 ?_; try simp only[pS]
 refine tk 3 ?_; try simp only[pS]
 refine tu 4 ?_;try simp only[pS]
 refine tu 5 ?_;try simp only[pS]
 refine tu 6 ?_;try simp only[pS]
 refine tu 7 ?_;try simp only[pS]
 refine tu 8 ?_;try simp only[pS]
 refine tu 9 ?_;try simp only[pS]
 refine tu 10 ?_;try simp only[pS]
 refine tu 11 ?_;try simp only[pS]
 refine tk 12 ?_; try simp only[pS]
 refine wpAnyH_done (by kernel_rfl) ?_ _;go_wp2_with (fail);go_ret;exact⟨rfl,hB.drew.trans (hb1.mono hB.size)⟩

set_option maxHeartbeats 2000000 in
theorem fCheck_D (D:Desc)(A:Option Addr)(c:Nat)(w:World)(hr:Rd w w.heap.size A (modL D)) :
  Calls Tryz.prog 109 #[.agg #[.int .i64 D.p,.int .i64 D.m,.slice A D.mod.length c]] w fun e w'=>e=.returned (.int .i64 (chk D.p D.m (modL D)))∧Below w.heap.size w w':=by
 have hq2:=D.q2; have hq3:=D.q256; have hp1:=D.p256; have hp2:=D.m8;have hml:D.mod.length≤8:=by have:=D.hlen; rw[this]; split <;> omega
 obtain⟨Z,hZ⟩:∃ Z,Z=w.alloc (.cells #[.int .i64 D.p,.int .i64 D.m,.slice A D.mod.length c] 24):=⟨_,rfl⟩;have hB:Below w.heap.size w Z:=by rw[hZ]; exact (Below.refl _ _).alloc (Nat.le_refl _) _
 have hZs:w.heap.size<Z.heap.size:=by rw[hZ]; simp
 have k0:=Lib.hid (show Z.cell? ⟨w.heap.size,0,none⟩=some (.int .i64 D.p)∧Z.cell? ⟨w.heap.size,1,none⟩=some (.int .i64 D.m)∧Z.cell? ⟨w.heap.size,2,none⟩=some (.slice A D.mod.length c) from by rw[hZ]; simp[go_sem]);have hS:=shape_any D.p D.m (modL D) A c Z.drew (by omega) (by omega) (by rw[modL_length]; simp only[maxLen]; omega) ((hr.below hB).more hB.size).drew;rw[modL_length,validB_true ⟨D,rfl,rfl,rfl⟩]at hS;replace hS:=Lib.hid hS;have hO:=fun w=>order_any D.p D.m w (by omega) (by omega)
 rw[qOf_D]at hO;replace hO:=fun w=>Lib.hid (hO w)
 have hnil:=fun (W:World) (a:Option Addr) (n c:Nat)=>Lib.run_eql_slice_nil (P:=Tryz.prog) W 22 3 a n c 0 0 Tryz.underlying22
 replace hZ:=Lib.hid hZ;by_cases hg:Good D.p D.m (modL D)
 ·have hG:=fun W h=>Lib.hid (gen_yes D A c W h hg)
  rw[chk_yes hg];clear hg;go_enter Tryz.func109,Tryz.ntmps109;go_wp2_with (fail);rw[←hZ.out];refine wp_region_held_drew (S:=fun w'=>w'.cell? ⟨w.heap.size,0,none⟩=some (.int .i64 D.p)∧w'.cell? ⟨w.heap.size,1,none⟩=some (.int .i64 D.m)∧w'.cell? ⟨w.heap.size,2,none⟩=some (.slice A D.mod.length c)) (by kernel_rfl) (by (try dsimp only); exact k0.out) (fun hHeld=>?_);refine tk 0 ?_; try simp only[pS]
  refine rd 1 fun K hK=>?_
  go_simp;go_at_call 86;(with_reducible refine (hS).out.mono ?_);rintro e w1 ⟨rfl,hb1⟩;have k1:=Lib.hid (keep3 hb1 hZs k0.out);have hs1:w.heap.size<w1.heap.size:=Nat.lt_of_lt_of_le hZs hb1.size;have hB1:=hB.drew.trans (hb1.mono hB.size);go_wp2_with (fail);refine hK.out _ _ (by (try dsimp only); exact k1.out) (fun hHeld=>?_);clear hK K;try simp only[pS]
  refine tk 2 ?_; try simp only[pS]
  refine tk 3 ?_; try simp only[pS]
  refine tk 4 ?_; try simp only[pS]
  refine tk 5 ?_; try simp only[pS]
  refine tk 6 ?_; try simp only[pS]
  refine tk 7 ?_; try simp only[pS]
  refine tk 8 ?_; try simp only[pS]
  refine rd 9 fun K hK=>?_
  go_simp;go_at_call 87;(with_reducible refine ((hO _)).out.mono ?_);rintro e w9 ⟨rfl,rfl⟩;go_wp2_with (fail);refine hK.out _ _ (by (try dsimp only); exact k1.out) (fun hHeld=>?_);clear hK K;try simp only[pS]
  refine rd 10 fun K hK=>?_
  go_simp;go_at_call 88;(with_reducible refine ((hG _ ((hr.below hB1).more hB1.size))).out.mono ?_);rintro e w2 ⟨a,n,cv,rfl,hb2⟩;go_wp2_with (fail);refine hK.out _ _ (by (try dsimp only); exact keep3 hb2 hs1 k1.out) (fun hHeld=>?_);clear hK K;try simp only[pS]
  refine tk 11 ?_; try simp only[pS]
  refine tk 12 ?_; try simp only[pS]
  refine wpAnyH_done (by kernel_rfl) ?_ _;go_wp2_with (fail);go_ret;exact⟨rfl,hB1.trans (hb2.mono hB1.size)⟩
 ·have hG:=fun W h=>Lib.hid (gen_no D A c W h hg)
  rw[chk_no hg];clear hg;go_enter Tryz.func109,Tryz.ntmps109;go_wp2_with (fail);rw[←hZ.out];refine wp_region_held_drew (S:=fun w'=>w'.cell? ⟨w.heap.size,0,none⟩=some (.int .i64 D.p)∧w'.cell? ⟨w.heap.size,1,none⟩=some (.int .i64 D.m)∧w'.cell? ⟨w.heap.size,2,none⟩=some (.slice A D.mod.length c)) (by kernel_rfl) (by (try dsimp only); exact k0.out) (fun hHeld=>?_);refine tk 0 ?_; try simp only[pS]
  refine rd 1 fun K hK=>?_
  go_simp;go_at_call 86;(with_reducible refine (hS).out.mono ?_);rintro e w1 ⟨rfl,hb1⟩;have k1:=Lib.hid (keep3 hb1 hZs k0.out);have hs1:w.heap.size<w1.heap.size:=Nat.lt_of_lt_of_le hZs hb1.size;have hB1:=hB.drew.trans (hb1.mono hB.size);go_wp2_with (fail);refine hK.out _ _ (by (try dsimp only); exact k1.out) (fun hHeld=>?_);clear hK K;try simp only[pS]
  refine tk 2 ?_; try simp only[pS]
  refine tk 3 ?_; try simp only[pS]
  refine tk 4 ?_; try simp only[pS]
  refine tk 5 ?_; try simp only[pS]
  refine tk 6 ?_; try simp only[pS]
  refine tk 7 ?_; try simp only[pS]
  refine tk 8 ?_; try simp only[pS]
  refine rd 9 fun K hK=>?_
  go_simp;go_at_call 87;(with_reducible refine ((hO _)).out.mono ?_);rintro e w9 ⟨rfl,rfl⟩;go_wp2_with (fail);refine hK.out _ _ (by (try dsimp only); exact k1.out) (fun hHeld=>?_);clear hK K;try simp only[pS]
  refine rd 10 fun K hK=>?_
  go_simp;go_at_call 88;(with_reducible refine ((hG _ ((hr.below hB1).more hB1.size))).out.mono ?_);rintro e w2 ⟨rfl,hb2⟩;go_wp2_with (fail);refine hK.out _ _ (by (try dsimp only); exact keep3 hb2 hs1 k1.out) (fun hHeld=>?_);clear hK K;try simp only[pS]
  refine tk 11 ?_; try simp only[pS]
  refine tk 12 ?_; try simp only[pS]
  refine wpAnyH_done (by kernel_rfl) ?_ _;go_wp2_with (fail);go_ret;exact⟨rfl,hB1.trans (hb2.mono hB1.size)⟩
theorem fCheck_any (P M:Int)(ml:List Int)(A:Option Addr)(c:Nat)(w:World)(hP:I64 P)(hM:I64 M)(hl:ml.length≤maxLen)(hr:Rd w w.heap.size A ml) :
  Calls Tryz.prog 109 #[.agg #[.int .i64 P,.int .i64 M,.slice A ml.length c]] w fun e w'=>e=.returned (.int .i64 (chk P M ml))∧Below w.heap.size w w':=by
 by_cases hv:Valid P M ml
 ·obtain⟨D,rfl,rfl,rfl⟩:=hv;rw[modL_length];exact fCheck_D D A c w hr
 ·rw[chk_no (fun h=>hv h.valid)];exact fCheck_inv P M ml A c w hP hM hl hr hv

theorem gLen_no (N:Int)(w:World)(h:N<1∨64<N) :
  Calls Tryz.prog 110 #[.int .i64 N] w fun e w'=>e=.returned (.int .i64 4)∧w'=w:=by
 by_cases h1:N<1
 ·have hd:decide (N<1)=true:=decide_eq_true h1;clear h;go_enter Tryz.func110,Tryz.ntmps110;go_wp2_with (fail);go_ret;exact⟨rfl,rfl⟩
 ·have h2:64<N:=by omega
  clear h;go_enter Tryz.func110,Tryz.ntmps110;go_wp2_with (fail);go_ret;exact⟨rfl,rfl⟩

set_option maxHeartbeats 1000000 in
theorem cGen_any (Pa Ma Na:Int)(mla:List Int)(na:Nat)(rowsa:Nat→List Int)(Aa Ra:Option Addr)(ca ka:Nat)(w:World) :
  Calls Tryz.prog 85 #[.agg #[.int .i64 Pa,.int .i64 Ma,.slice Aa mla.length ca,.int .i64 Na,.slice Ra na ka]] w fun e w'=>e=.returned (.agg #[.int .i64 Na,.slice Ra na ka])∧Below w.heap.size w w':=by
 go_enter Tryz.func85,Tryz.ntmps85;go_wp2_with (fail);refine bodyPost_ret (v:=.agg #[.int .i64 Na,.slice Ra na ka]) (by simp[results,Tryz.results85,go_sem]) rfl ⟨rfl,((Below.refl _ _).alloc (Nat.le_refl _) _).alloc (by simp) _⟩

set_option maxRecDepth 100000 in
set_option maxHeartbeats 1000000 in
theorem gOpenM_err (F:FD)(hgood:Good F.p F.m (modL F.toDesc))(N:Int)(n:Nat)(rows:Nat→List Int)(A Ar:Option Addr)(c cr X:Nat)(w:World)(hr:Rd w w.heap.size A (modL F.toDesc))(hrm:RdM w w.heap.size Ar n rows)(hn:n≤1000000)(hl:∀ i,i<n→(rows i).length≤1000000)
  (hX:X<w.heap.size) (x0:w.cell? ⟨X,0,none⟩=some (.int .i64 N)) (x1:w.cell? ⟨X,1,none⟩=some (.slice Ar n cr)) {E:Int} (hE:mErr F.toDesc N n rows=E) (hE0:E≠0) :
  Calls Tryz.prog 150 #[.agg #[.int .i64 F.p,.int .i64 F.m,.slice A F.mod.length c],.slice (some ⟨X,0,none⟩) 1 1] w fun e w'=>e=.returned (.tuple #[.pointer none,.int .i64 E])∧Below w.heap.size w w':=by
 have hN:=fun W h=>Lib.hid (New_good F.toDesc A c W h hgood)
 obtain⟨Z,hZ⟩:∃ Z,Z=w.alloc (.cells #[.int .i64 F.p,.int .i64 F.m,.slice A F.mod.length c] 24):=⟨_,rfl⟩;have hB:Below w.heap.size w Z:=by rw[hZ]; exact (Below.refl _ _).alloc (Nat.le_refl _) _
 have kz:=Lib.hid (show Z.cell? ⟨w.heap.size,0,none⟩=some (.int .i64 F.p)∧Z.cell? ⟨w.heap.size,1,none⟩=some (.int .i64 F.m)∧Z.cell? ⟨w.heap.size,2,none⟩=some (.slice A F.mod.length c) from by rw[hZ]; simp[go_sem]);obtain⟨z0,z1,z2⟩:=kz.out;have hN2:=hN Z ((hr.below hB).more hB.size);have hEb:(E !=0)=true:=by rw[bne_iff_ne]; exact hE0
 replace hZ:=Lib.hid hZ;replace hE:=Lib.hid hE;replace hE0:=Lib.hid hE0;clear hN;go_enter Tryz.func150,Tryz.ntmps150;go_wp2_with (fail);rw[←hZ.out];(with_reducible refine hN2.out.mono ?_);rintro e w1 ⟨g,F1,h1,rfl,hgl,hgf,hb1⟩;have hB1:=hB.trans (hb1.mono hB.size);have y0:=(hB1.cell (p:=⟨X,0,none⟩) hX).trans x0;have y1:=(hB1.cell (p:=⟨X,1,none⟩) hX).trans x1;have hrm1:=(hrm.below hB1).more hB1.size;have hE1:Hid (mErr F1.toDesc N n rows=E):=by rw[h1]; exact hE.out
 replace h1:=Lib.hid h1;clear hN2 z0 z1 z2 kz;go_wp2_with (fail);go_loopw [20,9,10] (fun i _ _ wr=>i=.int .i64 0∧wr=w1) (fun i _ _ _=>1 - (intOf i).toNat)
 case atStart=>exact⟨rfl,rfl⟩
 case round =>
  obtain⟨rfl,rfl⟩:=hrel;have hB5:Below wr.heap.size wr (wr.alloc (.cells #[.int .i64 N,.slice Ar n cr] 120)):=(Below.refl _ _).alloc (Nat.le_refl _) _;have hCk:=gCheckM_any F1 N n rows Ar cr g _ ((hgf.below hB5).more hB5.size) ((hrm1.below hB5).more hB5.size) hn hl;rw[hE1.out]at hCk;replace hCk:=Lib.hid hCk;have hBw:=Lib.hid (hB1.trans (hB5.mono hB1.size));clear hB5;go_wp2_with (fail);(with_reducible refine hCk.out.mono ?_);rintro e w6 ⟨rfl,hb6⟩;have hfin:=Lib.hid (hBw.out.trans (hb6.mono hBw.out.size));go_wp2_with (fail);go_ret2;exact⟨rfl,hfin.out⟩

set_option maxRecDepth 100000 in
set_option maxHeartbeats 2000000 in
theorem gCanonical_err (F:FD)(hgood:Good F.p F.m (modL F.toDesc))(N:Int)(n:Nat)(rows:Nat→List Int)(A Ar:Option Addr)(c cr:Nat)(w:World)(hr:Rd w w.heap.size A (modL F.toDesc))(hrm:RdM w w.heap.size Ar n rows)(hn:n≤1000000)(hl:∀ i,i<n→(rows i).length≤1000000)
  {E:Int} (hE:mErr F.toDesc N n rows=E) (hE0:E≠0) :
  Calls Tryz.prog 89 #[.agg #[.int .i64 F.p,.int .i64 F.m,.slice A F.mod.length c],.agg #[.int .i64 N,.slice Ar n cr]] w fun e w'=>e=.returned (.tuple #[.agg #[.int .i64 0,.slice none 0 0],.slice none 0 0,.int .i64 E])∧Below w.heap.size w w':=by
 have hO:=fun X W h1 h2 h3 h4 h5=>Lib.hid (gOpenM_err F hgood N n rows A Ar c cr X W h1 h2 hn hl h3 h4 h5 hE hE0)
 obtain⟨Z,hZ⟩:∃ Z,Z=((w.alloc (.cells #[.int .i64 F.p,.int .i64 F.m,.slice A F.mod.length c] 24)).alloc (.cells #[.int .i64 N,.slice Ar n cr] 120)).alloc (.cells #[.int .i64 0,.slice none 0 0] 120):=⟨_,rfl⟩;have hB:Below w.heap.size w Z:=by rw[hZ]; exact (((Below.refl _ _).alloc (Nat.le_refl _) _).alloc (by simp) _).alloc (by simp; omega) _
 have hZs:Z.heap.size=w.heap.size+1+1+1:=by rw[hZ]; simp
 have kz:(Z.cell? ⟨w.heap.size,0,none⟩=some (.int .i64 F.p)∧Z.cell? ⟨w.heap.size,1,none⟩=some (.int .i64 F.m)∧Z.cell? ⟨w.heap.size,2,none⟩=some (.slice A F.mod.length c)) ∧
   (Z.cell? ⟨w.heap.size+1,0,none⟩=some (.int .i64 N)∧Z.cell? ⟨w.heap.size+1,1,none⟩=some (.slice Ar n cr))∧Z.cell? ⟨w.heap.size+1+1,0,none⟩=some (.int .i64 0)∧Z.cell? ⟨w.heap.size+1+1,1,none⟩=some (.slice none 0 0) ∧
   Z.frozen? ⟨w.heap.size+1+1,0,none⟩=false∧Z.frozen? ⟨w.heap.size+1+1,1,none⟩=false:=by rw[hZ]; simp[go_sem]
 obtain⟨s,hs⟩:∃ s,s=w.heap.size:=⟨_,rfl⟩;rw[←hs]at kz hZs;obtain⟨⟨z0,z1,z2⟩,⟨y0,y1⟩,x0,x1,f0,f1⟩:=kz;have hb2:Below Z.heap.size Z (Z.alloc (.cells #[.int .i64 N,.slice Ar n cr] 120)):=(Below.refl _ _).alloc (Nat.le_refl _) _;have hB2:=hB.trans (hb2.mono hB.size);have hO2:=hO (s+1+1+1) _ ((hr.below hB2).more hB2.size) ((hrm.below hB2).more hB2.size) (by rw[World.size_alloc]; omega) (by rw[←hZs]; simp[go_sem]) (by rw[←hZs]; simp[go_sem]);have hEb:(E !=0)=true:=by rw[bne_iff_ne]; exact hE0
 replace hZ:=Lib.hid hZ;replace hE:=Lib.hid hE;replace hE0:=Lib.hid hE0;clear hO;go_enter Tryz.func89,Tryz.ntmps89;go_wp2_with (fail);rw[←hZ.out];simp only[←hs];have hsw:w.heap.size≤s:=Nat.le_of_eq hs.symm;replace hs:=Lib.hid hs;(with_reducible refine hO2.out.mono ?_);rintro e w1 ⟨rfl,hb1⟩;have hB1:=hB2.trans (hb1.mono hB2.size);have hbz:=hb2.trans (hb1.mono hb2.size);have v0:=(hbz.cell (p:=⟨s+1+1,0,none⟩) (show s+1+1<Z.heap.size by omega)).trans x0;have v1:=(hbz.cell (p:=⟨s+1+1,1,none⟩) (show s+1+1<Z.heap.size by omega)).trans x1;have e0:=(hbz.frozen (p:=⟨s+1+1,0,none⟩) (show s+1+1<Z.heap.size by omega)).trans f0;have e1:=(hbz.frozen (p:=⟨s+1+1,1,none⟩) (show s+1+1<Z.heap.size by omega)).trans f1;have hBf:=Lib.hid (hB1.trans ((set2 (w3:=w1) (b:=s+1+1) (.int .i64 0) (.slice none 0 0)).mono (by omega)));clear hO2 hb2 hB2;go_wp2_with (fail);refine bodyPost_ret (v:=.tuple #[.agg #[.int .i64 0,.slice none 0 0],.slice none 0 0,.int .i64 E]) (by simp[results,Tryz.results89,go_sem,v0,v1]) rfl ⟨rfl,hBf.out⟩
end Go.Proofs.YtogfekjbpcfgmaaGreat

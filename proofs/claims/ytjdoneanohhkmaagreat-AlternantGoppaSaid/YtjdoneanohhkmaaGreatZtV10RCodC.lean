/- The program's field.Check; code.length, code.gen; open and Canonical of a matrix with an error; space.Check and code.Check, for any code. -/
import Derived.Test.YtjdoneanohhkmaaGreatZtV10RMatX
import Derived.Test.YtjdoneanohhkmaaGreatZtV10RTk
namespace Go.Proofs.YtjdoneanohhkmaaGreat
open Go.RowKit Cw
attribute [local go_sem] Oper.semAt_some

theorem gen_yes (D:Desc)(A:Option Addr)(c:Nat)(w:World)(hr:Rd w w.heap.size A (modL D))(hg:Good D.p D.m (modL D)) :
  Calls Tryz.prog 138 #[.agg #[.int .i64 D.p,.int .i64 D.m,.slice A D.mod.length c],.int .i64 D.q] w fun e w'=>∃ a n cv,e=.returned (.slice (some a) n cv)∧Below w.heap.size w w':=by
 refine (generator_any D A c w hr).mono ?_;rintro e w' ⟨v,rfl,hb,⟨u,-,ho⟩ | ⟨hno,-⟩⟩
 ·obtain⟨Av,cv,rfl,-,hrv,-⟩:=ho.form;obtain⟨b,o,rfl,-⟩:=hrv (by have:=D.q2; rw[show (pwl u (D.q - 1)).length=D.q - 1 from lst_length _ _]; omega);exact⟨_,_,_,rfl,hb⟩
 ·obtain⟨u,hu⟩:=gen_of_good hg;exact absurd hu (hno u)
theorem gen_no (D:Desc)(A:Option Addr)(c:Nat)(w:World)(hr:Rd w w.heap.size A (modL D))(hg:¬ Good D.p D.m (modL D)) :
  Calls Tryz.prog 138 #[.agg #[.int .i64 D.p,.int .i64 D.m,.slice A D.mod.length c],.int .i64 D.q] w fun e w'=>e=.returned (.slice none 0 0)∧Below w.heap.size w w':=by
 refine (generator_any D A c w hr).mono ?_;rintro e w' ⟨v,rfl,hb,⟨u,hu,-⟩ | ⟨-,rfl⟩⟩
 ·exact absurd (good_of_gen hu) hg
 ·exact⟨rfl,hb⟩

set_option maxHeartbeats 1000000 in
theorem fCheck_inv (P M:Int)(ml:List Int)(A:Option Addr)(c:Nat)(w:World)(hP:I64 P)(hM:I64 M)(hl:ml.length≤maxLen)(hr:Rd w w.heap.size A ml)(hb:¬ Valid P M ml) :
  Calls Tryz.prog 157 #[.agg #[.int .i64 P,.int .i64 M,.slice A ml.length c]] w fun e w'=>e=.returned (.int .i64 1)∧Below w.heap.size w w':=by
 obtain⟨Z,hZ⟩:∃ Z,Z=w.alloc (.cells #[.int .i64 P,.int .i64 M,.slice A ml.length c] 24):=⟨_,rfl⟩;have hB:Below w.heap.size w Z:=by rw[hZ]; exact (Below.refl _ _).alloc (Nat.le_refl _) _
 have hZs:w.heap.size<Z.heap.size:=by rw[hZ]; simp
 have k0:=Lib.hid (show Z.cell? ⟨w.heap.size,0,none⟩=some (.int .i64 P)∧Z.cell? ⟨w.heap.size,1,none⟩=some (.int .i64 M)∧Z.cell? ⟨w.heap.size,2,none⟩=some (.slice A ml.length c) from by rw[hZ]; simp[go_sem]);have hS:=shape_any P M ml A c Z.drew hP.2 hM.2 hl ((hr.below hB).more hB.size).drew;rw[validB_false hb]at hS;replace hS:=Lib.hid hS;replace hZ:=Lib.hid hZ;clear hP hM hl hb;go_enter Tryz.func157,Tryz.ntmps157;go_wp2_with (fail);rw[←hZ.out];refine wp_region_held_drew (S:=fun w'=>w'.cell? ⟨w.heap.size,0,none⟩=some (.int .i64 P)∧w'.cell? ⟨w.heap.size,1,none⟩=some (.int .i64 M)∧w'.cell? ⟨w.heap.size,2,none⟩=some (.slice A ml.length c)) (by kernel_rfl) (by (try dsimp only); exact k0.out) (fun hHeld=>?_);refine tk 0 ?_; try simp only[pS]
 refine rd 1 fun K hK=>?_
 go_simp;go_at_call 136;(with_reducible refine (hS).out.mono ?_);rintro e w1 ⟨rfl,hb1⟩;go_wp2_with (fail);refine hK.out _ _ (by (try dsimp only); exact keep3 hb1 hZs k0.out) (fun hHeld=>?_);clear hK K;try simp only[pS]
 refine tk 2 ?_; try simp only[pS]
 refine tk 3 ?_; try simp only[pS]
 refine tu 4 ?_;try simp only[pS]
 refine tu 5 ?_;try simp only[pS]
 refine tu 6 ?_;try simp only[pS]
 refine tu 7 ?_;try simp only[pS]
 refine tu 8 ?_;try simp only[pS]
 refine tu 9 ?_;try simp only[pS]
 refine tu 10 ?_;try simp only[pS]
 refine tu 11 ?_;try simp only[pS]
 refine tk 12 ?_; try simp only[pS]
 refine wpAnyH_done (by kernel_rfl) ?_ _;go_wp2_with (fail);go_ret;exact⟨rfl,hB.drew.trans (hb1.mono hB.size)⟩

set_option maxHeartbeats 2000000 in
theorem fCheck_D (D:Desc)(A:Option Addr)(c:Nat)(w:World)(hr:Rd w w.heap.size A (modL D)) :
  Calls Tryz.prog 157 #[.agg #[.int .i64 D.p,.int .i64 D.m,.slice A D.mod.length c]] w fun e w'=>e=.returned (.int .i64 (chk D.p D.m (modL D)))∧Below w.heap.size w w':=by
 have hq2:=D.q2; have hq3:=D.q256; have hp1:=D.p256; have hp2:=D.m8;have hml:D.mod.length≤8:=by have:=D.hlen; rw[this]; split <;> omega
 obtain⟨Z,hZ⟩:∃ Z,Z=w.alloc (.cells #[.int .i64 D.p,.int .i64 D.m,.slice A D.mod.length c] 24):=⟨_,rfl⟩;have hB:Below w.heap.size w Z:=by rw[hZ]; exact (Below.refl _ _).alloc (Nat.le_refl _) _
 have hZs:w.heap.size<Z.heap.size:=by rw[hZ]; simp
 have k0:=Lib.hid (show Z.cell? ⟨w.heap.size,0,none⟩=some (.int .i64 D.p)∧Z.cell? ⟨w.heap.size,1,none⟩=some (.int .i64 D.m)∧Z.cell? ⟨w.heap.size,2,none⟩=some (.slice A D.mod.length c) from by rw[hZ]; simp[go_sem]);have hS:=shape_any D.p D.m (modL D) A c Z.drew (by omega) (by omega) (by rw[modL_length]; simp only[maxLen]; omega) ((hr.below hB).more hB.size).drew;rw[modL_length,validB_true ⟨D,rfl,rfl,rfl⟩]at hS;replace hS:=Lib.hid hS;have hO:=fun w=>order_any D.p D.m w (by omega) (by omega)
 rw[qOf_D]at hO;replace hO:=fun w=>Lib.hid (hO w)
 have hnil:=fun (W:World) (a:Option Addr) (n c:Nat)=>Lib.run_eql_slice_nil (P:=Tryz.prog) W 22 3 a n c 0 0 Tryz.underlying22
 replace hZ:=Lib.hid hZ;by_cases hg:Good D.p D.m (modL D)
 ·have hG:=fun W h=>Lib.hid (gen_yes D A c W h hg)
  rw[chk_yes hg];clear hg;go_enter Tryz.func157,Tryz.ntmps157;go_wp2_with (fail);rw[←hZ.out];refine wp_region_held_drew (S:=fun w'=>w'.cell? ⟨w.heap.size,0,none⟩=some (.int .i64 D.p)∧w'.cell? ⟨w.heap.size,1,none⟩=some (.int .i64 D.m)∧w'.cell? ⟨w.heap.size,2,none⟩=some (.slice A D.mod.length c)) (by kernel_rfl) (by (try dsimp only); exact k0.out) (fun hHeld=>?_);refine tk 0 ?_; try simp only[pS]
  refine rd 1 fun K hK=>?_
  go_simp;go_at_call 136;(with_reducible refine (hS).out.mono ?_);rintro e w1 ⟨rfl,hb1⟩;have k1:=Lib.hid (keep3 hb1 hZs k0.out);have hs1:w.heap.size<w1.heap.size:=Nat.lt_of_lt_of_le hZs hb1.size;have hB1:=hB.drew.trans (hb1.mono hB.size);go_wp2_with (fail);refine hK.out _ _ (by (try dsimp only); exact k1.out) (fun hHeld=>?_);clear hK K;try simp only[pS]
  refine tk 2 ?_; try simp only[pS]
  refine tk 3 ?_; try simp only[pS]
  refine tk 4 ?_; try simp only[pS]
  refine tk 5 ?_; try simp only[pS]
  refine tk 6 ?_; try simp only[pS]
  refine tk 7 ?_; try simp only[pS]
  refine tk 8 ?_; try simp only[pS]
  refine rd 9 fun K hK=>?_
  go_simp;go_at_call 137;(with_reducible refine ((hO _)).out.mono ?_);rintro e w9 ⟨rfl,rfl⟩;go_wp2_with (fail);refine hK.out _ _ (by (try dsimp only); exact k1.out) (fun hHeld=>?_);clear hK K;try simp only[pS]
  refine rd 10 fun K hK=>?_
  go_simp;go_at_call 138;(with_reducible refine ((hG _ ((hr.below hB1).more hB1.size))).out.mono ?_);rintro e w2 ⟨a,n,cv,rfl,hb2⟩;go_wp2_with (fail);refine hK.out _ _ (by (try dsimp only); exact keep3 hb2 hs1 k1.out) (fun hHeld=>?_);clear hK K;try simp only[pS]
  refine tk 11 ?_; try simp only[pS]
  refine tk 12 ?_; try simp only[pS]
  refine wpAnyH_done (by kernel_rfl) ?_ _;go_wp2_with (fail);go_ret;exact⟨rfl,hB1.trans (hb2.mono hB1.size)⟩
 ·have hG:=fun W h=>Lib.hid (gen_no D A c W h hg)
  rw[chk_no hg];clear hg;go_enter Tryz.func157,Tryz.ntmps157;go_wp2_with (fail);rw[←hZ.out];refine wp_region_held_drew (S:=fun w'=>w'.cell? ⟨w.heap.size,0,none⟩=some (.int .i64 D.p)∧w'.cell? ⟨w.heap.size,1,none⟩=some (.int .i64 D.m)∧w'.cell? ⟨w.heap.size,2,none⟩=some (.slice A D.mod.length c)) (by kernel_rfl) (by (try dsimp only); exact k0.out) (fun hHeld=>?_);refine tk 0 ?_; try simp only[pS]
  refine rd 1 fun K hK=>?_
  go_simp;go_at_call 136;(with_reducible refine (hS).out.mono ?_);rintro e w1 ⟨rfl,hb1⟩;have k1:=Lib.hid (keep3 hb1 hZs k0.out);have hs1:w.heap.size<w1.heap.size:=Nat.lt_of_lt_of_le hZs hb1.size;have hB1:=hB.drew.trans (hb1.mono hB.size);go_wp2_with (fail);refine hK.out _ _ (by (try dsimp only); exact k1.out) (fun hHeld=>?_);clear hK K;try simp only[pS]
  refine tk 2 ?_; try simp only[pS]
  refine tk 3 ?_; try simp only[pS]
  refine tk 4 ?_; try simp only[pS]
  refine tk 5 ?_; try simp only[pS]
  refine tk 6 ?_; try simp only[pS]
  refine tk 7 ?_; try simp only[pS]
  refine tk 8 ?_; try simp only[pS]
  refine rd 9 fun K hK=>?_
  go_simp;go_at_call 137;(with_reducible refine ((hO _)).out.mono ?_);rintro e w9 ⟨rfl,rfl⟩;go_wp2_with (fail);refine hK.out _ _ (by (try dsimp only); exact k1.out) (fun hHeld=>?_);clear hK K;try simp only[pS]
  refine rd 10 fun K hK=>?_
  go_simp;go_at_call 138;(with_reducible refine ((hG _ ((hr.below hB1).more hB1.size))).out.mono ?_);rintro e w2 ⟨rfl,hb2⟩;go_wp2_with (fail);refine hK.out _ _ (by (try dsimp only); exact keep3 hb2 hs1 k1.out) (fun hHeld=>?_);clear hK K;try simp only[pS]
  refine tk 11 ?_; try simp only[pS]
  refine tk 12 ?_; try simp only[pS]
  refine wpAnyH_done (by kernel_rfl) ?_ _;go_wp2_with (fail);go_ret;exact⟨rfl,hB1.trans (hb2.mono hB1.size)⟩
theorem fCheck_any (P M:Int)(ml:List Int)(A:Option Addr)(c:Nat)(w:World)(hP:I64 P)(hM:I64 M)(hl:ml.length≤maxLen)(hr:Rd w w.heap.size A ml) :
  Calls Tryz.prog 157 #[.agg #[.int .i64 P,.int .i64 M,.slice A ml.length c]] w fun e w'=>e=.returned (.int .i64 (chk P M ml))∧Below w.heap.size w w':=by
 by_cases hv:Valid P M ml
 ·obtain⟨D,rfl,rfl,rfl⟩:=hv;rw[modL_length];exact fCheck_D D A c w hr
 ·rw[chk_no (fun h=>hv h.valid)];exact fCheck_inv P M ml A c w hP hM hl hr hv

end Go.Proofs.YtjdoneanohhkmaaGreat

/- The reference's codes: Check, List, Word, Has of a canonical code. -/
import Derived.Test.YtogfekjbpcfgmaaGreatZtXHasC
namespace Go.Proofs.YtogfekjbpcfgmaaGreat
open Go.RowKit Cw
attribute [local go_sem] Oper.semAt_some

set_option maxHeartbeats 1000000 in
theorem Check12_ok (F:FD)(hgood:Good F.p F.m (modL F.toDesc))(n m:Nat)(M:Nat→Nat→R F.toDesc)(hcan:Canl F n m M)(A Ar:Option Addr)(c cr:Nat)(w:World)(hr:Rd w w.heap.size A (modL F.toDesc))(hrm:RdM w w.heap.size Ar n (rowsL F.toDesc m M))(hn:n≤256)(hm1:1≤m)(hm:m≤64) :
  Calls Tryz.prog 39 #[.agg #[.int .i64 F.p,.int .i64 F.m,.slice A F.mod.length c,.int .i64 m,.slice Ar n cr]] w fun e w'=>e=.returned (.int .i64 0)∧Below w.heap.size w w':=by
 have hp1:=F.p256; have hp2:=F.m8;have hml:(modL F.toDesc).length≤maxLen:=by have:=F.hlen; have:=F.m8; rw[modL_length,F.hlen]; unfold maxLen; split <;> omega
 have hC:=fun W a=>Check_any F.p F.m (modL F.toDesc) A c W (by omega) (by omega) hml a
 rw[chk_yes hgood,modL_length]at hC;replace hC:=fun W a=>Lib.hid (hC W a)
 have h10:=fun W a b=>Lib.hid (Check10_ok F hgood n m M hcan A Ar c cr W a b hn (by omega))
 obtain⟨Z,hZ⟩:∃ Z,Z=w.alloc (.cells #[.int .i64 F.p,.int .i64 F.m,.slice A F.mod.length c,.int .i64 m,.slice Ar n cr] 27):=⟨_,rfl⟩;have hB:Below w.heap.size w Z:=by rw[hZ]; exact (Below.refl _ _).alloc (Nat.le_refl _) _
 have hZs:w.heap.size<Z.heap.size:=by rw[hZ]; simp
 have f5:=Five.new w (.int .i64 F.p) (.int .i64 F.m) (.slice A F.mod.length c) (.int .i64 m) (.slice Ar n cr) 27;have f5H:Hid (Five Z w.heap.size (.int .i64 F.p) (.int .i64 F.m) (.slice A F.mod.length c) (.int .i64 m) (.slice Ar n cr)):=by rw[hZ]; exact f5
 have hC1:=hC Z ((hr.below hB).more hB.size);replace hZ:=Lib.hid hZ;clear hcan hgood;go_enter Tryz.func39,Tryz.ntmps39;obtain⟨a0,a1,a2,a3,a4,-⟩:=f5;go_wp2_with (fail);rw[←hZ.out];(with_reducible refine hC1.out.mono ?_);rintro e w1 ⟨rfl,hb1⟩;have hB1:=hB.trans (hb1.mono hB.size);clear a0 a1 a2 a3 a4;obtain⟨a0,a1,a2,a3,a4,-⟩:=f5H.out.keep hb1 hZs;have hm0:¬ (m:Int)<1:=by omega
 have hm2:¬ (64:Int)<(m:Int):=by omega
 go_wp2_with (fail);(with_reducible refine (h10 w1 ((hr.below hB1).more hB1.size) ((hrm.below hB1).more hB1.size)).out.mono ?_);rintro e w2 ⟨rfl,hb2⟩;go_wp2_with (fail);go_ret;exact⟨rfl,hB1.trans (hb2.mono hB1.size)⟩

set_option maxHeartbeats 1000000 in
theorem List12_any (D:Desc)(l:List Int)(N:Int)(A A1:Option Addr)(c c1:Nat)(w:World)(hr1:Rd w w.heap.size A1 l)(hl:l.length≤1000000) :
  Calls Tryz.prog 106 #[.agg #[.int .i64 D.p,.int .i64 D.m,.slice A D.mod.length c],.slice A1 l.length c1,.int .i64 N] w fun e w'=>e=.returned (.int .i64 (elErr D l N 4))∧Below w.heap.size w w':=by
 have hE:=fun W a=>Lib.hid (Entries9_any D l A A1 c c1 W a hl)
 obtain⟨Z,hZ⟩:∃ Z,Z=w.alloc (.cells #[.int .i64 D.p,.int .i64 D.m,.slice A D.mod.length c] 24):=⟨_,rfl⟩;have hB:Below w.heap.size w Z:=by rw[hZ]; exact (Below.refl _ _).alloc (Nat.le_refl _) _
 obtain⟨q0,q1,q2⟩:=alloc3 w (.int .i64 D.p) (.int .i64 D.m) (.slice A D.mod.length c) 24;have hE1:=hE Z ((hr1.below hB).more hB.size);replace hZ:=Lib.hid hZ;clear hE;by_cases hN:(l.length:Int)≠N
 ·rw[show elErr D l N 4=4 from if_pos hN];have hb:((l.length:Int) !=N)=true:=by rw[bne_iff_ne]; exact hN
  replace hN:=Lib.hid hN;go_enter Tryz.func106,Tryz.ntmps106;go_wp2_with (fail);go_ret;rw[←hZ.out];exact⟨rfl,hB⟩
 ·rw[show elErr D l N 4=elE D l from if_neg hN];have hb:((l.length:Int) !=N)=false:=by rw[bne_eq_false_iff_eq]; exact Classical.not_not.1 hN
  replace hN:=Lib.hid hN;go_enter Tryz.func106,Tryz.ntmps106;go_wp2_with (fail);rw[←hZ.out];(with_reducible refine hE1.out.mono ?_);rintro e w1 ⟨rfl,hb1⟩;go_wp2_with (fail);go_ret;exact⟨rfl,hB.trans (hb1.mono hB.size)⟩

set_option maxHeartbeats 1000000 in
theorem Word12_any (F:FD)(hgood:Good F.p F.m (modL F.toDesc))(n m:Nat)(M:Nat→Nat→R F.toDesc)(hcan:Canl F n m M)(A Ar:Option Addr)(c cr:Nat)(l:List Int)(A1:Option Addr)(c1:Nat)(w:World)(hr:Rd w w.heap.size A (modL F.toDesc))(hrm:RdM w w.heap.size Ar n (rowsL F.toDesc m M))(hn:n≤256)(hm1:1≤m)(hm:m≤64)(hr1:Rd w w.heap.size A1 l)(hl:l.length≤1000000) :
  Calls Tryz.prog 50 #[.agg #[.int .i64 F.p,.int .i64 F.m,.slice A F.mod.length c,.int .i64 m,.slice Ar n cr],.slice A1 l.length c1] w fun e w'=>e=.returned (.int .i64 (elErr F.toDesc l m 4))∧Below w.heap.size w w':=by
 have hC:=fun W a b=>Lib.hid (Check12_ok F hgood n m M hcan A Ar c cr W a b hn hm1 hm)
 have hL:=fun W a=>Lib.hid (List12_any F.toDesc l m A A1 c c1 W a hl)
 obtain⟨Z,hZ⟩:∃ Z,Z=w.alloc (.cells #[.int .i64 F.p,.int .i64 F.m,.slice A F.mod.length c,.int .i64 m,.slice Ar n cr] 27):=⟨_,rfl⟩;have hB:Below w.heap.size w Z:=by rw[hZ]; exact (Below.refl _ _).alloc (Nat.le_refl _) _
 have hZs:w.heap.size<Z.heap.size:=by rw[hZ]; simp
 have f5:=Five.new w (.int .i64 F.p) (.int .i64 F.m) (.slice A F.mod.length c) (.int .i64 m) (.slice Ar n cr) 27;have f5H:Hid (Five Z w.heap.size (.int .i64 F.p) (.int .i64 F.m) (.slice A F.mod.length c) (.int .i64 m) (.slice Ar n cr)):=by rw[hZ]; exact f5
 have hC1:=hC Z ((hr.below hB).more hB.size) ((hrm.below hB).more hB.size);replace hZ:=Lib.hid hZ;clear hcan hgood hC;go_enter Tryz.func50,Tryz.ntmps50;obtain⟨a0,a1,a2,a3,a4,-⟩:=f5;go_wp2_with (fail);rw[←hZ.out];(with_reducible refine hC1.out.mono ?_);rintro e w1 ⟨rfl,hb1⟩;have hB1:=hB.trans (hb1.mono hB.size);clear a0 a1 a2 a3 a4;obtain⟨a0,a1,a2,a3,a4,-⟩:=f5H.out.keep hb1 hZs;go_wp2_with (fail);(with_reducible refine (hL w1 ((hr1.below hB1).more hB1.size)).out.mono ?_);rintro e w2 ⟨rfl,hb2⟩;go_wp2_with (fail);go_ret;exact⟨rfl,hB1.trans (hb2.mono hB1.size)⟩

theorem Has12_yes (F:FD)(hgood:Good F.p F.m (modL F.toDesc))(n m:Nat)(M:Nat→Nat→R F.toDesc)(hcan:Canl F n m M)(A Ar:Option Addr)(c cr:Nat)(u:Nat→R F.toDesc)(A1:Option Addr)(c1:Nat)(w:World)(hr:Rd w w.heap.size A (modL F.toDesc))(hrm:RdM w w.heap.size Ar n (rowsL F.toDesc m M))(hn:n≤256)(hm1:1≤m)(hm:m≤64)(hr1:Rd w w.heap.size A1 (rowL F.toDesc m u))(hp:∀ i,i<n→fnz (rowsL F.toDesc m M i)<m) :
  Calls Tryz.prog 14 #[.agg #[.int .i64 F.p,.int .i64 F.m,.slice A F.mod.length c,.int .i64 m,.slice Ar n cr],.slice A1 m c1] w fun e w'=>e=.returned (.tuple #[.bool (all0 (rowL F.toDesc m (restF n (fun i=>fnz (rowsL F.toDesc m M i)) M u))),.int .i64 0])∧Below w.heap.size w w':=by
 have hW:=fun W a b d=>Word12_any F hgood n m M hcan A Ar c cr (rowL F.toDesc m u) A1 c1 W a b hn hm1 hm d (by rw[rowL_length]; omega)
 rw[show elErr F.toDesc (rowL F.toDesc m u) m 4=0 from by unfold elErr; rw[rowL_length,if_neg (by simp),if_neg (by rw[elB_rowL]; simp)],rowL_length]at hW;replace hW:=fun W a b d=>Lib.hid (hW W a b d)
 have hI:=fun W a b d=>Lib.hid (In10_any F.toDesc n m M u A Ar A1 c cr c1 W a b d (by omega) (by omega) hp)
 obtain⟨Z,hZ⟩:∃ Z,Z=w.alloc (.cells #[.int .i64 F.p,.int .i64 F.m,.slice A F.mod.length c,.int .i64 m,.slice Ar n cr] 27):=⟨_,rfl⟩;have hB:Below w.heap.size w Z:=by rw[hZ]; exact (Below.refl _ _).alloc (Nat.le_refl _) _
 have hZs:w.heap.size<Z.heap.size:=by rw[hZ]; simp
 have f5:=Five.new w (.int .i64 F.p) (.int .i64 F.m) (.slice A F.mod.length c) (.int .i64 m) (.slice Ar n cr) 27;have f5H:Hid (Five Z w.heap.size (.int .i64 F.p) (.int .i64 F.m) (.slice A F.mod.length c) (.int .i64 m) (.slice Ar n cr)):=by rw[hZ]; exact f5
 have hW1:=hW Z ((hr.below hB).more hB.size) ((hrm.below hB).more hB.size) ((hr1.below hB).more hB.size);replace hZ:=Lib.hid hZ;clear hcan hgood hW hp;go_enter Tryz.func14,Tryz.ntmps14;obtain⟨a0,a1,a2,a3,a4,-⟩:=f5;go_wp2_with (fail);rw[←hZ.out];(with_reducible refine hW1.out.mono ?_);rintro e w1 ⟨rfl,hb1⟩;have hB1:=hB.trans (hb1.mono hB.size);clear a0 a1 a2 a3 a4;obtain⟨a0,a1,a2,a3,a4,-⟩:=f5H.out.keep hb1 hZs;have hI1:=hI w1 ((hr.below hB1).more hB1.size) ((hrm.below hB1).more hB1.size) ((hr1.below hB1).more hB1.size);go_wp2_with (fail);(with_reducible refine hI1.out.mono ?_);rintro e w2 ⟨rfl,hb2⟩;go_wp2_with (fail);go_ret2;exact⟨rfl,hB1.trans (hb2.mono hB1.size)⟩
end Go.Proofs.YtogfekjbpcfgmaaGreat

/- ref12.Has of any valid code and word: whether the word is in the rows' span. Boxes of several cells, as lists of values. Layer 12 of the reference: Fit and Inside of two valid codes over one field. -/
import Derived.Test.YtogfekjbpcfgmaaGreatZtXP4
import Derived.Test.YtogfekjbpcfgmaaGreatZtXMH
import Derived.Test.YtogfekjbpcfgmaaGreatZtXDsM
import Derived.Test.YtogfekjbpcfgmaaGreatZtXHasD
import Derived.Test.YtogfekjbpcfgmaaGreatZtXKerI
set_option linter.unusedVariables false
set_option linter.unusedSimpArgs false
namespace Go.Proofs.YtogfekjbpcfgmaaGreat
section
open Go.RowKit Cw

noncomputable def spB {D:Type} [CField D] (n m:Nat)(M:Nat→Nat→D)(u:Nat→D):Bool:=@decide (Span n m M u) (Classical.propDecidable _)
theorem spB_iff {D:Type} [CField D] {n m:Nat} {M:Nat→Nat→D} {u:Nat→D}:spB n m M u=true↔Span n m M u :=
 @decide_eq_true_iff _ (Classical.propDecidable _)
theorem fnz_RR {F:FD} {n m:Nat} {M:Nat→Nat→R F.toDesc} {p:Nat→Nat} (h:RR m n p M){i:Nat} (hi:i<n):fnz (rowsL F.toDesc m M i)=p i:=by
 have hlt:=h.lt i hi;refine fnz_eq _ _ (by rw[rowsL,rowL_length]; omega) (fun j hj=>?_) (.inr ?_)
 ·rw[rowsL,rowL_get _ _ (by omega),h.low i hi j hj]; exact ci_zero
 ·rw[rowsL,rowL_get _ _ hlt,h.one i hi];intro e;exact one_ne (ci_eq_zero.1 e)
theorem rest_span {F:FD} {n m:Nat} {M:Nat→Nat→R F.toDesc} {p:Nat→Nat} (h:RR m n p M)(u:Nat→R F.toDesc):all0 (rowL F.toDesc m (restF n (fun i=>fnz (rowsL F.toDesc m M i)) M u))=spB n m M u:=by
 rw[Bool.eq_iff_iff,spB_iff];have hall:all0 (rowL F.toDesc m (restF n (fun i=>fnz (rowsL F.toDesc m M i)) M u))=true↔∀ j,j<m→restF n (fun i=>fnz (rowsL F.toDesc m M i)) M u j=0:=by
  unfold all0;rw[decide_eq_true_iff];constructor
  ·intro h j hj;exact ci_eq_zero.1 (h _ (List.mem_map.2 ⟨j,List.mem_range.2 hj,rfl⟩))
  ·intro h x hx;obtain⟨j,hj,rfl⟩:=List.mem_map.1 hx;exact ci_eq_zero.2 (h j (List.mem_range.1 hj))
 rw[hall];constructor
 ·intro h;refine⟨fun i=>u (fnz (rowsL F.toDesc m M i)),fun j hj=>?_⟩;have h1:=h j hj;unfold restF at h1;dsimp only at h1 ⊢;rw[rsum_congr fun i _=>neg_mul _ _,rsum_neg]at h1;exact sub_eq_zero h1
 ·intro hs j hj;obtain⟨c,hc⟩:=hs;unfold restF;dsimp only;rw[rsum_congr (g:=fun i=>-(c i*M i j)) fun i hi=>by
   rw[fnz_RR h hi,neg_mul]
   congr 2
   exact h.coef hc hi,rsum_neg,←hc j hj,add_neg]
theorem Has12_vc {P M N:Int} {ml:List Int} {n:Nat} {rows:Nat→List Int} {F:FD} {m:Nat} {B:Nat→Nat→R F.toDesc} (hv:VC P M N ml n rows F m B)(u:Nat→R F.toDesc)(A Ar A1:Option Addr)(c cr c1:Nat)(w:World)(hr:Rd w w.heap.size A ml)(hrm:RdM w w.heap.size Ar n rows)(hr1:Rd w w.heap.size A1 (rowL F.toDesc m u)) :
  Calls Tryz.prog 14 #[.agg #[.int .i64 P,.int .i64 M,.slice A ml.length c,.int .i64 N,.slice Ar n cr],.slice A1 m c1] w fun e w'=>e=.returned (.tuple #[.bool (spB n m B u),.int .i64 0])∧Below w.heap.size w w':=by
 have eP:=hv.hP; have eM:=hv.hM; have eL:=hv.hl; have eN:=hv.hN;have h1:=hv.le; have h2:=hv.m64; have h3:=hv.m1;have hrm2:=hrm.congr hv.hr;have hgood:=hv.good;have hcan:=hv.can;obtain⟨p,hRR⟩:=canl_RR hcan;clear hv hrm;subst eP eM eL eN;rw[modL_length,←rest_span hRR u];exact Has12_yes F hgood n m B hcan A Ar c cr u A1 c1 w hr hrm2 (by omega) h3 h2 hr1 (fun i hi=>by rw[fnz_RR hRR hi]; exact hRR.lt i hi)
end
section
open Go.RowKit Cw

def Bxs (w:World)(b:Nat)(vs:List Value):Prop:=∀ i v,vs[i]?=some v→w.cell? ⟨b,i,none⟩=some v∧w.frozen? ⟨b,i,none⟩=false
section
variable {w w1:World} {b B:Nat} {vs:List Value}
theorem Bxs.keep (h:Bxs w b vs)(hb:Below B w w1)(hlt:b<B):Bxs w1 b vs:=fun i v e=>⟨(hb.cell (p:=⟨b,i,none⟩) hlt).trans (h i v e).1,(hb.frozen (p:=⟨b,i,none⟩) hlt).trans (h i v e).2⟩
theorem Bxs.new (w:World)(vs:List Value)(t:TypeId):Bxs (w.alloc (.cells vs.toArray t)) w.heap.size vs:=fun i v e=>by
 have h:(w.alloc (.cells vs.toArray t)).heap[w.heap.size]?=some (.cells vs.toArray t (0,0)):=heap_alloc_new w (.cells vs.toArray t);refine⟨?_,?_⟩
 ·unfold World.cell?;rw[h]
  simpa using e
 ·unfold World.frozen?;rw[h];simp
end
section
variable {w:World} {b:Nat}
theorem Bxs.c5 {v0 v1 v2 v3 v4:Value} (h:Bxs w b [v0,v1,v2,v3,v4]):w.cell? ⟨b,0,none⟩=some v0∧w.cell? ⟨b,1,none⟩=some v1∧w.cell? ⟨b,2,none⟩=some v2∧w.cell? ⟨b,3,none⟩=some v3∧w.cell? ⟨b,4,none⟩=some v4:=⟨(h 0 _ rfl).1,(h 1 _ rfl).1,(h 2 _ rfl).1,(h 3 _ rfl).1,(h 4 _ rfl).1⟩
end
end
section
open Go.RowKit Cw
attribute [local go_sem] Oper.semAt_some

section
variable (F:FD) (m n1 n2:Nat) (M1 M2:Nat→Nat→R F.toDesc) (A1 A2 R1 R2:Option Addr) (c1 c2 k1 k2:Nat) (w:World)
set_option maxRecDepth 100000 in
set_option maxHeartbeats 8000000 in
theorem Fit12_ok (hgood:Good F.p F.m (modL F.toDesc))(hc1:Canl F n1 m M1)(hc2:Canl F n2 m M2)(hm1:1≤m)(hm:m≤64)(hn1:n1≤256)(hn2:n2≤256)(hr1:Rd w w.heap.size A1 (modL F.toDesc))(hr2:Rd w w.heap.size A2 (modL F.toDesc))(hm1':RdM w w.heap.size R1 n1 (rowsL F.toDesc m M1))(hm2':RdM w w.heap.size R2 n2 (rowsL F.toDesc m M2)) :
  Calls Tryz.prog 98 #[.agg #[.int .i64 F.p,.int .i64 F.m,.slice A1 F.mod.length c1,.int .i64 m,.slice R1 n1 k1],.agg #[.int .i64 F.p,.int .i64 F.m,.slice A2 F.mod.length c2,.int .i64 m,.slice R2 n2 k2]] w fun e w'=>e=.returned (.int .i64 0)∧Below w.heap.size w w':=by
 have hC1:=fun W a b=>Lib.hid (Check12_ok F hgood n1 m M1 hc1 A1 R1 c1 k1 W a b hn1 hm1 hm)
 have hC2:=fun W a b=>Lib.hid (Check12_ok F hgood n2 m M2 hc2 A2 R2 c2 k2 W a b hn2 hm1 hm)
 have hSm:=fun W a b=>Same4_eq F.p F.m (modL F.toDesc) A1 A2 c1 c2 W a b (by rw[modL_length]; have:=F.hlen; rw[this]; have:=F.m8; unfold maxLen; split <;> omega)
 rw[modL_length]at hSm;obtain⟨s,hs⟩:∃ s,s=w.heap.size:=⟨_,rfl⟩;obtain⟨Z,hZ⟩:∃ Z,Z=(w.alloc (.cells #[.int .i64 F.p,.int .i64 F.m,.slice A1 F.mod.length c1,.int .i64 m,.slice R1 n1 k1] 27)).alloc (.cells #[.int .i64 F.p,.int .i64 F.m,.slice A2 F.mod.length c2,.int .i64 m,.slice R2 n2 k2] 27):=⟨_,rfl⟩;have hB:Below w.heap.size w Z:=by rw[hZ]; exact ((Below.refl _ _).alloc (Nat.le_refl _) _).alloc (by simp) _
 have hb1:Hid (Bxs Z s [.int .i64 F.p,.int .i64 F.m,.slice A1 F.mod.length c1,.int .i64 m,.slice R1 n1 k1]):=by rw[hZ,hs]; exact (Bxs.new w _ _).keep ((Below.refl _ _).alloc (Nat.le_refl _) _) (by simp)
 have hb2:Hid (Bxs Z (s+1) [.int .i64 F.p,.int .i64 F.m,.slice A2 F.mod.length c2,.int .i64 m,.slice R2 n2 k2]):=by rw[hZ,hs]; have:=Bxs.new (w.alloc (.cells #[.int .i64 F.p,.int .i64 F.m,.slice A1 F.mod.length c1,.int .i64 m,.slice R1 n1 k1] 27)) [.int .i64 F.p,.int .i64 F.m,.slice A2 F.mod.length c2,.int .i64 m,.slice R2 n2 k2] 27; rw[World.size_alloc]at this; exact this
 have hZs:s+1<Z.heap.size:=by rw[hZ,hs]; simp
 have hq:=hC1 Z ((hr1.below hB).more hB.size) ((hm1'.below hB).more hB.size);replace hZ:=Lib.hid hZ;clear hC1;go_enter Tryz.func98,Tryz.ntmps98;obtain⟨a0,a1,a2,a3,a4⟩:=hb1.out.c5;go_wp2_with (fail);rw[←hZ.out];simp only[←hs];replace hs:=Lib.hid hs;(with_reducible refine hq.out.mono ?_);rintro e w1 ⟨rfl,hb3⟩;clear hq a0 a1 a2 a3 a4;have hB1:=hB.trans (hb3.mono hB.size);have hq:=hC2 w1 ((hr2.below hB1).more hB1.size) ((hm2'.below hB1).more hB1.size);obtain⟨d0,d1,d2,d3,d4⟩:=(hb2.out.keep hb3 hZs).c5;go_wp2_with (fail);(with_reducible refine hq.out.mono ?_);rintro e w2 ⟨rfl,hb4⟩;clear hq d0 d1 d2 d3 d4;have hbz:=hb3.trans (hb4.mono hb3.size);have hB2:=hB.trans (hbz.mono hB.size);have hq:=Lib.hid (hSm w2 ((hr1.below hB2).more hB2.size) ((hr2.below hB2).more hB2.size));obtain⟨a0,a1,a2,a3,a4⟩:=(hb1.out.keep hbz (by omega)).c5;obtain⟨d0,d1,d2,d3,d4⟩:=(hb2.out.keep hbz hZs).c5;go_wp2_with (fail);(with_reducible refine hq.out.mono ?_);rintro e w3 ⟨rfl,hb5⟩;clear hq a0 a1 a2 a3 a4 d0 d1 d2 d3 d4;have hbz3:=hbz.trans (hb5.mono hbz.size);obtain⟨a0,a1,a2,a3,a4⟩:=(hb1.out.keep hbz3 (by omega)).c5;obtain⟨d0,d1,d2,d3,d4⟩:=(hb2.out.keep hbz3 hZs).c5;go_wp2_with (fail);go_ret;exact⟨rfl,hB.trans (hbz3.mono hB.size)⟩
end
end
end Go.Proofs.YtogfekjbpcfgmaaGreat

/- The program's combine.checked of two and of three codes; the reference's Two. Two lists joined: combine.beside and the reference's Join; combine.generated; equal of equal results. -/
import Derived.Laws.MakeOwn
import Derived.Test.YtogfekjbpcfgmaaGreatZtXCodF
import Derived.Test.YtogfekjbpcfgmaaGreatZtXCodG
import Derived.Test.YtogfekjbpcfgmaaGreatZtXCodD
namespace Go.Proofs.YtogfekjbpcfgmaaGreat
section
open Go.RowKit Cw
attribute [local go_sem] Oper.semAt_some

theorem eqF_comm {P M P' M':Int} {ml ml':List Int}:eqF P M ml P' M' ml'=eqF P' M' ml' P M ml:=by
 unfold eqF;rw[decide_eq_decide];exact⟨fun⟨a,b,c⟩=>⟨a.symm,b.symm,c.symm⟩,fun⟨a,b,c⟩=>⟨a.symm,b.symm,c.symm⟩⟩

open Classical in
end
section
open Go.RowKit Cw
attribute [local go_sem] Oper.semAt_some

theorem mk_cap0 (n:Nat)(h:n≤70000)(w:World):(Instr.makeSlice 22 (.int .i64 0) (.int .i64 (n:Int))).run Tryz.prog w =
  .ok (.slice (some ⟨w.heap.size,0,none⟩) 0 n) (w.alloc (.cells (Array.replicate n (Value.int .i64 0)) 3)):=by
 obtain⟨i0,hi,hz0,hz1,hz2⟩:=info_parts infoInt;have hr:=run_make (P:=Tryz.prog) w 22 3 i0 (.int .i64 0) Tryz.underlying22 hi hz0 .i64 .i64 0 n (by omega) (by omega) (by rw[hz2]; omega) (by omega);simp only[Int.toNat_natCast,hz1,Nat.mul_one]at hr;rw[show Array.replicate n (Value.int .i64 0)=((List.replicate n (0:Int)).map (Value.int .i64)).toArray by simp,←made_ints];exact hr
theorem Own.cap0 (w:World)(n:Nat)(hn:n≤70000):Own (w.alloc (.cells (Array.replicate n (Value.int .i64 0)) 3)) w.heap.size (.slice (some ⟨w.heap.size,0,none⟩) 0 n) [] :=
 ⟨by simp,.inr ⟨w.heap.size,n,Array.replicate n (Value.int .i64 0),rfl,Nat.le_refl _,heap_alloc_new w _,Nat.zero_le _,by unfold maxLen; omega,by simp,by simp⟩⟩

set_option maxHeartbeats 1000000 in
theorem Join14_any (u v:List Int)(A1 A2:Option Addr)(c1 c2:Nat)(w:World)(h1:Rd w w.heap.size A1 u)(h2:Rd w w.heap.size A2 v)(hu:u.length≤10000)(hv:v.length≤10000) :
  Calls Tryz.prog 42 #[.slice A1 u.length c1,.slice A2 v.length c2] w (GivesA w.heap.size (u ++ v) w):=by
 obtain⟨W1,hW1⟩:∃ W1,W1=w.alloc (.cells #[] 3):=⟨_,rfl⟩;have hbe:Below w.heap.size w W1:=by rw[hW1]; exact (Below.refl _ _).alloc (Nat.le_refl _) _
 have hse:w.heap.size<W1.heap.size:=by rw[hW1]; simp
 have hoe:Own W1 w.heap.size (.slice (some ⟨w.heap.size,0,none⟩) 0 0) []:=by rw[hW1]; exact Own.of_IB (l:=[]) (heap_alloc_new _ _) (Nat.le_refl _) (by simp[maxLen])
 have r1:=(h1.below hbe).more hbe.size;have r2:=fun W (h:Below w.heap.size w W)=>Lib.hid ((h2.below h).more h.size)
 have hle:([]:List Int).length+u.length≤1000000000:=by simp; omega
 have hle2:u.length+v.length≤1000000000:=by omega
 subst hW1;unfold GivesA;go_enter Tryz.func42,Tryz.ntmps42;go_wp2_with (first
  | (at_builtin; refine wpList_appN (n2:=u.length) rfl (.tmp 5) (.tmp 6) rfl w.heap.size _ [] _ A1 c1 u hoe r1 rfl rfl rfl hle (Nat.le_of_lt hse) ?_; intro v1 W2 ho1 hb1 hg1 hv1; rw[List.nil_append]at ho1; have hB1:=hbe.trans hb1; have r3:=(r2 W2 hB1).out)
  | (at_builtin; refine wpList_appN (n2:=v.length) rfl (.tmp 7) (.tmp 8) rfl w.heap.size _ u _ A2 c2 v ho1 r3 rfl rfl rfl hle2 hB1.size ?_; intro v2 W3 ho2 hb2 hg2 hv2; have hB2:=hB1.trans hb2))
 go_ret;exact⟨v2,rfl,ho2,hB2⟩

set_option maxHeartbeats 1000000 in
theorem cBeside_any (u v:List Int)(A1 A2:Option Addr)(c1 c2:Nat)(w:World)(h1:Rd w w.heap.size A1 u)(h2:Rd w w.heap.size A2 v)(hu:u.length≤10000)(hv:v.length≤10000) :
  Calls Tryz.prog 37 #[.slice A1 u.length c1,.slice A2 v.length c2] w (GivesA w.heap.size (u ++ v) w):=by
 obtain⟨N,hN⟩:∃ N,N=u.length+v.length:=⟨_,rfl⟩;have hmk:=mk_cap0 N (by omega);have hoe:=Own.cap0 w N (by omega);have hN':((u.length:Int)+(v.length:Int))=(N:Int):=by omega
 obtain⟨W1,hW1⟩:∃ W1,W1=w.alloc (.cells (Array.replicate N (Value.int .i64 0)) 3):=⟨_,rfl⟩;have hbe:Below w.heap.size w W1:=by rw[hW1]; exact (Below.refl _ _).alloc (Nat.le_refl _) _
 have hse:w.heap.size<W1.heap.size:=by rw[hW1]; simp
 rw[←hW1]at hoe;have r1:=(h1.below hbe).more hbe.size;have r2:=fun W (h:Below w.heap.size w W)=>Lib.hid ((h2.below h).more h.size)
 have hle:([]:List Int).length+u.length≤1000000000:=by simp; omega
 have hle2:u.length+v.length≤1000000000:=by omega
 subst hW1;replace hN:=Lib.hid hN;unfold GivesA;go_enter Tryz.func37,Tryz.ntmps37;go_wp2_with (first
  | (at_builtin; refine wpList_appN (n2:=u.length) rfl (.tmp 10) (.tmp 11) rfl w.heap.size _ [] _ A1 c1 u hoe r1 rfl rfl rfl hle (Nat.le_of_lt hse) ?_; intro v1 W2 ho1 hb1 hg1 hv1; rw[List.nil_append]at ho1; have hB1:=hbe.trans hb1; have r3:=(r2 W2 hB1).out)
  | (at_builtin; refine wpList_appN (n2:=v.length) rfl (.tmp 12) (.tmp 13) rfl w.heap.size _ u _ A2 c2 v ho1 r3 rfl rfl rfl hle2 hB1.size ?_; intro v2 W3 ho2 hb2 hg2 hv2; have hB2:=hB1.trans hb2))
 go_ret;exact⟨v2,rfl,ho2,hB2⟩

def ResC (P M N:Int)(ml:List Int)(n:Nat)(rows:Nat→List Int)(E:Int)(w:World)(e:Ending)(w':World):Prop :=
 ∃ A c Al cl,e=.returned (.tuple #[.agg #[.int .i64 P,.int .i64 M,.slice A ml.length c,.int .i64 N,.slice Al n cl],.int .i64 E])∧Rd w' w'.heap.size A ml∧(∀ b,A=some b→w.heap.size≤b.block)∧RdMU w' w.heap.size w'.heap.size Al n rows∧Below w.heap.size w w'
def ResErr (E:Int):World→Ending→World→Prop:=ResC 0 0 0 [] 0 (fun _=>[]) E
def ResCode (F:FD)(n m:Nat)(M:Nat→Nat→R F.toDesc):World→Ending→World→Prop:=ResC F.p F.m m (modL F.toDesc) (rkS F n m M) (rowsL F.toDesc m (elS n M m).1) 0
theorem resErr {E:Int} {w w':World} (hb:Below w.heap.size w w'):ResErr E w (.returned (.tuple #[.agg #[.int .i64 0,.int .i64 0,.slice none 0 0,.int .i64 0,.slice none 0 0],.int .i64 E])) w' :=
 ⟨none,0,none,0,rfl,Rd.nil,(fun b h=>by cases h),RdMU.zero,hb⟩

set_option maxRecDepth 100000 in
set_option maxHeartbeats 2000000 in
theorem cGenerated_ok (F:FD)(hgood:Good F.p F.m (modL F.toDesc))(n m:Nat)(M:Nat→Nat→R F.toDesc)(A Ar:Option Addr)(c cr:Nat)(w:World)(hr:Rd w w.heap.size A (modL F.toDesc))(hrm:RdM w w.heap.size Ar n (rowsL F.toDesc m M))(hn:n≤256)(hm1:1≤m)(hm:m≤64) :
  Calls Tryz.prog 38 #[.agg #[.int .i64 F.p,.int .i64 F.m,.slice A F.mod.length c],.int .i64 m,.slice Ar n cr] w (ResCode F n m M w):=by
 have hC:=fun W h1 h2=>gNewC_ok F hgood n m M A Ar c cr W h1 h2 hn hm1 hm
 unfold CodePost at hC;replace hC:=fun W h1 h2=>Lib.hid (hC W h1 h2)
 obtain⟨Z,hZ⟩:∃ Z,Z=(w.alloc (.cells #[.int .i64 F.p,.int .i64 F.m,.slice A F.mod.length c] 24)).alloc (.cells #[.int .i64 0,.int .i64 0,.slice none 0 0,.int .i64 0,.slice none 0 0] 27):=⟨_,rfl⟩;have hB:Below w.heap.size w Z:=by rw[hZ]; exact ((Below.refl _ _).alloc (Nat.le_refl _) _).alloc (by simp) _
 obtain⟨s,hs⟩:∃ s,s=w.heap.size:=⟨_,rfl⟩;have hZs:s+1<Z.heap.size:=by rw[hZ,hs]; simp
 have f5:Five Z (s+1) (.int .i64 0) (.int .i64 0) (.slice none 0 0) (.int .i64 0) (.slice none 0 0):=by
  rw[hZ,hs]; have:=Five.new (w.alloc (.cells #[.int .i64 F.p,.int .i64 F.m,.slice A F.mod.length c] 24)) (.int .i64 0) (.int .i64 0) (.slice none 0 0) (.int .i64 0) (.slice none 0 0) 27; rw[World.size_alloc]at this; exact this
 have hCZ:=hC Z ((hr.below hB).more hB.size) ((hrm.below hB).more hB.size);have b1:¬ (64:Int)<(m:Int):=by omega
 replace hZ:=Lib.hid hZ;clear hC;unfold ResCode ResC;rw[modL_length];go_enter Tryz.func38,Tryz.ntmps38;go_wp2_with (fail);rw[←hZ.out];simp only[←hs];have hsw:w.heap.size≤s:=Nat.le_of_eq hs.symm;replace hs:=Lib.hid hs;(with_reducible refine hCZ.out.mono ?_);rintro e w1 ⟨A3,c3,Al,rfl,hr3,hA3,hru,hb1⟩;have hB1:=hB.trans (hb1.mono hB.size);have f51:=f5.keep hb1 hZs;have hA4:∀ b,A3=some b→s+1<b.block:=fun b hb=>by have h1:=hA3 b hb; omega
 have hZw:w.heap.size≤Z.heap.size:=by omega
 have hA5:∀ b,A3=some b→w.heap.size≤b.block:=fun b hb=>Nat.le_trans hZw (hA3 b hb)
 have hrf:=Lib.hid (hr3.set5 (b:=s+1) (fun b hb=>by have:=hA4 b hb; omega) (.int .i64 F.p) (.int .i64 F.m) (.slice A3 F.mod.length c3) (.int .i64 m) (.slice Al (rkS F n m M) (rkS F n m M)));have hruf:Hid (RdMU (((((w1.setCell ⟨s+1,0,none⟩ (.int .i64 F.p)).setCell ⟨s+1,1,none⟩ (.int .i64 F.m)).setCell ⟨s+1,2,none⟩ (.slice A3 F.mod.length c3)).setCell ⟨s+1,3,none⟩ (.int .i64 m)).setCell ⟨s+1,4,none⟩ (.slice Al (rkS F n m M) (rkS F n m M))) Z.heap.size w1.heap.size Al (rkS F n m M) (rowsL F.toDesc m (elS n M m).1)):=hru.keepU fun p hp _=>set5_above (b:=s+1) (L:=Z.heap.size) (by omega) _ _ _ _ _ p hp
 have hBf:Hid (Below w.heap.size w (((((w1.setCell ⟨s+1,0,none⟩ (.int .i64 F.p)).setCell ⟨s+1,1,none⟩ (.int .i64 F.m)).setCell ⟨s+1,2,none⟩ (.slice A3 F.mod.length c3)).setCell ⟨s+1,3,none⟩ (.int .i64 m)).setCell ⟨s+1,4,none⟩ (.slice Al (rkS F n m M) (rkS F n m M)))):=hB1.trans ((set5 _ _ _ _ _).mono (by omega));have hsz:Hid ((((((w1.setCell ⟨s+1,0,none⟩ (.int .i64 F.p)).setCell ⟨s+1,1,none⟩ (.int .i64 F.m)).setCell ⟨s+1,2,none⟩ (.slice A3 F.mod.length c3)).setCell ⟨s+1,3,none⟩ (.int .i64 m)).setCell ⟨s+1,4,none⟩ (.slice Al (rkS F n m M) (rkS F n m M))).heap.size=w1.heap.size):=by unfold Hid; simp[World.setCell]
 obtain⟨a0,a1,a2,a3,a4,g0,g1,g2,g3,g4⟩:=f51;clear hCZ hr3 hru hA3 hA4 hB1 hB hb1;go_wp2_with (fail);refine bodyPost_ret (v:=.tuple #[.agg #[.int .i64 F.p,.int .i64 F.m,.slice A3 F.mod.length c3,.int .i64 m,.slice Al (rkS F n m M) (rkS F n m M)],.int .i64 0]) (by simp[results,Tryz.results38,go_sem,a0,a1,a2,a3,a4]) rfl ⟨A3,c3,Al,rkS F n m M,rfl,?_,hA5,?_,hBf.out⟩
 ·exact hrf.out.more (by rw[hsz.out]; exact Nat.le_refl _)
 ·have h5:=hruf.out.low hZw;rw[←hsz.out]at h5;exact h5

theorem equal14_eq (P Q N E:Int)(ml:List Int)(n:Nat)(rows:Nat→List Int)(A A' Ar Ar':Option Addr)(c c' cr cr':Nat)(w:World)(h1:Rd w w.heap.size A ml)(h2:Rd w w.heap.size A' ml)(hl:ml.length≤maxLen)(h3:RdM w w.heap.size Ar n rows)(h4:RdM w w.heap.size Ar' n rows)(hn:n≤1000000)(hrl:∀ i,i<n→(rows i).length≤1000000) :
  Calls Tryz.prog 11 #[.agg #[.int .i64 P,.int .i64 Q,.slice A ml.length c,.int .i64 N,.slice Ar n cr],.int .i64 E,.agg #[.int .i64 P,.int .i64 Q,.slice A' ml.length c',.int .i64 N,.slice Ar' n cr'],.int .i64 E] w fun e w'=>e=.returned (.bool true)∧Below w.heap.size w w':=by
 obtain⟨Z,hZ⟩:∃ Z,Z=(w.alloc (.cells #[.int .i64 P,.int .i64 Q,.slice A ml.length c,.int .i64 N,.slice Ar n cr] 27)).alloc (.cells #[.int .i64 P,.int .i64 Q,.slice A' ml.length c',.int .i64 N,.slice Ar' n cr'] 27):=⟨_,rfl⟩;have hB:Below w.heap.size w Z:=by rw[hZ]; exact ((Below.refl _ _).alloc (Nat.le_refl _) _).alloc (by simp) _
 have hS:=Lib.hid (Same12_eq P Q N ml n rows A A' Ar Ar' c c' cr cr' Z ((h1.below hB).more hB.size) ((h2.below hB).more hB.size) hl ((h3.below hB).more hB.size) ((h4.below hB).more hB.size) hn hrl);have hE:(E==E)=true:=by simp
 replace hZ:=Lib.hid hZ;clear hl hrl;go_enter Tryz.func11,Tryz.ntmps11;go_wp2_with (fail);rw[←hZ.out];(with_reducible refine hS.out.mono ?_);rintro e w1 ⟨rfl,hb1⟩;go_wp2_with (fail);go_ret;exact⟨rfl,hB.trans (hb1.mono hB.size)⟩
end
end Go.Proofs.YtogfekjbpcfgmaaGreat

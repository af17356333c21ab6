/- Two lists joined: combine.beside and the reference's Join; combine.generated; equal of equal results. Plain: interleaved rows, product rows, bursts. No Go here. Rows of combined codes, as lists. A row appended to rows of the call's own; combine.Sum, Plotkin, Juxtapose: errors and codes. -/
import Derived.Laws.MakeOwn
import Derived.Test.YtogfekjbpcfgmaaGreatZtCLA
import Derived.Test.YtogfekjbpcfgmaaGreatZtCRowL
import Derived.Test.YtogfekjbpcfgmaaGreatZtCCodE
import Derived.Test.YtogfekjbpcfgmaaGreatZtCCodG
import Derived.Test.YtogfekjbpcfgmaaGreatZtCCodD
import Derived.Test.YtogfekjbpcfgmaaGreatZtCArgC
namespace Go.Proofs.YtogfekjbpcfgmaaGreat
open Go.RowKit Cw
attribute [local go_sem] Oper.semAt_some

def ResC (P M N:Int)(ml:List Int)(n:Nat)(rows:Nat→List Int)(E:Int)(w:World)(e:Ending)(w':World):Prop :=
 ∃ A c Al cl,e=.returned (.tuple #[.agg #[.int .i64 P,.int .i64 M,.slice A ml.length c,.int .i64 N,.slice Al n cl],.int .i64 E])∧Rd w' w'.heap.size A ml∧(∀ b,A=some b→w.heap.size≤b.block)∧RdMU w' w.heap.size w'.heap.size Al n rows∧Below w.heap.size w w'
def ResErr (E:Int):World→Ending→World→Prop:=ResC 0 0 0 [] 0 (fun _=>[]) E
def ResCode (F:FD)(n m:Nat)(M:Nat→Nat→R F.toDesc):World→Ending→World→Prop:=ResC F.p F.m m (modL F.toDesc) (rkS F n m M) (rowsL F.toDesc m (elS n M m).1) 0
theorem resErr {E:Int} {w w':World} (hb:Below w.heap.size w w'):ResErr E w (.returned (.tuple #[.agg #[.int .i64 0,.int .i64 0,.slice none 0 0,.int .i64 0,.slice none 0 0],.int .i64 E])) w' :=
 ⟨none,0,none,0,rfl,Rd.nil,(fun b h=>by cases h),RdMU.zero,hb⟩

set_option maxRecDepth 100000 in
set_option maxHeartbeats 2000000 in
theorem cGenerated_ok (F:FD)(hgood:Good F.p F.m (modL F.toDesc))(n m:Nat)(M:Nat→Nat→R F.toDesc)(A Ar:Option Addr)(c cr:Nat)(w:World)(hr:Rd w w.heap.size A (modL F.toDesc))(hrm:RdM w w.heap.size Ar n (rowsL F.toDesc m M))(hn:n≤256)(hm1:1≤m)(hm:m≤64) :
  Calls Tryz.prog 38 #[.agg #[.int .i64 F.p,.int .i64 F.m,.slice A F.mod.length c],.int .i64 m,.slice Ar n cr] w (ResCode F n m M w):=by
 have hC:=fun W h1 h2=>gNewC_ok F hgood n m M A Ar c cr W h1 h2 hn hm1 hm
 unfold CodePost at hC;replace hC:=fun W h1 h2=>Lib.hid (hC W h1 h2)
 obtain⟨Z,hZ⟩:∃ Z,Z=(w.alloc (.cells #[.int .i64 F.p,.int .i64 F.m,.slice A F.mod.length c] 24)).alloc (.cells #[.int .i64 0,.int .i64 0,.slice none 0 0,.int .i64 0,.slice none 0 0] 27):=⟨_,rfl⟩;have hB:Below w.heap.size w Z:=by rw[hZ]; exact ((Below.refl _ _).alloc (Nat.le_refl _) _).alloc (by simp) _
 obtain⟨s,hs⟩:∃ s,s=w.heap.size:=⟨_,rfl⟩;have hZs:s+1<Z.heap.size:=by rw[hZ,hs]; simp
 have f5:Five Z (s+1) (.int .i64 0) (.int .i64 0) (.slice none 0 0) (.int .i64 0) (.slice none 0 0):=by
  rw[hZ,hs]; have:=Five.new (w.alloc (.cells #[.int .i64 F.p,.int .i64 F.m,.slice A F.mod.length c] 24)) (.int .i64 0) (.int .i64 0) (.slice none 0 0) (.int .i64 0) (.slice none 0 0) 27; rw[World.size_alloc]at this; exact this
 have hCZ:=hC Z ((hr.below hB).more hB.size) ((hrm.below hB).more hB.size);have b1:¬ (64:Int)<(m:Int):=by omega
 replace hZ:=Lib.hid hZ;clear hC;unfold ResCode ResC;rw[modL_length];go_enter Tryz.func38,Tryz.ntmps38;go_wp2_with (fail);rw[←hZ.out];simp only[←hs];have hsw:w.heap.size≤s:=Nat.le_of_eq hs.symm;replace hs:=Lib.hid hs;(with_reducible refine hCZ.out.mono ?_);rintro e w1 ⟨A3,c3,Al,rfl,hr3,hA3,hru,hb1⟩;have hB1:=hB.trans (hb1.mono hB.size);have f51:=f5.keep hb1 hZs;have hA4:∀ b,A3=some b→s+1<b.block:=fun b hb=>by have h1:=hA3 b hb; omega
 have hZw:w.heap.size≤Z.heap.size:=by omega
 have hA5:∀ b,A3=some b→w.heap.size≤b.block:=fun b hb=>Nat.le_trans hZw (hA3 b hb)
 have hrf:=Lib.hid (hr3.set5 (b:=s+1) (fun b hb=>by have:=hA4 b hb; omega) (.int .i64 F.p) (.int .i64 F.m) (.slice A3 F.mod.length c3) (.int .i64 m) (.slice Al (rkS F n m M) (rkS F n m M)));have hruf:Hid (RdMU (((((w1.setCell ⟨s+1,0,none⟩ (.int .i64 F.p)).setCell ⟨s+1,1,none⟩ (.int .i64 F.m)).setCell ⟨s+1,2,none⟩ (.slice A3 F.mod.length c3)).setCell ⟨s+1,3,none⟩ (.int .i64 m)).setCell ⟨s+1,4,none⟩ (.slice Al (rkS F n m M) (rkS F n m M))) Z.heap.size w1.heap.size Al (rkS F n m M) (rowsL F.toDesc m (elS n M m).1)):=hru.keepU fun p hp _=>set5_above (b:=s+1) (L:=Z.heap.size) (by omega) _ _ _ _ _ p hp
 have hBf:Hid (Below w.heap.size w (((((w1.setCell ⟨s+1,0,none⟩ (.int .i64 F.p)).setCell ⟨s+1,1,none⟩ (.int .i64 F.m)).setCell ⟨s+1,2,none⟩ (.slice A3 F.mod.length c3)).setCell ⟨s+1,3,none⟩ (.int .i64 m)).setCell ⟨s+1,4,none⟩ (.slice Al (rkS F n m M) (rkS F n m M)))):=hB1.trans ((set5 _ _ _ _ _).mono (by omega));have hsz:Hid ((((((w1.setCell ⟨s+1,0,none⟩ (.int .i64 F.p)).setCell ⟨s+1,1,none⟩ (.int .i64 F.m)).setCell ⟨s+1,2,none⟩ (.slice A3 F.mod.length c3)).setCell ⟨s+1,3,none⟩ (.int .i64 m)).setCell ⟨s+1,4,none⟩ (.slice Al (rkS F n m M) (rkS F n m M))).heap.size=w1.heap.size):=by unfold Hid; simp[World.setCell]
 obtain⟨a0,a1,a2,a3,a4,g0,g1,g2,g3,g4⟩:=f51;clear hCZ hr3 hru hA3 hA4 hB1 hB hb1;go_wp2_with (fail);refine bodyPost_ret (v:=.tuple #[.agg #[.int .i64 F.p,.int .i64 F.m,.slice A3 F.mod.length c3,.int .i64 m,.slice Al (rkS F n m M) (rkS F n m M)],.int .i64 0]) (by simp[results,Tryz.results38,go_sem,a0,a1,a2,a3,a4]) rfl ⟨A3,c3,Al,rkS F n m M,rfl,?_,hA5,?_,hBf.out⟩
 ·exact hrf.out.more (by rw[hsz.out]; exact Nat.le_refl _)
 ·have h5:=hruf.out.low hZw;rw[←hsz.out]at h5;exact h5

theorem equal14_eq (P Q N E:Int)(ml:List Int)(n:Nat)(rows:Nat→List Int)(A A' Ar Ar':Option Addr)(c c' cr cr':Nat)(w:World)(h1:Rd w w.heap.size A ml)(h2:Rd w w.heap.size A' ml)(hl:ml.length≤maxLen)(h3:RdM w w.heap.size Ar n rows)(h4:RdM w w.heap.size Ar' n rows)(hn:n≤1000000)(hrl:∀ i,i<n→(rows i).length≤1000000) :
  Calls Tryz.prog 11 #[.agg #[.int .i64 P,.int .i64 Q,.slice A ml.length c,.int .i64 N,.slice Ar n cr],.int .i64 E,.agg #[.int .i64 P,.int .i64 Q,.slice A' ml.length c',.int .i64 N,.slice Ar' n cr'],.int .i64 E] w fun e w'=>e=.returned (.bool true)∧Below w.heap.size w w':=by
 obtain⟨Z,hZ⟩:∃ Z,Z=(w.alloc (.cells #[.int .i64 P,.int .i64 Q,.slice A ml.length c,.int .i64 N,.slice Ar n cr] 27)).alloc (.cells #[.int .i64 P,.int .i64 Q,.slice A' ml.length c',.int .i64 N,.slice Ar' n cr'] 27):=⟨_,rfl⟩;have hB:Below w.heap.size w Z:=by rw[hZ]; exact ((Below.refl _ _).alloc (Nat.le_refl _) _).alloc (by simp) _
 have hS:=Lib.hid (Same12_eq P Q N ml n rows A A' Ar Ar' c c' cr cr' Z ((h1.below hB).more hB.size) ((h2.below hB).more hB.size) hl ((h3.below hB).more hB.size) ((h4.below hB).more hB.size) hn hrl);have hE:(E==E)=true:=by simp
 replace hZ:=Lib.hid hZ;clear hl hrl;go_enter Tryz.func11,Tryz.ntmps11;go_wp2_with (fail);rw[←hZ.out];(with_reducible refine hS.out.mono ?_);rintro e w1 ⟨rfl,hb1⟩;go_wp2_with (fail);go_ret;exact⟨rfl,hB.trans (hb1.mono hB.size)⟩
end Go.Proofs.YtogfekjbpcfgmaaGreat

namespace Cw
section cmb
variable {F:Type} [CField F]
open CField (inv)
theorem divmod_mul {b x y:Nat} (hy:y<b):(b*x+y) / b=x∧(b*x+y) % b=y:=by
 constructor
 ·rw[Nat.mul_add_div (by omega),Nat.div_eq_of_lt hy,Nat.add_zero]
 ·rw[Nat.mul_add_mod,Nat.mod_eq_of_lt hy]
end cmb
def cn (P:Nat→Bool)(n:Nat):Nat:=((List.range n).filter P).length
theorem cn_succ (P:Nat→Bool)(n:Nat):cn P (n+1)=cn P n+if P n=true then 1 else 0:=by
 unfold cn;rw[List.range_succ,List.filter_append,List.length_append]
 congr 1
 by_cases h:P n=true
 ·rw[if_pos h,List.filter_cons_of_pos h]; rfl
 ·rw[if_neg h,List.filter_cons_of_neg h]; rfl
section burst
variable {F:Type} [CField F] [DecidableEq F]
end burst
end Cw

namespace Go.Proofs.YtogfekjbpcfgmaaGreat
section
open Go.RowKit Cw
def joinF {X:Type} (n:Nat)(u v:Nat→X):Nat→X:=fun j=>if j<n then u j else v (j - n)
theorem lst_join (n m:Nat)(u v:Nat→Int):lst n u ++ lst m v=lst (n+m) (joinF n u v):=by
 unfold lst joinF;rw[List.range_add,List.map_append,List.map_map]
 congr 1
 ·exact List.map_congr_left fun j hj=>by rw[if_pos (List.mem_range.1 hj)]
 ·exact List.map_congr_left fun j _=>by
   show v j=if n+j<n then u (n+j) else v (n+j - n)
   rw[if_neg (by omega),Nat.add_sub_cancel_left]
theorem rowL_join (D:Desc)(n m:Nat)(u v:Nat→R D):rowL D n u ++ rowL D m v=rowL D (n+m) (joinF n u v):=by
 unfold rowL;rw[lst_join];exact lst_congr fun j _=>by unfold joinF; split <;> rfl
def stackR {X:Type} (K:Nat)(A B:Nat→X):Nat→X:=fun i=>if i<K then A i else B (i - K)
theorem stackR_lo {X:Type} {K i:Nat} (A B:Nat→X)(h:i<K):stackR K A B i=A i:=if_pos h
theorem stackR_hi {X:Type} {K i:Nat} (A B:Nat→X):stackR K A B (K+i)=B i:=by unfold stackR; rw[if_neg (by omega),Nat.add_sub_cancel_left]
def sumR {F:Type} [CField F] (K n:Nat)(A B:Nat→Nat→F):Nat→Nat→F:=stackR K (fun i=>joinF n (A i) fun _=>0) (fun i=>joinF n (fun _=>0) (B i))
def ploR {F:Type} [CField F] (K n:Nat)(A B:Nat→Nat→F):Nat→Nat→F:=stackR K (fun i=>joinF n (A i) (A i)) (fun i=>joinF n (fun _=>0) (B i))
end
section
open Go.RowKit Cw
attribute [local go_sem] Oper.semAt_some

theorem OwnM.lt0 {w:World} {B n:Nat} {v:Value} {rows:Nat→List Int} (h:OwnM w B v n rows):∀ k,v.ownBlock=some k→k<w.heap.size:=fun k e=>by
 obtain⟨hs,-,e2,-⟩:=h;exact (World.ownsRow.lt e2 k e).2
theorem wpList_appRow {w:World} {ops:Array Oper} {rest:List Oper} {o:Oper} {a:Act} {Q:Exit→Act→World→Prop} (hgd:o.guard=none)(s x:Operand)
  (ho:o.op=.call { callee:=.builtin .append,args:=#[s,x],argTypes:=#[25,25] })
  (B:Nat) (v:Value) (n:Nat) (rows:Nat→List Int) (hown:OwnM w B v n rows) (Ak:Option Addr) (L ck:Nat) (hr:Rd w w.heap.size Ak (rows n)) (hL:(rows n).length=L) (hl:L≤ck) (hc:ck≤maxLen)
  (W0:Nat) (hv0:∀ k,v.ownBlock=some k→k<W0) (hd:∀ a,Ak=some a→W0≤a.block) (hBW:B≤W0)
  (hs:a.eval s=v) {H:Nat} (hx:a.eval x=.slice (some ⟨H,0,none⟩) 1 1) (hH:w.heap.size=H) (hn:n≤1000000) (hB:B≤w.heap.size)
  (h:∀ v' w',OwnM w' B v' (n+1) rows→Below B w w'→wpList Tryz.prog ops Q rest (a.put o.dst v') w') :
  wpList Tryz.prog ops Q (o :: rest) a (w.alloc (.cells #[.slice Ak L ck] 22)):=by
 obtain⟨hss,e1,e2,e3⟩:=hown;refine wpList_app1V hgd s x ho B v hss _ rfl e2 hs hx hH (by omega) hB fun v' w' ho' hb hg hv=>?_
 refine h v' w' (OwnM.snoc e1 e3 hr (by omega) hc (fun _ a e=>⟨fun e4=>?_,Nat.le_trans hBW (hd a e)⟩) (by rw[hL]; exact ho') hg hv) hb;have h1:=hd a e;have h2:=hv0 _ e4;omega
theorem OwnM.rdm {w:World} {B n:Nat} {v:Value} {rows:Nat→List Int} (h:OwnM w B v n rows):∃ A c,v=.slice A n c∧RdM w w.heap.size A n rows:=by
 obtain⟨A,c,rfl⟩:=h.size;refine⟨A,c,rfl,?_⟩;by_cases h0:0<n
 ·obtain⟨g,c',e,hg',-,-,hmb⟩:=h.mb h0;have e2:A=some ⟨g,0,none⟩:=by injection e
  rw[e2]; exact (hmb.rdmU hg').rdm
 ·obtain rfl:n=0:=by omega
  exact RdM.zero
theorem Own.parts {w:World} {B:Nat} {v:Value} {l:List Int} (h:Own w B v l):∃ A c,v=.slice A l.length c∧l.length≤c∧c≤maxLen∧Rd w w.heap.size A l∧∀ b,A=some b→B≤b.block:=by
 obtain⟨A,c,rfl,h1,h2,h3⟩:=h.form;exact⟨A,c,rfl,h1,Own.capM h,h2,fun b e=>(h3 b e).1⟩

theorem two_enter (Pa Ma Na:Int)(mla:List Int)(na:Nat)(rowsa:Nat→List Int)(Aa Ra:Option Addr)(ca ka:Nat)(Pb Mb Nb:Int)(mlb:List Int)(nb:Nat)(rowsb:Nat→List Int)(Ab Rb:Option Addr)(cb kb:Nat)(w:World){Z:World} (hZ:Z=(((w.alloc (.cells #[.int .i64 Pa,.int .i64 Ma,.slice Aa mla.length ca,.int .i64 Na,.slice Ra na ka] 27)).alloc (.cells #[.int .i64 Pb,.int .i64 Mb,.slice Ab mlb.length cb,.int .i64 Nb,.slice Rb nb kb] 27)).alloc (.cells #[.int .i64 0,.int .i64 0,.slice none 0 0,.int .i64 0,.slice none 0 0] 27))){s:Nat} (hs:s=w.heap.size):Z.heap.size=s+1+1+1∧Five Z s (.int .i64 Pa) (.int .i64 Ma) (.slice Aa mla.length ca) (.int .i64 Na) (.slice Ra na ka)∧Five Z (s+1) (.int .i64 Pb) (.int .i64 Mb) (.slice Ab mlb.length cb) (.int .i64 Nb) (.slice Rb nb kb)∧Five Z (s+1+1) (.int .i64 0) (.int .i64 0) (.slice none 0 0) (.int .i64 0) (.slice none 0 0):=by
 subst hs;have k1:=Five.new w (.int .i64 Pa) (.int .i64 Ma) (.slice Aa mla.length ca) (.int .i64 Na) (.slice Ra na ka) 27;have k2:=Five.new (w.alloc (.cells #[.int .i64 Pa,.int .i64 Ma,.slice Aa mla.length ca,.int .i64 Na,.slice Ra na ka] 27)) (.int .i64 Pb) (.int .i64 Mb) (.slice Ab mlb.length cb) (.int .i64 Nb) (.slice Rb nb kb) 27;have k3:=Five.new ((w.alloc (.cells #[.int .i64 Pa,.int .i64 Ma,.slice Aa mla.length ca,.int .i64 Na,.slice Ra na ka] 27)).alloc (.cells #[.int .i64 Pb,.int .i64 Mb,.slice Ab mlb.length cb,.int .i64 Nb,.slice Rb nb kb] 27)) (.int .i64 0) (.int .i64 0) (.slice none 0 0) (.int .i64 0) (.slice none 0 0) 27;rw[World.size_alloc]at k2 k3;rw[World.size_alloc]at k3;rw[hZ];exact⟨by simp,(k1.keep ((Below.refl _ _).alloc (Nat.le_refl _) _) (by simp)).keep ((Below.refl _ _).alloc (Nat.le_refl _) _) (by simp; omega),k2.keep ((Below.refl _ _).alloc (Nat.le_refl _) _) (by simp),k3⟩

end
end Go.Proofs.YtogfekjbpcfgmaaGreat

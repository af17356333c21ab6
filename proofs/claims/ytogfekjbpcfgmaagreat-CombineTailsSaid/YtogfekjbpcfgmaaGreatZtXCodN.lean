/- Plain: interleaved rows, product rows, bursts. No Go here. Rows of combined codes, as lists. One header appended, as a step of a region that draws its order. A row appended to rows of the call's own; combine.Sum, Plotkin, Juxtapose: errors and codes. The program's combine.Sum, Plotkin and Juxtapose of two codes without an error. What the walks of the program's constructions need: two codes in memory; the generated code; two valid codes. What the laws of chapter 14 begin with: two codes in their blocks; rows' lengths; the end of a law. combine.Product of two codes without an error. The reference's Sum, Plotkin and Juxtapose of two codes without an error. Sum, Plotkin, Juxtapose: the program and the reference hand back one result. -/
import Derived.IntWalk
import Derived.Test.YtogfekjbpcfgmaaGreatZtXLA
import Derived.Test.YtogfekjbpcfgmaaGreatZtXCodI
import Derived.Test.YtogfekjbpcfgmaaGreatZtXKerI
import Derived.Test.YtogfekjbpcfgmaaGreatZtXArgC
namespace Cw
section cmb
variable {F:Type} [CField F]
open CField (inv)
end cmb
def cn (P:Nat→Bool)(n:Nat):Nat:=((List.range n).filter P).length
theorem cn_succ (P:Nat→Bool)(n:Nat):cn P (n+1)=cn P n+if P n=true then 1 else 0:=by
 unfold cn;rw[List.range_succ,List.filter_append,List.length_append]
 congr 1
 by_cases h:P n=true
 ·rw[if_pos h,List.filter_cons_of_pos h]; rfl
 ·rw[if_neg h,List.filter_cons_of_neg h]; rfl
section burst
variable {F:Type} [CField F] [DecidableEq F]
end burst
end Cw

namespace Go.Proofs.YtogfekjbpcfgmaaGreat
section
open Go.RowKit Cw
def joinF {X:Type} (n:Nat)(u v:Nat→X):Nat→X:=fun j=>if j<n then u j else v (j - n)
theorem lst_join (n m:Nat)(u v:Nat→Int):lst n u ++ lst m v=lst (n+m) (joinF n u v):=by
 unfold lst joinF;rw[List.range_add,List.map_append,List.map_map]
 congr 1
 ·exact List.map_congr_left fun j hj=>by rw[if_pos (List.mem_range.1 hj)]
 ·exact List.map_congr_left fun j _=>by
   show v j=if n+j<n then u (n+j) else v (n+j - n)
   rw[if_neg (by omega),Nat.add_sub_cancel_left]
theorem rowL_join (D:Desc)(n m:Nat)(u v:Nat→R D):rowL D n u ++ rowL D m v=rowL D (n+m) (joinF n u v):=by
 unfold rowL;rw[lst_join];exact lst_congr fun j _=>by unfold joinF; split <;> rfl
def stackR {X:Type} (K:Nat)(A B:Nat→X):Nat→X:=fun i=>if i<K then A i else B (i - K)
def sumR {F:Type} [CField F] (K n:Nat)(A B:Nat→Nat→F):Nat→Nat→F:=stackR K (fun i=>joinF n (A i) fun _=>0) (fun i=>joinF n (fun _=>0) (B i))
def ploR {F:Type} [CField F] (K n:Nat)(A B:Nat→Nat→F):Nat→Nat→F:=stackR K (fun i=>joinF n (A i) (A i)) (fun i=>joinF n (fun _=>0) (B i))
end
section
open Go.RowKit Cw

theorem step_app1V {w:World} {ops:Array Oper} {o:Oper} {a:Act} {K:Act→World→Prop} {Q:Exit→Act→World→Prop} {E:Prop} (hgd:o.guard=none)(s x:Operand)
  (ho:o.op=.call { callee:=.builtin .append,args:=#[s,x],argTypes:=#[25,25] })
  (B:Nat) (v:Value) (l:List Value) (y:Value) (hy:y.oneCell'=true) (hown:OwnV w B v l) (hs:a.eval s=v) {H:Nat} (hx:a.eval x=.slice (some ⟨H,0,none⟩) 1 1) (hH:w.heap.size=H)
  (hl:l.length≤1000000) (hB:B≤w.heap.size)
  (h:∀ v' w',OwnV w' B v' (l ++ [y])→Below B w w'→w.grownBy w' v.ownBlock→(v'.ownBlock=v.ownBlock∨(∀ k,v'.ownBlock=some k→w.heap.size≤k))→K (a.put o.dst v') w') :
  if Region.wanted o (yielded ops a.tmps)=true then Oper.wp Tryz.prog o a (w.alloc (.cells #[y] 22)) K Q else E:=by
 have hw:Region.wanted o (yielded ops a.tmps)=true:=by simp[Region.wanted,hgd]
 rw[if_pos hw];subst hH;obtain⟨i0,hi,hz0,hz1,hz2⟩:=info_parts infoInts;obtain⟨v',w',hrun,h2,h3,_,h5⟩:=run_append_own_at (P:=Tryz.prog) (w.alloc (.cells #[y] 22)) B 25 o.type 22 i0 (.slice none 0 0) 1 24 Tryz.underlying25 hi hz0 hz1 hz2 rfl (by decide) v l.length l (World.ownsRow.alloc hown _)
  ⟨w.heap.size,0,none⟩ 1 1 [y] rfl (cell_one_new _ _ _) (by simp[hy]) (by simp only[maxLen]; omega) (by omega) (by simp; omega)
 unfold Oper.wp execOp;simp only[ho,resolve,invoke,builtin,Sem.run_bind,Sem.run_pure,Result.andThen_ok,List.map_toArray,List.map_cons,List.map_nil,hs,hx,hrun];have hg:w.grownBy w' v.ownBlock:=⟨h3.os,h3.tape,h3.output,Nat.le_trans (by simp) h3.size,fun k hk hne=>(h3.block k (by simp; omega) hne).trans (Below.heap_alloc _ _ _ hk)⟩;refine h v' w' (by unfold OwnV; rw[List.length_append]; exact h2) ⟨hg.os,hg.tape,hg.output,hg.size,fun k hk=>hg.block k (by omega) (fun e=>by have:=(World.ownsRow.lt hown k e.symm).1; omega)⟩ hg ?_;rcases h5 with h5 | h5
 ·exact .inl h5
 ·right; intro k hk; rw[h5]at hk; cases hk; simp
end
section
open Go.RowKit Cw
attribute [local go_sem] Oper.semAt_some

theorem OwnM.lt0 {w:World} {B n:Nat} {v:Value} {rows:Nat→List Int} (h:OwnM w B v n rows):∀ k,v.ownBlock=some k→k<w.heap.size:=fun k e=>by
 obtain⟨hs,-,e2,-⟩:=h;exact (World.ownsRow.lt e2 k e).2
theorem wpList_appRow {w:World} {ops:Array Oper} {rest:List Oper} {o:Oper} {a:Act} {Q:Exit→Act→World→Prop} (hgd:o.guard=none)(s x:Operand)
  (ho:o.op=.call { callee:=.builtin .append,args:=#[s,x],argTypes:=#[25,25] })
  (B:Nat) (v:Value) (n:Nat) (rows:Nat→List Int) (hown:OwnM w B v n rows) (Ak:Option Addr) (L ck:Nat) (hr:Rd w w.heap.size Ak (rows n)) (hL:(rows n).length=L) (hl:L≤ck) (hc:ck≤maxLen)
  (W0:Nat) (hv0:∀ k,v.ownBlock=some k→k<W0) (hd:∀ a,Ak=some a→W0≤a.block) (hBW:B≤W0)
  (hs:a.eval s=v) {H:Nat} (hx:a.eval x=.slice (some ⟨H,0,none⟩) 1 1) (hH:w.heap.size=H) (hn:n≤1000000) (hB:B≤w.heap.size)
  (h:∀ v' w',OwnM w' B v' (n+1) rows→Below B w w'→wpList Tryz.prog ops Q rest (a.put o.dst v') w') :
  wpList Tryz.prog ops Q (o :: rest) a (w.alloc (.cells #[.slice Ak L ck] 22)):=by
 obtain⟨hss,e1,e2,e3⟩:=hown;refine wpList_app1V hgd s x ho B v hss _ rfl e2 hs hx hH (by omega) hB fun v' w' ho' hb hg hv=>?_
 refine h v' w' (OwnM.snoc e1 e3 hr (by omega) hc (fun _ a e=>⟨fun e4=>?_,Nat.le_trans hBW (hd a e)⟩) (by rw[hL]; exact ho') hg hv) hb;have h1:=hd a e;have h2:=hv0 _ e4;omega
theorem step_appRow {w:World} {ops:Array Oper} {o:Oper} {a:Act} {K:Act→World→Prop} {Q:Exit→Act→World→Prop} {E:Prop} (hgd:o.guard=none)(s x:Operand)
  (ho:o.op=.call { callee:=.builtin .append,args:=#[s,x],argTypes:=#[25,25] })
  (B:Nat) (v:Value) (n:Nat) (rows:Nat→List Int) (hown:OwnM w B v n rows) (Ak:Option Addr) (L ck:Nat) (hr:Rd w w.heap.size Ak (rows n)) (hL:(rows n).length=L) (hl:L≤ck) (hc:ck≤maxLen)
  (W0:Nat) (hv0:∀ k,v.ownBlock=some k→k<W0) (hd:∀ a,Ak=some a→W0≤a.block) (hBW:B≤W0)
  (hs:a.eval s=v) {H:Nat} (hx:a.eval x=.slice (some ⟨H,0,none⟩) 1 1) (hH:w.heap.size=H) (hn:n≤1000000) (hB:B≤w.heap.size)
  (h:∀ v' w',OwnM w' B v' (n+1) rows→Below B w w'→K (a.put o.dst v') w') :
  if Region.wanted o (yielded ops a.tmps)=true then Oper.wp Tryz.prog o a (w.alloc (.cells #[.slice Ak L ck] 22)) K Q else E:=by
 obtain⟨hss,e1,e2,e3⟩:=hown;refine step_app1V hgd s x ho B v hss _ rfl e2 hs hx hH (by omega) hB fun v' w' ho' hb hg hv=>?_
 refine h v' w' (OwnM.snoc e1 e3 hr (by omega) hc (fun _ a e=>⟨fun e4=>?_,Nat.le_trans hBW (hd a e)⟩) (by rw[hL]; exact ho') hg hv) hb;have h1:=hd a e;have h2:=hv0 _ e4;omega
theorem OwnM.rdm {w:World} {B n:Nat} {v:Value} {rows:Nat→List Int} (h:OwnM w B v n rows):∃ A c,v=.slice A n c∧RdM w w.heap.size A n rows:=by
 obtain⟨A,c,rfl⟩:=h.size;refine⟨A,c,rfl,?_⟩;by_cases h0:0<n
 ·obtain⟨g,c',e,hg',-,-,hmb⟩:=h.mb h0;have e2:A=some ⟨g,0,none⟩:=by injection e
  rw[e2]; exact (hmb.rdmU hg').rdm
 ·obtain rfl:n=0:=by omega
  exact RdM.zero
theorem Own.parts {w:World} {B:Nat} {v:Value} {l:List Int} (h:Own w B v l):∃ A c,v=.slice A l.length c∧l.length≤c∧c≤maxLen∧Rd w w.heap.size A l∧∀ b,A=some b→B≤b.block:=by
 obtain⟨A,c,rfl,h1,h2,h3⟩:=h.form;exact⟨A,c,rfl,h1,Own.capM h,h2,fun b e=>(h3 b e).1⟩

end
section
open Go.RowKit Cw
attribute [local go_sem] Oper.semAt_some

theorem VC.rdm {P M N:Int} {ml:List Int} {n:Nat} {rows:Nat→List Int} {F:FD} {m:Nat} {A:Nat→Nat→R F.toDesc} (h:VC P M N ml n rows F m A){w:World} {B:Nat} {Ar:Option Addr} (hr:RdM w B Ar n rows):RdM w B Ar n (rowsL F.toDesc m A):=hr.congr h.hr

end
section
open Go.RowKit Cw

def Pre1 (mla:List Int)(na:Nat)(rowsa:Nat→List Int)(Aa Ra:Option Addr)(W:World):Prop:=Rd W W.heap.size Aa mla∧RdM W W.heap.size Ra na rowsa
theorem gen_code (F:FD)(hgood:Good F.p F.m (modL F.toDesc))(n m1 m2:Nat)(M:Nat→Nat→R F.toDesc)(A Ar:Option Addr)(c cr:Nat)(w:World)(hr:Rd w w.heap.size A (modL F.toDesc))(hrm:RdM w w.heap.size Ar n (rowsL F.toDesc (m1+m2) M))(hn:n≤256)(hm1:1≤m1)(hm:m1+m2≤64) :
  Calls Tryz.prog 38 #[.agg #[.int .i64 F.p,.int .i64 F.m,.slice A (modL F.toDesc).length c],.int .i64 ((m1:Int)+(m2:Int)),.slice Ar n cr] w (ResCode F n (m1+m2) M w):=by
 have h:=cGenerated_ok F hgood n (m1+m2) M A Ar c cr w hr hrm hn (by omega) hm;rw[modL_length];rw[show ((m1:Int)+(m2:Int))=((m1+m2:Nat):Int) from by push_cast; rfl];exact h
end
section
open Go.RowKit Cw
def LawEnd (w:World)(e:Ending)(w':World):Prop:=e=.returned (.bool true)∧Below w.heap.size w w'
theorem rdm_len {w:World} {B n:Nat} {A:Option Addr} {rows:Nat→List Int} (h:RdM w B A n rows):∀ i,i<n→(rows i).length≤maxLen:=fun i hi=>by
 obtain⟨b,o,Ai,ci,-,-,-,-,h1,h2⟩:=h.at_ hi;exact Nat.le_trans h1 h2
end
section
open Go.RowKit Cw
attribute [local go_sem] Oper.semAt_some

theorem scale_two (F F1:FD)(h:F1.toDesc=F.toDesc)(m:Nat)(f:Nat→R F.toDesc)(a:Int):∃ f1:Nat→R F1.toDesc,rowL F1.toDesc m f1=rowL F.toDesc m f∧rowL F1.toDesc m (fun j=>eli F1.toDesc a*f1 j)=rowL F.toDesc m (fun j=>eli F.toDesc a*f j):=by
 obtain⟨D0,g0,a0,b0,c0⟩:=F;obtain⟨D1,g1,a1,b1,c1⟩:=F1;dsimp only at h;subst h;exact⟨f,rfl,rfl⟩
theorem gScale_two (F F1:FD)(h:F1.toDesc=F.toDesc)(m:Nat)(f:Nat→R F.toDesc)(a:Int)(A1:Option Addr)(c1 gf:Nat)(w:World)(hg:GF w w.heap.size gf F1)(hr1:Rd w w.heap.size A1 (rowL F.toDesc m f))(hm:m≤70000) :
  Calls Tryz.prog 33 #[.pointer (some ⟨gf,0,none⟩),.int .i64 a,.slice A1 m c1] w (Gives w.heap.size (rowL F.toDesc m fun j=>eli F.toDesc a*f j) w):=by
 obtain⟨f1,e1,e2⟩:=scale_two F F1 h m f a;rw[←e2];rw[←e1]at hr1;exact gScale_any F1 m f1 a A1 c1 gf w hg hr1 hm
theorem new_vc {P M N:Int} {ml:List Int} {n:Nat} {rows:Nat→List Int} {F:FD} {m:Nat} {B:Nat→Nat→R F.toDesc} (h:VC P M N ml n rows F m B)(A:Option Addr)(c:Nat)(w:World)(hr:Rd w w.heap.size A ml) :
  Calls Tryz.prog 30 #[.agg #[.int .i64 P,.int .i64 M,.slice A ml.length c]] w fun e w' =>
   ∃ g,∃ F1:FD,F1.toDesc=F.toDesc∧e=.returned (.tuple #[.pointer (some ⟨g,0,none⟩),.int .i64 0])∧w.heap.size≤g∧GF w' w'.heap.size g F1∧Below w.heap.size w w':=by
 have eP:=h.hP; have eM:=h.hM; have eL:=h.hl;have hg:=h.good;clear h;subst eP eM eL;rw[modL_length];exact New_good F.toDesc A c w hr hg

end
section
open Go.RowKit Cw
attribute [local go_sem] Oper.semAt_some

def ResM (P M N:Int)(ml:List Int)(n:Nat)(rows:Nat→List Int)(w:World)(e:Ending)(w':World):Prop :=
 ∃ A c Al cl,e=.returned (.agg #[.int .i64 P,.int .i64 M,.slice A ml.length c,.int .i64 N,.slice Al n cl])∧Rd w' w'.heap.size A ml∧(∀ b,A=some b→w.heap.size≤b.block)∧RdMU w' w.heap.size w'.heap.size Al n rows∧Below w.heap.size w w'

end
section
open Go.RowKit Cw

def BothC (fp fr:Nat)(args:Array Value)(Pre:World→Prop):Prop :=
 ∃ (P M N:Int) (ml:List Int) (n:Nat) (rows:Nat→List Int) (E:Int),ml.length≤maxLen∧n≤1000000∧(∀ i,i<n→(rows i).length≤1000000) ∧
  ∀ W,Pre W→Calls Tryz.prog fp args W (ResC P M N ml n rows E W)∧Calls Tryz.prog fr args W (ResC P M N ml n rows E W)
theorem both_err {fp fr:Nat} {args:Array Value} {Pre:World→Prop} (E:Int)(h1:∀ W,Pre W→Calls Tryz.prog fp args W (ResErr E W))(h2:∀ W,Pre W→Calls Tryz.prog fr args W (ResErr E W)):BothC fp fr args Pre :=
 ⟨0,0,0,[],0,fun _=>[],E,Nat.zero_le _,Nat.zero_le _,fun _ hi=>absurd hi (Nat.not_lt_zero _),fun W h=>⟨h1 W h,h2 W h⟩⟩
theorem both_code {fp fr:Nat} {args:Array Value} {Pre:World→Prop} (F:FD)(n m:Nat)(M:Nat→Nat→R F.toDesc)(hn:n≤1000)(hm:m≤1000)(h1:∀ W,Pre W→Calls Tryz.prog fp args W (ResCode F n m M W))(h2:∀ W,Pre W→Calls Tryz.prog fr args W (ResCode F n m M W)):BothC fp fr args Pre :=
 ⟨F.p,F.m,m,modL F.toDesc,rkS F n m M,rowsL F.toDesc m (elS n M m).1,0,by have:=F.hlen; have:=F.m8; rw[modL_length,F.hlen]; unfold maxLen; split <;> omega,Nat.le_trans (elS_le n M m).1 (by omega),fun i _=>by rw[rowsL_length]; omega,fun W h=>⟨h1 W h,h2 W h⟩⟩
theorem make_code (F:FD)(n m:Nat)(N:Int)(hN:N=m)(M:Nat→Nat→R F.toDesc)(A Ar:Option Addr)(c cr:Nat)(w:World)(hr:Rd w w.heap.size A (modL F.toDesc))(hrm:RdM w w.heap.size Ar n (rowsL F.toDesc m M))(hn:n≤1000)(hm:m≤1000) :
  Calls Tryz.prog 45 #[.agg #[.int .i64 F.p,.int .i64 F.m,.slice A (modL F.toDesc).length c],.slice Ar n cr,.int .i64 N] w (ResM F.p F.m m (modL F.toDesc) (rkS F n m M) (rowsL F.toDesc m (elS n M m).1) w):=by
 subst hN;rw[modL_length];refine (Make12_any F n m M A Ar c cr w hr hrm (by omega) (by omega)).mono ?_;rintro e w' ⟨A3,c3,Al,cl,rfl,h1,h2,h3,h4⟩;exact⟨A3,c3,Al,cl,by rw[modL_length],h1,h2,h3,h4⟩
end
end Go.Proofs.YtogfekjbpcfgmaaGreat

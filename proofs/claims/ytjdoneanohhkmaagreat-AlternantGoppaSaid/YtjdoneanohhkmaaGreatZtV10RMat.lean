/- Words for memory: slices that read as lists of ints, blocks that hold a list of ints. Words for lists that a call makes by append: what it owns, how one element or a whole list is appended. The row of a law, for laws of any arguments: what came in is opened, what goes out reads as it did. Words for slices of slices of ints: a matrix that is read, one that a call makes by append, one whose rows are exchanged in place. Closed facts of the program that cost a minute each: asked once. -/
import Derived.BigQuiet
import Derived.BigRegion
import Derived.Deep.AppendLies
import Derived.Deep.Draws
import Derived.Deep.OwnRows
import Derived.Deep.QuietTactic
import Derived.Deep.RegionLaw
import Derived.Lib.Hide
import Derived.Lib.SmallJoins
import Derived.Maps.AppendAt
import Derived.OpenShut
import Derived.ProofKit
import Derived.RegionTactic
import Derived.Test.YtjdoneanohhkmaaGreatRows
import Derived.WalkKit
import Derived.WalkLawsBesides
import Derived.WalkSpells
import Derived.Test.YtjdoneanohhkmaaGreatZtV10RLA
namespace Go.Proofs.YtjdoneanohhkmaaGreat
section
open Go.RowKit

def Rd (w:World)(B:Nat)(A:Option Addr)(l:List Int):Prop :=
 0<l.length→∃ b off,A=some ⟨b,off,none⟩∧b<B∧∀ j,j<l.length→w.cell? ⟨b,off+j,none⟩=some (.int .i64 (l[j]?.getD 0))
def IB (w:World)(g:Nat)(l:List Int):Prop:=w.heap[g]?=some (.cells (l.map (Value.int .i64)).toArray 3 (0,0))

section
variable {w w':World} {B B' g:Nat} {A:Option Addr} {l:List Int}
theorem Rd.nil:Rd w B A []:=fun h=>absurd h (by simp)
theorem Rd.at_ {k:Nat} (h:Rd w B A l)(hk:k<l.length):∃ b off,A=some ⟨b,off,none⟩∧b<B∧w.cell? ⟨b,off+k,none⟩=some (.int .i64 (l[k]?.getD 0)):=by
 obtain⟨b,off,e,hb,hc⟩:=h (by omega);exact⟨b,off,e,hb,hc k hk⟩
theorem Rd.keep (h:Rd w B A l)(hk:∀ p:Addr,p.block<B→w'.cell? p=w.cell? p):Rd w' B A l:=fun hn=>by
 obtain⟨b,off,e,hb,hc⟩:=h hn;exact⟨b,off,e,hb,fun j hj=>(hk ⟨b,off+j,none⟩ hb).trans (hc j hj)⟩
theorem Rd.more (h:Rd w B A l)(hB:B≤B'):Rd w B' A l:=fun hn=>by
 obtain⟨b,off,e,hb,hc⟩:=h hn;exact⟨b,off,e,by omega,hc⟩
theorem Rd.below (h:Rd w B A l)(hb:Below B w w'):Rd w' B A l:=h.keep fun _ hp=>hb.cell hp
theorem Rd.take (h:Rd w B A l)(n:Nat):Rd w B A (l.take n):=fun hn=>by
 have hl:=List.length_take_le' n l;obtain⟨b,off,e,hb,hc⟩:=h (by omega);refine⟨b,off,e,hb,fun j hj=>?_⟩;rw[hc j (by omega),List.getElem?_take,if_pos (by simp at hj; omega)]
theorem IB.lt (h:IB w g l):g<w.heap.size:=by
 rcases Nat.lt_or_ge g w.heap.size with hlt | hge
 ·exact hlt
 ·unfold IB at h; rw[Array.getElem?_eq_none hge]at h; cases h
theorem IB.cell (h:IB w g l){i:Nat} (hi:i<l.length):w.cell? ⟨g,i,none⟩=some (.int .i64 (l[i]?.getD 0)):=by
 rw[cell_of_row w g i _ _ (0,0) h];simp[hi]
theorem IB.frozen (h:IB w g l)(i:Nat):w.frozen? ⟨g,i,none⟩=false:=by
 unfold IB at h;simp[World.frozen?,h]
theorem IB.rd (h:IB w g l):Rd w w.heap.size (some ⟨g,0,none⟩) l:=fun _=>⟨g,0,rfl,h.lt,fun j hj=>by rw[Nat.zero_add]; exact h.cell hj⟩
theorem IB.new (w:World)(l:List Int):IB (w.alloc (.cells (l.map (Value.int .i64)).toArray 3)) w.heap.size l:=heap_alloc_new w _
theorem IB.alloc (h:IB w g l)(o:Obj):IB (w.alloc o) g l:=(Below.heap_alloc w o g h.lt).trans h
theorem IB.set_ (h:IB w g l)(i:Nat)(u:Int):IB (w.setCell ⟨g,i,none⟩ (.int .i64 u)) g (l.set i u):=by
 unfold IB at h ⊢;simp[World.setCell,Array.getElem?_modify,h]
theorem IB.far (h:IB w g l){p:Addr} (hp:g≠p.block)(u:Value):IB (w.setCell p u) g l:=(Below.heap_setCell w p u g hp).trans h
theorem IB.below {B:Nat} (h:IB w g l)(hb:Below B w w')(hg:g<B):IB w' g l:=(hb.block g hg).trans h
theorem IB.kept {row:Option Nat} (h:IB w g l)(hg:w.grownBy w' row)(hne:row≠some g):IB w' g l:=(hg.block g h.lt (fun e=>hne e.symm)).trans h
theorem IB.drew (h:IB w g l):IB w.drew g l:=h
theorem Rd.drew (h:Rd w B A l):Rd w.drew B A l:=h
theorem Rd.alloc (h:Rd w B A l)(hB:B≤w.heap.size)(o:Obj):Rd (w.alloc o) B A l:=h.below ((Below.refl _ _).alloc hB o)
end
theorem below_drewN' {B:Nat} {a w:World} (h:Below B a w)(n:Nat):Below B a (w.drewN n):=⟨h.os,h.tape,h.output,h.size,h.block⟩
theorem alloc3 (w:World)(v0 v1 v2:Value)(t:TypeId):(w.alloc (.cells #[v0,v1,v2] t)).cell? ⟨w.heap.size,0,none⟩=some v0 ∧
  (w.alloc (.cells #[v0,v1,v2] t)).cell? ⟨w.heap.size,1,none⟩=some v1∧(w.alloc (.cells #[v0,v1,v2] t)).cell? ⟨w.heap.size,2,none⟩=some v2:=by
 simp[go_sem]
theorem keep3 {B b:Nat} {W w1:World} {v0 v1 v2:Value} (hb:Below B W w1)(hlt:b<B)(h:W.cell? ⟨b,0,none⟩=some v0∧W.cell? ⟨b,1,none⟩=some v1∧W.cell? ⟨b,2,none⟩=some v2) :
  w1.cell? ⟨b,0,none⟩=some v0∧w1.cell? ⟨b,1,none⟩=some v1∧w1.cell? ⟨b,2,none⟩=some v2 :=
 ⟨(hb.cell (p:=⟨b,0,none⟩) hlt).trans h.1,(hb.cell (p:=⟨b,1,none⟩) hlt).trans h.2.1,(hb.cell (p:=⟨b,2,none⟩) hlt).trans h.2.2⟩
theorem made_ints (n:Nat):madeCells #[Value.int .i64 0] n=((List.replicate n (0:Int)).map (Value.int .i64)).toArray:=by
 apply Array.ext
 ·simp[madeCells]
 ·intro i h1 h2;simp[madeCells,Nat.mod_one]
theorem infoInt:(Tryz.prog.info? 3).map (fun i=>(i.zero,i.size,i.bytes))=some (some (.int .i64 0),1,8):=by kernel_rfl
theorem mk_ints (n:Nat)(h:n≤70000)(w:World):(Instr.makeSlice 22 (.int .i64 (n:Int)) (.int .i64 (n:Int))).run Tryz.prog w =
  .ok (.slice (some ⟨w.heap.size,0,none⟩) n n) (w.alloc (.cells (Array.replicate n (Value.int .i64 0)) 3)):=by
 rw[show Array.replicate n (Value.int .i64 0)=((List.replicate n (0:Int)).map (Value.int .i64)).toArray by simp,←made_ints];exact run_make_row' 22 3 (.int .i64 0) 8 Tryz.underlying22 infoInt rfl .i64 .i64 n (by omega) (by omega) w
theorem IB.newz (w:World)(n:Nat):IB (w.alloc (.cells (Array.replicate n (Value.int .i64 0)) 3)) w.heap.size (List.replicate n 0):=by
 have h:=IB.new w (List.replicate n 0)
 simpa using h
theorem ret_int {k:IntKind} {a b:Int} (h:a=b):Ending.returned (.int k a)=.returned (.int k b):=by rw[h]
theorem ret_bool {a b:Bool} (h:a=b):Ending.returned (.bool a)=.returned (.bool b):=by rw[h]

def Gives (B:Nat)(l:List Int)(w:World)(e:Ending)(w':World):Prop :=
 ∃ g,e=.returned (.slice (some ⟨g,0,none⟩) l.length l.length)∧B≤g∧IB w' g l∧Below B w w'
end
section
open Go.RowKit

def Own (w:World)(B:Nat)(v:Value)(l:List Int):Prop:=w.ownsRow B 3 1 v l.length (l.map (Value.int .i64))
section
variable {w w':World} {B:Nat} {v:Value} {l:List Int}
theorem Own.nil (w:World)(B:Nat):Own w B (.slice none 0 0) []:=World.ownsRow_nil _ _ _ _
theorem Own.drew (h:Own w B v l):Own w.drew B v l:=h
theorem Own.kept {row:Option Nat} (h:Own w B v l)(hg:w.grownBy w' row)(hne:v.ownBlock=none∨v.ownBlock≠row):Own w' B v l:=World.ownsRow.kept h hg hne
theorem below_grown {W:Nat} {w w':World} (h:Below W w w')(hW:w.heap.size≤W):w.grownBy w' none:=⟨h.os,h.tape,h.output,h.size,fun k hk _=>h.block k (by omega)⟩
theorem Own.below {W:Nat} (h:Own w B v l)(hb:Below W w w')(hW:w.heap.size≤W):Own w' B v l :=
 h.kept (below_grown hb hW) (by cases hv:v.ownBlock <;> simp)
theorem Own.alloc (h:Own w B v l)(o:Obj):Own (w.alloc o) B v l:=World.ownsRow.alloc h o
theorem Own.form (h:Own w B v l):∃ A c,v=.slice A l.length c∧l.length≤c∧Rd w w.heap.size A l∧(∀ b,A=some b→B≤b.block∧b.block<w.heap.size):=by
 rcases h.2 with ⟨rfl,h0⟩ | ⟨g,cap,cur,hv,hb,hg,hc,_⟩
 ·have:l=[]:=List.eq_nil_of_length_eq_zero h0;subst this;exact⟨none,0,rfl,Nat.le_refl _,Rd.nil,fun b hb=>by cases hb⟩
 ·have hlt:g<w.heap.size:=(Array.getElem?_eq_some_iff.1 hg).1;subst hv;refine⟨_,cap,rfl,hc,fun hn=>⟨g,0,rfl,hlt,fun j hj=>?_⟩,fun b hb'=>by cases hb'; exact⟨hb,hlt⟩⟩;have:=World.ownsRow.cells h (g:=g) rfl j (.int .i64 (l[j]?.getD 0)) (by simp[hj]);rw[←this];unfold Addr.add; split <;> simp_all
theorem Own.snoc {y:Int} (h:w.ownsRow B 3 1 v (l.length+1) (l.map (Value.int .i64) ++ [.int .i64 y])):Own w B v (l ++ [y]):=by
 unfold Own; simpa using h
theorem Own.lt (h:Own w B v l):∀ k,v.ownBlock=some k→B≤k∧k<w.heap.size:=World.ownsRow.lt h
theorem grown_set (w:World)(p:Addr)(u:Value):w.grownBy (w.setCell p u) (some p.block) :=
 ⟨rfl,rfl,rfl,by simp[World.setCell],fun k _ hne=>Below.heap_setCell w p u k (fun e=>hne (by rw[e]))⟩
theorem Own.far (h:Own w B v l){p:Addr} (hp:v.ownBlock≠some p.block)(u:Value):Own (w.setCell p u) B v l:=h.kept (grown_set w p u) (.inr hp)
theorem Own.of_IB {g:Nat} (h:IB w g l)(hB:B≤g)(hl:l.length≤maxLen):Own w B (.slice (some ⟨g,0,none⟩) l.length l.length) l :=
 ⟨by simp,.inr ⟨g,l.length,_,rfl,hB,h,Nat.le_refl _,hl,by simp,List.take_of_length_le (by simp)⟩⟩
end

theorem wpList_app1 {w:World} {ops:Array Oper} {rest:List Oper} {o:Oper} {a:Act} {Q:Exit→Act→World→Prop} (hgd:o.guard=none)(s x:Operand)
  (ho:o.op=.call { callee:=.builtin .append,args:=#[s,x],argTypes:=#[22,22] })
  (B:Nat) (v:Value) (l:List Int) (y:Int) (hown:Own w B v l) (hs:a.eval s=v) {H:Nat} (hx:a.eval x=.slice (some ⟨H,0,none⟩) 1 1) (hH:w.heap.size=H)
  (hl:l.length≤1000000) (hB:B≤w.heap.size)
  (h:∀ v' w',Own w' B v' (l ++ [y])→Below B w w'→w.grownBy w' v.ownBlock→(v'.ownBlock=v.ownBlock∨(∀ k,v'.ownBlock=some k→w.heap.size≤k))→wpList Tryz.prog ops Q rest (a.put o.dst v') w') :
  wpList Tryz.prog ops Q (o :: rest) a (w.alloc (.cells #[.int .i64 y] 3)):=by
 subst hH;obtain⟨i0,hi,hz0,hz1,hz2⟩:=info_parts infoInt;refine wpList_plain hgd fun K hK=>?_
 obtain⟨v',w',hrun,h2,h3,_,h5⟩:=run_append_own_at (P:=Tryz.prog) (w.alloc (.cells #[.int .i64 y] 3)) B 22 o.type 3 i0 (.int .i64 0) 1 8 Tryz.underlying22 hi hz0 hz1 hz2 rfl (by decide) v l.length (l.map (Value.int .i64)) (hown.alloc _)
  ⟨w.heap.size,0,none⟩ 1 1 [.int .i64 y] rfl (cell_one_new _ _ _) (by simp[Value.oneCell']) (by simp only[maxLen]; omega) (by omega) (by simp; omega)
 unfold Oper.wp execOp;simp only[ho,resolve,invoke,builtin,Sem.run_bind,Sem.run_pure,Result.andThen_ok,List.map_toArray,List.map_cons,List.map_nil,hs,hx,hrun];have hg:w.grownBy w' v.ownBlock:=⟨h3.os,h3.tape,h3.output,Nat.le_trans (by simp) h3.size,fun k hk hne=>(h3.block k (by simp; omega) hne).trans (Below.heap_alloc _ _ _ hk)⟩;refine hK _ _ (h v' w' (Own.snoc h2) ⟨hg.os,hg.tape,hg.output,hg.size,fun k hk=>hg.block k (by omega) (fun e=>by have:=(hown.lt k e.symm).1; omega)⟩ hg ?_);rcases h5 with h5 | h5
 ·exact .inl h5
 ·right; intro k hk; rw[h5]at hk; cases hk; simp

theorem wp_appN {w:World} {o:Oper} {a:Act} {K:Act→World→Prop} {Q:Exit→Act→World→Prop} (s x:Operand)
  (ho:o.op=.call { callee:=.builtin .append,args:=#[s,x],argTypes:=#[22,22] })
  (B:Nat) (v:Value) (l:List Int) (B':Nat) (A:Option Addr) (c:Nat) (l2:List Int) (hown:Own w B v l) (hr:Rd w B' A l2) (hs:a.eval s=v) {n2:Nat} (hx:a.eval x=.slice A n2 c) (hn2:n2=l2.length)
  (hl:l.length+l2.length≤1000000000) (hB:B≤w.heap.size)
  (h:∀ v' w',Own w' B v' (l ++ l2)→Below B w w'→w.grownBy w' v.ownBlock→(v'.ownBlock=v.ownBlock∨(∀ k,v'.ownBlock=some k→w.heap.size≤k))→K (a.put o.dst v') w'):o.wp Tryz.prog a w K Q:=by
 subst hn2;obtain⟨i0,hi,hz0,hz1,hz2⟩:=info_parts infoInt;have hrunx:∃ v' w',(Builtin.append_ #[22,22] o.type #[v,.slice A l2.length c]).run Tryz.prog w=.ok v' w'∧Own w' B v' (l ++ l2)∧w.grownBy w' v.ownBlock∧(v'.ownBlock=v.ownBlock∨(∀ k,v'.ownBlock=some k→w.heap.size≤k)):=by
  rcases A with _ | ad
  ·have h0:l2=[]:=by
    rcases Nat.eq_zero_or_pos l2.length with h0 | h0
    ·exact List.eq_nil_of_length_eq_zero h0
    ·obtain⟨b,off,e,_⟩:=hr h0; cases e
   subst h0;refine⟨v,w,?_,by simpa using hown,World.grownBy.refl w _,.inl rfl⟩;rcases hown.2 with ⟨rfl,h0⟩ | ⟨g,cap,cur,rfl,_,_,hnc,_⟩
   ·simp[Builtin.append_,run_underlying Tryz.underlying22,sizeOf,typeInfo,hi,Builtin.lenOf,Builtin.firstCells]
   ·simp[Builtin.append_,run_underlying Tryz.underlying22,sizeOf,typeInfo,hi,Builtin.lenOf,Builtin.firstCells,hnc,storeCells]
  ·have hcells:∀ j u,(l2.map (Value.int .i64))[j]?=some u→w.cell? (ad.add j)=some u:=by
    intro j u hu;have hj:j<l2.length:=by
     rcases Nat.lt_or_ge j l2.length with h1 | h1
     ·exact h1
     ·rw[List.getElem?_eq_none (by simpa using h1)]at hu; cases hu
    obtain⟨b,off,e,_,hc⟩:=hr (by omega)
    cases e
    have h1:=hc j hj;have h2:(l2.map (Value.int .i64))[j]?=some (.int .i64 (l2[j]?.getD 0)):=by simp[hj]
    rw[h2]at hu; cases hu
    rw[←h1]; unfold Addr.add; split <;> simp_all
   obtain⟨v',w',hrun,h2,h3,_,h5⟩:=run_append_own_at (P:=Tryz.prog) w B 22 o.type 3 i0 (.int .i64 0) 1 8 Tryz.underlying22 hi hz0 hz1 hz2 rfl (by decide) v l.length (l.map (Value.int .i64)) hown
    ad l2.length c (l2.map (Value.int .i64)) (by simp) hcells (by simp[Value.oneCell']) (by simp only[maxLen]; omega) (by omega) hB
   exact⟨v',w',hrun,by unfold Own; simpa using h2,h3,h5.imp id (fun h6 k hk=>by rw[h6]at hk; cases hk; exact Nat.le_refl _)⟩
 obtain⟨v',w',hrun,h2,hg,hv5⟩:=hrunx;unfold Oper.wp execOp;simp only[ho,resolve,invoke,builtin,Sem.run_bind,Sem.run_pure,Result.andThen_ok,List.map_toArray,List.map_cons,List.map_nil,hs,hx,hrun];exact h v' w' h2 ⟨hg.os,hg.tape,hg.output,hg.size,fun k hk=>hg.block k (by omega) (fun e=>by have:=(hown.lt k e.symm).1; omega)⟩ hg hv5
theorem wpList_appN {w:World} {ops:Array Oper} {rest:List Oper} {o:Oper} {a:Act} {Q:Exit→Act→World→Prop} (hgd:o.guard=none)(s x:Operand)
  (ho:o.op=.call { callee:=.builtin .append,args:=#[s,x],argTypes:=#[22,22] })
  (B:Nat) (v:Value) (l:List Int) (B':Nat) (A:Option Addr) (c:Nat) (l2:List Int) (hown:Own w B v l) (hr:Rd w B' A l2) (hs:a.eval s=v) {n2:Nat} (hx:a.eval x=.slice A n2 c) (hn2:n2=l2.length)
  (hl:l.length+l2.length≤1000000000) (hB:B≤w.heap.size)
  (h:∀ v' w',Own w' B v' (l ++ l2)→Below B w w'→w.grownBy w' v.ownBlock→(v'.ownBlock=v.ownBlock∨(∀ k,v'.ownBlock=some k→w.heap.size≤k))→wpList Tryz.prog ops Q rest (a.put o.dst v') w') :
  wpList Tryz.prog ops Q (o :: rest) a w :=
 wpList_plain hgd fun _ hK=>wp_appN s x ho B v l B' A c l2 hown hr hs hx hn2 hl hB fun v' w' h2 h3 h4 h5=>hK _ _ (h v' w' h2 h3 h4 h5)
theorem step_appN {w:World} {ops:Array Oper} {o:Oper} {a:Act} {K:Act→World→Prop} {Q:Exit→Act→World→Prop} {E:Prop} (hgd:o.guard=none)(s x:Operand)
  (ho:o.op=.call { callee:=.builtin .append,args:=#[s,x],argTypes:=#[22,22] })
  (B:Nat) (v:Value) (l:List Int) (B':Nat) (A:Option Addr) (c:Nat) (l2:List Int) (hown:Own w B v l) (hr:Rd w B' A l2) (hs:a.eval s=v) {n2:Nat} (hx:a.eval x=.slice A n2 c) (hn2:n2=l2.length)
  (hl:l.length+l2.length≤1000000000) (hB:B≤w.heap.size)
  (h:∀ v' w',Own w' B v' (l ++ l2)→Below B w w'→w.grownBy w' v.ownBlock→(v'.ownBlock=v.ownBlock∨(∀ k,v'.ownBlock=some k→w.heap.size≤k))→K (a.put o.dst v') w') :
  if Region.wanted o (yielded ops a.tmps)=true then Oper.wp Tryz.prog o a w K Q else E:=by
 have hw:Region.wanted o (yielded ops a.tmps)=true:=by simp[Region.wanted,hgd]
 rw[if_pos hw];exact wp_appN s x ho B v l B' A c l2 hown hr hs hx hn2 hl hB h

def GivesA (B:Nat)(l:List Int)(w:World)(e:Ending)(w':World):Prop :=
 ∃ v,e=.returned v∧Own w' B v l∧Below B w w'
end
section
open Go.ChangeShapes Go.WideShapes Go.ChangeAt Go.RowKit Go.Joins Go.Deep

theorem own_knob:ownKnob Tryz.prog.godebug=none:=by kernel_rfl
theorem laid_out:laidOutB Tryz.prog=true:=by kernel_rfl

section
variable {H:Type} {enc:TypeId×Value→H} {P:Program}
theorem all_stay (hlo:laidOutB P=true){W W':World} (hb:Below W.heap.size W W')(sp:Nat→Bool):∀ {ts:List TypeId} {vs:List Value} {ds:List (DataW H)} {ps:List MemPlace},
  (ts.all fun t=>P.readableRec t&&decide (t<P.types.size))=true→DataW.TrodAll enc P W 0 (fun _=>true) true ts vs ds ps →
  (∀ x∈ps,x.block<W.heap.size)→(∀ x∈ps,sp x.block=true)→DataW.TrodAll enc P W' 0 sp true ts vs ds ps
 | [],_,_,_,_,h,_,_=>by
  obtain⟨rfl,rfl,rfl⟩:=trodAll_nil h;exact rfl
 | t :: ts,_,_,_,hk,h,hlt,hsp=>by
  obtain⟨v,vs1,d,ds1,a,b,rfl,rfl,rfl,h1,h2⟩:=trodAll_cons h;simp only[List.all_cons,Bool.and_eq_true,decide_eq_true_eq]at hk;exact⟨a,b,WideElems.Trod_stays hlo hk.1.1 hk.1.2 h1 (fun x hx=>hb.same (hlt x (by simp[hx]))) (fun x hx=>hsp x (by simp[hx])),
   all_stay hlo hb sp (by simpa using hk.2) h2 (fun x hx=>hlt x (by simp[hx])) (fun x hx=>hsp x (by simp[hx])),rfl⟩

theorem law_post (hlo:laidOutB P=true){f:Func} {s:ChangeSpec} {apart fresh handsOn again:Bool} {W W':World} {args:Array Value} {ds gs:List (DataW H)} {before:List MemPlace} {t:TypeId}
  (hW:DataW.Whole enc P f.params.toList s.vars apart W args.toList ds gs before) (hvs:s.vars=[])
  (hk:(f.params.toList.all fun t=>P.readableRec t&&decide (t<P.types.size))=true)
  (hrt:f.resultTypes=#[t]) (ht:P.underlying t=some .bool)
  (hfn:s.fn H ds={ results:=[.lit (.bool true)],args:=ds }) (hb:Below W.heap.size W W') :
  s.post enc P f apart fresh handsOn again W args (.bool true) W':=by
 have hlt:=hW.lt;have hW0:=hW;obtain⟨p,q,hA,hV,rfl,hz,hn⟩:=hW;rw[hvs]at hV;obtain⟨rfl,rfl⟩:=trodVars_none hV;simp only[List.append_nil]at hlt hz hn hW0;have hA1:=fun sp h=>all_stay hlo hb sp hk hA hlt h
 have hres:∀ (b:Nat) (sp:Nat→Bool) (hd:Bool),DataW.TrodAll enc P W' b sp hd f.resultTypes.toList ((Value.bool true).resultList f.resultTypes.size) [.lit (.bool true)] []:=fun b sp hd=>by
  rw[hrt];exact trodAll_mk1 (shut_bool ht true)
 have hq:∀ sp,DataW.TrodVars enc P W' sp s.vars [] []:=fun sp=>by rw[hvs]; rfl
 have hap:(s.fn H (ds ++ []))={ results:=[.lit (.bool true)],args:=ds }:=by rw[List.append_nil]; exact hfn
 refine⟨ds,[],p,[],p,[],hW0,?_,?_,?_,World.keptBut_mono (fun _ h=>h.elim) (hb.frame (fun _=>False)),fun _=>⟨?_,[.lit (.bool true)] ++ ds,[],p,?_,fun x hx _=>hx⟩⟩
 ·rw[hap]; exact hres _ _ _
 ·rw[hap]; exact hA1 _ fun x hx=>by simpa using hlt x hx
 ·rw[hap]; exact hq _
 ·exact ok_one hrt rfl (okWide_bool_mk ht true)
 ·refine⟨p,[],by simpa using trodAll_append (hA1 _ (fun _ _=>rfl)) (hres 0 _ true),hq _,by simp,?_,?_⟩
  ·intro b off hp;have hin:=hlt _ hp;rw[hb.frozen hin];exact hz b off hp
  ·intro ha; exact hn ha
end

section
variable {H:Type} {enc:TypeId×Value→H} {W:World} {base:Nat}
theorem ty_int:Tryz.prog.underlying 3=some (.int .i64):=by kernel_rfl
theorem ty_ints:Tryz.prog.underlying 22=some (.slice 3):=by kernel_rfl
theorem ty_bool:Tryz.prog.underlying 4=some .bool:=by kernel_rfl
theorem cells_int:Tryz.prog.cellsOf 3=1:=by kernel_rfl

def I64 (x:Int):Prop:=-9223372036854775808≤x∧x≤9223372036854775807
theorem i64_of {x:Int} (h:(Lit.int .i64 x).wf=true):I64 x:=by
 simp[Lit.wf,IntKind.min,IntKind.max,IntKind.signed,IntKind.bits]at h;exact⟨by omega,by omega⟩
theorem cell_ints {n:Nat} {v:Value} {y:DataW H×List MemPlace} (h:DataW.trod enc Tryz.prog W 0 (fun _=>true) true n 22 [v]=some y)(hlt:∀ x∈y.2,x.block<W.heap.size) :
  ∃ (A:Option Addr) (l:List Int) (c:Nat),v=.slice A l.length c∧l.length≤c∧c≤maxLen∧(∀ x∈l,I64 x)∧Rd W W.heap.size A l:=by
 rcases open_ints ty_ints ty_int cells_int h with ⟨hcs,rfl⟩ | ⟨a,len,cap,zs,hcs,-,hl,hm,hz,rfl,hc,hw⟩
 ·cases hcs
  exact⟨none,[],0,rfl,Nat.le_refl _,by simp[maxLen],by simp,Rd.nil⟩
 ·cases hcs
  simp only[if_true]at hz;have hlen:(zs.take len).length=len:=by simp; omega
  refine⟨some a,zs.take len,cap,by rw[hlen],by omega,hm,fun x hx=>i64_of (hw x (List.mem_of_mem_take hx)),?_⟩;intro h0;rw[hlen]at h0 ⊢;have h1:=hc 0 (by omega);obtain⟨b,off,spot⟩:=a;have hspot:spot=none:=by simpa [Addr.add] using World.cell?_spot h1
  subst hspot;refine⟨b,off,rfl,hlt _ (show MemPlace.cell b (off+0)∈_ from List.mem_map.2 ⟨0,List.mem_range.2 (by omega),rfl⟩),fun j hj=>?_⟩;have:=hc j (by omega);rw[add_plain]at this;rw[this,List.getElem?_take_of_lt hj];simp[List.getD_eq_getElem?_getD]
theorem cell_int {n:Nat} {v:Value} {y:DataW H×List MemPlace} (h:DataW.trod enc Tryz.prog W 0 (fun _=>true) true n 3 [v]=some y):∃ x,v=.int .i64 x∧I64 x:=by
 obtain⟨a,e0,rfl,wa⟩:=DataW.trod_int ty_int h
 cases e0
 exact⟨a,rfl,i64_of wa⟩

theorem ty_field:∃ f0 f1 f2:Field,Tryz.prog.underlying 24=some (.struct #[f0,f1,f2])∧f0.type=3∧f1.type=3∧f2.type=22∧oneCellFields Tryz.prog #[f0,f1,f2]=true∧Tryz.prog.cellsOf 24=3 :=
 ⟨_,_,_,Tryz.underlying24,rfl,rfl,rfl,by kernel_rfl,by kernel_rfl⟩
end
end
section
open Go.RowKit Cw

def RdM (w:World)(B:Nat)(A:Option Addr)(n:Nat)(rows:Nat→List Int):Prop :=
 0<n→∃ b off,A=some ⟨b,off,none⟩∧b<B∧∀ i,i<n→∃ Ai ci,w.cell? ⟨b,off+i,none⟩=some (.slice Ai (rows i).length ci)∧Rd w B Ai (rows i)∧(rows i).length≤ci∧ci≤maxLen
section
variable {w w':World} {B B' n:Nat} {A:Option Addr} {rows:Nat→List Int}
theorem RdM.zero:RdM w B A 0 rows:=fun h=>absurd h (Nat.lt_irrefl _)
theorem RdM.at_ {i:Nat} (h:RdM w B A n rows)(hi:i<n):∃ b off Ai ci,A=some ⟨b,off,none⟩∧b<B∧w.cell? ⟨b,off+i,none⟩=some (.slice Ai (rows i).length ci)∧Rd w B Ai (rows i)∧(rows i).length≤ci∧ci≤maxLen:=by
 obtain⟨b,off,e,hb,hc⟩:=h (by omega);obtain⟨Ai,ci,h1,h2,h3,h4⟩:=hc i hi;exact⟨b,off,Ai,ci,e,hb,h1,h2,h3,h4⟩
theorem RdM.keep (h:RdM w B A n rows)(hk:∀ p:Addr,p.block<B→w'.cell? p=w.cell? p):RdM w' B A n rows:=fun hn=>by
 obtain⟨b,off,e,hb,hc⟩:=h hn;refine⟨b,off,e,hb,fun i hi=>?_⟩;obtain⟨Ai,ci,h1,h2,h3⟩:=hc i hi;exact⟨Ai,ci,(hk ⟨b,off+i,none⟩ hb).trans h1,h2.keep hk,h3⟩
theorem RdM.more (h:RdM w B A n rows)(hB:B≤B'):RdM w B' A n rows:=fun hn=>by
 obtain⟨b,off,e,hb,hc⟩:=h hn;refine⟨b,off,e,by omega,fun i hi=>?_⟩;obtain⟨Ai,ci,h1,h2,h3⟩:=hc i hi;exact⟨Ai,ci,h1,h2.more hB,h3⟩
theorem RdM.below (h:RdM w B A n rows)(hb:Below B w w'):RdM w' B A n rows:=h.keep fun _ hp=>hb.cell hp
theorem RdM.drew (h:RdM w B A n rows):RdM w.drew B A n rows:=h
theorem RdM.less {m:Nat} (h:RdM w B A n rows)(hm:m≤n):RdM w B A m rows:=fun hn=>by
 obtain⟨b,off,e,hb,hc⟩:=h (by omega);exact⟨b,off,e,hb,fun i hi=>hc i (by omega)⟩
theorem RdM.congr {rows':Nat→List Int} (h:RdM w B A n rows)(he:∀ i,i<n→rows i=rows' i):RdM w B A n rows':=fun hn=>by
 obtain⟨b,off,e,hb,hc⟩:=h hn;exact⟨b,off,e,hb,fun i hi=>by rw[←he i hi]; exact hc i hi⟩
end

def RdMU (w:World)(L B:Nat)(A:Option Addr)(n:Nat)(rows:Nat→List Int):Prop :=
 0<n→∃ b off,A=some ⟨b,off,none⟩∧L≤b∧b<B∧∀ i,i<n→∃ Ai ci,w.cell? ⟨b,off+i,none⟩=some (.slice Ai (rows i).length ci)∧Rd w B Ai (rows i)∧(rows i).length≤ci∧ci≤maxLen∧(rows i≠[]→∀ a,Ai=some a→L≤a.block)
theorem RdMU.rdm {w:World} {L B n:Nat} {A:Option Addr} {rows:Nat→List Int} (h:RdMU w L B A n rows):RdM w B A n rows:=fun hn=>by
 obtain⟨b,off,e,-,hb,hc⟩:=h hn;exact⟨b,off,e,hb,fun i hi=>by obtain⟨Ai,ci,h1,h2,h3,h4,-⟩:=hc i hi; exact⟨Ai,ci,h1,h2,h3,h4⟩⟩
theorem RdMU.zero {w:World} {L B:Nat} {A:Option Addr} {rows:Nat→List Int}:RdMU w L B A 0 rows:=fun h=>absurd h (Nat.lt_irrefl _)
theorem RdMU.less {w:World} {L B n m:Nat} {A:Option Addr} {rows:Nat→List Int} (h:RdMU w L B A n rows)(hm:m≤n):RdMU w L B A m rows:=fun hn=>by
 obtain⟨b,off,e,hL,hb,hc⟩:=h (by omega);exact⟨b,off,e,hL,hb,fun i hi=>hc i (by omega)⟩
theorem RdMU.keepU {w w':World} {L B n:Nat} {A:Option Addr} {rows:Nat→List Int} (h:RdMU w L B A n rows)(hk:∀ p:Addr,L≤p.block→p.block<B→w'.cell? p=w.cell? p):RdMU w' L B A n rows:=fun hn=>by
 obtain⟨b,off,e,hL,hb,hc⟩:=h hn;refine⟨b,off,e,hL,hb,fun i hi=>?_⟩;obtain⟨Ai,ci,h1,h2,h3,h4,h5⟩:=hc i hi;refine⟨Ai,ci,(hk ⟨b,off+i,none⟩ hL hb).trans h1,fun hl=>?_,h3,h4,h5⟩;obtain⟨b2,o2,e2,hb2,hc2⟩:=h2 hl;exact⟨b2,o2,e2,hb2,fun j hj=>(hk ⟨b2,o2+j,none⟩ (show L≤b2 from h5 (List.length_pos_iff.1 hl) ⟨b2,o2,none⟩ e2) hb2).trans (hc2 j hj)⟩
theorem RdMU.low {w:World} {L L' B n:Nat} {A:Option Addr} {rows:Nat→List Int} (h:RdMU w L B A n rows)(hL:L'≤L):RdMU w L' B A n rows:=fun hn=>by
 obtain⟨b,off,e,h1,hb,hc⟩:=h hn;refine⟨b,off,e,by omega,hb,fun i hi=>?_⟩;obtain⟨Ai,ci,h1,h2,h3,h4,h5⟩:=hc i hi;exact⟨Ai,ci,h1,h2,h3,h4,fun hn a e=>Nat.le_trans hL (h5 hn a e)⟩
theorem RdMU.more {w:World} {L B B' n:Nat} {A:Option Addr} {rows:Nat→List Int} (h:RdMU w L B A n rows)(hB:B≤B'):RdMU w L B' A n rows:=fun hn=>by
 obtain⟨b,off,e,hL,hb,hc⟩:=h hn;refine⟨b,off,e,hL,by omega,fun i hi=>?_⟩;obtain⟨Ai,ci,h1,h2,h3⟩:=hc i hi;exact⟨Ai,ci,h1,h2.more hB,h3⟩
def MB (w:World)(L g n:Nat)(q:Option Nat)(rows:Nat→List Int):Prop :=
 g<w.heap.size∧∀ i,i<n→∃ Ai ci,w.cell? ⟨g,i,none⟩=some (.slice Ai (rows i).length ci)∧w.frozen? ⟨g,i,none⟩=false∧Rd w w.heap.size Ai (rows i)∧(rows i).length≤ci∧ci≤maxLen∧(rows i≠[]→∀ a,Ai=some a→a.block≠g∧q≠some a.block∧L≤a.block)
section
variable {w w':World} {L B g n:Nat} {q q':Option Nat} {rows:Nat→List Int}
theorem MB.rdmU (h:MB w L g n q rows)(hg:L≤g):RdMU w L w.heap.size (some ⟨g,0,none⟩) n rows:=fun _=>⟨g,0,rfl,hg,h.1,fun i hi=>by
 obtain⟨Ai,ci,h1,-,h3,h4,h5,h6⟩:=h.2 i hi;exact⟨Ai,ci,by rw[Nat.zero_add]; exact h1,h3,h4,h5,fun hn a e=>(h6 hn a e).2.2⟩⟩
theorem MB.below (h:MB w L g n q rows)(hb:Below B w w')(hB:w.heap.size≤B):MB w' L g n q rows :=
 ⟨Nat.lt_of_lt_of_le h.1 hb.size,fun i hi=>by
  obtain⟨Ai,ci,h1,h2,h3,h4⟩:=h.2 i hi;have hg:g<B:=Nat.lt_of_lt_of_le h.1 hB;exact⟨Ai,ci,(hb.cell (p:=⟨g,i,none⟩) hg).trans h1,(hb.frozen (p:=⟨g,i,none⟩) hg).trans h2,(h3.keep fun _ hp=>hb.cell (Nat.lt_of_lt_of_le hp hB)).more hb.size,h4⟩⟩
theorem MB.drew (h:MB w L g n q rows):MB w.drew L g n q rows:=h
theorem Rd.farN {l:List Int} {A:Option Addr} (h:Rd w B A l)(hA:l≠[]→∀ b,A=some b→b.block≠g)(i:Nat)(u:Value):Rd (w.setCell ⟨g,i,none⟩ u) B A l:=fun hn=>by
 obtain⟨b,off,e,hbl,hcell⟩:=h hn;have h8:=hA (List.length_pos_iff.1 hn) _ e;refine⟨b,off,e,hbl,fun j hj=>?_⟩;have ne:(⟨b,off+j,none⟩:Addr)≠⟨g,i,none⟩:=fun e2=>h8 (congrArg Addr.block e2)
 rw[World.cell?_setCell_other _ _ _ _ (by first | exact ne | exact ne.symm)];exact hcell j hj
theorem Own.capM {w:World} {B n c:Nat} {A:Option Addr} {l:List Int} (h:Own w B (.slice A n c) l):c≤maxLen:=by
 rcases h.2 with ⟨e,-⟩ | ⟨g,cap,cur,hv,hb,hg,hc,hm,_⟩
 ·cases e; exact Nat.zero_le _
 ·cases hv; exact hm
theorem Own.lowerM {w:World} {B B':Nat} {v:Value} {l:List Int} (h:Own w B v l)(hB:B'≤B):Own w B' v l:=by
 refine⟨h.1,?_⟩;rcases h.2 with hn | ⟨g,cap,cur,rfl,hb,rest⟩
 ·exact .inl hn
 ·exact .inr ⟨g,cap,cur,rfl,Nat.le_trans hB hb,rest⟩
theorem MB.set {i:Nat} {Ai:Option Addr} {l:List Int} {ci:Nat} (h:MB w L g n q rows)(hi:i<n)(hr:Rd w w.heap.size Ai l)(hl:l.length≤ci)(hc:ci≤maxLen)(hd:l≠[]→∀ a,Ai=some a→a.block≠g∧q≠some a.block∧L≤a.block) :
  MB (w.setCell ⟨g,i,none⟩ (.slice Ai l.length ci)) L g n q (setR rows i l):=by
 have hs:(w.setCell ⟨g,i,none⟩ (.slice Ai l.length ci)).heap.size=w.heap.size:=by simp[World.setCell]
 refine⟨by rw[hs]; exact h.1,fun j hj=>?_⟩;rw[hs];by_cases e:j=i
 ·subst e;obtain⟨A0,c0,h1,h2,-⟩:=h.2 j hi;refine⟨Ai,ci,?_,?_,?_⟩
  ·rw[show setR rows j l j=l from if_pos rfl]; simp[go_sem,h1]
  ·simp[go_sem,h2]
  ·rw[show setR rows j l j=l from if_pos rfl]; exact⟨hr.farN (fun h a e=>(hd h a e).1) _ _,hl,hc,hd⟩
 ·obtain⟨A0,c0,h1,h2,h3,h4,h5,h6⟩:=h.2 j hj;rw[show setR rows i l j=rows j from if_neg e];refine⟨A0,c0,?_,?_,h3.farN (fun h a e=>(h6 h a e).1) _ _,h4,h5,h6⟩
  ·rw[World.cell?_setCell_other _ _ _ _ (by intro e2; injection e2 with e3 e4; exact e (by first | exact e4 | exact e4.symm))]; exact h1
  ·simp[go_sem,h2]
theorem MB.grown (h:MB w L g n q rows)(hg:w.grownBy w' q)(hne:q≠some g)(hv:q'=q∨∀ k,q'=some k→w.heap.size≤k):MB w' L g n q' rows :=
 ⟨Nat.lt_of_lt_of_le h.1 hg.size,fun i hi=>by
  obtain⟨Ai,ci,h1,h2,h3,h4,h5,h6⟩:=h.2 i hi;refine⟨Ai,ci,hg.cell h1 (fun e=>hne e.symm),?_,fun hn=>?_,h4,h5,fun hn a e=>⟨(h6 hn a e).1,fun e2=>?_,(h6 hn a e).2.2⟩⟩
  ·rw[←h2]; exact World.frozen?_of_block (hg.block g h.1 (fun e=>hne e.symm))
  ·obtain⟨b,off,e,hbl,hcell⟩:=h3 hn;exact⟨b,off,e,Nat.lt_of_lt_of_le hbl hg.size,fun j hj=>hg.cell (hcell j hj) fun e2=>(h6 (List.length_pos_iff.1 hn) _ e).2.1 e2.symm⟩
  ·rcases hv with h7 | h7
   ·exact (h6 hn a e).2.1 (h7 ▸ e2)
   ·have h8:=h7 _ e2;obtain⟨b,off,e3,hbl,-⟩:=h3 (List.length_pos_iff.2 hn);rw[e]at e3; cases e3; dsimp at h8; omega⟩
end

def OwnV (w:World)(B:Nat)(v:Value)(hs:List Value):Prop:=w.ownsRow B 22 1 v hs.length hs
theorem infoInts:(Tryz.prog.info? 22).map (fun i=>(i.zero,i.size,i.bytes))=some (some (.slice none 0 0),1,24):=by kernel_rfl
theorem wpList_app1V {w:World} {ops:Array Oper} {rest:List Oper} {o:Oper} {a:Act} {Q:Exit→Act→World→Prop} (hgd:o.guard=none)(s x:Operand)
  (ho:o.op=.call { callee:=.builtin .append,args:=#[s,x],argTypes:=#[25,25] })
  (B:Nat) (v:Value) (l:List Value) (y:Value) (hy:y.oneCell'=true) (hown:OwnV w B v l) (hs:a.eval s=v) {H:Nat} (hx:a.eval x=.slice (some ⟨H,0,none⟩) 1 1) (hH:w.heap.size=H)
  (hl:l.length≤1000000) (hB:B≤w.heap.size)
  (h:∀ v' w',OwnV w' B v' (l ++ [y])→Below B w w'→w.grownBy w' v.ownBlock→(v'.ownBlock=v.ownBlock∨(∀ k,v'.ownBlock=some k→w.heap.size≤k))→wpList Tryz.prog ops Q rest (a.put o.dst v') w') :
  wpList Tryz.prog ops Q (o :: rest) a (w.alloc (.cells #[y] 22)):=by
 subst hH;obtain⟨i0,hi,hz0,hz1,hz2⟩:=info_parts infoInts;refine wpList_plain hgd fun K hK=>?_
 obtain⟨v',w',hrun,h2,h3,_,h5⟩:=run_append_own_at (P:=Tryz.prog) (w.alloc (.cells #[y] 22)) B 25 o.type 22 i0 (.slice none 0 0) 1 24 Tryz.underlying25 hi hz0 hz1 hz2 rfl (by decide) v l.length l (World.ownsRow.alloc hown _)
  ⟨w.heap.size,0,none⟩ 1 1 [y] rfl (cell_one_new _ _ _) (by simp[hy]) (by simp only[maxLen]; omega) (by omega) (by simp; omega)
 unfold Oper.wp execOp;simp only[ho,resolve,invoke,builtin,Sem.run_bind,Sem.run_pure,Result.andThen_ok,List.map_toArray,List.map_cons,List.map_nil,hs,hx,hrun];have hg:w.grownBy w' v.ownBlock:=⟨h3.os,h3.tape,h3.output,Nat.le_trans (by simp) h3.size,fun k hk hne=>(h3.block k (by simp; omega) hne).trans (Below.heap_alloc _ _ _ hk)⟩;refine hK _ _ (h v' w' (by unfold OwnV; rw[List.length_append]; exact h2) ⟨hg.os,hg.tape,hg.output,hg.size,fun k hk=>hg.block k (by omega) (fun e=>by have:=(World.ownsRow.lt hown k e.symm).1; omega)⟩ hg ?_);rcases h5 with h5 | h5
 ·exact .inl h5
 ·right; intro k hk; rw[h5]at hk; cases hk; simp

def OwnM (w:World)(B:Nat)(v:Value)(n:Nat)(rows:Nat→List Int):Prop :=
 ∃ hs:List Value,hs.length=n∧OwnV w B v hs∧∀ i,i<n→∃ Ai ci,hs[i]?=some (.slice Ai (rows i).length ci)∧Rd w w.heap.size Ai (rows i)∧(rows i).length≤ci∧ci≤maxLen∧(rows i≠[]→∀ a,Ai=some a→v.ownBlock≠some a.block∧B≤a.block)
section
variable {w w':World} {B n:Nat} {v:Value} {rows:Nat→List Int}
theorem OwnM.nil (w:World)(B:Nat)(rows:Nat→List Int):OwnM w B (.slice none 0 0) 0 rows:=⟨[],rfl,World.ownsRow_nil _ _ _ _,fun i hi=>absurd hi (by omega)⟩
theorem OwnM.below {W:Nat} (h:OwnM w B v n rows)(hb:Below W w w')(hW:w.heap.size≤W):OwnM w' B v n rows:=by
 obtain⟨hs,h1,h2,h3⟩:=h;refine⟨hs,h1,World.ownsRow.kept h2 (below_grown hb hW) (by cases hv:v.ownBlock <;> simp),fun i hi=>?_⟩;obtain⟨Ai,ci,a1,a2,a3⟩:=h3 i hi;exact⟨Ai,ci,a1,(a2.keep fun _ hp=>hb.cell (Nat.lt_of_lt_of_le hp hW)).more hb.size,a3⟩
theorem OwnM.size (h:OwnM w B v n rows):∃ A c,v=.slice A n c:=by
 obtain⟨hs,h1,h2,-⟩:=h;rcases h2.2 with ⟨rfl,h0⟩ | ⟨g,cap,cur,hv,-⟩
 ·exact⟨none,0,by rw[←h1,h0]⟩
 ·exact⟨some ⟨g,0,none⟩,cap,by rw[hv,h1]⟩
theorem OwnM.snoc {hs:List Value} {Ak:Option Addr} {ck:Nat} {v':Value} (h1:hs.length=n)(h3:∀ i,i<n→∃ Ai ci,hs[i]?=some (.slice Ai (rows i).length ci)∧Rd w w.heap.size Ai (rows i)∧(rows i).length≤ci∧ci≤maxLen∧(rows i≠[]→∀ a,Ai=some a→v.ownBlock≠some a.block∧B≤a.block))
  (hr:Rd w w.heap.size Ak (rows n)) (hl:(rows n).length≤ck) (hc:ck≤maxLen) (hd:rows n≠[]→∀ a,Ak=some a→v.ownBlock≠some a.block∧B≤a.block)
  (ho:OwnV w' B v' (hs ++ [.slice Ak (rows n).length ck])) (hg:w.grownBy w' v.ownBlock) (hv:v'.ownBlock=v.ownBlock∨∀ k,v'.ownBlock=some k→w.heap.size≤k):OwnM w' B v' (n+1) rows:=by
 have hkeep:∀ {A:Option Addr} {l:List Int},Rd w w.heap.size A l→(l≠[]→∀ a,A=some a→v.ownBlock≠some a.block∧B≤a.block)→Rd w' w'.heap.size A l∧(l≠[]→∀ a,A=some a→v'.ownBlock≠some a.block∧B≤a.block):=fun {A l} hr hd=>by
  refine⟨fun hn=>?_,fun hn a e=>⟨fun e2=>?_,(hd hn a e).2⟩⟩
  ·obtain⟨b,off,e,hbl,hcell⟩:=hr hn;refine⟨b,off,e,Nat.lt_of_lt_of_le hbl hg.size,fun j hj=>hg.cell (hcell j hj) fun e2=>?_⟩;exact (hd (List.length_pos_iff.1 hn) _ e).1 e2.symm
  ·rcases hv with h5 | h5
   ·exact (hd hn a e).1 (h5 ▸ e2)
   ·have h6:=h5 _ e2;obtain⟨b,off,e3,hbl,-⟩:=hr (List.length_pos_iff.2 hn);rw[e]at e3
    cases e3
    dsimp at h6;omega
 refine⟨hs ++ [.slice Ak (rows n).length ck],by simp[h1],ho,fun i hi=>?_⟩;by_cases e:i=n
 ·subst e;exact⟨Ak,ck,by rw[List.getElem?_append_right (by omega),h1,Nat.sub_self]; rfl,(hkeep hr hd).1,hl,hc,(hkeep hr hd).2⟩
 ·obtain⟨Ai,ci,a1,a2,a3,a4,a5⟩:=h3 i (by omega);exact⟨Ai,ci,by rw[List.getElem?_append_left (by omega)]; exact a1,(hkeep a2 a5).1,a3,a4,(hkeep a2 a5).2⟩
theorem OwnM.mb (h:OwnM w B v n rows)(hn:0<n):∃ g c,v=.slice (some ⟨g,0,none⟩) n c∧B≤g∧n≤c∧c≤maxLen∧MB w B g n none rows:=by
 obtain⟨hs,h1,h2,h3⟩:=h;have h2':=h2;rcases h2.2 with ⟨rfl,h0⟩ | ⟨g,cap,cur,rfl,hb,hg,hc,hm,_⟩
 ·omega
 ·rw[h1]at *;have hlt:g<w.heap.size:=(Array.getElem?_eq_some_iff.1 hg).1;refine⟨g,cap,rfl,hb,hc,hm,hlt,fun i hi=>?_⟩;obtain⟨Ai,ci,a1,a2,a3,a4,a5⟩:=h3 i hi;refine⟨Ai,ci,?_,?_,a2,a3,a4,fun hne a e=>⟨fun e2=>(a5 hne a e).1 (by rw[e2]; rfl),by simp,(a5 hne a e).2⟩⟩
  ·have:=World.ownsRow.cells h2' (g:=g) rfl i _ a1;rw[←this];unfold Addr.add; split <;> simp_all
  ·simp[World.frozen?,hg]
end
end
section
open Go.ChangeShapes Go.WideShapes Go.ChangeAt Go.RowKit Go.Joins
def aRow : OpenClaim := { program := "",sum := "",func := "",spec := "",unfollowed := true,recurses := true,apart := false }
theorem once_all:(Tryz.prog.mayEnter&&(aRow.lifted==Tryz.prog.liftsFinal)&&(Tryz.prog.make==some aRow.make))=true:=by kernel_rfl
theorem once_enter:Tryz.prog.mayEnter=true:=by
 have h:=once_all;simp only[Bool.and_eq_true]at h;exact h.1.1
theorem once_lift:(aRow.lifted==Tryz.prog.liftsFinal)=true:=by
 have h:=once_all;simp only[Bool.and_eq_true]at h;exact h.1.2
theorem once_make:(Tryz.prog.make==some aRow.make)=true:=by
 have h:=once_all;simp only[Bool.and_eq_true]at h;exact h.2
end
end Go.Proofs.YtjdoneanohhkmaaGreat

/- Words for memory: slices that read as lists of ints, blocks that hold a list of ints. -/
import Derived.BigQuiet
import Derived.BigRegion
import Derived.Deep.AppendLies
import Derived.Deep.Draws
import Derived.Deep.OwnRows
import Derived.Deep.QuietTactic
import Derived.Deep.RegionLaw
import Derived.Lib.AppendZerosOnto
import Derived.Lib.SmallJoins
import Derived.Maps.AppendAt
import Derived.OpenShut
import Derived.ProofKit
import Derived.RegionTactic
import Derived.Test.YtogfekjbpcfgmaaGreatRows
import Derived.WalkLawsBesides
import Derived.WalkSpells
import Derived.Test.YtogfekjbpcfgmaaGreatZtkTk
set_option maxRecDepth 100000
set_option maxHeartbeats 16000000
set_option linter.unusedVariables false
namespace Go.Proofs
open Go.RowKit Cw
section
def Rd (w:World)(B:Nat)(A:Option Addr)(l:List Int):Prop :=
 0<l.length→∃b I,A=some ⟨b,I,none⟩∧b<B∧∀j,j<l.length→w.cell? ⟨b,I+j,none⟩=some (.int .i64 (l[j]?.getD 0))
def IB (w:World)(g:Nat)(l:List Int):Prop:=w.heap[g]?=some (.cells (l.map (Value.int .i64)).toArray 3 (0,0))
section
variable {w w':World} {B B' g:Nat} {A:Option Addr} {l:List Int}
theorem Rd.nil:Rd w B A []:=fun h=>absurd h (by simp)
theorem Rd.at_ {k:Nat} (h:Rd w B A l)(J:k<l.length):∃b I,A=some ⟨b,I,none⟩∧b<B∧w.cell? ⟨b,I+k,none⟩=some (.int .i64 (l[k]?.getD 0)):=by
 obtain⟨b,I,e,O,T⟩:=h (by omega);exact⟨b,I,e,O,T k J⟩
theorem Rd.keep (h:Rd w B A l)(O:∀p:Addr,p.block<B→w'.cell? p=w.cell? p):Rd w' B A l:=fun U=>by
 obtain⟨b,I,e,J,T⟩:=h U;exact⟨b,I,e,J,fun j V=>(O ⟨b,I+j,none⟩ J).trans (T j V)⟩
theorem Rd.more (h:Rd w B A l)(T:B≤B'):Rd w B' A l:=fun O=>by
 obtain⟨b,I,e,U,J⟩:=h O;exact⟨b,I,e,by omega,J⟩
theorem Rd.below (h:Rd w B A l)(I:Below B w w'):Rd w' B A l:=h.keep fun _ hp=>I.cell hp
theorem Rd.bm {w':World}(h:Rd w w.heap.size A l)(I:Below w.heap.size w w') : Rd w' w'.heap.size A l:=(h.below I).more (I.size)
theorem Rd.take (h:Rd w B A l)(n:Nat):Rd w B A (l.take n):=fun V=>by
 have U:=List.length_take_le' n l;obtain⟨b,I,e,J,O⟩:=h (by omega);refine⟨b,I,e,J,fun j T=>?_⟩;rw[O j (by omega),List.getElem?_take,if_pos (by simp at T;omega)]
theorem IB.lt (h:IB w g l):g<w.heap.size:=by
 rcases Nat.lt_or_ge g w.heap.size with I |J
 ·exact I
 ·unfold IB at h;rw[Array.getElem?_eq_none J]at h;cases h
theorem IB.cell (h:IB w g l){i:Nat} (I:i<l.length):w.cell? ⟨g,i,none⟩=some (.int .i64 (l[i]?.getD 0)):=by
 rw[cell_of_row w g i _ _ (0,0) h];simp[I]
theorem IB.frozen (h:IB w g l)(i:Nat):w.frozen? ⟨g,i,none⟩=false:=by
 unfold IB at h;simp[World.frozen?,h]
theorem IB.rd (h:IB w g l):Rd w w.heap.size (some ⟨g,0,none⟩) l:=fun _=>⟨g,0,rfl,h.lt,fun j I=>by rw[Nat.zero_add];exact h.cell I⟩
theorem IB.new (w:World)(l:List Int):IB (w.alloc (.cells (l.map (Value.int .i64)).toArray 3)) w.heap.size l:=heap_alloc_new w _
theorem IB.alloc (h:IB w g l)(o:Obj):IB (w.alloc o) g l:=(Below.heap_alloc w o g h.lt).trans h
theorem IB.set_ (h:IB w g l)(i:Nat)(u:Int):IB (w.setCell ⟨g,i,none⟩ (.int .i64 u)) g (l.set i u):=by
 unfold IB at h ⊢;simp[World.setCell,Array.getElem?_modify,h]
theorem IB.far (h:IB w g l){p:Addr} (hp:g≠p.block)(u:Value):IB (w.setCell p u) g l:=(Below.heap_setCell w p u g hp).trans h
theorem IB.below {B:Nat} (h:IB w g l)(I:Below B w w')(J:g<B):IB w' g l:=(I.block g J).trans h
theorem IB.kept {row:Option Nat} (h:IB w g l)(I:w.grownBy w' row)(J:row≠some g):IB w' g l:=(I.block g h.lt (fun e=>J e.symm)).trans h
theorem IB.drew (h:IB w g l):IB w.drew g l:=h
theorem IB.drewN (h:IB w g l)(n:Nat):IB (w.drewN n) g l:=h
theorem Rd.drew (h:Rd w B A l):Rd w.drew B A l:=h
theorem Rd.drewN (h:Rd w B A l)(n:Nat):Rd (w.drewN n) B A l:=h
theorem Rd.alloc (h:Rd w B A l)(I:B≤w.heap.size)(o:Obj):Rd (w.alloc o) B A l:=h.below (κ.alloc I o)
theorem Rd.setCell (h:Rd w B A l){p:Addr} (I:B≤p.block)(u:Value):Rd (w.setCell p u) B A l:=h.below (κ.setCell I u)
end
theorem Qbj {B:Nat} {a w:World} (h:Below B a w)(n:Nat):Below B a (w.drewN n):=⟨h.os,h.tape,h.output,h.size,h.block⟩
theorem Qh7 {B:Nat} {W w1:World} (I:Below B W w1):(∀b o,b<B→w1.cell? ⟨b,o,none⟩=W.cell? ⟨b,o,none⟩)∧(∀b o,b<B→w1.frozen? ⟨b,o,none⟩=W.frozen? ⟨b,o,none⟩) :=
 ⟨fun b o h=>I.cell (p:=⟨b,o,none⟩) h,fun b o h=>I.frozen (p:=⟨b,o,none⟩) h⟩
theorem Qb9 (w:World)(I v1 v2:Value)(t:TypeId):(w.alloc (.cells #[I,v1,v2] t)).cell? ⟨w.heap.size,0,none⟩=some I ∧
  (w.alloc (.cells #[I,v1,v2] t)).cell? ⟨w.heap.size,1,none⟩=some v1∧(w.alloc (.cells #[I,v1,v2] t)).cell? ⟨w.heap.size,2,none⟩=some v2:=by
 simp[go_sem]
theorem Qau {B b:Nat} {W w1:World} {O v1 v2:Value} (I:Below B W w1)(J:b<B)(h:W.cell? ⟨b,0,none⟩=some O∧W.cell? ⟨b,1,none⟩=some v1∧W.cell? ⟨b,2,none⟩=some v2) :
  w1.cell? ⟨b,0,none⟩=some O∧w1.cell? ⟨b,1,none⟩=some v1∧w1.cell? ⟨b,2,none⟩=some v2 :=
 ⟨(I.cell (p:=⟨b,0,none⟩) J).trans h.1,(I.cell (p:=⟨b,1,none⟩) J).trans h.2.1,(I.cell (p:=⟨b,2,none⟩) J).trans h.2.2⟩
theorem Qo1 (n:Nat):madeCells #[Value.int .i64 0] n=((List.replicate n (0:Int)).map (Value.int .i64)).toArray:=by
 apply Array.ext
 ·simp[madeCells]
 ·intro i I J;simp[madeCells,Nat.mod_one]
theorem Qhe:(Tryz.prog.info? 3).map (fun i=>(i.zero,i.size,i.bytes))=some (some (.int .i64 0),1,8):=by kernel_rfl
theorem QaC (n:Nat)(h:n≤70000)(w:World):(Instr.makeSlice 22 (.int .i64 (n:Int)) (.int .i64 (n:Int))).run Tryz.prog w =
  .ok (.slice (some ⟨w.heap.size,0,none⟩) n n) (w.alloc (.cells (Array.replicate n (Value.int .i64 0)) 3)):=by
 rw[show Array.replicate n (Value.int .i64 0)=((List.replicate n (0:Int)).map (Value.int .i64)).toArray by simp,←Qo1];exact run_make_row' 22 3 (.int .i64 0) 8 Tryz.underlying22 Qhe rfl .i64 .i64 n (by omega) (by omega) w
theorem IB.newz (w:World)(n:Nat):IB (w.alloc (.cells (Array.replicate n (Value.int .i64 0)) 3)) w.heap.size (List.replicate n 0):=by
 have h:=IB.new w (List.replicate n 0)
 simpa using h
theorem Qa2 {k:IntKind} {a b:Int} (h:a=b):Ending.returned (.int k a)=.returned (.int k b):=by rw[h]
theorem QaB {a b:Bool} (h:a=b):Ending.returned (.bool a)=.returned (.bool b):=by rw[h]
def Qcj (B:Nat)(l:List Int)(w:World)(e:Ending)(w':World):Prop :=
 ∃g,e=.returned (.slice (some ⟨g,0,none⟩) l.length l.length)∧B≤g∧IB w' g l∧Below B w w'
end
section
def Own (w:World)(B:Nat)(v:Value)(l:List Int):Prop:=w.ownsRow B 3 1 v l.length (l.map (Value.int .i64))
section
variable {w w':World} {B:Nat} {v:Value} {l:List Int}
theorem Own.nil (w:World)(B:Nat):Own w B (.slice none 0 0) []:=World.ownsRow_nil _ _ _ _
theorem Own.drew (h:Own w B v l):Own w.drew B v l:=h
theorem Own.kept {row:Option Nat} (h:Own w B v l)(I:w.grownBy w' row)(J:v.ownBlock=none∨v.ownBlock≠row):Own w' B v l:=World.ownsRow.kept h I J
theorem Qbr {W:Nat} {w w':World} (h:Below W w w')(I:w.heap.size≤W):w.grownBy w' none:=⟨h.os,h.tape,h.output,h.size,fun k J _=>h.block k (by omega)⟩
theorem Own.below {W:Nat} (h:Own w B v l)(I:Below W w w')(J:w.heap.size≤W):Own w' B v l :=
 h.kept (Qbr I J) (by cases O:v.ownBlock <;> simp)
theorem Own.alloc (h:Own w B v l)(o:Obj):Own (w.alloc o) B v l:=World.ownsRow.alloc h o
theorem Own.form (h:Own w B v l):∃A c,v=.slice A l.length c∧l.length≤c∧Rd w w.heap.size A l∧(∀b,A=some b→B≤b.block∧b.block<w.heap.size):=by
 rcases h.2 with ⟨rfl,h0⟩ |⟨g,cap,Y,O,I,T,U,_⟩
 ·have:l=[]:=List.eq_nil_of_length_eq_zero h0;subst this;exact⟨none,0,rfl,Nat.le_refl _,Rd.nil,fun b I=>by cases I⟩
 ·have J:g<w.heap.size:=(Array.getElem?_eq_some_iff.1 T).1;subst O;refine⟨_,cap,rfl,U,fun hn=>⟨g,0,rfl,J,fun j V=>?_⟩,fun b X=>by cases X;exact⟨I,J⟩⟩;have:=World.ownsRow.cells h (g:=g) rfl j (.int .i64 (l[j]?.getD 0)) (by simp[V]);rw[←this];unfold Addr.add;split <;> simp_all
theorem Own.snoc {y:Int} (h:w.ownsRow B 3 1 v (l.length+1) (l.map (Value.int .i64) ++ [.int .i64 y])):Own w B v (l ++ [y]):=by
 unfold Own;simpa using h
theorem Own.lt (h:Own w B v l):∀k,v.ownBlock=some k→B≤k∧k<w.heap.size:=World.ownsRow.lt h
theorem QbB (w:World)(p:Addr)(u:Value):w.grownBy (w.setCell p u) (some p.block) :=
 ⟨rfl,rfl,rfl,by simp[World.setCell],fun k _ I=>Below.heap_setCell w p u k (fun e=>I (by rw[e]))⟩
theorem Own.far (h:Own w B v l){p:Addr} (hp:v.ownBlock≠some p.block)(u:Value):Own (w.setCell p u) B v l:=h.kept (QbB w p u) (.inr hp)
theorem Own.of_IB {g:Nat} (h:IB w g l)(I:B≤g)(J:l.length≤maxLen):Own w B (.slice (some ⟨g,0,none⟩) l.length l.length) l :=
 ⟨by simp,.inr ⟨g,l.length,_,rfl,I,h,Nat.le_refl _,J,by simp,List.take_of_length_le (by simp)⟩⟩
end
theorem Qbs {w:World} {ops:Array Oper} {rest:List Oper} {o:Oper} {a:Act} {Q:Exit→Act→World→Prop} (X:o.guard=none)(s x:Operand)
  (Y:o.op=.call { callee:=.builtin .append,args:=#[s,x],argTypes:=#[22,22] })
  (B:Nat) (v:Value) (l:List Int) (y:Int) (V:Own w B v l) (hs:a.eval s=v) {H:Nat} (hx:a.eval x=.slice (some ⟨H,0,none⟩) 1 1) (hH:w.heap.size=H)
  (hl:l.length≤1000000) (hB:B≤w.heap.size)
  (h:∀J w',Own w' B J (l ++ [y])→Below B w w'→w.grownBy w' v.ownBlock→(J.ownBlock=v.ownBlock∨(∀k,J.ownBlock=some k→w.heap.size≤k))→wpList Tryz.prog ops Q rest (a.put o.dst J) w') :
  wpList Tryz.prog ops Q (o :: rest) a (w.alloc (.cells #[.int .i64 y] 3)):=by
 subst hH;obtain⟨i0,hi,af,ag,ah⟩:=info_parts Qhe;refine wpList_plain X fun K hK=>?_
 obtain⟨J,w',ai,h2,O,_,T⟩:=run_append_own_at (P:=Tryz.prog) (w.alloc (.cells #[.int .i64 y] 3)) B 22 o.type 3 i0 (.int .i64 0) 1 8 Tryz.underlying22 hi af ag ah rfl (by decide) v l.length (l.map (Value.int .i64)) (V.alloc _)
  ⟨w.heap.size,0,none⟩ 1 1 [.int .i64 y] rfl (cell_one_new _ _ _) (by simp[Value.oneCell']) (by simp only[maxLen];omega) (by omega) (by simp;omega)
 unfold Oper.wp execOp;simp only[Y,resolve,invoke,builtin,Sem.run_bind,Sem.run_pure,Result.andThen_ok,List.map_toArray,List.map_cons,List.map_nil,hs,hx,ai];have I:w.grownBy w' v.ownBlock:=⟨O.os,O.tape,O.output,τ (by simp) O.size,fun k U al=>(O.block k (by simp;omega) al).trans (Below.heap_alloc _ _ _ U)⟩;refine hK _ _ (h J w' (Own.snoc h2) ⟨I.os,I.tape,I.output,I.size,fun k U=>I.block k (by omega) (fun e=>by have:=(V.lt k e.symm).1;omega)⟩ I ?_);rcases T with T |T
 ·exact .inl T
 ·right;intro k U;rw[T]at U;cases U;simp
theorem Qo2 {w:World} {o:Oper} {a:Act} {K:Act→World→Prop} {Q:Exit→Act→World→Prop} (s x:Operand)
  (ho:o.op=.call { callee:=.builtin .append,args:=#[s,x],argTypes:=#[22,22] })
  (B:Nat) (v:Value) (l:List Int) (B':Nat) (A:Option Addr) (c:Nat) (l2:List Int) (U:Own w B v l) (hr:Rd w B' A l2) (hs:a.eval s=v) {n2:Nat} (hx:a.eval x=.slice A n2 c) (ai:n2=l2.length)
  (hl:l.length+l2.length≤1000000000) (hB:B≤w.heap.size)
  (h:∀I w',Own w' B I (l ++ l2)→Below B w w'→w.grownBy w' v.ownBlock→(I.ownBlock=v.ownBlock∨(∀k,I.ownBlock=some k→w.heap.size≤k))→K (a.put o.dst I) w'):o.wp Tryz.prog a w K Q:=by
 subst ai;obtain⟨i0,X,an,ao,ap⟩:=info_parts Qhe;have ak:∃I w',(Builtin.append_ #[22,22] o.type #[v,.slice A l2.length c]).run Tryz.prog w=.ok I w'∧Own w' B I (l ++ l2)∧w.grownBy w' v.ownBlock∧(I.ownBlock=v.ownBlock∨(∀k,I.ownBlock=some k→w.heap.size≤k)):=by
  rcases A with _ |ad
  ·have h0:l2=[]:=by
    rcases Nat.eq_zero_or_pos l2.length with h0 |h0
    ·exact List.eq_nil_of_length_eq_zero h0
    ·obtain⟨b,aq,e,_⟩:=hr h0;cases e
   subst h0;refine⟨v,w,?_,by simpa using U,World.grownBy.refl w _,.inl rfl⟩;rcases U.2 with ⟨rfl,h0⟩ |⟨g,cap,aA,rfl,_,_,ax,_⟩
   ·simp[Builtin.append_,run_underlying Tryz.underlying22,sizeOf,typeInfo,X,Builtin.lenOf,Builtin.firstCells]
   ·simp[Builtin.append_,run_underlying Tryz.underlying22,sizeOf,typeInfo,X,Builtin.lenOf,Builtin.firstCells,ax,storeCells]
  ·have al:∀j u,(l2.map (Value.int .i64))[j]?=some u→w.cell? (ad.add j)=some u:=by
    intro j u V;have hj:j<l2.length:=by
     rcases Nat.lt_or_ge j l2.length with O |O
     ·exact O
     ·rw[List.getElem?_eq_none (by simpa using O)]at V;cases V
    obtain⟨b,aq,e,_,hc⟩:=hr (by omega)
    cases e
    have O:=hc j hj;have T:(l2.map (Value.int .i64))[j]?=some (.int .i64 (l2[j]?.getD 0)):=by simp[hj]
    rw[T]at V;cases V
    rw[←O];unfold Addr.add;split <;> simp_all
   obtain⟨I,w',Y,T,h3,_,h5⟩:=run_append_own_at (P:=Tryz.prog) w B 22 o.type 3 i0 (.int .i64 0) 1 8 Tryz.underlying22 X an ao ap rfl (by decide) v l.length (l.map (Value.int .i64)) U
    ad l2.length c (l2.map (Value.int .i64)) (by simp) al (by simp[Value.oneCell']) (by simp only[maxLen];omega) (by omega) hB
   exact⟨I,w',Y,by unfold Own;simpa using T,h3,h5.imp id (fun h6 k hk=>by rw[h6]at hk;cases hk;exact Nat.le_refl _)⟩
 obtain⟨I,w',Y,T,J,aw⟩:=ak;unfold Oper.wp execOp;simp only[ho,resolve,invoke,builtin,Sem.run_bind,Sem.run_pure,Result.andThen_ok,List.map_toArray,List.map_cons,List.map_nil,hs,hx,Y];exact h I w' T ⟨J.os,J.tape,J.output,J.size,fun k hk=>J.block k (by omega) (fun e=>by have:=(U.lt k e.symm).1;omega)⟩ J aw
theorem Qda {w:World} {ops:Array Oper} {rest:List Oper} {o:Oper} {a:Act} {Q:Exit→Act→World→Prop} (J:o.guard=none)(s x:Operand)
  (O:o.op=.call { callee:=.builtin .append,args:=#[s,x],argTypes:=#[22,22] })
  (B:Nat) (v:Value) (l:List Int) (B':Nat) (A:Option Addr) (c:Nat) (l2:List Int) (T:Own w B v l) (U:Rd w B' A l2) (V:a.eval s=v) {n2:Nat} (X:a.eval x=.slice A n2 c) (Y:n2=l2.length)
  (hl:l.length+l2.length≤1000000000) (hB:B≤w.heap.size)
  (h:∀I w',Own w' B I (l ++ l2)→Below B w w'→w.grownBy w' v.ownBlock→(I.ownBlock=v.ownBlock∨(∀k,I.ownBlock=some k→w.heap.size≤k))→wpList Tryz.prog ops Q rest (a.put o.dst I) w') :
  wpList Tryz.prog ops Q (o :: rest) a w :=
 wpList_plain J fun _ hK=>Qo2 s x O B v l B' A c l2 T U V X Y hl hB fun I w' h2 h3 h4 h5=>hK _ _ (h I w' h2 h3 h4 h5)
theorem QaL {w:World} {ops:Array Oper} {o:Oper} {a:Act} {K:Act→World→Prop} {Q:Exit→Act→World→Prop} {E:Prop} (J:o.guard=none)(s x:Operand)
  (O:o.op=.call { callee:=.builtin .append,args:=#[s,x],argTypes:=#[22,22] })
  (B:Nat) (v:Value) (l:List Int) (B':Nat) (A:Option Addr) (c:Nat) (l2:List Int) (T:Own w B v l) (U:Rd w B' A l2) (V:a.eval s=v) {n2:Nat} (X:a.eval x=.slice A n2 c) (Y:n2=l2.length)
  (hl:l.length+l2.length≤1000000000) (hB:B≤w.heap.size)
  (h:∀I w',Own w' B I (l ++ l2)→Below B w w'→w.grownBy w' v.ownBlock→(I.ownBlock=v.ownBlock∨(∀k,I.ownBlock=some k→w.heap.size≤k))→K (a.put o.dst I) w') :
  if Region.wanted o (yielded ops a.tmps)=true then Oper.wp Tryz.prog o a w K Q else E:=by
 have hw:Region.wanted o (yielded ops a.tmps)=true:=by simp[Region.wanted,J]
 rw[if_pos hw];exact Qo2 s x O B v l B' A c l2 T U V X Y hl hB h
end
section
open Go.ChangeShapes Go.WideShapes Go.ChangeAt Go.Joins Go.Deep
theorem Qq4:ownKnob Tryz.prog.godebug=none:=by kernel_rfl
theorem Qq5:laidOutB Tryz.prog=true:=by kernel_rfl
section
variable {H:Type} {enc:TypeId×Value→H} {P:Program}
theorem Qmb (T:laidOutB P=true){W W':World} (U:Below W.heap.size W W')(sp:Nat→Bool):∀ {J:List TypeId} {vs:List Value} {V:List (DataW H)} {O:List MemPlace},
  (J.all fun t=>P.readableRec t&&decide (t<P.types.size))=true→DataW.TrodAll enc P W 0 (fun _=>true) true J vs V O →
  (∀x∈O,x.block<W.heap.size)→(∀x∈O,sp x.block=true)→DataW.TrodAll enc P W' 0 sp true J vs V O
 | [],_,_,_,_,h,_,_=>by
  obtain⟨rfl,rfl,rfl⟩:=trodAll_nil h;exact rfl
 |t :: J,_,_,_,hk,h,hlt,hsp=>by
  obtain⟨v,aa,d,ab,a,b,rfl,rfl,rfl,X,Y⟩:=trodAll_cons h;simp only[List.all_cons,Bool.and_eq_true,decide_eq_true_eq]at hk;exact⟨a,b,WideElems.Trod_stays T hk.1.1 hk.1.2 X (fun x I=>U.same (hlt x (by simp[I]))) (fun x I=>hsp x (by simp[I])),
   Qmb T U sp (by simpa using hk.2) Y (fun x I=>hlt x (by simp[I])) (fun x I=>hsp x (by simp[I])),rfl⟩
theorem Qq6 (ai:laidOutB P=true){f:Func} {s:ChangeSpec} {apart aj ak al:Bool} {W W':World} {args:Array Value} {I gs:List (DataW H)} {an:List MemPlace} {t:TypeId}
  (O:DataW.Whole enc P f.params.toList s.vars apart W args.toList I gs an) (X:s.vars=[])
  (hk:(f.params.toList.all fun t=>P.readableRec t&&decide (t<P.types.size))=true)
  (Y:f.resultTypes=#[t]) (ht:P.underlying t=some .bool)
  (ap:s.fn H I={ results:=[.lit (.bool true)],args:=I }) (T:Below W.heap.size W W') :
  s.post enc P f apart aj ak al W args (.bool true) W':=by
 have J:=O.lt;have ab:=O;obtain⟨p,q,hA,hV,rfl,hz,hn⟩:=O;rw[X]at hV;obtain⟨rfl,rfl⟩:=trodVars_none hV;simp only[List.append_nil]at J hz hn ab;have ac:=fun sp h=>Qmb ai T sp hk hA J h
 have ad:∀ (b:Nat) (sp:Nat→Bool) (hd:Bool),DataW.TrodAll enc P W' b sp hd f.resultTypes.toList ((Value.bool true).resultList f.resultTypes.size) [.lit (.bool true)] []:=fun b sp hd=>by
  rw[Y];exact trodAll_mk1 (shut_bool ht true)
 have hq:∀sp,DataW.TrodVars enc P W' sp s.vars [] []:=fun sp=>by rw[X];rfl
 have U:(s.fn H (I ++ []))={ results:=[.lit (.bool true)],args:=I }:=by rw[List.append_nil];exact ap
 refine⟨I,[],p,[],p,[],ab,?_,?_,?_,World.keptBut_mono (fun _ h=>h.elim) (T.frame (fun _=>False)),fun _=>⟨?_,[.lit (.bool true)] ++ I,[],p,?_,fun x V _=>V⟩⟩
 ·rw[U];exact ad _ _ _
 ·rw[U];exact ac _ fun x V=>by simpa using J x V
 ·rw[U];exact hq _
 ·exact ok_one Y rfl (okWide_bool_mk ht true)
 ·refine⟨p,[],by simpa using trodAll_append (ac _ (fun _ _=>rfl)) (ad 0 _ true),hq _,by simp,?_,?_⟩
  ·intro b au hp;have aq:=J _ hp;rw[T.frozen aq];exact hz b au hp
  ·intro ha;exact hn ha
end
section
variable {H:Type} {enc:TypeId×Value→H} {W:World} {base:Nat}
theorem Qo3:Tryz.prog.underlying 3=some (.int .i64):=by kernel_rfl
theorem QtL:Tryz.prog.underlying 22=some (.slice 3):=by kernel_rfl
theorem QtM:Tryz.prog.underlying 4=some .bool:=by kernel_rfl
theorem Qo4:Tryz.prog.cellsOf 3=1:=by kernel_rfl
def I64 (x:Int):Prop:=-9223372036854775808≤x∧x≤9223372036854775807
theorem QsT {x:Int} (h:(Lit.int .i64 x).wf=true):I64 x:=by
 simp[Lit.wf,IntKind.min,IntKind.max,IntKind.signed,IntKind.bits]at h;exact⟨by omega,by omega⟩
theorem QdH {n:Nat} {v:Value} {y:DataW H×List MemPlace} (h:DataW.trod enc Tryz.prog W 0 (fun _=>true) true n 22 [v]=some y)(X:∀x∈y.2,x.block<W.heap.size) :
  ∃ (A:Option Addr) (l:List Int) (c:Nat),v=.slice A l.length c∧l.length≤c∧c≤maxLen∧(∀x∈l,I64 x)∧Rd W W.heap.size A l:=by
 rcases open_ints QtL Qo3 Qo4 h with ⟨I,rfl⟩ |⟨a,J,cap,U,I,-,hl,hm,hz,rfl,V,hw⟩
 ·cases I
  exact⟨none,[],0,rfl,Nat.le_refl _,by simp[maxLen],by simp,Rd.nil⟩
 ·cases I
  simp only[if_true]at hz;have O:(U.take J).length=J:=by simp;omega
  refine⟨some a,U.take J,cap,by rw[O],by omega,hm,fun x hx=>QsT (hw x (List.mem_of_mem_take hx)),?_⟩;intro h0;rw[O]at h0 ⊢;have Y:=V 0 (by omega);obtain⟨b,T,ab⟩:=a;have aa:ab=none:=by simpa [Addr.add] using World.cell?_spot Y
  subst aa;refine⟨b,T,rfl,X _ (show MemPlace.cell b (T+0)∈_ from List.mem_map.2 ⟨0,List.mem_range.2 (by omega),rfl⟩),fun j hj=>?_⟩;have:=V j (by omega);rw[add_plain]at this;rw[this,List.getElem?_take_of_lt hj];simp[List.getD_eq_getElem?_getD]
theorem Qmc {n:Nat} {v:Value} {y:DataW H×List MemPlace} (h:DataW.trod enc Tryz.prog W 0 (fun _=>true) true n 3 [v]=some y):∃x,v=.int .i64 x∧I64 x:=by
 obtain⟨a,I,rfl,J⟩:=DataW.trod_int Qo3 h
 cases I
 exact⟨a,rfl,QsT J⟩
theorem Qq7:∃I J O:Field,Tryz.prog.underlying 24=some (.struct #[I,J,O])∧I.type=3∧J.type=3∧O.type=22∧oneCellFields Tryz.prog #[I,J,O]=true∧Tryz.prog.cellsOf 24=3 :=
 ⟨_,_,_,Tryz.underlying24,rfl,rfl,rfl,by kernel_rfl,by kernel_rfl⟩
end
end
section
theorem QfC (k:Nat):Builtin.zeroCells (Value.int .i64 0).cells k=((List.replicate k (0:Int)).map (Value.int .i64)).toArray:=by
 unfold Builtin.zeroCells;apply Array.ext
 ·simp[Value.cells]
 ·intro i I J;simp[Value.cells,Nat.mod_one]
theorem Qq8 {w:World} (ty:TypeId)(B:Nat)(v:Value)(l:List Int)(k:Nat)(af:Own w B v l)(hl:l.length+k≤1000000)(hB:B≤w.heap.size) :
  ∃v' w',(Builtin.append_ #[22,3] ty #[v,.int .i64 (k:Int)]).run Tryz.prog w=.ok v' w'∧Own w' B v' (l ++ List.replicate k 0)∧w.grownBy w' v.ownBlock∧(v'.ownBlock=v.ownBlock∨(∀j,v'.ownBlock=some j→w.heap.size≤j)):=by
 obtain⟨V,hi,aj,ac,ad⟩:=info_parts Qhe;have X:=Tryz.underlying22;have Y:=Qo3;have hw:IntKind.i64.wrap (k:Int)=k:=by rw[IntKind.wrap_i64];omega
 have ak:IntKind.i64.wrap 0=0:=by decide
 have aw:¬ ((k:Int)<0):=by omega
 have aK:¬ (281474976710656<(k:Int)*(V.bytes:Int)):=by rw[ad];omega
 have ax:(l.map (Value.int .i64)).length=l.length*V.size:=by rw[ac];simp
 have al:((l ++ List.replicate k (0:Int)).map (Value.int .i64))=l.map (Value.int .i64) ++ (List.replicate k (0:Int)).map (Value.int .i64):=List.map_append;have T:(l ++ List.replicate k (0:Int)).length=l.length+k:=by simp
 by_cases h0:k=0
 ·subst h0;refine⟨v,w,?_,by simpa using af,World.grownBy.refl w _,.inl rfl⟩;rcases af.2 with ⟨rfl,h0⟩ |⟨g,cap,J,rfl,_,_,ap,_⟩
  ·simp[Builtin.append_,run_underlying X,run_underlying Y,sizeOf,typeInfo,hi,asInt,asIntOf,ak]
  ·simp[Builtin.append_,run_underlying X,run_underlying Y,sizeOf,typeInfo,hi,asInt,asIntOf,ak,ap,storeCells]
 have ah:0<k:=by omega
 have ay:¬ (k*V.size=0):=by rw[ac];omega
 have am:∀ (I:Nat),I<l.length+k→∀ (row:Option Nat),
   Own (w.drew.alloc (.cells ((l.map (Value.int .i64)).toArray ++ Builtin.zeroCells (Value.int .i64 0).cells k ++ Builtin.zeroCells (Value.int .i64 0).cells (grownCap w (l.length+k) I 3 - (l.length+k))) 3)) B
    (.slice (some ⟨w.heap.size,0,none⟩) (l.length+k) (grownCap w (l.length+k) I 3)) (l ++ List.replicate k 0) ∧
   w.grownBy (w.drew.alloc (.cells ((l.map (Value.int .i64)).toArray ++ Builtin.zeroCells (Value.int .i64 0).cells k ++ Builtin.zeroCells (Value.int .i64 0).cells (grownCap w (l.length+k) I 3 - (l.length+k))) 3)) row:=by
  intro I ho row;have az:=grownCap_ge w (l.length+k) I 3;have ai:grownCap w (l.length+k) I 3≤maxLen:=grownCap_le_maxLen w (l.length+k) I 3 (by unfold maxLen;omega);refine⟨⟨by simp,.inr ⟨w.heap.size,_,_,by rw[T],hB,heap_alloc_new w.drew _,by rw[T];exact az,ai,?_,?_⟩⟩,⟨rfl,rfl,rfl,by simp,fun j O _=>(heap_alloc_old w.drew _ O)⟩⟩
  ·simp only[Array.size_append,List.size_toArray,size_zeroCells,List.length_map,Value.cells,List.size_toArray,List.length_cons,List.length_nil];simp;omega
  ·rw[QfC k,al,T,Nat.mul_one];simp only[Array.toList_append,List.append_assoc];rw[←List.append_assoc];have:l.length+k=(l.map (Value.int .i64) ++ (List.replicate k (0:Int)).map (Value.int .i64)).length:=by simp
   rw[this];exact List.take_left
 rcases af.2 with ⟨rfl,h1⟩ |⟨g,cap,J,rfl,aG,hg,ap,ai,aH,aI⟩
 ·have aA:l=[]:=List.eq_nil_of_length_eq_zero h1;subst aA;have hr:=Lib.run_append_nil_zeros (P:=Tryz.prog) w 22 3 ty 3 V (.int .i64 0) .i64 .i64 X Y hi aj k ah (by rw[ac];decide) (by omega) (by rw[ad];omega);have U:=am 0 (by simpa using ah) (Value.ownBlock (.slice none 0 0));simp only[List.length_nil,Nat.zero_add,List.nil_append,List.map_nil]at U ⊢;refine⟨_,_,hr,?_,?_,.inr fun j O=>by simp[Value.ownBlock]at O;omega⟩
  ·simpa using U.1
  ·simpa using U.2
 ·by_cases ar:l.length+k≤cap
  ·have an:l.length+0+((List.replicate k (0:Int)).map (Value.int .i64)).length≤J.size:=by rw[aH];simp;omega
   have ao:=run_storeCells_at Tryz.prog g l.length 3 ((List.replicate k (0:Int)).map (Value.int .i64)) 0 J w hg an (by simp[Value.oneCell']);simp only[Nat.add_zero]at ao;have hr:(Builtin.append_ #[22,3] ty #[.slice (some ⟨g,0,none⟩) l.length cap,.int .i64 (k:Int)]).run Tryz.prog w=.ok (.slice (some ⟨g,0,none⟩) (l.length+k) cap) (w.setRow g (J.toList.take l.length ++ (List.replicate k (0:Int)).map (Value.int .i64) ++ J.toList.drop (l.length+((List.replicate k (0:Int)).map (Value.int .i64)).length)).toArray):=by
    simp[Builtin.append_,run_underlying X,run_underlying Y,sizeOf,typeInfo,zeroValue,hi,aj,ac,ad,asInt,asIntOf,hw,aw,ay,h0,ar,Addr.add_lit];rw[if_neg (by omega),QfC];have aB:(storeCells ⟨g,l.length,none⟩ ((List.replicate k (0:Int)).map (Value.int .i64)).toArray.toList 0).run Tryz.prog w=_:=ao;rw[aB];simp
   refine⟨_,_,hr,⟨by simp,.inr ⟨g,cap,_,by rw[T],aG,setRow_heap w g J _ 3 _ hg,by rw[T];exact ar,ai,?_,?_⟩⟩,⟨rfl,rfl,rfl,by simp,fun j _ O=>setRow_other w g j _ (fun e=>O (by simp[Value.ownBlock,e]))⟩,.inl rfl⟩
   ·simp only[List.size_toArray,List.length_append,List.length_take,List.length_drop,Array.length_toList];simp at an ⊢;omega
   ·rw[al,T,Nat.mul_one];have h2:J.toList.take l.length=l.map (Value.int .i64):=by simpa using aI
    rw[h2];have:l.length+k=(l.map (Value.int .i64) ++ (List.replicate k (0:Int)).map (Value.int .i64)).length:=by simp
    rw[this];exact List.take_left
  ·have aD:∀j u,(l.map (Value.int .i64))[j]?=some u→w.drew.cell? ((⟨g,0,none⟩:Addr).add j)=some u:=fun j u h=>(World.ownsRow.cells (g:=g) af rfl) j u h
   have hf:=run_firstCells_some (P:=Tryz.prog) w.drew V.size l.length ⟨g,0,none⟩ l.length cap (l.map (Value.int .i64)) ax aD;have hr:=Lib.run_append_grow_zeros (P:=Tryz.prog) w 22 3 ty 3 V (.int .i64 0) .i64 .i64 X Y hi aj (some ⟨g,0,none⟩) l.length cap (l.map (Value.int .i64)) hf k ah (by rw[ac];decide) (by omega) (by omega) (by rw[ad];omega) (by rw[ad];exact growslice_fits (by omega) (by omega));have U:=am cap (by omega) (Value.ownBlock (.slice (some ⟨g,0,none⟩) l.length cap));exact⟨_,_,hr,U.1,U.2,.inr fun j O=>by simp[Value.ownBlock]at O;omega⟩
theorem Qj6 {w:World} {ops:Array Oper} {o:Oper} {a:Act} {K:Act→World→Prop} {Q:Exit→Act→World→Prop} {E:Prop} (T:o.guard=none)(s x:Operand)
  (U:o.op=.call { callee:=.builtin .append,args:=#[s,x],argTypes:=#[22,3] })
  (B:Nat) (v:Value) (l:List Int) (k:Nat) (O:Own w B v l) (V:a.eval s=v) (X:a.eval x=.int .i64 (k:Int))
  (Y:l.length+k≤1000000) (hB:B≤w.heap.size)
  (h:∀I w',Own w' B I (l ++ List.replicate k 0)→Below B w w'→w.grownBy w' v.ownBlock→(I.ownBlock=v.ownBlock∨(∀j,I.ownBlock=some j→w.heap.size≤j))→K (a.put o.dst I) w') :
  if Region.wanted o (yielded ops a.tmps)=true then Oper.wp Tryz.prog o a w K Q else E:=by
 have hw:Region.wanted o (yielded ops a.tmps)=true:=by simp[Region.wanted,T]
 rw[if_pos hw];obtain⟨I,w',ac,h2,J,ae⟩:=Qq8 o.type B v l k O Y hB;unfold Oper.wp execOp;simp only[U,resolve,invoke,builtin,Sem.run_bind,Sem.run_pure,Result.andThen_ok,List.map_toArray,List.map_cons,List.map_nil,V,X,ac];exact h I w' h2 ⟨J.os,J.tape,J.output,J.size,fun j hj=>J.block j (by omega) (fun e=>by have:=(O.lt j e.symm).1;omega)⟩ J ae
end
section
open Go.ChangeShapes Go.WideShapes Go.ChangeAt Go.Joins
def Qwz : OpenClaim := { program := "",sum := "",func := "",spec := "",unfollowed := true,recurses := true,apart := false }
theorem Qi5:(Tryz.prog.mayEnter&&(Qwz.lifted==Tryz.prog.liftsFinal)&&(Tryz.prog.make==some Qwz.make))=true:=by kernel_rfl
theorem Qni:Tryz.prog.mayEnter=true:=by
 have h:=Qi5;simp only[Bool.and_eq_true]at h;exact h.1.1
theorem Qo5:(Qwz.lifted==Tryz.prog.liftsFinal)=true:=by
 have h:=Qi5;simp only[Bool.and_eq_true]at h;exact h.1.2
theorem Qo6:(Tryz.prog.make==some Qwz.make)=true:=by
 have h:=Qi5;simp only[Bool.and_eq_true]at h;exact h.2
end
end Go.Proofs

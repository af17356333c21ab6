/- Boxes of several cells, as lists of values. -/
import Derived.Test.YtogfekjbpcfgmaaGreatZtkEmbT
set_option maxRecDepth 100000
set_option maxHeartbeats 16000000
set_option linter.unusedVariables false
set_option linter.unusedSimpArgs false
namespace Go.Proofs
open Go.RowKit Cw
section
def Bxs (w:World)(b:Nat)(vs:List Value):Prop:=∀i v,vs[i]?=some v→w.cell? ⟨b,i,none⟩=some v∧w.frozen? ⟨b,i,none⟩=false
section
variable {w w1:World} {b B:Nat} {vs:List Value}
theorem Bxs.keep (h:Bxs w b vs)(I:Below B w w1)(J:b<B):Bxs w1 b vs:=fun i v e=>⟨(I.cell (p:=⟨b,i,none⟩) J).trans (h i v e).1,(I.frozen (p:=⟨b,i,none⟩) J).trans (h i v e).2⟩
theorem Bxs.new (w:World)(vs:List Value)(t:TypeId):Bxs (w.alloc (.cells vs.toArray t)) w.heap.size vs:=fun i v e=>by
 have h:(w.alloc (.cells vs.toArray t)).heap[w.heap.size]?=some (.cells vs.toArray t (0,0)):=heap_alloc_new w (.cells vs.toArray t);refine⟨?_,?_⟩
 ·unfold World.cell?;rw[h]
  simpa using e
 ·unfold World.frozen?;rw[h];simp
theorem Bxs.drew (h:Bxs w b vs):Bxs w.drew b vs:=h
theorem Bxs.far (h:Bxs w b vs){g:Nat} (I:g≠b)(j:Nat)(u:Value):Bxs (w.setCell ⟨g,j,none⟩ u) b vs:=fun i v e=>⟨(World.cell?_setCell_far _ _ _ _ I).trans (h i v e).1,by have:=(h i v e).2;simp[go_sem,this]⟩
theorem Bxs.set_ (h:Bxs w b vs){j:Nat} (I:j<vs.length)(u:Value):Bxs (w.setCell ⟨b,j,none⟩ u) b (vs.set j u):=fun i v e=>by
 by_cases g:i=j
 ·subst g;rw[List.getElem?_set_self I]at e
  cases e
  have h0:=h i _ (List.getElem?_eq_getElem I);exact⟨World.cell?_setCell_same _ _ _ h0.1,by have:=h0.2;simp[go_sem,this]⟩
 ·rw[List.getElem?_set_ne (fun J=>g J.symm)]at e;have h0:=h i v e;exact⟨(QdK g).trans h0.1,by have:=h0.2;simp[go_sem,this]⟩
def Qbh:World→Nat→Nat→List Value→World
 |w,_,_,[]=>w
 |w,b,i,u :: us=>Qbh (w.setCell ⟨b,i,none⟩ u) b (i+1) us
theorem stAll_below {a:World} (I:B≤b):∀ (us:List Value) (i:Nat) (w:World),Below B a w→Below B a (Qbh w b i us)
 | [],_,_,h=>h
 |u :: us,i,_,h=>stAll_below I us (i+1) _ (h.setCell (p:=⟨b,i,none⟩) I u)
theorem Qbv:∀ (us:List Value) (i:Nat) (w:World),(Qbh w b i us).heap.size=w.heap.size
 | [],_,_=>rfl
 |_ :: us,i,_=>(Qbv us (i+1) _).trans (by simp[World.setCell])
theorem Qbp {p:Addr} (hp:b≠p.block):∀ (us:List Value) (i:Nat) (w:World),(Qbh w b i us).cell? p=w.cell? p
 | [],_,_=>rfl
 |_ :: us,i,_=>(Qbp hp us (i+1) _).trans (World.cell?_setCell_far _ _ _ _ hp)
theorem QjD {x:Nat} (I:x≠b):∀ (us:List Value) (i:Nat) (w:World),(Qbh w b i us).heap[x]?=w.heap[x]?
 | [],_,_=>rfl
 |u :: us,i,w=>(QjD I us (i+1) _).trans (Below.heap_setCell w ⟨b,i,none⟩ u x I)
theorem Bxs.farS {g:Nat} (I:g≠b):∀ (us:List Value) (i:Nat) {w:World},Bxs w b vs→Bxs (Qbh w g i us) b vs
 | [],_,_,h=>h
 |u :: us,i,_,h=>Bxs.farS I us (i+1) (h.far I i u)
theorem Bxs.storeAt:∀ (us vs:List Value) (i:Nat) {w:World},Bxs w b vs→vs.length=i+us.length→Bxs (Qbh w b i us) b (vs.take i ++ us)
 | [],vs,i,_,h,hl=>by
  have e:vs.take i ++ []=vs:=by rw[List.append_nil];exact List.take_of_length_le (by simp at hl;omega)
  rw[e];exact h
 |u :: us,vs,i,w,h,hl=>by
  rw[List.length_cons]at hl;have I:=Bxs.storeAt us (vs.set i u) (i+1) (h.set_ (show i<vs.length by omega) u) (by rw[List.length_set];omega);have e:(vs.set i u).take (i+1)=vs.take i ++ [u]:=by
   rw[List.take_add_one,List.take_set_of_le ρ,List.getElem?_set_self (by omega)];rfl
  rw[e,List.append_assoc]at I;exact I
theorem Bxs.store (h:Bxs w b vs)(us:List Value)(J:vs.length=us.length):Bxs (Qbh w b 0 us) b us:=by
 have I:=Bxs.storeAt us vs 0 h (by omega);exact I
theorem Rd.farS {L:Nat} {A:Option Addr} {l:List Int} (h:Rd w L A l)(J:∀a,A=some a→a.block≠b)(us:List Value)(i:Nat):Rd (Qbh w b i us) L A l:=fun U=>by
 obtain⟨x,I,e,O,T⟩:=h U;refine⟨x,I,e,O,fun j V=>?_⟩;rw[Qbp (p:=⟨x,I+j,none⟩) (fun X=>J _ e X.symm)];exact T j V
end
section
variable {w:World} {b:Nat}
theorem Bxs.c2 {I v1:Value} (h:Bxs w b [I,v1]):w.cell? ⟨b,0,none⟩=some I∧w.cell? ⟨b,1,none⟩=some v1:=⟨(h 0 _ rfl).1,(h 1 _ rfl).1⟩
theorem Bxs.f2 {I v1:Value} (h:Bxs w b [I,v1]):w.frozen? ⟨b,0,none⟩=false∧w.frozen? ⟨b,1,none⟩=false:=⟨(h 0 _ rfl).2,(h 1 _ rfl).2⟩
theorem Bxs.c3 {I v1 v2:Value} (h:Bxs w b [I,v1,v2]):w.cell? ⟨b,0,none⟩=some I∧w.cell? ⟨b,1,none⟩=some v1∧w.cell? ⟨b,2,none⟩=some v2:=⟨(h 0 _ rfl).1,(h 1 _ rfl).1,(h 2 _ rfl).1⟩
theorem Bxs.c5 {I v1 v2 J O:Value} (h:Bxs w b [I,v1,v2,J,O]):w.cell? ⟨b,0,none⟩=some I∧w.cell? ⟨b,1,none⟩=some v1∧w.cell? ⟨b,2,none⟩=some v2∧w.cell? ⟨b,3,none⟩=some J∧w.cell? ⟨b,4,none⟩=some O:=⟨(h 0 _ rfl).1,(h 1 _ rfl).1,(h 2 _ rfl).1,(h 3 _ rfl).1,(h 4 _ rfl).1⟩
theorem Bxs.f5 {I v1 v2 J O:Value} (h:Bxs w b [I,v1,v2,J,O]):w.frozen? ⟨b,0,none⟩=false∧w.frozen? ⟨b,1,none⟩=false∧w.frozen? ⟨b,2,none⟩=false∧w.frozen? ⟨b,3,none⟩=false∧w.frozen? ⟨b,4,none⟩=false:=⟨(h 0 _ rfl).2,(h 1 _ rfl).2,(h 2 _ rfl).2,(h 3 _ rfl).2,(h 4 _ rfl).2⟩
theorem Bxs.c6 {I v1 v2 J O T:Value} (h:Bxs w b [I,v1,v2,J,O,T]):w.cell? ⟨b,0,none⟩=some I∧w.cell? ⟨b,1,none⟩=some v1∧w.cell? ⟨b,2,none⟩=some v2∧w.cell? ⟨b,3,none⟩=some J∧w.cell? ⟨b,4,none⟩=some O∧w.cell? ⟨b,5,none⟩=some T:=⟨(h 0 _ rfl).1,(h 1 _ rfl).1,(h 2 _ rfl).1,(h 3 _ rfl).1,(h 4 _ rfl).1,(h 5 _ rfl).1⟩
theorem Bxs.f6 {I v1 v2 J O T:Value} (h:Bxs w b [I,v1,v2,J,O,T]):w.frozen? ⟨b,0,none⟩=false∧w.frozen? ⟨b,1,none⟩=false∧w.frozen? ⟨b,2,none⟩=false∧w.frozen? ⟨b,3,none⟩=false∧w.frozen? ⟨b,4,none⟩=false∧w.frozen? ⟨b,5,none⟩=false:=⟨(h 0 _ rfl).2,(h 1 _ rfl).2,(h 2 _ rfl).2,(h 3 _ rfl).2,(h 4 _ rfl).2,(h 5 _ rfl).2⟩
theorem Bxs.c7 {I v1 v2 J O T U:Value} (h:Bxs w b [I,v1,v2,J,O,T,U]):w.cell? ⟨b,0,none⟩=some I∧w.cell? ⟨b,1,none⟩=some v1∧w.cell? ⟨b,2,none⟩=some v2∧w.cell? ⟨b,3,none⟩=some J∧w.cell? ⟨b,4,none⟩=some O∧w.cell? ⟨b,5,none⟩=some T∧w.cell? ⟨b,6,none⟩=some U:=⟨(h 0 _ rfl).1,(h 1 _ rfl).1,(h 2 _ rfl).1,(h 3 _ rfl).1,(h 4 _ rfl).1,(h 5 _ rfl).1,(h 6 _ rfl).1⟩
theorem Bxs.f7 {I v1 v2 J O T U:Value} (h:Bxs w b [I,v1,v2,J,O,T,U]):w.frozen? ⟨b,0,none⟩=false∧w.frozen? ⟨b,1,none⟩=false∧w.frozen? ⟨b,2,none⟩=false∧w.frozen? ⟨b,3,none⟩=false∧w.frozen? ⟨b,4,none⟩=false∧w.frozen? ⟨b,5,none⟩=false∧w.frozen? ⟨b,6,none⟩=false:=⟨(h 0 _ rfl).2,(h 1 _ rfl).2,(h 2 _ rfl).2,(h 3 _ rfl).2,(h 4 _ rfl).2,(h 5 _ rfl).2,(h 6 _ rfl).2⟩
theorem Bxs.c8 {I v1 v2 J O T U V:Value} (h:Bxs w b [I,v1,v2,J,O,T,U,V]):w.cell? ⟨b,0,none⟩=some I∧w.cell? ⟨b,1,none⟩=some v1∧w.cell? ⟨b,2,none⟩=some v2∧w.cell? ⟨b,3,none⟩=some J∧w.cell? ⟨b,4,none⟩=some O∧w.cell? ⟨b,5,none⟩=some T∧w.cell? ⟨b,6,none⟩=some U∧w.cell? ⟨b,7,none⟩=some V:=⟨(h 0 _ rfl).1,(h 1 _ rfl).1,(h 2 _ rfl).1,(h 3 _ rfl).1,(h 4 _ rfl).1,(h 5 _ rfl).1,(h 6 _ rfl).1,(h 7 _ rfl).1⟩
theorem Bxs.f8 {I v1 v2 J O T U V:Value} (h:Bxs w b [I,v1,v2,J,O,T,U,V]):w.frozen? ⟨b,0,none⟩=false∧w.frozen? ⟨b,1,none⟩=false∧w.frozen? ⟨b,2,none⟩=false∧w.frozen? ⟨b,3,none⟩=false∧w.frozen? ⟨b,4,none⟩=false∧w.frozen? ⟨b,5,none⟩=false∧w.frozen? ⟨b,6,none⟩=false∧w.frozen? ⟨b,7,none⟩=false:=⟨(h 0 _ rfl).2,(h 1 _ rfl).2,(h 2 _ rfl).2,(h 3 _ rfl).2,(h 4 _ rfl).2,(h 5 _ rfl).2,(h 6 _ rfl).2,(h 7 _ rfl).2⟩
end
theorem Qap {w:World} {p:Addr} {v:Value} (h:w.cell? p=some v)(o:Obj):(w.alloc o).cell? p=some v:=by
 have I:p.block<w.heap.size:=by
  refine Classical.byContradiction fun J=>?_
  unfold World.cell? at h;rw[Array.getElem?_eq_none (by omega)]at h
  cases h
 exact (((Below.refl w.heap.size w).alloc ρ o).cell I).trans h
theorem GF.al {w:World} {B g:Nat} {D:FD} (h:GF w B g D)(I:B≤w.heap.size)(o:Obj):GF (w.alloc o) B g D:=h.below ((Below.refl w.heap.size w |>.alloc ρ o).mono I)
theorem QbF (w:World)(q:Nat)(vs:List Value)(t:TypeId):Bxs ((w.alloc (.cells (Array.replicate q (Value.int .i64 0)) 3)).alloc (.cells vs.toArray t)) (w.heap.size+1) vs∧IB ((w.alloc (.cells (Array.replicate q (Value.int .i64 0)) 3)).alloc (.cells vs.toArray t)) w.heap.size (List.replicate q 0)∧w.heap.size+1<((w.alloc (.cells (Array.replicate q (Value.int .i64 0)) 3)).alloc (.cells vs.toArray t)).heap.size∧Below w.heap.size w ((w.alloc (.cells (Array.replicate q (Value.int .i64 0)) 3)).alloc (.cells vs.toArray t)):=by
 refine⟨?_,(IB.newz w q).alloc _,by simp,(β).alloc (by simp) _⟩;have h:=Bxs.new (w.alloc (.cells (Array.replicate q (Value.int .i64 0)) 3)) vs t
 rwa [World.size_alloc]at h
theorem QbG (w:World)(q:Nat)(vs:List Value)(t:TypeId):Bxs ((w.alloc (.cells vs.toArray t)).alloc (.cells (Array.replicate q (Value.int .i64 0)) 3)) w.heap.size vs∧IB ((w.alloc (.cells vs.toArray t)).alloc (.cells (Array.replicate q (Value.int .i64 0)) 3)) (w.heap.size+1) (List.replicate q 0)∧w.heap.size+1<((w.alloc (.cells vs.toArray t)).alloc (.cells (Array.replicate q (Value.int .i64 0)) 3)).heap.size∧Below w.heap.size w ((w.alloc (.cells vs.toArray t)).alloc (.cells (Array.replicate q (Value.int .i64 0)) 3)):=by
 refine⟨(Bxs.new w vs t).keep (β) (by simp),?_,by simp,(β).alloc (by simp) _⟩;have h:=IB.newz (w.alloc (.cells vs.toArray t)) q
 rwa [World.size_alloc]at h
end
section
theorem QiM {D:Desc} {l:List Int} {K J:Int} (O:J≠0)(h:Qb1 D l K J=0):(l.length:Int)=K∧elB D l=true:=by
 unfold Qb1 at h;by_cases I:(l.length:Int)≠K
 ·rw[if_pos I]at h;exact absurd h O
 ·rw[if_neg I]at h;refine⟨Classical.not_not.1 I,?_⟩
  cases T:elB D l with
  |true=>rfl
  |false=>rw[T,if_pos rfl]at h;cases h
def Qsn (S:FD)(N k:Nat)(C:Nat→Nat→R S.z)(u:Nat→R S.z)(er:List Int)(t ec:Int)(la lb:List Int):Prop :=
 (ec=12∧la=[]∧lb=[]∧∀I,Qb2 k N C I→t<((Qbu (QaK S.z N I) (QaK S.z N u) er N).length:Int)) ∨
 (ec=0∧∃v,la=QaK S.z N v∧lb=Qbu (QaK S.z N v) (QaK S.z N u) er N∧Qb2 k N C v∧((Qbu (QaK S.z N v) (QaK S.z N u) er N).length:Int)≤t ∧
  ∀I,Qb2 k N C I→((Qbu (QaK S.z N I) (QaK S.z N u) er N).length:Int)≤t→QaK S.z N v=QaK S.z N I)
theorem QkS (S:FD)(N k:Nat)(C:Nat→Nat→R S.z)(ac:VC S.p S.m N (Qan S.z) k (Qaw S.z N C) S N C)(u:Nat→R S.z)(J er la lb:List Int)(t ec:Int)(A3 Rc Am Aw Ae Aa Ab:Option Addr)(c3 kr cm cw ce ca cb:Nat)(w:World)(bs:Qsn S N k C u er t ec la lb)
  (a6:Rd w w.heap.size A3 (Qan S.z)) (a7:RdM w w.heap.size Rc k (Qaw S.z N C)) (a2:Rd w w.heap.size Am J) (bl:J.length≤maxLen) (a8:Rd w w.heap.size Aw (QaK S.z N u)) (a9:Rd w w.heap.size Ae er) (ba:er.length≤1000000) (bb:Rd w w.heap.size Aa la) (bt:Rd w w.heap.size Ab lb) :
  Calls Tryz.prog 25 #[.agg #[.int .i64 S.p,.int .i64 S.m,.slice A3 S.mod.length c3,.int .i64 N,.slice Rc k kr],.agg #[.slice Am J.length cm,.slice Aw N cw,.slice Ae er.length ce],.agg #[.slice Aa la.length ca,.slice Ab lb.length cb],.int .i64 ec,.int .i64 t] w fun e w'=>e=.returned (.bool true)∧Below w.heap.size w w':=by
 have bD:=ac.le;have bE:=ac.m64;obtain⟨s,hs⟩:=ε (w.heap.size);obtain⟨Z,hZ⟩:=ε (((w.alloc (.cells #[.int .i64 S.p,.int .i64 S.m,.slice A3 S.mod.length c3,.int .i64 N,.slice Rc k kr] 27)).alloc (.cells #[.slice Am J.length cm,.slice Aw N cw,.slice Ae er.length ce] 48)).alloc (.cells #[.slice Aa la.length ca,.slice Ab lb.length cb] 52));have X:Below w.heap.size w Z:=by rw[hZ];exact ((β).alloc (by simp) _).alloc (by simp;omega) _
 have bm:Z.heap.size=s+1+1+1:=by rw[hZ,hs];simp
 have aU:Hid (Bxs Z s [.int .i64 S.p,.int .i64 S.m,.slice A3 S.mod.length c3,.int .i64 N,.slice Rc k kr]):=by rw[hZ,hs];exact ((Bxs.new w _ _).keep (β) (by simp)).keep (β) (by simp;omega)
 have aM:Hid (Bxs Z (s+1) [.slice Am J.length cm,.slice Aw N cw,.slice Ae er.length ce]):=by
  rw[hZ,hs];have h9:=Bxs.new (w.alloc (.cells #[.int .i64 S.p,.int .i64 S.m,.slice A3 S.mod.length c3,.int .i64 N,.slice Rc k kr] 27)) [.slice Am J.length cm,.slice Aw N cw,.slice Ae er.length ce] 48;rw[World.size_alloc]at h9;exact h9.keep (β) (by simp)
 have ay:Hid (Bxs Z (s+1+1) [.slice Aa la.length ca,.slice Ab lb.length cb]):=by
  rw[hZ,hs];have h9:=Bxs.new ((w.alloc (.cells #[.int .i64 S.p,.int .i64 S.m,.slice A3 S.mod.length c3,.int .i64 N,.slice Rc k kr] 27)).alloc (.cells #[.slice Am J.length cm,.slice Aw N cw,.slice Ae er.length ce] 48)) [.slice Aa la.length ca,.slice Ab lb.length cb] 52;rw[World.size_alloc,World.size_alloc]at h9;exact h9
 have bF:s+1+1<Z.heap.size:=by omega
 have a3:Below Z.heap.size Z Z:=κ;replace hZ:=η hZ;replace bm:=η bm;rcases bs with ⟨rfl,rfl,rfl,bc⟩ |⟨rfl,v,rfl,rfl,bA,bB,bC⟩
 ·replace bc:∀O,Qb2 k N C O→t<((Qbu (QaK S.z N O) (QaK S.z N u) er N).length:Int):=bc;rw[show ([]:List Int).length=0 from rfl]at ay hZ ⊢;go_enter Tryz.func25,Tryz.ntmps25;obtain⟨z0,z1⟩:=ay.out.c2;have I:=η (Qfp S.z J (k:Int) 3 A3 Am c3 cm Z (a2.bm X) bl);obtain⟨x0,U,V,x3,x4⟩:=(aU.out.keep a3 (by omega)).c5;obtain⟨y0,y1,y2⟩:=(aM.out.keep a3 (by omega)).c3;go_wp2_with fail;rw[←hZ.out];simp only[←hs];have bu:w.heap.size≤s:=Nat.le_of_eq hs.symm;replace hs:=η hs;by_cases Y:Qb1 S.z J (k:Int) 3=0;rotate_left
  ·have be:(Qb1 S.z J (k:Int) 3 !=0)=true:=by rw[bne_iff_ne];exact Y
   replace Y:=η Y;go_wp2_with fail;(with_reducible refine I.out.mono ?_);rintro e wa ⟨rfl,aE⟩;have az:=η (ζ X aE);go_wp2_with fail;go_ret;exact⟨rfl,az.out⟩
  have be:(Qb1 S.z J (k:Int) 3 !=0)=false:=by rw[bne_eq_false_iff_eq];exact Y
  obtain⟨aW,bj⟩:=QiM (by decide) Y;have aA:J.length=k:=by omega
  obtain⟨gm,aO⟩:∃gm:Nat→R S.z,gm=fun j=>eli S.z (J[j]?.getD 0):=⟨_,rfl⟩
  have aN:J=QaK S.z k gm:=by rw[aO,←aA];exact QfN bj
  have bf:Rd w w.heap.size Am (QaK S.z k gm):=by rw[←aN];exact a2
  obtain⟨O,aC⟩:∃O:Nat→R S.z,O=cmb k gm C:=⟨_,rfl⟩;have bg:Qb2 k N C O:=by rw[aC];exact⟨gm,fun j _=>rfl⟩
  replace Y:=η Y;replace aW:=η aW;replace aA:=η aA;replace aO:=η aO;replace aN:=η aN;go_wp2_with fail;(with_reducible refine I.out.mono ?_);rintro e wa ⟨rfl,aE⟩;clear I x0 U V x3 x4 y0 y1 y2;have aB:=ζ a3 aE;have T:=ζ X aE;have I:=QhO S ac.good k N C ac.can A3 Rc c3 kr gm Am cm wa (a6.bm T) (a7.bm T) (by omega) ac.m1 ac.m64 (bf.bm T);rw[←aC]at I;replace I:Calls Tryz.prog 77 #[.agg #[.int .i64 S.p,.int .i64 S.m,.slice A3 S.mod.length c3,.int .i64 N,.slice Rc k kr],.slice Am J.length cm] wa fun e w'=>∃A2 c2,e=.returned (.tuple #[.slice A2 N c2,.int .i64 0])∧Rd w' w'.heap.size A2 (QaK S.z N O)∧(∀a,A2=some a→wa.heap.size≤a.block)∧Below wa.heap.size wa w':=by rw[aA.out];exact I
  replace I:=η I;replace aC:=η aC;obtain⟨x0,U,V,x3,x4⟩:=(aU.out.keep aB (by omega)).c5;obtain⟨y0,y1,y2⟩:=(aM.out.keep aB (by omega)).c3;go_wp2_with fail;(with_reducible refine I.out.mono ?_);rintro e wb ⟨A2,c2,rfl,a5,-,a0⟩;clear I x0 U V x3 x4 y0 y1 y2;have aP:=ζ aB a0;have aa:=ζ T a0;have I:=η (QeG N (QaK S.z N O) (QaK S.z N u) er ac.m64 (Qae _ _ _) (Qae _ _ _) ba A2 Aw Ae c2 cw ce wb a5 (a8.bm aa) (a9.bm aa));obtain⟨y0,y1,y2⟩:=(aM.out.keep aP (by omega)).c3;obtain⟨z0,z1⟩:=(ay.out.keep aP (by omega)).c2;obtain⟨ne,ar⟩:=ε ((Qbu (QaK S.z N O) (QaK S.z N u) er N).length);rw[←ar]at I;have aR:t<(ne:Int):=by rw[ar];exact bc O bg
  have bo:decide (t<(ne:Int))=true:=decide_eq_true aR;replace ar:=η ar;go_wp2_with fail;(with_reducible refine I.out.mono ?_);rintro e wc ⟨A9,c9,rfl,br,aL⟩;have az:=η (ζ aa aL);go_wp2_with fail;go_ret;exact⟨rfl,az.out⟩
 have bG:(Qbu (QaK S.z N v) (QaK S.z N u) er N).length≤1000000:=by have:=QhI (QaK S.z N v) (QaK S.z N u) er N;omega
 have aX:=Qr7 ac v A3 Rc Aa c3 kr ca Z (a6.bm X) (a7.bm X) (bb.bm X);rw[Qp7.2 bA,Qaf]at aX;replace aX:=η aX;have aS:(QaK S.z N v).length=N:=Qae _ _ _;rw[aS]at ay hZ ⊢;obtain⟨nb,bh⟩:=ε ((Qbu (QaK S.z N v) (QaK S.z N u) er N).length);have aY:=fun W U V x3 x4=>Qoe N (QaK S.z N v) (QaK S.z N u) er t ac.m64 aS (Qae _ _ _) ba bB Aa Ab Aw Ae ca cb cw ce W U V x3 x4
 rw[←bh]at ay hZ aY ⊢;replace aY:=fun W U V x3 x4=>η (aY W U V x3 x4)
 replace bh:=η bh;replace aS:=η aS;go_enter Tryz.func25,Tryz.ntmps25;obtain⟨x0,U,V,x3,x4⟩:=aU.out.c5;obtain⟨z0,z1⟩:=ay.out.c2;go_wp2_with fail;rw[←hZ.out];simp only[←hs];have bu:w.heap.size≤s:=Nat.le_of_eq hs.symm;replace hs:=η hs;go_wp2_with fail;(with_reducible refine aX.out.mono ?_);rintro e w1 ⟨rfl,a1⟩;clear aX x0 U V x3 x4 z0 z1;have aI:=ζ X a1;have I:=aY w1 (bb.bm aI) (bt.bm aI) (a8.bm aI) (a9.bm aI);obtain⟨y0,y1,y2⟩:=(aM.out.keep a1 (by omega)).c3;obtain⟨z0,z1⟩:=(ay.out.keep a1 (by omega)).c2;clear aY;go_wp2_with fail;(with_reducible refine I.out.mono ?_);rintro e w2 ⟨rfl,bx⟩;clear I y0 y1 y2 z0 z1;have aZ:=ζ a1 bx;have aT:=ζ X aZ;have I:=η (Qfp S.z J (k:Int) 3 A3 Am c3 cm w2 (a2.bm aT) bl);obtain⟨x0,U,V,x3,x4⟩:=(aU.out.keep aZ (by omega)).c5;obtain⟨y0,y1,y2⟩:=(aM.out.keep aZ (by omega)).c3;by_cases Y:Qb1 S.z J (k:Int) 3=0;rotate_left
 ·have be:(Qb1 S.z J (k:Int) 3 !=0)=true:=by rw[bne_iff_ne];exact Y
  replace Y:=η Y;go_wp2_with fail;(with_reducible refine I.out.mono ?_);rintro e wa ⟨rfl,aE⟩;have az:=η (ζ aT aE);go_wp2_with fail;go_ret;exact⟨rfl,az.out⟩
 have be:(Qb1 S.z J (k:Int) 3 !=0)=false:=by rw[bne_eq_false_iff_eq];exact Y
 obtain⟨aW,bj⟩:=QiM (by decide) Y;have aA:J.length=k:=by omega
 obtain⟨gm,aO⟩:∃gm:Nat→R S.z,gm=fun j=>eli S.z (J[j]?.getD 0):=⟨_,rfl⟩
 have aN:J=QaK S.z k gm:=by rw[aO,←aA];exact QfN bj
 have bf:Rd w w.heap.size Am (QaK S.z k gm):=by rw[←aN];exact a2
 obtain⟨O,aC⟩:∃O:Nat→R S.z,O=cmb k gm C:=⟨_,rfl⟩;have bg:Qb2 k N C O:=by rw[aC];exact⟨gm,fun j _=>rfl⟩
 replace Y:=η Y;replace aW:=η aW;replace aA:=η aA;replace aO:=η aO;replace aN:=η aN;go_wp2_with fail;(with_reducible refine I.out.mono ?_);rintro e wa ⟨rfl,aE⟩;clear I x0 U V x3 x4 y0 y1 y2;have aB:=ζ aZ aE;have T:=ζ aT aE;have I:=QhO S ac.good k N C ac.can A3 Rc c3 kr gm Am cm wa (a6.bm T) (a7.bm T) (by omega) ac.m1 ac.m64 (bf.bm T);rw[←aC]at I;replace I:Calls Tryz.prog 77 #[.agg #[.int .i64 S.p,.int .i64 S.m,.slice A3 S.mod.length c3,.int .i64 N,.slice Rc k kr],.slice Am J.length cm] wa fun e w'=>∃A2 c2,e=.returned (.tuple #[.slice A2 N c2,.int .i64 0])∧Rd w' w'.heap.size A2 (QaK S.z N O)∧(∀a,A2=some a→wa.heap.size≤a.block)∧Below wa.heap.size wa w':=by rw[aA.out];exact I
 replace I:=η I;replace aC:=η aC;obtain⟨x0,U,V,x3,x4⟩:=(aU.out.keep aB (by omega)).c5;obtain⟨y0,y1,y2⟩:=(aM.out.keep aB (by omega)).c3;go_wp2_with fail;(with_reducible refine I.out.mono ?_);rintro e wb ⟨A2,c2,rfl,a5,-,a0⟩;clear I x0 U V x3 x4 y0 y1 y2;have aP:=ζ aB a0;have aa:=ζ T a0;have I:=η (QeG N (QaK S.z N O) (QaK S.z N u) er ac.m64 (Qae _ _ _) (Qae _ _ _) ba A2 Aw Ae c2 cw ce wb a5 (a8.bm aa) (a9.bm aa));obtain⟨y0,y1,y2⟩:=(aM.out.keep aP (by omega)).c3;obtain⟨z0,z1⟩:=(ay.out.keep aP (by omega)).c2;obtain⟨ne,ar⟩:=ε ((Qbu (QaK S.z N O) (QaK S.z N u) er N).length);rw[←ar]at I;have aQ:=fun W U V=>QiK (QaK S.z N v) (QaK S.z N O) Aa A2 ca c2 W U V (by rw[aS.out];omega) (by rw[Qae];omega)
 rw[aS.out,Qae]at aQ;by_cases aR:t<(ne:Int)
 ·have bo:decide (t<(ne:Int))=true:=decide_eq_true aR;replace ar:=η ar;clear aQ;go_wp2_with fail;(with_reducible refine I.out.mono ?_);rintro e wc ⟨A9,c9,rfl,br,aL⟩;have az:=η (ζ aa aL);go_wp2_with fail;go_ret;exact⟨rfl,az.out⟩
 have bo:decide (t<(ne:Int))=false:=decide_eq_false aR;have bi:QaK S.z N v=QaK S.z N O:=bC O bg (by rw[←ar];omega);rw[show decide (QaK S.z N v=QaK S.z N O)=true from decide_eq_true bi]at aQ;replace aQ:=fun W U V=>η (aQ W U V)
 replace ar:=η ar;replace bi:=η bi;replace aR:=η aR;go_wp2_with fail;(with_reducible refine I.out.mono ?_);rintro e wc ⟨A9,c9,rfl,br,aL⟩;clear I y0 y1 y2 z0 z1;have bv:=ζ aP aL;have a4:=ζ aa aL;have I:=aQ wc (bb.bm a4) (a5.bm aL);obtain⟨z0,z1⟩:=(ay.out.keep bv (by omega)).c2;clear aQ;go_wp2_with fail;(with_reducible refine I.out.mono ?_);rintro e wd ⟨rfl,bz⟩;have az:=η (ζ a4 bz);go_wp2_with fail;go_ret;exact⟨rfl,az.out⟩
end
section
def BkI (S F:FD)(r:R F.z)(z:Int)(k:Nat)(L:List Int):Prop :=
 L.length=F.q∧∀y,y<F.q→(∀x,x<k→QaA (phi S F r (rel S.z x))=y→L[y]?.getD 0=(x:Int))∧((∀x,x<k→QaA (phi S F r (rel S.z x))≠y)→L[y]?.getD 0=z)
noncomputable def Qqv (S F:FD)(r:R F.z):List Int:=lst F.q fun y=>ci (bk S F r (rel F.z y))
section
variable {S F:FD} {r:R F.z} {z:Int} {k:Nat} {L:List Int}
theorem BkI.zero (S F:FD)(r:R F.z)(z:Int):BkI S F r z 0 (List.replicate F.q z) :=
 ⟨List.length_replicate ..,fun y I=>⟨fun x J=>absurd J (Nat.not_lt_zero _),fun _=>by rw[List.getElem?_replicate,if_pos I];rfl⟩⟩
theorem BkI.step (hp:S.p=F.p)(h0:muV S F r=0)(h:BkI S F r z k L)(U:k<S.q):BkI S F r z (k+1) (L.set (QaA (phi S F r (rel S.z k))) (k:Int)):=by
 obtain⟨V,X⟩:=h;refine⟨by rw[List.length_set,V],fun y hy=>?_⟩;by_cases e:QaA (phi S F r (rel S.z k))=y
 ·subst e;rw[List.getElem?_set_self (by omega)];refine⟨fun x T I=>?_,fun J=>absurd rfl (J k (Nat.lt_succ_self k))⟩;have O:=congrArg QaA (Qfc (Qc0 hp) h0 (Qbf I));rw[QbA (by omega),QbA U]at O;subst O;rfl
 ·rw[List.getElem?_set_ne e];obtain⟨Y,g2⟩:=X y hy;refine⟨fun x T I=>?_,fun J=>g2 fun x T=>J x (by omega)⟩;by_cases e3:x=k
  ·subst e3;exact absurd I e
  ·exact Y x (by omega) I
theorem BkI.done (hp:S.p=F.p)(h0:muV S F r=0)(h:BkI S F r 0 S.q L):L=Qqv S F r:=by
 obtain⟨X,Y⟩:=h;apply List.ext_getElem
 ·rw[X];exact (Qab _ _).symm
 ·intro y aa ab;have I:y<F.q:=by omega
  obtain⟨O,T⟩:=Y y I;have V:(Qqv S F r)[y]=ci (bk S F r (rel F.z y)):=by
   have J:(Qqv S F r)[y]?.getD 0=ci (bk S F r (rel F.z y)):=Qas _ I;rw[List.getElem?_eq_getElem ab]at J;exact J
  rw[V];rw[List.getElem?_eq_getElem aa]at O T;by_cases e:∃u,phi S F r u=rel F.z y
  ·obtain⟨u,U⟩:=e;rw[←U,Qtd hp h0];refine O (QaA u) (QaM u) ?_;rw[QaT,U,QbA I]
  ·rw[Qtf e,QaF];refine T fun x _ e2=>e ⟨rel S.z x,?_⟩
   rw[←e2,QaT]
end
theorem QuF {F:FD} {d n n':Nat} {u:R F.z} (h:QjN d n fun i=>QaO (d*i) u)(V:d*n=F.m)(X:1≤n)(Y:d∣F.m)(aa:1≤d)(I:Qib d u n'):n'=n:=by
 have J:=I.dvd_M Y;have e:F.m / d=n:=by rw[←V];exact Nat.mul_div_cancel_left _ aa
 rw[e]at J;have h2:=Nat.le_of_dvd X J;refine Classical.byContradiction fun ab=>?_
 have ad:n'<n:=by omega
 have h0:=I.1;have O:=h (fun i=>if i=0 then 1 else if i=n' then -1 else 0) (fun j _=>by
  by_cases T:j=0
  ·rw[if_pos T];exact Qbq.one d
  ·rw[if_neg T];by_cases U:j=n'
   ·rw[if_pos U];exact (Qbq.one d).neg
   ·rw[if_neg U];exact Qbq.zero d) (by
  obtain⟨k,rfl⟩:∃k,n=k+1:=⟨n - 1,by omega⟩;rw[QaE,Qak (k:=n' - 1) (by omega) fun i hi ab=>by rw[if_neg (by omega),if_neg (by omega),Qah]];rw[if_pos rfl,if_neg (by omega),if_pos (by omega),show n' - 1+1=n' by omega];dsimp only;rw[I.2.1,Nat.mul_zero,Qa7,Qav,Qbb,Qav,QaU]) 0 (by omega)
 rw[if_pos rfl]at O;exact QbD O
def QlQ (S F:FD)(rt k0 n:Nat)(A:Option Addr)(c g:Nat)(w:World)(e:Ending)(w':World):Prop :=
 ∃gb Ab cb,e=.returned (.tuple #[.agg #[.int .i64 S.p,.int .i64 S.m,.slice A S.mod.length c,.pointer (some ⟨g,0,none⟩),.slice (some ⟨gb,0,none⟩) F.q F.q,.slice Ab n cb,.int .i64 S.m],.int .i64 0])∧w.heap.size≤gb∧IB w' gb (Qqv S F (rel F.z rt))∧Rd w' w'.heap.size Ab (QcG S.m (eli F.z k0) n)∧(∀a,Ab=some a→w.heap.size≤a.block)∧Below w.heap.size w w'
theorem QuG (S F:FD)(rt k0 n:Nat)(A:Option Addr)(c g:Nat)(w:World)(hg:GF w w.heap.size g F)(hr:Rd w w.heap.size A (Qan S.z))(hS:Qcq S.p S.m (Qan S.z))(hp:S.p=F.p)(hd:Qia F.m S.m=true)(aw:Qjl S F rt)(hn:F.m / S.m=n)(ax:Qhx F S.m n k0) :
  Calls Tryz.prog 178 #[.agg #[.int .i64 S.p,.int .i64 S.m,.slice A S.mod.length c],.pointer (some ⟨g,0,none⟩)] w (QlQ S F rt k0 n A c g w):=by
 obtain⟨d,bl,ar,bm,au⟩:=QeQ hd;obtain rfl:S.m=d:=by omega
 have bM:=F.z.q256;have bN:=S.z.q256;have aG:=fun W a b=>η (QiL S F rt A c g W a b hS hp hd aw)
 have a7:=fun W a=>η (Qlu F S.m n k0 g W a ar au hn ax)
 have a8:=fun W a=>η (QpA F (k0:Int) S.m g W a ar au)
 have aH:S.m*n=F.m:=by rw[←hn];exact Nat.mul_div_cancel' au
 have a9:1≤n:=by rw[←hn];exact Nat.div_pos bm ar
 have ba:=fun n' h=>η (QuF (n':=n') ax.2.1 aH a9 au ar h)
 have h0:=η aw.2.1;have bO:=η (show QcG S.m (eli F.z k0) n=QcG S.m (eli F.z k0) n from rfl);clear bl aH hS aw ax hd;replace hp:=η hp;replace hn:=η hn;obtain⟨s,X⟩:=ε (w.heap.size);obtain⟨Z,V⟩:=ε ((w.alloc (.cells #[.int .i64 S.p,.int .i64 S.m,.slice A S.mod.length c] 24)).alloc (.cells #[.int .i64 0,.int .i64 0,.slice none 0 0,.pointer none,.slice none 0 0,.slice none 0 0,.int .i64 0] 154));have U:Below w.heap.size w Z:=by rw[V];exact (β).alloc (by simp) _
 have aa:Hid (Bxs Z s [.int .i64 S.p,.int .i64 S.m,.slice A S.mod.length c]):=by rw[V,X];exact (Bxs.new w _ _).keep (β) (by simp)
 have ay:Hid (Bxs Z (s+1) [.int .i64 0,.int .i64 0,.slice none 0 0,.pointer none,.slice none 0 0,.slice none 0 0,.int .i64 0]):=by rw[V,X];have:=Bxs.new (w.alloc (.cells #[.int .i64 S.p,.int .i64 S.m,.slice A S.mod.length c] 24)) [.int .i64 0,.int .i64 0,.slice none 0 0,.pointer none,.slice none 0 0,.slice none 0 0,.int .i64 0] 154;rw[World.size_alloc]at this;exact this
 have an:s+1<Z.heap.size:=by rw[V,X];simp
 have hq:=aG Z (hg.bm U) (hr.bm U);replace V:=η V;clear aG;go_enter Tryz.func178,Tryz.ntmps178;obtain⟨a0,a1,a2⟩:=aa.out.c3;go_wp2_with fail;rw[←V.out];simp only[←X];have bP:w.heap.size≤s:=Nat.le_of_eq X.symm;replace X:=η X;go_wp2_with fail;(with_reducible refine hq.out.mono ?_);rintro e w1 ⟨v,rfl,aZ,al⟩;clear hq a0 a1 a2;obtain⟨Ai,b0,rfl,bo,bp,-⟩:=aZ.form;rw[QbT]at bo ⊢;have ad:=ζ U al;replace aa:=η (aa.out.keep al (by omega));replace ay:=η (ay.out.keep al an);replace an:s+1<w1.heap.size:=θ an al.size;have aJ:=hg.bm ad;have bb:=QaC F.q (by omega);clear aZ al U;go_wp2_with fail;go_cut [8] from 13 (fun a wx=>∃gb J,a=.pointer (some ⟨J,0,none⟩)∧Hid (Bxs wx J [.int .i64 S.p,.int .i64 S.m,.slice A S.mod.length c,.pointer (some ⟨g,0,none⟩),.slice (some ⟨gb,0,none⟩) F.q F.q,.slice none 0 0,.int .i64 S.m])∧Hid (IB wx gb (List.replicate F.q 0))∧w1.heap.size≤gb∧w1.heap.size≤J∧gb≠J∧gb<wx.heap.size∧J<wx.heap.size∧Below w1.heap.size w1 wx)
 case first =>
  have vF:=fun W (h:Below w1.heap.size w1 W)=>show (W.cell? ⟨s,0,none⟩=some (.int .i64 S.p)∧W.cell? ⟨s,1,none⟩=some (.int .i64 S.m)∧W.cell? ⟨s,2,none⟩=some (.slice A S.mod.length c))∧GF W w1.heap.size g F from ⟨(aa.out.keep h (by omega)).c3,aJ.below h⟩
  have aK:=fun W (h:GF W w1.heap.size g F) (hl:w1.heap.size≤W.heap.size)=>η (Qc5 F g W (h.more hl))
  refine wp_region_held_drew (S:=fun w'=>(w'.cell? ⟨s,0,none⟩=some (.int .i64 S.p)∧w'.cell? ⟨s,1,none⟩=some (.int .i64 S.m)∧w'.cell? ⟨s,2,none⟩=some (.slice A S.mod.length c))∧GF w' w1.heap.size g F) (by kernel_rfl) (by (try dsimp only);exact vF _ κ.drew) (fun hHeld=>?_);refine tk 0 ?_;simp only[pS]
  refine tk 1 ?_;simp only[pS]
  refine tk 2 ?_;simp only[pS]
  refine tk 5 ?_;simp only[pS]
  refine tk 6 ?_;simp only[pS]
  refine wpAnyH_ready (rs:=[3,8]) (by kernel_rfl) (by simp) ?_;refine AllReadyH.cons (o:=⟨_,_,_,_,_,_⟩) rfl (fun K I=>?_) ?_
  ·go_simp;go_at_call 114;(with_reducible refine (aK _ hHeld.2 (by simp)).out.mono ?_);rintro e wq ⟨rfl,rfl⟩;go_wp2_with fail;refine I.out _ _ hHeld fun hHeld=>?_;clear I K;try simp only[pS]
   refine wpAnyH_ready (rs:=[4,8]) (by kernel_rfl) (by simp) ?_;refine AllReadyH.cons (o:=⟨_,_,_,_,_,_⟩) rfl (fun K I=>?_) ?_
   all_goals first
    |(go_simp
      refine I.out _ _ (by (try dsimp only);exact⟨⟨Qap hHeld.1.1 _,Qap hHeld.1.2.1 _,Qap hHeld.1.2.2 _⟩,hHeld.2.al (by simp) _⟩) (fun hHeld=>?_);clear I K;try simp only[pS]
      refine tk 7 ?_;simp only[pS]
      refine rd 8 fun K I=>?_
      go_simp;refine I.out _ _ (by (try dsimp only);exact⟨⟨Qap hHeld.1.1 _,Qap hHeld.1.2.1 _,Qap hHeld.1.2.2 _⟩,hHeld.2.al (by simp) _⟩) (fun hHeld=>?_);clear I K)
    |(refine AllReadyH.cons (o:=⟨_,_,_,_,_,_⟩) rfl (fun K I=>?_) AllReadyH.nil
      go_simp;refine I.out _ _ (by (try dsimp only);exact⟨⟨Qap hHeld.1.1 _,Qap hHeld.1.2.1 _,Qap hHeld.1.2.2 _⟩,hHeld.2.al (by simp) _⟩) (fun hHeld=>?_);clear I K;try simp only[pS]
      refine rd 4 fun K I=>?_
      go_simp;refine I.out _ _ (by (try dsimp only);exact⟨⟨Qap hHeld.1.1 _,Qap hHeld.1.2.1 _,Qap hHeld.1.2.2 _⟩,hHeld.2.al (by simp) _⟩) (fun hHeld=>?_);clear I K;try simp only[pS]
      refine wpAnyH_take (i:=7) (oi:=⟨_,_,_,_,_,_⟩) (v:=?_) rfl (by kernel_rfl) (by kernel_rfl) (by kernel_rfl) (fun _ _ _ h=>h) (Or.inl ⟨by rfl,?_⟩) (by assumption) ?_;rotate_left
      ·intro w bJ;(try dsimp only at bJ);go_simp;try with_reducible rfl)
   all_goals
    try simp only[pS]
    refine rd 9 fun K I=>?_
    go_simp;refine I.out _ _ (by (try dsimp only);(first |exact vF _ (QbF w1 F.q _ _).2.2.2.drew |exact vF _ (QbG w1 F.q _ _).2.2.2.drew)) (fun hHeld=>?_);clear I K;try simp only[pS]
    refine δ ?_;go_wp2_with fail;go_meet
    first
     |exact⟨w1.heap.size,w1.heap.size+1,rfl,η (QbF w1 F.q _ _).1.drew,η (QbF w1 F.q _ _).2.1.drew,Nat.le_refl _,Nat.le_succ _,by omega,Nat.lt_trans (Nat.lt_succ_self _) (QbF w1 F.q _ _).2.2.1,(QbF w1 F.q _ _).2.2.1,(QbF w1 F.q _ _).2.2.2.drew⟩
     |exact⟨w1.heap.size+1,w1.heap.size,rfl,η (QbG w1 F.q _ _).1.drew,η (QbG w1 F.q _ _).2.1.drew,Nat.le_succ _,Nat.le_refl _,by omega,(QbG w1 F.q _ _).2.2.1,Nat.lt_trans (Nat.lt_succ_self _) (QbG w1 F.q _ _).2.2.1,(QbG w1 F.q _ _).2.2.2.drew⟩
  refine AllReadyH.cons (o:=⟨_,_,_,_,_,_⟩) rfl (fun K I=>?_) AllReadyH.nil;go_simp;refine I.out _ _ (by (try dsimp only);exact⟨⟨Qap hHeld.1.1 _,Qap hHeld.1.2.1 _,Qap hHeld.1.2.2 _⟩,hHeld.2.al (by simp) _⟩) (fun hHeld=>?_);clear I K;try simp only[pS]
  refine rd 3 fun K I=>?_
  go_simp;go_at_call 114;(with_reducible refine (aK _ hHeld.2 (by simp)).out.mono ?_);rintro e wq ⟨rfl,rfl⟩;go_wp2_with fail;refine I.out _ _ hHeld fun hHeld=>?_;clear I K;try simp only[pS]
  refine rd 4 fun K I=>?_
  go_simp;refine I.out _ _ (by (try dsimp only);exact⟨⟨Qap hHeld.1.1 _,Qap hHeld.1.2.1 _,Qap hHeld.1.2.2 _⟩,hHeld.2.al (by simp) _⟩) (fun hHeld=>?_);clear I K;try simp only[pS]
  refine tk 7 ?_;simp only[pS]
  refine rd 9 fun K I=>?_
  go_simp;refine I.out _ _ (by (try dsimp only);(first |exact vF _ (QbF w1 F.q _ _).2.2.2.drew |exact vF _ (QbG w1 F.q _ _).2.2.2.drew)) (fun hHeld=>?_);clear I K;try simp only[pS]
  refine δ ?_;go_wp2_with fail;go_meet
  first
   |exact⟨w1.heap.size,w1.heap.size+1,rfl,η (QbF w1 F.q _ _).1.drew,η (QbF w1 F.q _ _).2.1.drew,Nat.le_refl _,Nat.le_succ _,by omega,Nat.lt_trans (Nat.lt_succ_self _) (QbF w1 F.q _ _).2.2.1,(QbF w1 F.q _ _).2.2.1,(QbF w1 F.q _ _).2.2.2.drew⟩
   |exact⟨w1.heap.size+1,w1.heap.size,rfl,η (QbG w1 F.q _ _).1.drew,η (QbG w1 F.q _ _).2.1.drew,Nat.le_succ _,Nat.le_refl _,by omega,(QbG w1 F.q _ _).2.2.1,Nat.lt_trans (Nat.lt_succ_self _) (QbG w1 F.q _ _).2.2.1,(QbG w1 F.q _ _).2.2.2.drew⟩
 case rest =>
  obtain⟨gb,J,rfl,ab,O,bq,b1,aU,br,aV,aW⟩:=hcut;obtain⟨w2,rfl⟩:=ε (wc:World);clear bb;go_wp2_with fail;go_loopw [33,9,10] (fun i _ _ wr=>∃ (k:Nat) (L:List Int),k≤S.q∧i=.int .i64 k∧Hid (IB wr gb L)∧Hid (BkI S F (rel F.z rt) 0 k L)∧Hid (Bxs wr J [.int .i64 S.p,.int .i64 S.m,.slice A S.mod.length c,.pointer (some ⟨g,0,none⟩),.slice (some ⟨gb,0,none⟩) F.q F.q,.slice none 0 0,.int .i64 S.m])∧Below w1.heap.size w1 wr∧J<wr.heap.size) (fun i _ _ _=>S.q - (intOf i).toNat)
  case atStart=>exact⟨0,_,by omega,rfl,O,η (BkI.zero S F _ 0),ab,aW,aV⟩
  case round =>
   clear ab O br aV aW;obtain⟨w3,rfl⟩:=ε (wr:World);obtain⟨k,L,hk,rfl,O,ak,ab,Y,aC⟩:=hrel;have bc:=O.out.lt;by_cases aD:k<S.q
   ·have j0:(0:Int)≤(k:Int):=by omega
    have j1:(k:Int)<(S.q:Int):=by omega
    obtain⟨bi,oi,rfl,bt,ap⟩:=bp.at_ (k:=k) (by rw[QbT];exact aD);rw[QeR S F rt aD]at ap;obtain⟨y,hy⟩:=ε (QaA (phi S F (rel F.z rt) (rel S.z k)):Nat);have be:y<F.q:=by rw[hy];exact QaM _
    have ao:=ak.out.step hp.out h0.out aD;rw[←hy]at ao;rw[show ci (phi S F (rel F.z rt) (rel S.z k))=(y:Int) from by rw[hy];rfl]at ap;replace ao:=η ao;replace hy:=η hy;replace ap:=(Y.cell (p:=⟨bi,oi+k,none⟩) bt).trans ap;have bS:=O.out.cell (i:=y) (by rw[ak.out.1];exact be);have bT:=O.out.frozen y;have bf:=η (O.out.set_ y (k:Int));have y0:(0:Int)≤(y:Int):=by omega
    have y1:(y:Int)<(F.q:Int):=by omega
    have bg:=η (ab.out.far aU y (.int .i64 k));have T:=η (Y.setCell (p:=⟨gb,y,none⟩) bq (.int .i64 k));have bh:Hid (J<(w3.setCell ⟨gb,y,none⟩ (.int .i64 k)).heap.size):=by unfold Hid;simp only[World.setCell,Array.size_modify];exact aC
    obtain⟨p0,p1,p2,p3,p4,p5,p6⟩:=ab.out.c7;go_wp2_with fail;go_roundw
    case rel=>exact⟨k+1,_,by omega,by go_num,bf,ao,bg,T.out,bh.out⟩
    case measure=>simp[intOf];omega
   ·have az:k=S.q:=by omega
    rw[az]at ak;have hL:=ak.out.done hp.out h0.out;rw[hL]at O;clear ak hL;replace az:=η az;have aM:=aJ.bm Y;have aN:=a7 w3 aM;obtain⟨a0,a1,a2⟩:=(aa.out.keep Y (by omega)).c3;go_wp2_with fail;(with_reducible refine aN.out.mono ?_);rintro e w4 ⟨rfl,T⟩;clear a0 a1 a2 aN;have ag:=ζ Y T;have aO:=a8 w4 (aM.bm T);obtain⟨a0,a1,a2⟩:=(aa.out.keep ag (by omega)).c3;go_wp2_with fail;(with_reducible refine aO.out.mono ?_);rintro e w5 ⟨n',v,a3,rfl,ho,a5⟩;obtain rfl:n'=n:=(ba n' a3).out;obtain⟨Ab,cb,rfl,bC,aY,bD⟩:=ho.form;rw[Qca]at bC ⊢;clear a0 a1 a2 aO ho a3;have aP:=ζ T a5;have aq:=ab.out.keep aP aC;have aQ:=ζ ag a5;have aR:=ay.out.keep aQ an;have aS:=O.out.below aP bc;have aT:=aq.set_ (j:=5) (by simp) (.slice Ab n' cb);have aA:=aR.far (g:=J) (by omega) 5 (.slice Ab n' cb);obtain⟨p0,p1,p2,p3,p4,p5,p6⟩:=aq.c7;obtain⟨f0,f1,f2,f3,f4,f5,f6⟩:=aq.f7;obtain⟨q0,q1,q2,q3,q4,q5,q6⟩:=Bxs.c7 aT;obtain⟨u0,u1,u2,u3,u4,u5,u6⟩:=aA.c7;obtain⟨v0,v1,v2,v3,v4,v5,v6⟩:=aA.f7;have aB:∀a,Ab=some a→w4.heap.size≤a.block:=fun a e=>(bD a e).1
    have bW:J<w4.heap.size:=θ aC T.size;have bX:s+1<w4.heap.size:=by have:=ag.size;omega
    have bj:Hid (QlQ S F rt k0 n' A c g w (.returned (.tuple #[.agg #[.int .i64 S.p,.int .i64 S.m,.slice A S.mod.length c,.pointer (some ⟨g,0,none⟩),.slice (some ⟨gb,0,none⟩) F.q F.q,.slice Ab n' cb,.int .i64 S.m],.int .i64 0])) (Qbh (w5.setCell ⟨J,5,none⟩ (.slice Ab n' cb)) (s+1) 0 [.int .i64 S.p,.int .i64 S.m,.slice A S.mod.length c,.pointer (some ⟨g,0,none⟩),.slice (some ⟨gb,0,none⟩) F.q F.q,.slice Ab n' cb,.int .i64 S.m])):=by
     have bY:=ad.size;refine⟨gb,Ab,cb,rfl,by omega,?_,?_,fun a e=>by have:=aB a e;have:=ag.size;omega,?_⟩
     ·have h:=aS.far (p:=⟨J,5,none⟩) aU (.slice Ab n' cb);exact (QjD (by omega) _ _ _).trans h
     ·rw[Qbv];have h:=aY.farN (g:=J) (fun _ b hb=>by have:=aB b hb;omega) 5 (.slice Ab n' cb);have h2:=h.farS (b:=s+1) (fun a e=>by have:=aB a e;omega) [.int .i64 S.p,.int .i64 S.m,.slice A S.mod.length c,.pointer (some ⟨g,0,none⟩),.slice (some ⟨gb,0,none⟩) F.q F.q,.slice Ab n' cb,.int .i64 S.m] 0;refine h2.more ?_;simp[World.setCell]
     ·refine stAll_below (by omega) _ _ _ ?_;exact ((ζ ad aQ).setCell (p:=⟨J,5,none⟩) (show w.heap.size≤J by omega) _)
    clear aY aS aq aR aT aA;go_wp2_with fail;exact bodyPost_ret (v:=.tuple #[.agg #[.int .i64 S.p,.int .i64 S.m,.slice A S.mod.length c,.pointer (some ⟨g,0,none⟩),.slice (some ⟨gb,0,none⟩) F.q F.q,.slice Ab n' cb,.int .i64 S.m],.int .i64 0]) (by simp[results,Tryz.results178,go_sem,u0,u1,u2,u3,u4,u5,u6]) rfl bj.out
end
section
def Qh4 (S F:Desc):Bool:=decide (S.p=F.p)&&Qia F.m S.m
def QfW (D:Desc)(poly pts:List Int):List Int:=lst pts.length fun i=>ci (QaW D poly (eli D (pts[i]?.getD 0)))
def QcP (S D:Desc)(poly pts:List Int):Int :=
 if Qh4 S D=false then 10 else if pts.length<1∨64<pts.length then 4 else if elB D pts=false∨elB D poly=false then 2 else if twB pts=true then 18
 else if poly.length<2∨65<poly.length∨poly[poly.length - 1]?.getD 0=0 then 5 else if (0:Int)∈QfW D poly pts then 7 else 0
section
variable {S D:Desc} {poly pts:List Int}
theorem QjE (h:Qh4 S D=false):QcP S D poly pts=10:=if_pos h
theorem QjF (h:Qh4 S D=true)(I:pts.length<1∨64<pts.length):QcP S D poly pts=4:=by unfold QcP;rw[if_neg (by rw[h];decide),if_pos I]
theorem QhU (h:Qh4 S D=true)(I:¬ (pts.length<1∨64<pts.length))(J:elB D pts=false∨elB D poly=false):QcP S D poly pts=2:=by unfold QcP;rw[if_neg (by rw[h];decide),if_neg I,if_pos J]
theorem QlR (h:Qh4 S D=true)(I:¬ (pts.length<1∨64<pts.length))(J:¬ (elB D pts=false∨elB D poly=false))(O:twB pts=true):QcP S D poly pts=18:=by unfold QcP;rw[if_neg (by rw[h];decide),if_neg I,if_neg J,if_pos O]
theorem QhV (h:Qh4 S D=true)(I:¬ (pts.length<1∨64<pts.length))(J:¬ (elB D pts=false∨elB D poly=false))(O:twB pts=false)(T:poly.length<2∨65<poly.length∨poly[poly.length - 1]?.getD 0=0):QcP S D poly pts=5:=by unfold QcP;rw[if_neg (by rw[h];decide),if_neg I,if_neg J,if_neg (by rw[O];decide),if_pos T]
theorem QhW (h:Qh4 S D=true)(I:¬ (pts.length<1∨64<pts.length))(J:¬ (elB D pts=false∨elB D poly=false))(O:twB pts=false)(T:¬ (poly.length<2∨65<poly.length∨poly[poly.length - 1]?.getD 0=0))(U:(0:Int)∈QfW D poly pts):QcP S D poly pts=7:=by unfold QcP;rw[if_neg (by rw[h];decide),if_neg I,if_neg J,if_neg (by rw[O];decide),if_neg T,if_pos U]
theorem QlS (h:Qh4 S D=true)(I:¬ (pts.length<1∨64<pts.length))(J:¬ (elB D pts=false∨elB D poly=false))(O:twB pts=false)(T:¬ (poly.length<2∨65<poly.length∨poly[poly.length - 1]?.getD 0=0))(U:¬ (0:Int)∈QfW D poly pts):QcP S D poly pts=0:=by unfold QcP;rw[if_neg (by rw[h];decide),if_neg I,if_neg J,if_neg (by rw[O];decide),if_neg T,if_neg U]
theorem QbW (h:QcP S D poly pts=0):Qh4 S D=true∧(1≤pts.length∧pts.length≤64)∧elB D pts=true∧elB D poly=true∧twB pts=false∧2≤poly.length∧poly.length≤65∧poly[poly.length - 1]?.getD 0≠0∧¬ (0:Int)∈QfW D poly pts:=by
 cases I:Qh4 S D with
 |false=>rw[QjE I]at h;cases h
 |true =>
  by_cases O:pts.length<1∨64<pts.length
  ·rw[QjF I O]at h;cases h
  by_cases J:elB D pts=false∨elB D poly=false
  ·rw[QhU I O J]at h;cases h
  cases T:twB pts with
  |true=>rw[QlR I O J T]at h;cases h
  |false =>
   by_cases U:poly.length<2∨65<poly.length∨poly[poly.length - 1]?.getD 0=0
   ·rw[QhV I O J T U]at h;cases h
   by_cases V:(0:Int)∈QfW D poly pts
   ·rw[QhW I O J T U V]at h;cases h
   refine⟨rfl,by omega,?_,?_,rfl,by omega,by omega,by omega,V⟩
   ·cases e:elB D pts with
    |true=>rfl
    |false=>exact absurd (Or.inl e) J
   ·cases e:elB D poly with
    |true=>rfl
    |false=>exact absurd (Or.inr e) J
theorem Qdz:Qh4 S D=true↔S.p=D.p∧Qia D.m S.m=true:=by unfold Qh4;rw[Bool.and_eq_true,decide_eq_true_iff]
end
theorem QiN (D:FD)(l:List Int)(A:Option Addr)(c g:Nat)(w:World)(X:GF w w.heap.size g D)(Y:Rd w w.heap.size A l)(hl:l.length≤maxLen) :
  Calls Tryz.prog 179 #[.pointer (some ⟨g,0,none⟩),.slice A l.length c] w fun e w'=>e=.returned (.bool (elB D.z l))∧w=w':=by
 unfold maxLen at hl;have hI:=fun x=>η (Qhi D x g w X)
 go_enter Tryz.func179,Tryz.ntmps179;go_wp2_with fail;go_loop [9,6] (fun i _=>∃k:Nat,k≤l.length∧i=.int .i64 k∧Hid (∀j,j<k→0≤l[j]?.getD 0∧l[j]?.getD 0<(D.q:Int))) (fun i _=>l.length - (intOf i).toNat)
 case atStart=>exact⟨0,by omega,rfl,fun j U=>absurd U (by omega)⟩
 case round =>
  obtain⟨k,hk,rfl,T⟩:=hrel;by_cases V:k<l.length
  ·obtain⟨b,o,rfl,-,hc⟩:=Y.at_ V;have J:=hI (l[k]?.getD 0);by_cases I:0≤l[k]?.getD 0∧l[k]?.getD 0<(D.q:Int)
   ·rw[decide_eq_true I]at J;have ac:Hid (∀j,j<k+1→0≤l[j]?.getD 0∧l[j]?.getD 0<(D.q:Int)):=fun j U=>by
     by_cases e:j=k
     ·subst e;exact I
     ·exact T.out j (by omega)
    clear I;generalize l[k]?.getD 0=y at *;go_wp2_with fail;(with_reducible refine J.out.mono ?_);rintro e w1 ⟨rfl,rfl⟩;go_wp2_with fail;go_round
    case rel=>exact⟨k+1,by omega,by go_num,ac⟩
    case measure=>simp[intOf];omega
   ·have O:=η (Qiu V I);rw[decide_eq_false I]at J;clear I;generalize l[k]?.getD 0=y at *;go_wp2_with fail;(with_reducible refine J.out.mono ?_);rintro e w1 ⟨rfl,rfl⟩;go_wp2_with fail;go_ret;exact⟨QaB O.out.symm,rfl⟩
  ·obtain rfl:k=l.length:=by omega
   have O:=η (QaJ.2 T.out);clear T;go_wp2_with fail;go_ret;exact⟨QaB O.out.symm,rfl⟩
theorem Qwo (S F:FD)(A:Option Addr)(c g:Nat)(w:World)(hg:GF w w.heap.size g F)(hr:Rd w w.heap.size A (Qan S.z))(hS:Qcq S.p S.m (Qan S.z))(T:Qh4 S.z F.z=false) :
  Calls Tryz.prog 178 #[.agg #[.int .i64 S.p,.int .i64 S.m,.slice A S.mod.length c],.pointer (some ⟨g,0,none⟩)] w fun e w'=>e=.returned (.tuple #[.agg #[.int .i64 0,.int .i64 0,.slice none 0 0,.pointer none,.slice none 0 0,.slice none 0 0,.int .i64 0],.int .i64 10])∧Below w.heap.size w w':=by
 have X:¬ (S.p=F.p∧Qia F.m S.m=true):=fun h=>by rw[Qdz.2 h]at T;cases T
 have Y:=fun W a b=>η (Qqu S F A c g W a b hS X)
 clear T X;obtain⟨s,O⟩:=ε (w.heap.size);obtain⟨Z,J⟩:=ε ((w.alloc (.cells #[.int .i64 S.p,.int .i64 S.m,.slice A S.mod.length c] 24)).alloc (.cells #[.int .i64 0,.int .i64 0,.slice none 0 0,.pointer none,.slice none 0 0,.slice none 0 0,.int .i64 0] 154));have I:Below w.heap.size w Z:=by rw[J];exact (β).alloc (by simp) _
 have ae:Hid (Bxs Z s [.int .i64 S.p,.int .i64 S.m,.slice A S.mod.length c]):=by rw[J,O];exact (Bxs.new w _ _).keep (β) (by simp)
 have af:Hid (Bxs Z (s+1) [.int .i64 0,.int .i64 0,.slice none 0 0,.pointer none,.slice none 0 0,.slice none 0 0,.int .i64 0]):=by rw[J,O];have:=Bxs.new (w.alloc (.cells #[.int .i64 S.p,.int .i64 S.m,.slice A S.mod.length c] 24)) [.int .i64 0,.int .i64 0,.slice none 0 0,.pointer none,.slice none 0 0,.slice none 0 0,.int .i64 0] 154;rw[World.size_alloc]at this;exact this
 have ag:s+1<Z.heap.size:=by rw[J,O];simp
 have hq:=Y Z (hg.bm I) (hr.bm I);replace J:=η J;clear Y;go_enter Tryz.func178,Tryz.ntmps178;obtain⟨a0,a1,a2⟩:=ae.out.c3;go_wp2_with fail;rw[←J.out];simp only[←O];have ap:w.heap.size≤s:=Nat.le_of_eq O.symm;replace O:=η O;go_wp2_with fail;(with_reducible refine hq.out.mono ?_);rintro e w1 ⟨rfl,V⟩;clear hq a0 a1 a2;have ah:=ζ I V;have U:=af.out.keep V ag;obtain⟨u0,u1,u2,u3,u4,u5,u6⟩:=U.c7;obtain⟨v0,v1,v2,v3,v4,v5,v6⟩:=U.f7;have ai:Hid (Below w.heap.size w (Qbh w1 (s+1) 0 [.int .i64 0,.int .i64 0,.slice none 0 0,.pointer none,.slice none 0 0,.slice none 0 0,.int .i64 0])):=stAll_below (by omega) _ _ _ ah;clear U V I;go_wp2_with fail;exact bodyPost_ret (v:=.tuple #[.agg #[.int .i64 0,.int .i64 0,.slice none 0 0,.pointer none,.slice none 0 0,.slice none 0 0,.int .i64 0],.int .i64 10]) (by simp[results,Tryz.results178,go_sem,u0,u1,u2,u3,u4,u5,u6]) rfl ⟨rfl,ai.out⟩
end
end Go.Proofs

/- Words for slices of slices of ints: a matrix that is read, one that a call makes by append, one whose rows are exchanged in place. -/
import Derived.Test.YtogfekjbpcfgmaaGreatZtkGA
import Derived.Test.YtogfekjbpcfgmaaGreatZtkLA
set_option maxRecDepth 100000
set_option maxHeartbeats 16000000
set_option linter.unusedVariables false
set_option linter.unusedSimpArgs false
namespace Go.Proofs
open Go.RowKit Cw
section
def RdM (w:World)(B:Nat)(A:Option Addr)(n:Nat)(rows:Nat→List Int):Prop :=
 0<n→∃b J,A=some ⟨b,J,none⟩∧b<B∧∀i,i<n→∃O I,w.cell? ⟨b,J+i,none⟩=some (.slice O (rows i).length I)∧Rd w B O (rows i)∧(rows i).length≤I∧I≤maxLen
section
variable {w w':World} {B B' n:Nat} {A:Option Addr} {rows:Nat→List Int}
theorem RdM.zero:RdM w B A 0 rows:=fun h=>absurd h (Nat.lt_irrefl _)
theorem RdM.at_ {i:Nat} (h:RdM w B A n rows)(T:i<n):∃b J O I,A=some ⟨b,J,none⟩∧b<B∧w.cell? ⟨b,J+i,none⟩=some (.slice O (rows i).length I)∧Rd w B O (rows i)∧(rows i).length≤I∧I≤maxLen:=by
 obtain⟨b,J,e,U,V⟩:=h (by omega);obtain⟨O,I,X,Y,h3,h4⟩:=V i T;exact⟨b,J,O,I,e,U,X,Y,h3,h4⟩
theorem RdM.keep (h:RdM w B A n rows)(I:∀p:Addr,p.block<B→w'.cell? p=w.cell? p):RdM w' B A n rows:=fun hn=>by
 obtain⟨b,J,e,O,T⟩:=h hn;refine⟨b,J,e,O,fun i hi=>?_⟩;obtain⟨U,V,X,Y,h3⟩:=T i hi;exact⟨U,V,(I ⟨b,J+i,none⟩ O).trans X,Y.keep I,h3⟩
theorem RdM.more (h:RdM w B A n rows)(I:B≤B'):RdM w B' A n rows:=fun hn=>by
 obtain⟨b,J,e,hb,O⟩:=h hn;refine⟨b,J,e,by omega,fun i hi=>?_⟩;obtain⟨T,U,V,X,Y⟩:=O i hi;exact⟨T,U,V,X.more I,Y⟩
theorem RdM.below (h:RdM w B A n rows)(I:Below B w w'):RdM w' B A n rows:=h.keep fun _ hp=>I.cell hp
theorem RdM.bm {w':World}(h:RdM w w.heap.size A n rows)(I:Below w.heap.size w w') : RdM w' w'.heap.size A n rows:=(h.below I).more (I.size)
theorem RdM.drew (h:RdM w B A n rows):RdM w.drew B A n rows:=h
theorem RdM.less {m:Nat} (h:RdM w B A n rows)(T:m≤n):RdM w B A m rows:=fun U=>by
 obtain⟨b,I,e,J,O⟩:=h (by omega);exact⟨b,I,e,J,fun i V=>O i (by omega)⟩
theorem RdM.congr {I:Nat→List Int} (h:RdM w B A n rows)(O:∀i,i<n→rows i=I i):RdM w B A n I:=fun X=>by
 obtain⟨b,T,e,U,V⟩:=h X;exact⟨b,T,e,U,fun i J=>by rw[←O i J];exact V i J⟩
end
def Qfb (w:World)(L B:Nat)(A:Option Addr)(n:Nat)(rows:Nat→List Int):Prop :=
 0<n→∃b O,A=some ⟨b,O,none⟩∧L≤b∧b<B∧∀i,i<n→∃I J,w.cell? ⟨b,O+i,none⟩=some (.slice I (rows i).length J)∧Rd w B I (rows i)∧(rows i).length≤J∧J≤maxLen∧(rows i≠[]→∀a,I=some a→L≤a.block)
theorem Qfb.rdm {w:World} {L B n:Nat} {A:Option Addr} {rows:Nat→List Int} (h:Qfb w L B A n rows):RdM w B A n rows:=fun hn=>by
 obtain⟨b,I,e,-,J,O⟩:=h hn;exact⟨b,I,e,J,fun i hi=>by obtain⟨T,U,V,X,Y,h4,-⟩:=O i hi;exact⟨T,U,V,X,Y,h4⟩⟩
theorem Qfb.zero {w:World} {L B:Nat} {A:Option Addr} {rows:Nat→List Int}:Qfb w L B A 0 rows:=fun h=>absurd h (Nat.lt_irrefl _)
theorem Qfb.less {w:World} {L B n m:Nat} {A:Option Addr} {rows:Nat→List Int} (h:Qfb w L B A n rows)(U:m≤n):Qfb w L B A m rows:=fun V=>by
 obtain⟨b,I,e,J,O,T⟩:=h (by omega);exact⟨b,I,e,J,O,fun i X=>T i (by omega)⟩
theorem Qfb.keepU {w w':World} {L B n:Nat} {A:Option Addr} {rows:Nat→List Int} (h:Qfb w L B A n rows)(O:∀p:Addr,L≤p.block→p.block<B→w'.cell? p=w.cell? p):Qfb w' L B A n rows:=fun hn=>by
 obtain⟨b,T,e,U,V,hc⟩:=h hn;refine⟨b,T,e,U,V,fun i hi=>?_⟩;obtain⟨Ai,ci,h1,h2,h3,h4,X⟩:=hc i hi;refine⟨Ai,ci,(O ⟨b,T+i,none⟩ U V).trans h1,fun hl=>?_,h3,h4,X⟩;obtain⟨I,J,Y,aa,aj⟩:=h2 hl;exact⟨I,J,Y,aa,fun j hj=>(O ⟨I,J+j,none⟩ (show L≤I from X (List.length_pos_iff.1 hl) ⟨I,J,none⟩ Y) aa).trans (aj j hj)⟩
theorem Qfb.low {w:World} {L L' B n:Nat} {A:Option Addr} {rows:Nat→List Int} (h:Qfb w L B A n rows)(O:L'≤L):Qfb w L' B A n rows:=fun I=>by
 obtain⟨b,T,e,J,U,V⟩:=h I;refine⟨b,T,e,by omega,U,fun i hi=>?_⟩;obtain⟨X,Y,J,h2,h3,h4,h5⟩:=V i hi;exact⟨X,Y,J,h2,h3,h4,fun I a e=>τ O (h5 I a e)⟩
theorem Qfb.more {w:World} {L B B' n:Nat} {A:Option Addr} {rows:Nat→List Int} (h:Qfb w L B A n rows)(I:B≤B'):Qfb w L B' A n rows:=fun hn=>by
 obtain⟨b,J,e,O,hb,T⟩:=h hn;refine⟨b,J,e,O,by omega,fun i hi=>?_⟩;obtain⟨U,V,X,Y,h3⟩:=T i hi;exact⟨U,V,X,Y.more I,h3⟩
def MB (w:World)(L g n:Nat)(q:Option Nat)(rows:Nat→List Int):Prop :=
 g<w.heap.size∧∀i,i<n→∃I J,w.cell? ⟨g,i,none⟩=some (.slice I (rows i).length J)∧w.frozen? ⟨g,i,none⟩=false∧Rd w w.heap.size I (rows i)∧(rows i).length≤J∧J≤maxLen∧(rows i≠[]→∀a,I=some a→a.block≠g∧q≠some a.block∧L≤a.block)
section
variable {w w':World} {L B g n:Nat} {q q':Option Nat} {rows:Nat→List Int}
theorem MB.rdm (h:MB w L g n q rows):RdM w w.heap.size (some ⟨g,0,none⟩) n rows:=fun _=>⟨g,0,rfl,h.1,fun i X=>by
 obtain⟨I,J,O,-,T,U,V,-⟩:=h.2 i X;exact⟨I,J,by rw[Nat.zero_add];exact O,T,U,V⟩⟩
theorem MB.rdmU (h:MB w L g n q rows)(I:L≤g):Qfb w L w.heap.size (some ⟨g,0,none⟩) n rows:=fun _=>⟨g,0,rfl,I,h.1,fun i hi=>by
 obtain⟨J,O,T,-,U,V,X,Y⟩:=h.2 i hi;exact⟨J,O,by rw[Nat.zero_add];exact T,U,V,X,fun hn a e=>(Y hn a e).2.2⟩⟩
theorem MB.below (h:MB w L g n q rows)(I:Below B w w')(J:w.heap.size≤B):MB w' L g n q rows :=
 ⟨θ h.1 I.size,fun i hi=>by
  obtain⟨T,U,V,X,Y,h4⟩:=h.2 i hi;have O:g<B:=θ h.1 J;exact⟨T,U,(I.cell (p:=⟨g,i,none⟩) O).trans V,(I.frozen (p:=⟨g,i,none⟩) O).trans X,(Y.keep fun _ hp=>I.cell (θ hp J)).more I.size,h4⟩⟩
theorem MB.drew (h:MB w L g n q rows):MB w.drew L g n q rows:=h
theorem MB.congr {I:Nat→List Int} (h:MB w L g n q rows)(O:∀i,i<n→rows i=I i):MB w L g n q I :=
 ⟨h.1,fun i J=>by rw[←O i J];exact h.2 i J⟩
theorem Rd.farN {l:List Int} {A:Option Addr} (h:Rd w B A l)(T:l≠[]→∀b,A=some b→b.block≠g)(i:Nat)(u:Value):Rd (w.setCell ⟨g,i,none⟩ u) B A l:=fun O=>by
 obtain⟨b,J,e,V,X⟩:=h O;have U:=T (List.length_pos_iff.1 O) _ e;refine⟨b,J,e,V,fun j Y=>?_⟩;have I:(⟨b,J+j,none⟩:Addr)≠⟨g,i,none⟩:=fun e2=>U (congrArg Addr.block e2)
 rw[World.cell?_setCell_other _ _ _ _ (by first |exact I |exact I.symm)];exact X j Y
theorem Own.capM {w:World} {B n c:Nat} {A:Option Addr} {l:List Int} (h:Own w B (.slice A n c) l):c≤maxLen:=by
 rcases h.2 with ⟨e,-⟩ |⟨g,cap,O,I,T,U,V,J,_⟩
 ·cases e;exact Nat.zero_le _
 ·cases I;exact J
theorem Own.lowerM {w:World} {B B':Nat} {v:Value} {l:List Int} (h:Own w B v l)(I:B'≤B):Own w B' v l:=by
 refine⟨h.1,?_⟩;rcases h.2 with J |⟨g,cap,O,rfl,T,rest⟩
 ·exact .inl J
 ·exact .inr ⟨g,cap,O,rfl,τ I T,rest⟩
theorem MB.set {i:Nat} {I:Option Addr} {l:List Int} {J:Nat} (h:MB w L g n q rows)(hi:i<n)(hr:Rd w w.heap.size I l)(hl:l.length≤J)(hc:J≤maxLen)(U:l≠[]→∀a,I=some a→a.block≠g∧q≠some a.block∧L≤a.block) :
  MB (w.setCell ⟨g,i,none⟩ (.slice I l.length J)) L g n q (QgO rows i l):=by
 have V:(w.setCell ⟨g,i,none⟩ (.slice I l.length J)).heap.size=w.heap.size:=by simp[World.setCell]
 refine⟨by rw[V];exact h.1,fun j hj=>?_⟩;rw[V];by_cases e:j=i
 ·subst e;obtain⟨X,c0,O,T,-⟩:=h.2 j hi;refine⟨I,J,?_,?_,?_⟩
  ·rw[show QgO rows j l j=l from if_pos rfl];simp[go_sem,O]
  ·simp[go_sem,T]
  ·rw[show QgO rows j l j=l from if_pos rfl];exact⟨hr.farN (fun h a e=>(U h a e).1) _ _,hl,hc,U⟩
 ·obtain⟨X,c0,O,T,h3,h4,h5,Y⟩:=h.2 j hj;rw[show QgO rows i l j=rows j from if_neg e];refine⟨X,c0,?_,?_,h3.farN (fun h a e=>(Y h a e).1) _ _,h4,h5,Y⟩
  ·rw[World.cell?_setCell_other _ _ _ _ (by intro e2;injection e2 with e3 e4;exact e (by first |exact e4 |exact e4.symm))];exact O
  ·simp[go_sem,T]
theorem MB.at_ {i:Nat} (h:MB w L g n q rows)(O:i<n):∃I J,w.cell? ⟨g,i,none⟩=some (.slice I (rows i).length J)∧w.frozen? ⟨g,i,none⟩=false∧Rd w w.heap.size I (rows i)∧(rows i).length≤J∧J≤maxLen∧(rows i≠[]→∀a,I=some a→a.block≠g∧q≠some a.block∧L≤a.block):=h.2 i O
theorem MB.grown (h:MB w L g n q rows)(J:w.grownBy w' q)(V:q≠some g)(hv:q'=q∨∀k,q'=some k→w.heap.size≤k):MB w' L g n q' rows :=
 ⟨θ h.1 J.size,fun i hi=>by
  obtain⟨Ai,ci,h1,h2,X,h4,h5,O⟩:=h.2 i hi;refine⟨Ai,ci,J.cell h1 (fun e=>V e.symm),?_,fun I=>?_,h4,h5,fun I a e=>⟨(O I a e).1,fun T=>?_,(O I a e).2.2⟩⟩
  ·rw[←h2];exact World.frozen?_of_block (J.block g h.1 (fun e=>V e.symm))
  ·obtain⟨b,Y,e,aa,ak⟩:=X I;exact⟨b,Y,e,θ aa J.size,fun j hj=>J.cell (ak j hj) fun T=>(O (List.length_pos_iff.1 I) _ e).2.1 T.symm⟩
  ·rcases hv with U |U
   ·exact (O I a e).2.1 (U ▸ T)
   ·have h8:=U _ T;obtain⟨b,Y,e3,aa,-⟩:=X (List.length_pos_iff.2 I);rw[e]at e3;cases e3;dsimp at h8;omega⟩
end
def QsX (w:World)(B:Nat)(v:Value)(I:List Value):Prop:=w.ownsRow B 22 1 v I.length I
theorem Qjd:(Tryz.prog.info? 22).map (fun i=>(i.zero,i.size,i.bytes))=some (some (.slice none 0 0),1,24):=by kernel_rfl
theorem Qgw {w:World} {ops:Array Oper} {rest:List Oper} {o:Oper} {a:Act} {Q:Exit→Act→World→Prop} (X:o.guard=none)(s x:Operand)
  (Y:o.op=.call { callee:=.builtin .append,args:=#[s,x],argTypes:=#[25,25] })
  (B:Nat) (v:Value) (l:List Value) (y:Value) (hy:y.oneCell'=true) (V:QsX w B v l) (hs:a.eval s=v) {H:Nat} (hx:a.eval x=.slice (some ⟨H,0,none⟩) 1 1) (hH:w.heap.size=H)
  (hl:l.length≤1000000) (hB:B≤w.heap.size)
  (h:∀J w',QsX w' B J (l ++ [y])→Below B w w'→w.grownBy w' v.ownBlock→(J.ownBlock=v.ownBlock∨(∀k,J.ownBlock=some k→w.heap.size≤k))→wpList Tryz.prog ops Q rest (a.put o.dst J) w') :
  wpList Tryz.prog ops Q (o :: rest) a (w.alloc (.cells #[y] 22)):=by
 subst hH;obtain⟨i0,hi,ag,ah,ai⟩:=info_parts Qjd;refine wpList_plain X fun K hK=>?_
 obtain⟨J,w',aj,h2,O,_,T⟩:=run_append_own_at (P:=Tryz.prog) (w.alloc (.cells #[y] 22)) B 25 o.type 22 i0 (.slice none 0 0) 1 24 Tryz.underlying25 hi ag ah ai rfl (by decide) v l.length l (World.ownsRow.alloc V _)
  ⟨w.heap.size,0,none⟩ 1 1 [y] rfl (cell_one_new _ _ _) (by simp[hy]) (by simp only[maxLen];omega) (by omega) (by simp;omega)
 unfold Oper.wp execOp;simp only[Y,resolve,invoke,builtin,Sem.run_bind,Sem.run_pure,Result.andThen_ok,List.map_toArray,List.map_cons,List.map_nil,hs,hx,aj];have I:w.grownBy w' v.ownBlock:=⟨O.os,O.tape,O.output,τ (by simp) O.size,fun k U am=>(O.block k (by simp;omega) am).trans (Below.heap_alloc _ _ _ U)⟩;refine hK _ _ (h J w' (by unfold QsX;rw[List.length_append];exact h2) ⟨I.os,I.tape,I.output,I.size,fun k U=>I.block k (by omega) (fun e=>by have:=(World.ownsRow.lt V k e.symm).1;omega)⟩ I ?_);rcases T with T |T
 ·exact .inl T
 ·right;intro k U;rw[T]at U;cases U;simp
def Qc4 (w:World)(B:Nat)(v:Value)(n:Nat)(rows:Nat→List Int):Prop :=
 ∃I:List Value,I.length=n∧QsX w B v I∧∀i,i<n→∃J O,I[i]?=some (.slice J (rows i).length O)∧Rd w w.heap.size J (rows i)∧(rows i).length≤O∧O≤maxLen∧(rows i≠[]→∀a,J=some a→v.ownBlock≠some a.block∧B≤a.block)
section
variable {w w':World} {B n:Nat} {v:Value} {rows:Nat→List Int}
theorem Qc4.nil (w:World)(B:Nat)(rows:Nat→List Int):Qc4 w B (.slice none 0 0) 0 rows:=⟨[],rfl,World.ownsRow_nil _ _ _ _,fun i I=>absurd I (by omega)⟩
theorem Qc4.below {W:Nat} (h:Qc4 w B v n rows)(I:Below W w w')(J:w.heap.size≤W):Qc4 w' B v n rows:=by
 obtain⟨O,T,U,V⟩:=h;refine⟨O,T,World.ownsRow.kept U (Qbr I J) (by cases hv:v.ownBlock <;> simp),fun i hi=>?_⟩;obtain⟨X,Y,a1,a2,a3⟩:=V i hi;exact⟨X,Y,a1,(a2.keep fun _ hp=>I.cell (θ hp J)).more I.size,a3⟩
theorem Qc4.drew (h:Qc4 w B v n rows):Qc4 w.drew B v n rows:=h
theorem Qc4.size (h:Qc4 w B v n rows):∃A c,v=.slice A n c:=by
 obtain⟨T,I,J,-⟩:=h;rcases J.2 with ⟨rfl,h0⟩ |⟨g,cap,U,O,-⟩
 ·exact⟨none,0,by rw[←I,h0]⟩
 ·exact⟨some ⟨g,0,none⟩,cap,by rw[O,I]⟩
theorem Qc4.snoc {X:List Value} {Ak:Option Addr} {ck:Nat} {O:Value} (h1:X.length=n)(h3:∀i,i<n→∃U V,X[i]?=some (.slice U (rows i).length V)∧Rd w w.heap.size U (rows i)∧(rows i).length≤V∧V≤maxLen∧(rows i≠[]→∀a,U=some a→v.ownBlock≠some a.block∧B≤a.block))
  (T:Rd w w.heap.size Ak (rows n)) (hl:(rows n).length≤ck) (hc:ck≤maxLen) (I:rows n≠[]→∀a,Ak=some a→v.ownBlock≠some a.block∧B≤a.block)
  (ho:QsX w' B O (X ++ [.slice Ak (rows n).length ck])) (hg:w.grownBy w' v.ownBlock) (hv:O.ownBlock=v.ownBlock∨∀k,O.ownBlock=some k→w.heap.size≤k):Qc4 w' B O (n+1) rows:=by
 have Y:∀ {A:Option Addr} {l:List Int},Rd w w.heap.size A l→(l≠[]→∀a,A=some a→v.ownBlock≠some a.block∧B≤a.block)→Rd w' w'.heap.size A l∧(l≠[]→∀a,A=some a→O.ownBlock≠some a.block∧B≤a.block):=fun {A l} T I=>by
  refine⟨fun J=>?_,fun J a e=>⟨fun e2=>?_,(I J a e).2⟩⟩
  ·obtain⟨b,ae,e,af,ap⟩:=T J;refine⟨b,ae,e,θ af hg.size,fun j hj=>hg.cell (ap j hj) fun e2=>?_⟩;exact (I (List.length_pos_iff.1 J) _ e).1 e2.symm
  ·rcases hv with h5 |h5
   ·exact (I J a e).1 (h5 ▸ e2)
   ·have h6:=h5 _ e2;obtain⟨b,ae,e3,af,-⟩:=T (List.length_pos_iff.2 J);rw[e]at e3
    cases e3
    dsimp at h6;omega
 refine⟨X ++ [.slice Ak (rows n).length ck],by simp[h1],ho,fun i hi=>?_⟩;by_cases e:i=n
 ·subst e;exact⟨Ak,ck,by rw[List.getElem?_append_right (by omega),h1,Nat.sub_self];rfl,(Y T I).1,hl,hc,(Y T I).2⟩
 ·obtain⟨U,V,a1,a2,a3,a4,a5⟩:=h3 i (by omega);exact⟨U,V,by rw[List.getElem?_append_left (by omega)];exact a1,(Y a2 a5).1,a3,a4,(Y a2 a5).2⟩
theorem Qc4.mb (h:Qc4 w B v n rows)(hn:0<n):∃g c,v=.slice (some ⟨g,0,none⟩) n c∧B≤g∧n≤c∧c≤maxLen∧MB w B g n none rows:=by
 obtain⟨hs,X,I,Y⟩:=h;have U:=I;rcases I.2 with ⟨rfl,h0⟩ |⟨g,cap,an,rfl,hb,O,hc,hm,_⟩
 ·omega
 ·rw[X]at *;have V:g<w.heap.size:=(Array.getElem?_eq_some_iff.1 O).1;refine⟨g,cap,rfl,hb,hc,hm,V,fun i hi=>?_⟩;obtain⟨Ai,ci,a1,a2,a3,a4,J⟩:=Y i hi;refine⟨Ai,ci,?_,?_,a2,a3,a4,fun T a e=>⟨fun e2=>(J T a e).1 (by rw[e2];rfl),by simp,(J T a e).2⟩⟩
  ·have:=World.ownsRow.cells U (g:=g) rfl i _ a1;rw[←this];unfold Addr.add;split <;> simp_all
  ·simp[World.frozen?,O]
end
end
section
def QaK (D:Desc)(m:Nat)(f:Nat→R D):List Int:=lst m fun j=>ci (f j)
theorem Qae (D:Desc)(m:Nat)(f:Nat→R D):(QaK D m f).length=m:=Qab _ _
theorem Qa0 (D:Desc){m j:Nat} (f:Nat→R D)(h:j<m):(QaK D m f)[j]?.getD 0=ci (f j):=Qas _ h
def Qaw (D:Desc)(m:Nat)(M:Nat→Nat→R D):Nat→List Int:=fun i=>QaK D m (M i)
theorem Qns (D:Desc)(m:Nat)(M:Nat→Nat→R D)(i:Nat)(f:Nat→R D):QgO (Qaw D m M) i (QaK D m f)=Qaw D m (QgO M i f):=funext fun t=>by
 show (if t=i then QaK D m f else QaK D m (M t))=QaK D m (if t=i then f else M t)
 by_cases e:t=i
 ·rw[if_pos e,if_pos e]
 ·rw[if_neg e,if_neg e]
theorem Qba (D:Desc)(m:Nat)(M:Nat→Nat→R D)(i:Nat):(Qaw D m M i).length=m:=Qae _ _ _
theorem Qkj (D:Desc){m:Nat} (M:Nat→Nat→R D)(i:Nat){j:Nat} (h:j<m):(Qaw D m M i)[j]?.getD 0=ci (M i j):=Qa0 _ _ h
structure QbR {D:Desc} (w:World) (L g m:Nat) (q:Option Nat) (i b c:Nat) (f:Nat→R D):Prop where
 hd:w.cell? ⟨g,i,none⟩=some (.slice (some ⟨b,0,none⟩) m c)
 fz:w.frozen? ⟨g,i,none⟩=false
 lt:b<w.heap.size
 ne:b≠g
 nq:q≠some b
 lo:L≤b
 c1:m≤c
 c2:c≤maxLen
 cells:∀j,j<m→w.cell? ⟨b,j,none⟩=some (.int .i64 (ci (f j)))∧w.frozen? ⟨b,j,none⟩=false
def MP {D:Desc} (w:World)(L g n m:Nat)(q:Option Nat)(M:Nat→Nat→R D):Prop :=
 g<w.heap.size∧∃b c:Nat→Nat,(∀i,i<n→QbR w L g m q i (b i) (c i) (M i))∧∀i k,i<n→k<n→b i=b k→i=k
section
variable {D:Desc} {w w':World} {L g n m:Nat} {q q':Option Nat} {i b c:Nat} {f:Nat→R D} {M:Nat→Nat→R D}
theorem QbR.grown {row:Option Nat} (h:QbR w L g m q i b c f)(T:g<w.heap.size)(I:w.grownBy w' row)(J:row≠some g)(O:row≠some b)(U:q'≠some b):QbR w' L g m q' i b c f where
 hd:=I.cell h.hd (fun e=>J e.symm)
 fz:=(World.frozen?_of_block (I.block g T (fun e=>J e.symm))).trans h.fz
 lt:=θ h.lt I.size
 ne:=h.ne
 nq:=U
 lo:=h.lo
 c1:=h.c1
 c2:=h.c2
 cells j hj:=⟨I.cell (h.cells j hj).1 (fun e=>O e.symm),(World.frozen?_of_block (I.block b h.lt (fun e=>O e.symm))).trans (h.cells j hj).2⟩
theorem QbR.rd (h:QbR w L g m q i b c f):Rd w w.heap.size (some ⟨b,0,none⟩) (QaK D m f):=fun _=>⟨b,0,rfl,h.lt,fun j I=>by
 rw[Qae]at I;rw[Qa0 _ _ I,Nat.zero_add];exact (h.cells j I).1⟩
theorem MP.below {B:Nat} (h:MP w L g n m q M)(I:Below B w w')(U:w.heap.size≤B):MP w' L g n m q M:=by
 obtain⟨J,b,c,O,V⟩:=h;exact⟨θ J I.size,b,c,fun i T=>(O i T).grown J (Qbr I U) (by simp) (by simp) (O i T).nq,V⟩
theorem MP.drew (h:MP w L g n m q M):MP w.drew L g n m q M:=by
 obtain⟨O,b,c,I,T⟩:=h;exact⟨O,b,c,fun i J=>⟨(I i J).hd,(I i J).fz,(I i J).lt,(I i J).ne,(I i J).nq,(I i J).lo,(I i J).c1,(I i J).c2,(I i J).cells⟩,T⟩
theorem MP.grown (h:MP w L g n m q M)(T:w.grownBy w' q)(V:q≠some g)(X:q'=q∨∀k,q'=some k→w.heap.size≤k):MP w' L g n m q' M:=by
 obtain⟨U,b,c,I,Y⟩:=h;refine⟨θ U T.size,b,c,fun i J=>(I i J).grown U T V (I i J).nq (fun e=>?_),Y⟩;rcases X with O |O
 ·exact (I i J).nq (O ▸ e)
 ·have:=O _ e;have:=(I i J).lt;omega
theorem MP.at_ (h:MP w L g n m q M)(V:i<n):∃b c,QbR w L g m q i b c (M i)∧∀ (w':World) (f:Nat→R D),w.grownBy w' (some b)→(∀j,j<m→w'.cell? ⟨b,j,none⟩=some (.int .i64 (ci (f j)))∧w'.frozen? ⟨b,j,none⟩=false)→MP w' L g n m q (QgO M i f):=by
 obtain⟨O,b,c,T,X⟩:=h;have I:=T i V;refine⟨b i,c i,I,fun w' f J Y=>⟨θ O J.size,b,c,fun k U=>?_,X⟩⟩;by_cases e:k=i
 ·subst e;rw[show QgO M k f k=f from if_pos rfl];exact⟨J.cell I.hd (fun e=>I.ne (by injection e with e;exact e.symm)),(World.frozen?_of_block (J.block g O (fun e=>I.ne (by injection e with e;exact e.symm)))).trans I.fz,θ I.lt J.size,I.ne,I.nq,I.lo,I.c1,I.c2,Y⟩
 ·rw[show QgO M i f k=M k from if_neg e];exact (T k U).grown O J (fun e=>I.ne (by injection e)) (fun e2=>e (X k i U V (by injection e2 with e3;exact e3.symm))) (T k U).nq
theorem MP.apart {k b' c':Nat} (h:MP w L g n m q M)(O:i<n)(T:k<n)(V:k≠i)(X:QbR w L g m q i b c (M i))(Y:QbR w L g m q k b' c' (M k)):b'≠b:=by
 obtain⟨-,B,C,U,h4⟩:=h;have I:=(U i O).hd;have J:=(U k T).hd;rw[X.hd]at I;rw[Y.hd]at J;intro e;apply V;refine h4 k i T O ?_;have a1:b=B i:=by injection I with I;injection I with I;injection I with I;injection I
 have a2:b'=B k:=by injection J with J;injection J with J;injection J with J;injection J
 omega
theorem QdK {k:Nat} {v:Value} (I:k≠i):(w.setCell ⟨g,i,none⟩ v).cell? ⟨g,k,none⟩=w.cell? ⟨g,k,none⟩ :=
 World.cell?_setCell_other _ _ _ _ (by intro e;injection e with e1 e2;exact I (by first |exact e2.symm |exact e2))
theorem QbR.put (h:QbR w L g m q i b c f)(Y:g<w.heap.size){b' c':Nat} {f':Nat→R D} (O:b'<w.heap.size)(I:b'≠g)(T:q≠some b')(U:L≤b')(V:m≤c')(X:c'≤maxLen)(J:∀j,j<m→w.cell? ⟨b',j,none⟩=some (.int .i64 (ci (f' j)))∧w.frozen? ⟨b',j,none⟩=false) :
  QbR (w.setCell ⟨g,i,none⟩ (.slice (some ⟨b',0,none⟩) m c')) L g m q i b' c' f' where
 hd:=World.cell?_setCell_same _ _ _ h.hd
 fz:=by have:=h.fz;simp[go_sem,this]
 lt:=by simp only[World.setCell,Array.size_modify];exact O
 ne:=I
 nq:=T
 lo:=U
 c1:=V
 c2:=X
 cells j hj:=⟨(World.cell?_setCell_far _ _ _ _ I.symm).trans (J j hj).1,by have:=(J j hj).2;simp[go_sem,this]⟩
theorem QbR.other {k:Nat} {v:Value} (h:QbR w L g m q k b c f)(I:k≠i):QbR (w.setCell ⟨g,i,none⟩ v) L g m q k b c f where
 hd:=(QdK I).trans h.hd
 fz:=by have:=h.fz;simp[go_sem,this]
 lt:=by simp only[World.setCell,Array.size_modify];exact h.lt
 ne:=h.ne
 nq:=h.nq
 lo:=h.lo
 c1:=h.c1
 c2:=h.c2
 cells j hj:=⟨(World.cell?_setCell_far _ _ _ _ h.ne.symm).trans (h.cells j hj).1,by have:=(h.cells j hj).2;simp[go_sem,this]⟩
theorem MP.swap {k b' c':Nat} (h:MP w L g n m q M)(hi:i<n)(hk:k<n)(V:k≠i)(I:QbR w L g m q i b c (M i))(J:QbR w L g m q k b' c' (M k)) :
  MP ((w.setCell ⟨g,i,none⟩ (.slice (some ⟨b',0,none⟩) m c')).setCell ⟨g,k,none⟩ (.slice (some ⟨b,0,none⟩) m c)) L g n m q (Qbt M i k):=by
 have au:=h.apart hi hk V I J;have am:∀t Y ct,t<n→t≠i→t≠k→QbR w L g m q t Y ct (M t)→Y≠b∧Y≠b':=fun t Y ct O T U X=>⟨h.apart hi O T I X,h.apart hk O U J X⟩
 obtain⟨aa,B,C,X,h4⟩:=h;have hs:(w.setCell ⟨g,i,none⟩ (.slice (some ⟨b',0,none⟩) m c')).heap.size=w.heap.size:=by simp[World.setCell]
 have x1:QbR (w.setCell ⟨g,i,none⟩ (.slice (some ⟨b',0,none⟩) m c')) L g m q i b' c' (M k):=I.put aa J.lt J.ne J.nq J.lo J.c1 J.c2 J.cells;have x2:QbR (w.setCell ⟨g,i,none⟩ (.slice (some ⟨b',0,none⟩) m c')) L g m q k b' c' (M k):=J.other V;have y2:QbR ((w.setCell ⟨g,i,none⟩ (.slice (some ⟨b',0,none⟩) m c')).setCell ⟨g,k,none⟩ (.slice (some ⟨b,0,none⟩) m c)) L g m q k b c (M i) :=
  x2.put (by rw[hs];exact aa) (by rw[hs];exact I.lt) I.ne I.nq I.lo I.c1 I.c2 fun j hj=>⟨(World.cell?_setCell_far _ _ _ _ I.ne.symm).trans (I.cells j hj).1,by have:=(I.cells j hj).2;simp[go_sem,this]⟩
 have y1:=x1.other (i:=k) (v:=.slice (some ⟨b,0,none⟩) m c) V.symm;refine⟨by simp only[World.setCell,Array.size_modify];exact aa,fun t=>if t=i then b' else if t=k then b else B t,fun t=>if t=i then c' else if t=k then c else C t,fun t O=>?_,fun s t al O=>?_⟩
 ·unfold Qbt;by_cases T:t=i
  ·subst T;simp only[if_true];exact y1
  ·by_cases U:t=k
   ·subst U;simp only[if_neg T,if_true];exact y2
   ·simp only[if_neg T,if_neg U];exact ((X t O).other T).other U
 ·intro e;have ai:=fun t O T U=>am t (B t) (C t) O T U (X t O)
  by_cases s1:s=i <;> by_cases s2:s=k <;> by_cases t1:t=i <;> by_cases t2:t=k <;> simp only[s1,s2,t1,t2,if_true,if_false,V,V.symm]at e ⊢ <;> first
   |exact h4 s t al O (by simpa [s1,s2,t1,t2] using e)
   |(exfalso;first |(have:=(ai t O t1 t2);simp_all) |(have:=(ai s al s1 s2);simp_all) |simp_all |omega)
   |simp_all
   |omega
theorem MP.putNew {T:World} {J:Nat} (h:MP w L g n m q M)(hi:i<n)(hb:Below w.heap.size w T)(U:IB T J (QaK D m f))(ap:w.heap.size≤J)(hL:L≤w.heap.size)(hq:∀k,q=some k→k<w.heap.size)(hm:m≤maxLen) :
  MP (T.setCell ⟨g,i,none⟩ (.slice (some ⟨J,0,none⟩) m m)) L g n m q (QgO M i f):=by
 obtain⟨ad,B,C,V,h4⟩:=h.below hb ρ;have ac:∀k,k<n→B k<w.heap.size:=fun k X=>by
  obtain⟨an,B0,C0,ae,-⟩:=h;have I:=(V k X).hd;rw[((hb.cell (p:=⟨g,k,none⟩) an).trans (ae k X).hd)]at I;have a1:B0 k=B k:=by injection I with I;injection I with I;injection I with I;injection I
  rw[←a1];exact (ae k X).lt
 have hg:=h.1;have y1:=(V i hi).put ad (b':=J) (c':=m) (f':=f) U.lt (by omega) (fun e=>by have:=hq _ e;omega) (by omega) ρ hm fun j hj=>⟨by have:=U.cell (i:=j) (by rw[Qae];exact hj);rwa [Qa0 _ _ hj]at this,U.frozen j⟩
 refine⟨by simp only[World.setCell,Array.size_modify];exact ad,fun t=>if t=i then J else B t,fun t=>if t=i then m else C t,fun t O=>?_,fun s t ag O=>?_⟩
 ·unfold QgO;by_cases I:t=i
  ·subst I;simp only[if_true];exact y1
  ·simp only[if_neg I];exact (V t O).other I
 ·intro e;by_cases Y:s=i <;> by_cases t1:t=i
  ·omega
  ·simp only[Y,t1,if_true,if_false]at e;have:=ac t O;omega
  ·simp only[Y,t1,if_true,if_false]at e;have:=ac s ag;omega
  ·simp only[Y,t1,if_false]at e;exact h4 s t ag O e
theorem MP.rdmU (h:MP w L g n m q M)(O:L≤g):Qfb w L w.heap.size (some ⟨g,0,none⟩) n (Qaw D m M):=fun _=>by
 obtain⟨T,B,C,I,-⟩:=h;refine⟨g,0,rfl,O,T,fun i J=>⟨some ⟨B i,0,none⟩,C i,?_,(I i J).rd,?_,(I i J).c2,fun _ a e=>by cases e;exact (I i J).lo⟩⟩
 ·rw[Qba,Nat.zero_add];exact (I i J).hd
 ·rw[Qba];exact (I i J).c1
theorem QbR.to (h:QbR w L g m q i b c f)(I:q'≠some b):QbR w L g m q' i b c f:=⟨h.hd,h.fz,h.lt,h.ne,I,h.lo,h.c1,h.c2,h.cells⟩
theorem MP.row (h:MP w L g n m q' M)(O:i<n)(I:QbR w L g m q i b c (M i)):QbR w L g m q' i b c (M i):=by
 obtain⟨U,c2,J,-⟩:=h.at_ O;have e:=I.hd;rw[J.hd]at e;have T:U=b:=by injection e with e;injection e with e;injection e with e;injection e
 exact I.to (T ▸ J.nq)
theorem QbR.drew (h:QbR w L g m q i b c f):QbR w.drew L g m q i b c f:=⟨h.hd,h.fz,h.lt,h.ne,h.nq,h.lo,h.c1,h.c2,h.cells⟩
end
theorem Qhn {w w':World} {B b:Nat} (h:w.grownBy w' (some b))(I:B≤b)(J:b<w.heap.size):Below B w w' :=
 ⟨h.os,h.tape,h.output,h.size,fun k O=>h.block k (by omega) (fun e=>by injection e with e;omega)⟩
theorem QtT (n:Nat)(h:n≤70000)(w:World):(Instr.makeSlice 25 (.int .i64 (n:Int)) (.int .i64 (n:Int))).run Tryz.prog w =
  .ok (.slice (some ⟨w.heap.size,0,none⟩) n n) (w.alloc (.cells (Array.replicate n (Value.slice none 0 0)) 22)):=by
 have e:madeCells #[Value.slice none 0 0] n=Array.replicate n (Value.slice none 0 0):=by
  apply Array.ext
  ·simp[madeCells]
  ·intro i I J;simp[madeCells,Nat.mod_one]
 rw[←e];exact run_make_row' 25 22 (.slice none 0 0) 24 Tryz.underlying25 Qjd rfl .i64 .i64 n (by omega) (by omega) w
theorem Qis (F:FD)(m:Nat)(f:Nat→R F.z)(a:Int)(A1:Option Addr)(c1 gf:Nat)(w:World)(hg:GF w w.heap.size gf F)(al:Rd w w.heap.size A1 (QaK F.z m f))(hm:m≤70000) :
  Calls Tryz.prog 33 #[.pointer (some ⟨gf,0,none⟩),.int .i64 a,.slice A1 m c1] w (Qcj w.heap.size (QaK F.z m fun j=>eli F.z a*f j) w):=by
 have hM:=fun z W h=>η (QbZ F a z gf W h)
 have av:=QaC m hm;obtain⟨Y,J⟩:=ε (w.alloc (.cells (Array.replicate m (Value.int .i64 0)) 3));obtain⟨g,T⟩:=ε (w.heap.size);have I:IB Y g (upd m 0 fun j=>ci (eli F.z a*f j)):=by rw[QaP,J,T];exact IB.newz w m
 have hB:Below w.heap.size w Y:=by rw[J];exact β
 replace J:=η J;replace I:=η I;go_enter Tryz.func33,Tryz.ntmps33;go_wp2_with fail;rw[←J.out];simp only[←T];have ah:w.heap.size≤g:=Nat.le_of_eq T.symm;replace T:=η T;go_loopw [15,8,9] (fun i _ _ wr=>∃k:Nat,k≤m∧i=.int .i64 k∧Hid (IB wr g (upd m k fun j=>ci (eli F.z a*f j)))∧Below w.heap.size w wr) (fun i _ _ _=>m - (intOf i).toNat)
 case atStart=>exact⟨0,by omega,rfl,I,hB⟩
 case round =>
  clear I hB J;obtain⟨w3,rfl⟩:=ε (wr:World);obtain⟨k,hk,rfl,I,O⟩:=hrel;have ao:=I.out.lt;by_cases ae:k<m
  ·have aw:(0:Int)≤(k:Int):=by omega
   have ax:(k:Int)<(m:Int):=by omega
   obtain⟨b,o,rfl,hb,hc⟩:=al.at_ (by rw[Qae];exact ae:k<(QaK F.z m f).length);rw[Qa0 _ f ae]at hc;have hd:=(O.cell (p:=⟨b,o+k,none⟩) hb).trans hc;have U:=fun W h=>(hM (ci (f k)) W h).out
   rw[Qam]at U;obtain⟨y,hy⟩:=ε (ci (f k));obtain⟨v,V⟩:=ε (ci (eli F.z a*f k));rw[←hy]at hd U;rw[←V]at U;have ap:=η (U w3 (hg.bm O));have aq:Hid (k<(upd m k fun j=>ci (eli F.z a*f j)).length):=by unfold Hid;rw[Qaz];exact ae
   replace V:=η V;replace hy:=η hy;clear hc U;go_wp2_with fail;(with_reducible refine ap.out.mono ?_);rintro e w4 ⟨rfl,aj⟩;have ac:=I.out.below aj ao;have ay:=ac.cell aq.out;have az:=ac.frozen k;have X:=ac.set_ k v;rw[V.out,QaY,←V.out]at X;have ar:=η ((ζ O aj).setCell (p:=⟨g,k,none⟩) ah (.int .i64 v));replace X:=η X;clear hd;go_wp2_with fail;go_roundw
   case rel=>exact⟨k+1,by omega,by go_num,X,ar.out⟩
   case measure=>simp[intOf];omega
  ·obtain rfl:k=m:=by omega
   have aa:=I.out;rw[QaR]at aa;replace aa:=η aa;go_wp2_with fail;go_ret;exact⟨g,by rw[Qae];rfl,ah,aa.out,O⟩
end
end Go.Proofs

/- Words for slices of slices of ints: a matrix that is read, one that a call makes by append, one whose rows are exchanged in place. The row of a law: an argument that is a list of ints, opened. The row of a law: an argument of type api.Code, opened. -/
import Derived.Deep.Slices
import Derived.Test.YtogfekjbpcfgmaaGreatZtXLA
import Derived.Test.YtogfekjbpcfgmaaGreatZtXOnce
namespace Go.Proofs.YtogfekjbpcfgmaaGreat
section
open Go.RowKit Cw

def RdM (w:World)(B:Nat)(A:Option Addr)(n:Nat)(rows:Nat→List Int):Prop :=
 0<n→∃ b off,A=some ⟨b,off,none⟩∧b<B∧∀ i,i<n→∃ Ai ci,w.cell? ⟨b,off+i,none⟩=some (.slice Ai (rows i).length ci)∧Rd w B Ai (rows i)∧(rows i).length≤ci∧ci≤maxLen
section
variable {w w':World} {B B' n:Nat} {A:Option Addr} {rows:Nat→List Int}
theorem RdM.zero:RdM w B A 0 rows:=fun h=>absurd h (Nat.lt_irrefl _)
theorem RdM.at_ {i:Nat} (h:RdM w B A n rows)(hi:i<n):∃ b off Ai ci,A=some ⟨b,off,none⟩∧b<B∧w.cell? ⟨b,off+i,none⟩=some (.slice Ai (rows i).length ci)∧Rd w B Ai (rows i)∧(rows i).length≤ci∧ci≤maxLen:=by
 obtain⟨b,off,e,hb,hc⟩:=h (by omega);obtain⟨Ai,ci,h1,h2,h3,h4⟩:=hc i hi;exact⟨b,off,Ai,ci,e,hb,h1,h2,h3,h4⟩
theorem RdM.keep (h:RdM w B A n rows)(hk:∀ p:Addr,p.block<B→w'.cell? p=w.cell? p):RdM w' B A n rows:=fun hn=>by
 obtain⟨b,off,e,hb,hc⟩:=h hn;refine⟨b,off,e,hb,fun i hi=>?_⟩;obtain⟨Ai,ci,h1,h2,h3⟩:=hc i hi;exact⟨Ai,ci,(hk ⟨b,off+i,none⟩ hb).trans h1,h2.keep hk,h3⟩
theorem RdM.more (h:RdM w B A n rows)(hB:B≤B'):RdM w B' A n rows:=fun hn=>by
 obtain⟨b,off,e,hb,hc⟩:=h hn;refine⟨b,off,e,by omega,fun i hi=>?_⟩;obtain⟨Ai,ci,h1,h2,h3⟩:=hc i hi;exact⟨Ai,ci,h1,h2.more hB,h3⟩
theorem RdM.below (h:RdM w B A n rows)(hb:Below B w w'):RdM w' B A n rows:=h.keep fun _ hp=>hb.cell hp
theorem RdM.drew (h:RdM w B A n rows):RdM w.drew B A n rows:=h
theorem RdM.less {m:Nat} (h:RdM w B A n rows)(hm:m≤n):RdM w B A m rows:=fun hn=>by
 obtain⟨b,off,e,hb,hc⟩:=h (by omega);exact⟨b,off,e,hb,fun i hi=>hc i (by omega)⟩
theorem RdM.congr {rows':Nat→List Int} (h:RdM w B A n rows)(he:∀ i,i<n→rows i=rows' i):RdM w B A n rows':=fun hn=>by
 obtain⟨b,off,e,hb,hc⟩:=h hn;exact⟨b,off,e,hb,fun i hi=>by rw[←he i hi]; exact hc i hi⟩
end

def RdMU (w:World)(L B:Nat)(A:Option Addr)(n:Nat)(rows:Nat→List Int):Prop :=
 0<n→∃ b off,A=some ⟨b,off,none⟩∧L≤b∧b<B∧∀ i,i<n→∃ Ai ci,w.cell? ⟨b,off+i,none⟩=some (.slice Ai (rows i).length ci)∧Rd w B Ai (rows i)∧(rows i).length≤ci∧ci≤maxLen∧(rows i≠[]→∀ a,Ai=some a→L≤a.block)
theorem RdMU.rdm {w:World} {L B n:Nat} {A:Option Addr} {rows:Nat→List Int} (h:RdMU w L B A n rows):RdM w B A n rows:=fun hn=>by
 obtain⟨b,off,e,-,hb,hc⟩:=h hn;exact⟨b,off,e,hb,fun i hi=>by obtain⟨Ai,ci,h1,h2,h3,h4,-⟩:=hc i hi; exact⟨Ai,ci,h1,h2,h3,h4⟩⟩
theorem RdMU.zero {w:World} {L B:Nat} {A:Option Addr} {rows:Nat→List Int}:RdMU w L B A 0 rows:=fun h=>absurd h (Nat.lt_irrefl _)
theorem RdMU.less {w:World} {L B n m:Nat} {A:Option Addr} {rows:Nat→List Int} (h:RdMU w L B A n rows)(hm:m≤n):RdMU w L B A m rows:=fun hn=>by
 obtain⟨b,off,e,hL,hb,hc⟩:=h (by omega);exact⟨b,off,e,hL,hb,fun i hi=>hc i (by omega)⟩
theorem RdMU.keepU {w w':World} {L B n:Nat} {A:Option Addr} {rows:Nat→List Int} (h:RdMU w L B A n rows)(hk:∀ p:Addr,L≤p.block→p.block<B→w'.cell? p=w.cell? p):RdMU w' L B A n rows:=fun hn=>by
 obtain⟨b,off,e,hL,hb,hc⟩:=h hn;refine⟨b,off,e,hL,hb,fun i hi=>?_⟩;obtain⟨Ai,ci,h1,h2,h3,h4,h5⟩:=hc i hi;refine⟨Ai,ci,(hk ⟨b,off+i,none⟩ hL hb).trans h1,fun hl=>?_,h3,h4,h5⟩;obtain⟨b2,o2,e2,hb2,hc2⟩:=h2 hl;exact⟨b2,o2,e2,hb2,fun j hj=>(hk ⟨b2,o2+j,none⟩ (show L≤b2 from h5 (List.length_pos_iff.1 hl) ⟨b2,o2,none⟩ e2) hb2).trans (hc2 j hj)⟩
theorem RdMU.low {w:World} {L L' B n:Nat} {A:Option Addr} {rows:Nat→List Int} (h:RdMU w L B A n rows)(hL:L'≤L):RdMU w L' B A n rows:=fun hn=>by
 obtain⟨b,off,e,h1,hb,hc⟩:=h hn;refine⟨b,off,e,by omega,hb,fun i hi=>?_⟩;obtain⟨Ai,ci,h1,h2,h3,h4,h5⟩:=hc i hi;exact⟨Ai,ci,h1,h2,h3,h4,fun hn a e=>Nat.le_trans hL (h5 hn a e)⟩
theorem RdMU.more {w:World} {L B B' n:Nat} {A:Option Addr} {rows:Nat→List Int} (h:RdMU w L B A n rows)(hB:B≤B'):RdMU w L B' A n rows:=fun hn=>by
 obtain⟨b,off,e,hL,hb,hc⟩:=h hn;refine⟨b,off,e,hL,by omega,fun i hi=>?_⟩;obtain⟨Ai,ci,h1,h2,h3⟩:=hc i hi;exact⟨Ai,ci,h1,h2.more hB,h3⟩
def MB (w:World)(L g n:Nat)(q:Option Nat)(rows:Nat→List Int):Prop :=
 g<w.heap.size∧∀ i,i<n→∃ Ai ci,w.cell? ⟨g,i,none⟩=some (.slice Ai (rows i).length ci)∧w.frozen? ⟨g,i,none⟩=false∧Rd w w.heap.size Ai (rows i)∧(rows i).length≤ci∧ci≤maxLen∧(rows i≠[]→∀ a,Ai=some a→a.block≠g∧q≠some a.block∧L≤a.block)
section
variable {w w':World} {L B g n:Nat} {q q':Option Nat} {rows:Nat→List Int}
theorem MB.rdmU (h:MB w L g n q rows)(hg:L≤g):RdMU w L w.heap.size (some ⟨g,0,none⟩) n rows:=fun _=>⟨g,0,rfl,hg,h.1,fun i hi=>by
 obtain⟨Ai,ci,h1,-,h3,h4,h5,h6⟩:=h.2 i hi;exact⟨Ai,ci,by rw[Nat.zero_add]; exact h1,h3,h4,h5,fun hn a e=>(h6 hn a e).2.2⟩⟩
theorem MB.below (h:MB w L g n q rows)(hb:Below B w w')(hB:w.heap.size≤B):MB w' L g n q rows :=
 ⟨Nat.lt_of_lt_of_le h.1 hb.size,fun i hi=>by
  obtain⟨Ai,ci,h1,h2,h3,h4⟩:=h.2 i hi;have hg:g<B:=Nat.lt_of_lt_of_le h.1 hB;exact⟨Ai,ci,(hb.cell (p:=⟨g,i,none⟩) hg).trans h1,(hb.frozen (p:=⟨g,i,none⟩) hg).trans h2,(h3.keep fun _ hp=>hb.cell (Nat.lt_of_lt_of_le hp hB)).more hb.size,h4⟩⟩
theorem MB.drew (h:MB w L g n q rows):MB w.drew L g n q rows:=h
theorem Rd.farN {l:List Int} {A:Option Addr} (h:Rd w B A l)(hA:l≠[]→∀ b,A=some b→b.block≠g)(i:Nat)(u:Value):Rd (w.setCell ⟨g,i,none⟩ u) B A l:=fun hn=>by
 obtain⟨b,off,e,hbl,hcell⟩:=h hn;have h8:=hA (List.length_pos_iff.1 hn) _ e;refine⟨b,off,e,hbl,fun j hj=>?_⟩;have ne:(⟨b,off+j,none⟩:Addr)≠⟨g,i,none⟩:=fun e2=>h8 (congrArg Addr.block e2)
 rw[World.cell?_setCell_other _ _ _ _ (by first | exact ne | exact ne.symm)];exact hcell j hj
theorem Own.capM {w:World} {B n c:Nat} {A:Option Addr} {l:List Int} (h:Own w B (.slice A n c) l):c≤maxLen:=by
 rcases h.2 with ⟨e,-⟩ | ⟨g,cap,cur,hv,hb,hg,hc,hm,_⟩
 ·cases e; exact Nat.zero_le _
 ·cases hv; exact hm
theorem Own.lowerM {w:World} {B B':Nat} {v:Value} {l:List Int} (h:Own w B v l)(hB:B'≤B):Own w B' v l:=by
 refine⟨h.1,?_⟩;rcases h.2 with hn | ⟨g,cap,cur,rfl,hb,rest⟩
 ·exact .inl hn
 ·exact .inr ⟨g,cap,cur,rfl,Nat.le_trans hB hb,rest⟩
theorem MB.set {i:Nat} {Ai:Option Addr} {l:List Int} {ci:Nat} (h:MB w L g n q rows)(hi:i<n)(hr:Rd w w.heap.size Ai l)(hl:l.length≤ci)(hc:ci≤maxLen)(hd:l≠[]→∀ a,Ai=some a→a.block≠g∧q≠some a.block∧L≤a.block) :
  MB (w.setCell ⟨g,i,none⟩ (.slice Ai l.length ci)) L g n q (setR rows i l):=by
 have hs:(w.setCell ⟨g,i,none⟩ (.slice Ai l.length ci)).heap.size=w.heap.size:=by simp[World.setCell]
 refine⟨by rw[hs]; exact h.1,fun j hj=>?_⟩;rw[hs];by_cases e:j=i
 ·subst e;obtain⟨A0,c0,h1,h2,-⟩:=h.2 j hi;refine⟨Ai,ci,?_,?_,?_⟩
  ·rw[show setR rows j l j=l from if_pos rfl]; simp[go_sem,h1]
  ·simp[go_sem,h2]
  ·rw[show setR rows j l j=l from if_pos rfl]; exact⟨hr.farN (fun h a e=>(hd h a e).1) _ _,hl,hc,hd⟩
 ·obtain⟨A0,c0,h1,h2,h3,h4,h5,h6⟩:=h.2 j hj;rw[show setR rows i l j=rows j from if_neg e];refine⟨A0,c0,?_,?_,h3.farN (fun h a e=>(h6 h a e).1) _ _,h4,h5,h6⟩
  ·rw[World.cell?_setCell_other _ _ _ _ (by intro e2; injection e2 with e3 e4; exact e (by first | exact e4 | exact e4.symm))]; exact h1
  ·simp[go_sem,h2]
theorem MB.grown (h:MB w L g n q rows)(hg:w.grownBy w' q)(hne:q≠some g)(hv:q'=q∨∀ k,q'=some k→w.heap.size≤k):MB w' L g n q' rows :=
 ⟨Nat.lt_of_lt_of_le h.1 hg.size,fun i hi=>by
  obtain⟨Ai,ci,h1,h2,h3,h4,h5,h6⟩:=h.2 i hi;refine⟨Ai,ci,hg.cell h1 (fun e=>hne e.symm),?_,fun hn=>?_,h4,h5,fun hn a e=>⟨(h6 hn a e).1,fun e2=>?_,(h6 hn a e).2.2⟩⟩
  ·rw[←h2]; exact World.frozen?_of_block (hg.block g h.1 (fun e=>hne e.symm))
  ·obtain⟨b,off,e,hbl,hcell⟩:=h3 hn;exact⟨b,off,e,Nat.lt_of_lt_of_le hbl hg.size,fun j hj=>hg.cell (hcell j hj) fun e2=>(h6 (List.length_pos_iff.1 hn) _ e).2.1 e2.symm⟩
  ·rcases hv with h7 | h7
   ·exact (h6 hn a e).2.1 (h7 ▸ e2)
   ·have h8:=h7 _ e2;obtain⟨b,off,e3,hbl,-⟩:=h3 (List.length_pos_iff.2 hn);rw[e]at e3; cases e3; dsimp at h8; omega⟩
end

def OwnV (w:World)(B:Nat)(v:Value)(hs:List Value):Prop:=w.ownsRow B 22 1 v hs.length hs
theorem infoInts:(Tryz.prog.info? 22).map (fun i=>(i.zero,i.size,i.bytes))=some (some (.slice none 0 0),1,24):=by kernel_rfl
theorem wpList_app1V {w:World} {ops:Array Oper} {rest:List Oper} {o:Oper} {a:Act} {Q:Exit→Act→World→Prop} (hgd:o.guard=none)(s x:Operand)
  (ho:o.op=.call { callee:=.builtin .append,args:=#[s,x],argTypes:=#[25,25] })
  (B:Nat) (v:Value) (l:List Value) (y:Value) (hy:y.oneCell'=true) (hown:OwnV w B v l) (hs:a.eval s=v) {H:Nat} (hx:a.eval x=.slice (some ⟨H,0,none⟩) 1 1) (hH:w.heap.size=H)
  (hl:l.length≤1000000) (hB:B≤w.heap.size)
  (h:∀ v' w',OwnV w' B v' (l ++ [y])→Below B w w'→w.grownBy w' v.ownBlock→(v'.ownBlock=v.ownBlock∨(∀ k,v'.ownBlock=some k→w.heap.size≤k))→wpList Tryz.prog ops Q rest (a.put o.dst v') w') :
  wpList Tryz.prog ops Q (o :: rest) a (w.alloc (.cells #[y] 22)):=by
 subst hH;obtain⟨i0,hi,hz0,hz1,hz2⟩:=info_parts infoInts;refine wpList_plain hgd fun K hK=>?_
 obtain⟨v',w',hrun,h2,h3,_,h5⟩:=run_append_own_at (P:=Tryz.prog) (w.alloc (.cells #[y] 22)) B 25 o.type 22 i0 (.slice none 0 0) 1 24 Tryz.underlying25 hi hz0 hz1 hz2 rfl (by decide) v l.length l (World.ownsRow.alloc hown _)
  ⟨w.heap.size,0,none⟩ 1 1 [y] rfl (cell_one_new _ _ _) (by simp[hy]) (by simp only[maxLen]; omega) (by omega) (by simp; omega)
 unfold Oper.wp execOp;simp only[ho,resolve,invoke,builtin,Sem.run_bind,Sem.run_pure,Result.andThen_ok,List.map_toArray,List.map_cons,List.map_nil,hs,hx,hrun];have hg:w.grownBy w' v.ownBlock:=⟨h3.os,h3.tape,h3.output,Nat.le_trans (by simp) h3.size,fun k hk hne=>(h3.block k (by simp; omega) hne).trans (Below.heap_alloc _ _ _ hk)⟩;refine hK _ _ (h v' w' (by unfold OwnV; rw[List.length_append]; exact h2) ⟨hg.os,hg.tape,hg.output,hg.size,fun k hk=>hg.block k (by omega) (fun e=>by have:=(World.ownsRow.lt hown k e.symm).1; omega)⟩ hg ?_);rcases h5 with h5 | h5
 ·exact .inl h5
 ·right; intro k hk; rw[h5]at hk; cases hk; simp

def OwnM (w:World)(B:Nat)(v:Value)(n:Nat)(rows:Nat→List Int):Prop :=
 ∃ hs:List Value,hs.length=n∧OwnV w B v hs∧∀ i,i<n→∃ Ai ci,hs[i]?=some (.slice Ai (rows i).length ci)∧Rd w w.heap.size Ai (rows i)∧(rows i).length≤ci∧ci≤maxLen∧(rows i≠[]→∀ a,Ai=some a→v.ownBlock≠some a.block∧B≤a.block)
section
variable {w w':World} {B n:Nat} {v:Value} {rows:Nat→List Int}
theorem OwnM.nil (w:World)(B:Nat)(rows:Nat→List Int):OwnM w B (.slice none 0 0) 0 rows:=⟨[],rfl,World.ownsRow_nil _ _ _ _,fun i hi=>absurd hi (by omega)⟩
theorem OwnM.below {W:Nat} (h:OwnM w B v n rows)(hb:Below W w w')(hW:w.heap.size≤W):OwnM w' B v n rows:=by
 obtain⟨hs,h1,h2,h3⟩:=h;refine⟨hs,h1,World.ownsRow.kept h2 (below_grown hb hW) (by cases hv:v.ownBlock <;> simp),fun i hi=>?_⟩;obtain⟨Ai,ci,a1,a2,a3⟩:=h3 i hi;exact⟨Ai,ci,a1,(a2.keep fun _ hp=>hb.cell (Nat.lt_of_lt_of_le hp hW)).more hb.size,a3⟩
theorem OwnM.size (h:OwnM w B v n rows):∃ A c,v=.slice A n c:=by
 obtain⟨hs,h1,h2,-⟩:=h;rcases h2.2 with ⟨rfl,h0⟩ | ⟨g,cap,cur,hv,-⟩
 ·exact⟨none,0,by rw[←h1,h0]⟩
 ·exact⟨some ⟨g,0,none⟩,cap,by rw[hv,h1]⟩
theorem OwnM.snoc {hs:List Value} {Ak:Option Addr} {ck:Nat} {v':Value} (h1:hs.length=n)(h3:∀ i,i<n→∃ Ai ci,hs[i]?=some (.slice Ai (rows i).length ci)∧Rd w w.heap.size Ai (rows i)∧(rows i).length≤ci∧ci≤maxLen∧(rows i≠[]→∀ a,Ai=some a→v.ownBlock≠some a.block∧B≤a.block))
  (hr:Rd w w.heap.size Ak (rows n)) (hl:(rows n).length≤ck) (hc:ck≤maxLen) (hd:rows n≠[]→∀ a,Ak=some a→v.ownBlock≠some a.block∧B≤a.block)
  (ho:OwnV w' B v' (hs ++ [.slice Ak (rows n).length ck])) (hg:w.grownBy w' v.ownBlock) (hv:v'.ownBlock=v.ownBlock∨∀ k,v'.ownBlock=some k→w.heap.size≤k):OwnM w' B v' (n+1) rows:=by
 have hkeep:∀ {A:Option Addr} {l:List Int},Rd w w.heap.size A l→(l≠[]→∀ a,A=some a→v.ownBlock≠some a.block∧B≤a.block)→Rd w' w'.heap.size A l∧(l≠[]→∀ a,A=some a→v'.ownBlock≠some a.block∧B≤a.block):=fun {A l} hr hd=>by
  refine⟨fun hn=>?_,fun hn a e=>⟨fun e2=>?_,(hd hn a e).2⟩⟩
  ·obtain⟨b,off,e,hbl,hcell⟩:=hr hn;refine⟨b,off,e,Nat.lt_of_lt_of_le hbl hg.size,fun j hj=>hg.cell (hcell j hj) fun e2=>?_⟩;exact (hd (List.length_pos_iff.1 hn) _ e).1 e2.symm
  ·rcases hv with h5 | h5
   ·exact (hd hn a e).1 (h5 ▸ e2)
   ·have h6:=h5 _ e2;obtain⟨b,off,e3,hbl,-⟩:=hr (List.length_pos_iff.2 hn);rw[e]at e3
    cases e3
    dsimp at h6;omega
 refine⟨hs ++ [.slice Ak (rows n).length ck],by simp[h1],ho,fun i hi=>?_⟩;by_cases e:i=n
 ·subst e;exact⟨Ak,ck,by rw[List.getElem?_append_right (by omega),h1,Nat.sub_self]; rfl,(hkeep hr hd).1,hl,hc,(hkeep hr hd).2⟩
 ·obtain⟨Ai,ci,a1,a2,a3,a4,a5⟩:=h3 i (by omega);exact⟨Ai,ci,by rw[List.getElem?_append_left (by omega)]; exact a1,(hkeep a2 a5).1,a3,a4,(hkeep a2 a5).2⟩
theorem OwnM.mb (h:OwnM w B v n rows)(hn:0<n):∃ g c,v=.slice (some ⟨g,0,none⟩) n c∧B≤g∧n≤c∧c≤maxLen∧MB w B g n none rows:=by
 obtain⟨hs,h1,h2,h3⟩:=h;have h2':=h2;rcases h2.2 with ⟨rfl,h0⟩ | ⟨g,cap,cur,rfl,hb,hg,hc,hm,_⟩
 ·omega
 ·rw[h1]at *;have hlt:g<w.heap.size:=(Array.getElem?_eq_some_iff.1 hg).1;refine⟨g,cap,rfl,hb,hc,hm,hlt,fun i hi=>?_⟩;obtain⟨Ai,ci,a1,a2,a3,a4,a5⟩:=h3 i hi;refine⟨Ai,ci,?_,?_,a2,a3,a4,fun hne a e=>⟨fun e2=>(a5 hne a e).1 (by rw[e2]; rfl),by simp,(a5 hne a e).2⟩⟩
  ·have:=World.ownsRow.cells h2' (g:=g) rfl i _ a1;rw[←this];unfold Addr.add; split <;> simp_all
  ·simp[World.frozen?,hg]
end
end
section
open Go.ChangeShapes Go.WideShapes Go.ChangeAt Go.RowKit Go.Joins Go.Deep

section
variable {H:Type} {enc:TypeId×Value→H} {W:World} {base:Nat}
set_option maxRecDepth 100000 in
theorem arg_ints {v:Value} {d:DataW H} {p:List MemPlace} (hv:Value.okWide Tryz.prog W .any base 22 v)(h:DataW.Trod enc Tryz.prog W 0 (fun _=>true) true 22 v d p)(hlt:∀ x∈p,x.block<W.heap.size) :
  ∃ (A:Option Addr) (l:List Int) (c:Nat),v=.slice A l.length c∧l.length≤c∧c≤maxLen∧(∀ x∈l,I64 x)∧Rd W W.heap.size A l:=by
 obtain⟨a,n,c,rfl⟩:=okWide_slice ty_ints hv;obtain⟨fuel,hf⟩:=h;obtain⟨A,l,c',e,h1,h2,h3,h4⟩:=cell_ints (v:=.slice a n c) hf hlt;exact⟨A,l,c',e,h1,h2,h3,h4⟩
end
end
section
open Go.ChangeShapes Go.WideShapes Go.ChangeAt Go.RowKit Go.Joins Go.Deep

section
variable {H:Type} {enc:TypeId×Value→H} {W:World} {base:Nat}
theorem array5 {α:Type} {cs:Array α} (h:cs.size=5):∃ c0 c1 c2 c3 c4,cs=#[c0,c1,c2,c3,c4]:=by
 obtain⟨l⟩:=cs
 match l,h with
 | [c0,c1,c2,c3,c4],_=>exact⟨c0,c1,c2,c3,c4,rfl⟩
theorem ty_rows:Tryz.prog.underlying 25=some (.slice 22):=by kernel_rfl
theorem cells_row:Tryz.prog.cellsOf 22=1:=by kernel_rfl
theorem cell_rows {n:Nat} {v:Value} {y:DataW H×List MemPlace} (h:DataW.trod enc Tryz.prog W 0 (fun _=>true) true n 25 [v]=some y)(hlt:∀ x∈y.2,x.block<W.heap.size) :
  ∃ (A:Option Addr) (k c:Nat) (rows:Nat→List Int),v=.slice A k c∧k≤c∧c≤maxLen∧(∀ i,i<k→∀ x∈rows i,I64 x)∧RdM W W.heap.size A k rows:=by
 rcases open_slice1 ty_rows cells_row h with ⟨hcs,rfl⟩ | ⟨a,len,cap,m,n',V,D,Pl,hcs,-,hl,hm,hmm,rfl,hx⟩
 ·cases hcs
  exact⟨none,0,0,fun _=>[],rfl,Nat.le_refl _,by simp[maxLen],fun i hi=>absurd hi (by omega),RdM.zero⟩
 ·cases hcs
  simp only[if_true]at hmm;obtain⟨rows,hrows⟩:=choose_lt (α:=List Int) (n:=len) (p:=fun i l=>∃ Ai ci,W.cell? (a.add i)=some (.slice Ai l.length ci)∧l.length≤ci∧ci≤maxLen∧(∀ x∈l,I64 x)∧Rd W W.heap.size Ai l) (fun i hi=>by
   obtain⟨h1,h2⟩:=hx i (by omega);obtain⟨Ai,l,ci,e,g1,g2,g3,g4⟩:=cell_ints h2 (fun x hx=>hlt x (List.mem_append_right _ (List.mem_flatMap.2 ⟨i,List.mem_range.2 (by omega),hx⟩)));exact⟨l,Ai,ci,by rw[←e]; exact h1,g1,g2,g3,g4⟩)
  refine⟨some a,len,cap,rows,rfl,hl,hm,fun i hi=>?_,fun h0=>?_⟩
  ·obtain⟨Ai,ci,-,-,-,g3,-⟩:=hrows i hi;exact g3
  ·have h1:=(hx 0 (by omega)).1;obtain⟨b,off,spot⟩:=a;have hspot:spot=none:=by simpa [Addr.add] using World.cell?_spot h1
   subst hspot;refine⟨b,off,rfl,hlt _ (List.mem_append_left _ (show MemPlace.cell b (off+0)∈_ from List.mem_map.2 ⟨0,List.mem_range.2 (by omega),rfl⟩)),fun i hi=>?_⟩;obtain⟨Ai,ci,g0,g1,g2,g3,g4⟩:=hrows i hi;rw[add_plain]at g0;exact⟨Ai,ci,g0,g4,g1,g2⟩
theorem cells_fieldC {n:Nat} {c0 c1 c2:Value} {y:DataW H×List MemPlace} (h:DataW.trod enc Tryz.prog W 0 (fun _=>true) true n 24 [c0,c1,c2]=some y)(hlt:∀ x∈y.2,x.block<W.heap.size) :
  ∃ (p m:Int) (A:Option Addr) (l:List Int) (c:Nat),c0=.int .i64 p∧c1=.int .i64 m∧c2=.slice A l.length c∧I64 p∧I64 m∧l.length≤maxLen∧Rd W W.heap.size A l:=by
 obtain⟨f0,f1,f2,hs,t0,t1,t2,hone,hC⟩:=ty_field;obtain⟨o0,k0⟩:=hone_of hone 0 f0 rfl;obtain⟨o1,k1⟩:=hone_of hone 1 f1 rfl;obtain⟨o2,k2⟩:=hone_of hone 2 f2 rfl;obtain⟨y0,y1,y2,n',hx,-,h0,h1,h2⟩:=trod_struct3 hs h;simp only[o0,o1,o2,k0,k1,k2]at h0 h1 h2;rw[t0]at h0; rw[t1]at h1; rw[t2]at h2;subst hx;obtain⟨x0,rfl,i0⟩:=cell_int (v:=c0) h0;obtain⟨x1,rfl,i1⟩:=cell_int (v:=c1) h1;obtain⟨A,l,c,rfl,hl,hm,hi,hr⟩:=cell_ints (v:=c2) h2 fun x hx=>hlt x (by simp[hx])
 exact⟨x0,x1,A,l,c,rfl,rfl,rfl,i0,i1,by omega,hr⟩
theorem ty_code:∃ f0 f1 f2:Field,Tryz.prog.underlying 27=some (.struct #[f0,f1,f2])∧(f0.type=24∧f0.offset=0)∧(f1.type=3∧f1.offset=3)∧(f2.type=25∧f2.offset=4) :=
 ⟨_,_,_,Tryz.underlying27,⟨rfl,rfl⟩,⟨rfl,rfl⟩,⟨rfl,rfl⟩⟩
theorem cells_code:Tryz.prog.cellsOf 27=5:=by kernel_rfl
theorem cells_fieldT5:Tryz.prog.cellsOf 24=3:=by kernel_rfl
theorem cells_rowsT:Tryz.prog.cellsOf 25=1:=by kernel_rfl
set_option maxRecDepth 100000 in
theorem arg_code {v:Value} {d:DataW H} {p:List MemPlace} (hv:Value.okWide Tryz.prog W .any base 27 v)(h:DataW.Trod enc Tryz.prog W 0 (fun _=>true) true 27 v d p)(hlt:∀ x∈p,x.block<W.heap.size) :
  ∃ (P M N:Int) (A Ar:Option Addr) (ml:List Int) (k c cr:Nat) (rows:Nat→List Int),v=.agg #[.int .i64 P,.int .i64 M,.slice A ml.length c,.int .i64 N,.slice Ar k cr] ∧
   I64 P∧I64 M∧I64 N∧ml.length≤maxLen∧(k≤cr∧cr≤maxLen)∧(∀ i,i<k→∀ x∈rows i,I64 x)∧Rd W W.heap.size A ml∧RdM W W.heap.size Ar k rows:=by
 obtain⟨f0,f1,f2,hs,⟨t0,o0⟩,⟨t1,o1⟩,⟨t2,o2⟩⟩:=ty_code;obtain⟨cs,rfl,hsz⟩:=okWide_struct hs hv;obtain⟨c0,c1,c2,c3,c4,rfl⟩:=array5 (hsz.trans cells_code);obtain⟨fuel,hf⟩:=h;obtain⟨xs,n,_,hx,_,hlen,hg⟩:=DataW.trod_struct hs hf
 match xs,hlen with
 | [y0,y1,y2],_ =>
  have g0:=hg 0 f0 rfl;have g1:=hg 1 f1 rfl;have g2:=hg 2 f2 rfl;rw[t0,o0,cells_fieldT5]at g0;rw[t1,o1,cells_int]at g1;rw[t2,o2,cells_rowsT]at g2;simp only[Prod.mk.injEq]at hx;have hp:=hx.2;obtain⟨P,M,A,ml,c,rfl,rfl,rfl,i0,i1,hl,hr⟩:=cells_fieldC (c0:=c0) (c1:=c1) (c2:=c2) g0 fun x hx=>hlt x (by rw[hp]; simp[hx])
  obtain⟨N,rfl,i2⟩:=cell_int (v:=c3) g1;obtain⟨Ar,k,cr,rows,rfl,a1,b1,d1,r1⟩:=cell_rows (v:=c4) g2 fun x hx=>hlt x (by rw[hp]; simp[hx])
  exact⟨P,M,N,A,Ar,ml,k,c,cr,rows,rfl,i0,i1,i2,hl,⟨a1,b1⟩,d1,hr,r1⟩
end
end
end Go.Proofs.YtogfekjbpcfgmaaGreat

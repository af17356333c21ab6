/- Rows of elements; words for a matrix whose rows are changed in place; the program's Scale. Entries that are elements; cells of a field and one more, kept. Go's slices.Index and slices.Contains over ints. -/
import Derived.Test.YtogfekjbpcfgmaaGreatZtXRF
import Derived.Test.YtogfekjbpcfgmaaGreatZtXGA
import Derived.Test.YtogfekjbpcfgmaaGreatZtXArgC
set_option linter.unusedVariables false
set_option linter.unusedSimpArgs false
namespace Go.Proofs.YtogfekjbpcfgmaaGreat
section
open Go.RowKit Cw
attribute [local go_sem] Oper.semAt_some

def rowL (D:Desc)(m:Nat)(f:Nat→R D):List Int:=lst m fun j=>ci (f j)
theorem rowL_length (D:Desc)(m:Nat)(f:Nat→R D):(rowL D m f).length=m:=lst_length _ _
theorem rowL_get (D:Desc){m j:Nat} (f:Nat→R D)(h:j<m):(rowL D m f)[j]?.getD 0=ci (f j):=lst_get _ h
def rowsL (D:Desc)(m:Nat)(M:Nat→Nat→R D):Nat→List Int:=fun i=>rowL D m (M i)
theorem setR_rowsL (D:Desc)(m:Nat)(M:Nat→Nat→R D)(i:Nat)(f:Nat→R D):setR (rowsL D m M) i (rowL D m f)=rowsL D m (setR M i f):=funext fun t=>by
 show (if t=i then rowL D m f else rowL D m (M t))=rowL D m (if t=i then f else M t)
 by_cases e:t=i
 ·rw[if_pos e,if_pos e]
 ·rw[if_neg e,if_neg e]
theorem rowsL_length (D:Desc)(m:Nat)(M:Nat→Nat→R D)(i:Nat):(rowsL D m M i).length=m:=rowL_length _ _ _
theorem rowsL_get (D:Desc){m:Nat} (M:Nat→Nat→R D)(i:Nat){j:Nat} (h:j<m):(rowsL D m M i)[j]?.getD 0=ci (M i j):=rowL_get _ _ h
structure RowAt {D:Desc} (w:World) (L g m:Nat) (q:Option Nat) (i b c:Nat) (f:Nat→R D):Prop where
 hd:w.cell? ⟨g,i,none⟩=some (.slice (some ⟨b,0,none⟩) m c)
 fz:w.frozen? ⟨g,i,none⟩=false
 lt:b<w.heap.size
 ne:b≠g
 nq:q≠some b
 lo:L≤b
 c1:m≤c
 c2:c≤maxLen
 cells:∀ j,j<m→w.cell? ⟨b,j,none⟩=some (.int .i64 (ci (f j)))∧w.frozen? ⟨b,j,none⟩=false
def MP {D:Desc} (w:World)(L g n m:Nat)(q:Option Nat)(M:Nat→Nat→R D):Prop :=
 g<w.heap.size∧∃ b c:Nat→Nat,(∀ i,i<n→RowAt w L g m q i (b i) (c i) (M i))∧∀ i k,i<n→k<n→b i=b k→i=k
section
variable {D:Desc} {w w':World} {L g n m:Nat} {q q':Option Nat} {i b c:Nat} {f:Nat→R D} {M:Nat→Nat→R D}
theorem RowAt.grown {row:Option Nat} (h:RowAt w L g m q i b c f)(hgl:g<w.heap.size)(hg:w.grownBy w' row)(h1:row≠some g)(h2:row≠some b)(hq:q'≠some b):RowAt w' L g m q' i b c f where
 hd:=hg.cell h.hd (fun e=>h1 e.symm)
 fz:=(World.frozen?_of_block (hg.block g hgl (fun e=>h1 e.symm))).trans h.fz
 lt:=Nat.lt_of_lt_of_le h.lt hg.size
 ne:=h.ne
 nq:=hq
 lo:=h.lo
 c1:=h.c1
 c2:=h.c2
 cells j hj:=⟨hg.cell (h.cells j hj).1 (fun e=>h2 e.symm),(World.frozen?_of_block (hg.block b h.lt (fun e=>h2 e.symm))).trans (h.cells j hj).2⟩
theorem RowAt.rd (h:RowAt w L g m q i b c f):Rd w w.heap.size (some ⟨b,0,none⟩) (rowL D m f):=fun _=>⟨b,0,rfl,h.lt,fun j hj=>by
 rw[rowL_length]at hj;rw[rowL_get _ _ hj,Nat.zero_add];exact (h.cells j hj).1⟩
theorem MP.below {B:Nat} (h:MP w L g n m q M)(hb:Below B w w')(hB:w.heap.size≤B):MP w' L g n m q M:=by
 obtain⟨hg,b,c,h1,h2⟩:=h;exact⟨Nat.lt_of_lt_of_le hg hb.size,b,c,fun i hi=>(h1 i hi).grown hg (below_grown hb hB) (by simp) (by simp) (h1 i hi).nq,h2⟩
theorem MP.drew (h:MP w L g n m q M):MP w.drew L g n m q M:=by
 obtain⟨hg,b,c,h1,h2⟩:=h;exact⟨hg,b,c,fun i hi=>⟨(h1 i hi).hd,(h1 i hi).fz,(h1 i hi).lt,(h1 i hi).ne,(h1 i hi).nq,(h1 i hi).lo,(h1 i hi).c1,(h1 i hi).c2,(h1 i hi).cells⟩,h2⟩
theorem MP.grown (h:MP w L g n m q M)(hg:w.grownBy w' q)(hne:q≠some g)(hv:q'=q∨∀ k,q'=some k→w.heap.size≤k):MP w' L g n m q' M:=by
 obtain⟨hgl,b,c,h1,h2⟩:=h;refine⟨Nat.lt_of_lt_of_le hgl hg.size,b,c,fun i hi=>(h1 i hi).grown hgl hg hne (h1 i hi).nq (fun e=>?_),h2⟩;rcases hv with h3 | h3
 ·exact (h1 i hi).nq (h3 ▸ e)
 ·have:=h3 _ e; have:=(h1 i hi).lt; omega
theorem MP.at_ (h:MP w L g n m q M)(hi:i<n):∃ b c,RowAt w L g m q i b c (M i)∧∀ (w':World) (f:Nat→R D),w.grownBy w' (some b)→(∀ j,j<m→w'.cell? ⟨b,j,none⟩=some (.int .i64 (ci (f j)))∧w'.frozen? ⟨b,j,none⟩=false)→MP w' L g n m q (setR M i f):=by
 obtain⟨hgl,b,c,h1,h2⟩:=h;have hr:=h1 i hi;refine⟨b i,c i,hr,fun w' f hg hc=>⟨Nat.lt_of_lt_of_le hgl hg.size,b,c,fun k hk=>?_,h2⟩⟩;by_cases e:k=i
 ·subst e;rw[show setR M k f k=f from if_pos rfl];exact⟨hg.cell hr.hd (fun e=>hr.ne (by injection e with e; exact e.symm)),(World.frozen?_of_block (hg.block g hgl (fun e=>hr.ne (by injection e with e; exact e.symm)))).trans hr.fz,Nat.lt_of_lt_of_le hr.lt hg.size,hr.ne,hr.nq,hr.lo,hr.c1,hr.c2,hc⟩
 ·rw[show setR M i f k=M k from if_neg e];exact (h1 k hk).grown hgl hg (fun e=>hr.ne (by injection e)) (fun e2=>e (h2 k i hk hi (by injection e2 with e3; exact e3.symm))) (h1 k hk).nq
theorem MP.apart {k b' c':Nat} (h:MP w L g n m q M)(hi:i<n)(hk:k<n)(hne:k≠i)(h1:RowAt w L g m q i b c (M i))(h2:RowAt w L g m q k b' c' (M k)):b'≠b:=by
 obtain⟨-,B,C,h3,h4⟩:=h;have e1:=(h3 i hi).hd;have e2:=(h3 k hk).hd;rw[h1.hd]at e1;rw[h2.hd]at e2;intro e;apply hne;refine h4 k i hk hi ?_;have a1:b=B i:=by injection e1 with e1; injection e1 with e1; injection e1 with e1; injection e1
 have a2:b'=B k:=by injection e2 with e2; injection e2 with e2; injection e2 with e2; injection e2
 omega
theorem hdr_other {k:Nat} {v:Value} (hne:k≠i):(w.setCell ⟨g,i,none⟩ v).cell? ⟨g,k,none⟩=w.cell? ⟨g,k,none⟩ :=
 World.cell?_setCell_other _ _ _ _ (by intro e; injection e with e1 e2; exact hne (by first | exact e2.symm | exact e2))
theorem RowAt.put (h:RowAt w L g m q i b c f)(hgl:g<w.heap.size){b' c':Nat} {f':Nat→R D} (hb':b'<w.heap.size)(hne:b'≠g)(hnq:q≠some b')(hlo:L≤b')(h1:m≤c')(h2:c'≤maxLen)(hc:∀ j,j<m→w.cell? ⟨b',j,none⟩=some (.int .i64 (ci (f' j)))∧w.frozen? ⟨b',j,none⟩=false) :
  RowAt (w.setCell ⟨g,i,none⟩ (.slice (some ⟨b',0,none⟩) m c')) L g m q i b' c' f' where
 hd:=World.cell?_setCell_same _ _ _ h.hd
 fz:=by have:=h.fz; simp[go_sem,this]
 lt:=by simp only[World.setCell,Array.size_modify]; exact hb'
 ne:=hne
 nq:=hnq
 lo:=hlo
 c1:=h1
 c2:=h2
 cells j hj:=⟨(World.cell?_setCell_far _ _ _ _ hne.symm).trans (hc j hj).1,by have:=(hc j hj).2; simp[go_sem,this]⟩
theorem RowAt.other {k:Nat} {v:Value} (h:RowAt w L g m q k b c f)(hne:k≠i):RowAt (w.setCell ⟨g,i,none⟩ v) L g m q k b c f where
 hd:=(hdr_other hne).trans h.hd
 fz:=by have:=h.fz; simp[go_sem,this]
 lt:=by simp only[World.setCell,Array.size_modify]; exact h.lt
 ne:=h.ne
 nq:=h.nq
 lo:=h.lo
 c1:=h.c1
 c2:=h.c2
 cells j hj:=⟨(World.cell?_setCell_far _ _ _ _ h.ne.symm).trans (h.cells j hj).1,by have:=(h.cells j hj).2; simp[go_sem,this]⟩
theorem MP.swap {k b' c':Nat} (h:MP w L g n m q M)(hi:i<n)(hk:k<n)(hne:k≠i)(h1:RowAt w L g m q i b c (M i))(h2:RowAt w L g m q k b' c' (M k)) :
  MP ((w.setCell ⟨g,i,none⟩ (.slice (some ⟨b',0,none⟩) m c')).setCell ⟨g,k,none⟩ (.slice (some ⟨b,0,none⟩) m c)) L g n m q (swapR M i k):=by
 have hap:=h.apart hi hk hne h1 h2;have hap2:∀ t bt ct,t<n→t≠i→t≠k→RowAt w L g m q t bt ct (M t)→bt≠b∧bt≠b':=fun t bt ct ht e1 e2 h3=>⟨h.apart hi ht e1 h1 h3,h.apart hk ht e2 h2 h3⟩
 obtain⟨hgl,B,C,h3,h4⟩:=h;have hs:(w.setCell ⟨g,i,none⟩ (.slice (some ⟨b',0,none⟩) m c')).heap.size=w.heap.size:=by simp[World.setCell]
 have x1:RowAt (w.setCell ⟨g,i,none⟩ (.slice (some ⟨b',0,none⟩) m c')) L g m q i b' c' (M k):=h1.put hgl h2.lt h2.ne h2.nq h2.lo h2.c1 h2.c2 h2.cells;have x2:RowAt (w.setCell ⟨g,i,none⟩ (.slice (some ⟨b',0,none⟩) m c')) L g m q k b' c' (M k):=h2.other hne;have y2:RowAt ((w.setCell ⟨g,i,none⟩ (.slice (some ⟨b',0,none⟩) m c')).setCell ⟨g,k,none⟩ (.slice (some ⟨b,0,none⟩) m c)) L g m q k b c (M i) :=
  x2.put (by rw[hs]; exact hgl) (by rw[hs]; exact h1.lt) h1.ne h1.nq h1.lo h1.c1 h1.c2 fun j hj=>⟨(World.cell?_setCell_far _ _ _ _ h1.ne.symm).trans (h1.cells j hj).1,by have:=(h1.cells j hj).2; simp[go_sem,this]⟩
 have y1:=x1.other (i:=k) (v:=.slice (some ⟨b,0,none⟩) m c) hne.symm;refine⟨by simp only[World.setCell,Array.size_modify]; exact hgl,fun t=>if t=i then b' else if t=k then b else B t,fun t=>if t=i then c' else if t=k then c else C t,fun t ht=>?_,fun s t hs' ht=>?_⟩
 ·unfold swapR;by_cases e1:t=i
  ·subst e1; simp only[if_true]; exact y1
  ·by_cases e2:t=k
   ·subst e2; simp only[if_neg e1,if_true]; exact y2
   ·simp only[if_neg e1,if_neg e2]; exact ((h3 t ht).other e1).other e2
 ·intro e;have key:=fun t ht e1 e2=>hap2 t (B t) (C t) ht e1 e2 (h3 t ht)
  by_cases s1:s=i <;> by_cases s2:s=k <;> by_cases t1:t=i <;> by_cases t2:t=k <;> simp only[s1,s2,t1,t2,if_true,if_false,hne,hne.symm]at e ⊢ <;> first
   | exact h4 s t hs' ht (by simpa [s1,s2,t1,t2] using e)
   | (exfalso; first | (have:=(key t ht t1 t2); simp_all) | (have:=(key s hs' s1 s2); simp_all) | simp_all | omega)
   | simp_all
   | omega
theorem MP.putNew {w9:World} {g9:Nat} (h:MP w L g n m q M)(hi:i<n)(hb:Below w.heap.size w w9)(hib:IB w9 g9 (rowL D m f))(hg9:w.heap.size≤g9)(hL:L≤w.heap.size)(hq:∀ k,q=some k→k<w.heap.size)(hm:m≤maxLen) :
  MP (w9.setCell ⟨g,i,none⟩ (.slice (some ⟨g9,0,none⟩) m m)) L g n m q (setR M i f):=by
 obtain⟨hgl,B,C,h3,h4⟩:=h.below hb (Nat.le_refl _);have hBl:∀ k,k<n→B k<w.heap.size:=fun k hk=>by
  obtain⟨hgl0,B0,C0,h30,-⟩:=h;have e1:=(h3 k hk).hd;rw[((hb.cell (p:=⟨g,k,none⟩) hgl0).trans (h30 k hk).hd)]at e1;have a1:B0 k=B k:=by injection e1 with e1; injection e1 with e1; injection e1 with e1; injection e1
  rw[←a1]; exact (h30 k hk).lt
 have hg:=h.1;have y1:=(h3 i hi).put hgl (b':=g9) (c':=m) (f':=f) hib.lt (by omega) (fun e=>by have:=hq _ e; omega) (by omega) (Nat.le_refl _) hm fun j hj=>⟨by have:=hib.cell (i:=j) (by rw[rowL_length]; exact hj); rwa [rowL_get _ _ hj]at this,hib.frozen j⟩
 refine⟨by simp only[World.setCell,Array.size_modify]; exact hgl,fun t=>if t=i then g9 else B t,fun t=>if t=i then m else C t,fun t ht=>?_,fun s t hs' ht=>?_⟩
 ·unfold setR;by_cases e1:t=i
  ·subst e1; simp only[if_true]; exact y1
  ·simp only[if_neg e1]; exact (h3 t ht).other e1
 ·intro e;by_cases s1:s=i <;> by_cases t1:t=i
  ·omega
  ·simp only[s1,t1,if_true,if_false]at e; have:=hBl t ht; omega
  ·simp only[s1,t1,if_true,if_false]at e; have:=hBl s hs'; omega
  ·simp only[s1,t1,if_false]at e; exact h4 s t hs' ht e
theorem MP.rdmU (h:MP w L g n m q M)(hL:L≤g):RdMU w L w.heap.size (some ⟨g,0,none⟩) n (rowsL D m M):=fun _=>by
 obtain⟨hgl,B,C,h3,-⟩:=h;refine⟨g,0,rfl,hL,hgl,fun i hi=>⟨some ⟨B i,0,none⟩,C i,?_,(h3 i hi).rd,?_,(h3 i hi).c2,fun _ a e=>by cases e; exact (h3 i hi).lo⟩⟩
 ·rw[rowsL_length,Nat.zero_add]; exact (h3 i hi).hd
 ·rw[rowsL_length]; exact (h3 i hi).c1
theorem RowAt.to (h:RowAt w L g m q i b c f)(hq:q'≠some b):RowAt w L g m q' i b c f:=⟨h.hd,h.fz,h.lt,h.ne,hq,h.lo,h.c1,h.c2,h.cells⟩
theorem MP.row (h:MP w L g n m q' M)(hi:i<n)(h1:RowAt w L g m q i b c (M i)):RowAt w L g m q' i b c (M i):=by
 obtain⟨b2,c2,h2,-⟩:=h.at_ hi;have e:=h1.hd;rw[h2.hd]at e;have a1:b2=b:=by injection e with e; injection e with e; injection e with e; injection e
 exact h1.to (a1 ▸ h2.nq)
theorem RowAt.drew (h:RowAt w L g m q i b c f):RowAt w.drew L g m q i b c f:=⟨h.hd,h.fz,h.lt,h.ne,h.nq,h.lo,h.c1,h.c2,h.cells⟩
end
theorem grown_below {w w':World} {B b:Nat} (h:w.grownBy w' (some b))(hB:B≤b)(hb:b<w.heap.size):Below B w w' :=
 ⟨h.os,h.tape,h.output,h.size,fun k hk=>h.block k (by omega) (fun e=>by injection e with e; omega)⟩

theorem mk_rows (n:Nat)(h:n≤70000)(w:World):(Instr.makeSlice 25 (.int .i64 (n:Int)) (.int .i64 (n:Int))).run Tryz.prog w =
  .ok (.slice (some ⟨w.heap.size,0,none⟩) n n) (w.alloc (.cells (Array.replicate n (Value.slice none 0 0)) 22)):=by
 have e:madeCells #[Value.slice none 0 0] n=Array.replicate n (Value.slice none 0 0):=by
  apply Array.ext
  ·simp[madeCells]
  ·intro i h1 h2;simp[madeCells,Nat.mod_one]
 rw[←e];exact run_make_row' 25 22 (.slice none 0 0) 24 Tryz.underlying25 infoInts rfl .i64 .i64 n (by omega) (by omega) w

set_option maxHeartbeats 2000000 in
theorem gScale_any (F:FD)(m:Nat)(f:Nat→R F.toDesc)(a:Int)(A1:Option Addr)(c1 gf:Nat)(w:World)(hg:GF w w.heap.size gf F)(hr1:Rd w w.heap.size A1 (rowL F.toDesc m f))(hm:m≤70000) :
  Calls Tryz.prog 33 #[.pointer (some ⟨gf,0,none⟩),.int .i64 a,.slice A1 m c1] w (Gives w.heap.size (rowL F.toDesc m fun j=>eli F.toDesc a*f j) w):=by
 have hM:=fun z W h=>Lib.hid (gMul_any F a z gf W h)
 have hmk:=mk_ints m hm;obtain⟨Y,hY⟩:∃ Y,Y=w.alloc (.cells (Array.replicate m (Value.int .i64 0)) 3):=⟨_,rfl⟩;obtain⟨g,hgv⟩:∃ g,g=w.heap.size:=⟨_,rfl⟩;have hib:IB Y g (upd m 0 fun j=>ci (eli F.toDesc a*f j)):=by rw[upd_zero,hY,hgv]; exact IB.newz w m
 have hB:Below w.heap.size w Y:=by rw[hY]; exact (Below.refl _ _).alloc (Nat.le_refl _) _
 replace hY:=Lib.hid hY;replace hib:=Lib.hid hib;go_enter Tryz.func33,Tryz.ntmps33;go_wp2_with (fail);rw[←hY.out];simp only[←hgv];have hgw:w.heap.size≤g:=Nat.le_of_eq hgv.symm;replace hgv:=Lib.hid hgv;go_loopw [15,8,9] (fun i _ _ wr=>∃ k:Nat,k≤m∧i=.int .i64 k∧Hid (IB wr g (upd m k fun j=>ci (eli F.toDesc a*f j)))∧Below w.heap.size w wr) (fun i _ _ _=>m - (intOf i).toNat)
 case atStart=>exact⟨0,by omega,rfl,hib,hB⟩
 case round =>
  clear hib hB hY;obtain⟨w3,rfl⟩:∃ w3:World,w3=wr:=⟨_,rfl⟩;obtain⟨k,hk,rfl,hib,hbw⟩:=hrel;have hg3:=hib.out.lt;by_cases hlt:k<m
  ·have hk0:(0:Int)≤(k:Int):=by omega
   have hk2:(k:Int)<(m:Int):=by omega
   obtain⟨b,o,rfl,hb,hc⟩:=hr1.at_ (by rw[rowL_length]; exact hlt:k<(rowL F.toDesc m f).length);rw[rowL_get _ f hlt]at hc;have hd:=(hbw.cell (p:=⟨b,o+k,none⟩) hb).trans hc;have hM2:=fun W h=>(hM (ci (f k)) W h).out
   rw[eli_ci]at hM2;obtain⟨y,hy⟩:∃ y,y=ci (f k):=⟨_,rfl⟩;obtain⟨v,hv⟩:∃ v,v=ci (eli F.toDesc a*f k):=⟨_,rfl⟩;rw[←hy]at hd hM2;rw[←hv]at hM2;have hM3:=Lib.hid (hM2 w3 ((hg.below hbw).more hbw.size));have hkk:Hid (k<(upd m k fun j=>ci (eli F.toDesc a*f j)).length):=by unfold Hid; rw[upd_length]; exact hlt
   replace hv:=Lib.hid hv;replace hy:=Lib.hid hy;clear hc hM2;go_wp2_with (fail);(with_reducible refine hM3.out.mono ?_);rintro e w4 ⟨rfl,hb4⟩;have hib4:=hib.out.below hb4 hg3;have hcW:=hib4.cell hkk.out;have hfW:=hib4.frozen k;have hset:=hib4.set_ k v;rw[hv.out,upd_set,←hv.out]at hset;have hB4:=Lib.hid ((hbw.trans (hb4.mono hbw.size)).setCell (p:=⟨g,k,none⟩) hgw (.int .i64 v));replace hset:=Lib.hid hset;clear hd;go_wp2_with (fail);go_roundw
   case rel=>exact⟨k+1,by omega,by go_num,hset,hB4.out⟩
   case measure=>simp[intOf]; omega
  ·obtain rfl:k=m:=by omega
   have hib2:=hib.out;rw[upd_full]at hib2;replace hib2:=Lib.hid hib2;go_wp2_with (fail);go_ret;exact⟨g,by rw[rowL_length]; rfl,hgw,hib2.out,hbw⟩

end
section
open Go.RowKit Cw

def elB (D:Desc)(l:List Int):Bool:=decide (∀ x∈l,0≤x∧x<(D.q:Int))
theorem elB_iff {D:Desc} {l:List Int}:elB D l=true↔∀ j,j<l.length→0≤l[j]?.getD 0∧l[j]?.getD 0<(D.q:Int):=by
 unfold elB;rw[decide_eq_true_iff];constructor
 ·intro h j hj;rw[List.getElem?_eq_getElem hj];exact h _ (List.getElem_mem _)
 ·intro h x hx;obtain⟨j,hj,rfl⟩:=List.getElem_of_mem hx;have:=h j hj
  rwa [List.getElem?_eq_getElem hj]at this
def elErr (D:Desc)(msg:List Int)(K e:Int):Int:=if (msg.length:Int)≠K then e else if elB D msg=false then 2 else 0
theorem keep4 {B b b1 o1:Nat} {W w1:World} {v0 v1 v2 v3:Value} (hb:Below B W w1)(h2:b<B)(h3:b1<B)(h4:W.cell? ⟨b,0,none⟩=some v0∧W.cell? ⟨b,1,none⟩=some v1∧W.cell? ⟨b,2,none⟩=some v2∧W.cell? ⟨b1,o1,none⟩=some v3) :
  w1.cell? ⟨b,0,none⟩=some v0∧w1.cell? ⟨b,1,none⟩=some v1∧w1.cell? ⟨b,2,none⟩=some v2∧w1.cell? ⟨b1,o1,none⟩=some v3 :=
 have k:=keep3 hb h2 ⟨h4.1,h4.2.1,h4.2.2.1⟩
 ⟨k.1,k.2.1,k.2.2,(hb.cell (p:=⟨b1,o1,none⟩) h3).trans h4.2.2.2⟩
theorem Bx.cells {w:World} {b:Nat} {D:Desc} {A:Option Addr} {n c:Nat} (h:Bx w b D A n c):w.cell? ⟨b,0,none⟩=some (.int .i64 D.p)∧w.cell? ⟨b,1,none⟩=some (.int .i64 D.m)∧w.cell? ⟨b,2,none⟩=some (.slice A n c):=h
end
section
open Go.RowKit Cw

def conB (l:List Int)(x:Int):Bool:=decide (x∈l)
def IdxPost (l:List Int)(x:Int)(w:World)(e:Ending)(w':World):Prop:=∃ i:Int,e=.returned (.int .i64 i)∧w=w'∧decide (0≤i)=conB l x
theorem conB_yes {l:List Int} {k:Nat} (h:k<l.length):conB l (l[k]?.getD 0)=true:=by
 unfold conB;rw[decide_eq_true_iff,List.getElem?_eq_getElem h];exact List.getElem_mem h
theorem conB_no {l:List Int} {x:Int} (h:∀ j,j<l.length→l[j]?.getD 0≠x):conB l x=false:=by
 unfold conB;rw[decide_eq_false_iff_not];intro hm;obtain⟨j,hj,e⟩:=List.getElem_of_mem hm;exact h j hj (by rw[List.getElem?_eq_getElem hj]; exact e)
set_option maxHeartbeats 1000000 in
theorem Index_any (l:List Int)(x:Int)(A:Option Addr)(c:Nat)(w:World)(hr:Rd w w.heap.size A l)(hl:l.length≤maxLen) :
  Calls Tryz.prog 93 #[.slice A l.length c,.int .i64 x] w (IdxPost l x w):=by
 unfold maxLen at hl;unfold IdxPost;go_enter Tryz.func93,Tryz.ntmps93;go_wp2_with (fail);go_loop [8,5] (fun i _=>∃ k:Nat,k≤l.length∧i=.int .i64 k∧Hid (∀ j,j<k→l[j]?.getD 0≠x)) (fun i _=>l.length - (intOf i).toNat)
 case atStart=>exact⟨0,by omega,rfl,fun j hj=>absurd hj (by omega)⟩
 case round =>
  obtain⟨k,hk,rfl,hall⟩:=hrel;by_cases hlt:k<l.length
  ·obtain⟨b,o,rfl,-,hc⟩:=hr.at_ hlt;have i0:(0:Int)≤(k:Int):=by omega
   have i1:(k:Int)<(l.length:Int):=by omega
   by_cases hy:x=l[k]?.getD 0
   ·have hfin:=Lib.hid (conB_yes hlt);rw[←hy]at hc hfin;have hyb:(x==x)=true:=by simp
    clear hy;go_wp2_with (fail);go_ret;exact⟨(k:Int),rfl,rfl,by rw[hfin.out]; exact decide_eq_true (by omega)⟩
   ·have hall2:Hid (∀ j,j<k+1→l[j]?.getD 0≠x):=fun j hj=>by
     by_cases e:j=k
     ·subst e; exact fun e=>hy e.symm
     ·exact hall.out j (by omega)
    have hyb:(x==l[k]?.getD 0)=false:=by rw[beq_eq_false_iff_ne]; exact hy
    generalize l[k]?.getD 0=y at *;go_wp2_with (fail);go_round
    case rel=>exact⟨k+1,by omega,by go_num,hall2⟩
    case measure=>simp[intOf]; omega
  ·have hfin:=Lib.hid (conB_no (l:=l) (x:=x) (fun j hj=>hall.out j (by omega)));go_wp2_with (fail);go_ret;exact⟨-1,rfl,rfl,by rw[hfin.out]; rfl⟩
set_option maxHeartbeats 1000000 in
theorem Contains_any (l:List Int)(x:Int)(A:Option Addr)(c:Nat)(w:World)(hr:Rd w w.heap.size A l)(hl:l.length≤maxLen) :
  Calls Tryz.prog 35 #[.slice A l.length c,.int .i64 x] w fun e w'=>e=.returned (.bool (conB l x))∧w=w':=by
 have hI:=Lib.hid (Index_any l x A c w hr hl);go_enter Tryz.func35,Tryz.ntmps35;go_wp2_with (fail);(with_reducible refine hI.out.mono ?_);rintro e w1 ⟨i,rfl,rfl,hi⟩;replace hi:=Lib.hid hi;go_wp2_with (fail);go_ret;exact⟨ret_bool hi.out,rfl⟩
end
end Go.Proofs.YtogfekjbpcfgmaaGreat

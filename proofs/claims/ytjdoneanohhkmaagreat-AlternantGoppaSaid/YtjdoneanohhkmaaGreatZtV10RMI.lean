/- Plain: the words orthogonal to the rows of a reduced matrix (the dual space). No Go here. Plain: interleaved rows, product rows, bursts. No Go here. Rows of combined codes, as lists. One header appended, as a step of a region that draws its order. A row appended to rows of the call's own; combine.Sum, Plotkin, Juxtapose: errors and codes. Plain: least weights of direct sums, of words (u, u + v), of products and of interleaved codes. No Go here. Plain: the words of a code by their index; the least weight as the reference finds it; ranks of combined rows. No Go here. Distance of any code: its number, and what it says if it is at least 1; results as codes without an error. Numbers of words and distances of results of chapter 14. CombineDistances: what the functions answer, with no program in sight. Plain: sums and products of three codes, in both orders of the brackets; transposed words. No Go here. Plain: the dual spaces of sums, of interleaved words, of words (u, u + v). No Go here. The program's generator matrix. Layer 18: Puncture of the program, Without of the reference. 'append(rows, lines...)' on rows without room: the rows and the lines, in a new block. The reference's rows of a code: Power. The reference's rows of a code. The codewords of the powers are the generator's rows. The reference's code of a description. -/
import Derived.Deep.RegionHeld3
import Derived.IntWalk
import Derived.Laws.MakeOwn
import Derived.Outline
import Derived.Test.YtjdoneanohhkmaaGreatZtV10RLA
import Derived.Test.YtjdoneanohhkmaaGreatZtV10RMat
import Derived.Test.YtjdoneanohhkmaaGreatZtV10RMH
import Derived.Test.YtjdoneanohhkmaaGreatZtV10RMatX
import Derived.Test.YtjdoneanohhkmaaGreatZtV10RCodC
import Derived.Test.YtjdoneanohhkmaaGreatZtV10RBxs
import Derived.Test.YtjdoneanohhkmaaGreatZtV10RGrsA
import Derived.Test.YtjdoneanohhkmaaGreatZtV10RGrsF
import Derived.Test.YtjdoneanohhkmaaGreatZtV10RGrsH
import Derived.Test.YtjdoneanohhkmaaGreatZtV10RGrsU
import Derived.Test.YtjdoneanohhkmaaGreatZtV10RTk
set_option linter.unusedVariables false
set_option linter.unusedSimpArgs false
namespace Cw
section
variable {F:Type} [CField F]
def Orth (K m:Nat)(A:Nat→Nat→F)(u:Nat→F):Prop:=∀ i,i<K→rsum m (fun j=>A i j*u j)=0
theorem Orth.span {K m:Nat} {A:Nat→Nat→F} {u v:Nat→F} (h:Orth K m A u)(hv:Span K m A v):rsum m (fun j=>v j*u j)=0:=by
 obtain⟨c,hc⟩:=hv;rw[rsum_congr (g:=fun j=>rsum K fun i=>c i*(A i j*u j)) fun j hj=>by
  rw[hc j hj,←rsum_mul_right]; exact rsum_congr fun i _=>mul_a _ _ _,rsum_swap]
 exact rsum_eq_zero fun i hi=>by rw[rsum_mul_left,h i hi,mul_zero]
theorem Orth.same {K K' m:Nat} {A B:Nat→Nat→F} (hs:SameSpan K K' m A B)(u:Nat→F):Orth K m A u↔Orth K' m B u :=
 ⟨fun h i hi=>h.span (hs.2 i hi),fun h i hi=>h.span (hs.1 i hi)⟩
def npv (p:Nat→Nat)(r m:Nat):List Nat:=(List.range m).filter fun c=>!decide (∃ i,i<r∧p i=c)
theorem npv_succ (p:Nat→Nat)(r m:Nat):npv p r (m+1)=npv p r m ++ if ∃ i,i<r∧p i=m then [] else [m]:=by
 unfold npv;rw[List.range_succ,List.filter_append]
 congr 1
 by_cases h:∃ i,i<r∧p i=m
 ·rw[if_pos h]; simp[h]
 ·rw[if_neg h]; simp[h]
theorem npv_mem {p:Nat→Nat} {r m c:Nat}:c∈npv p r m↔c<m∧∀ i,i<r→p i≠c:=by
 unfold npv;rw[List.mem_filter,List.mem_range];simp
theorem rsum_npv {p:Nat→Nat} {r:Nat} (hinj:∀ i j,i<r→j<r→p i=p j→i=j)(f:Nat→F) :
  ∀ m,rsum m f=rsum r (fun i=>if p i<m then f (p i) else 0)+rsum (npv p r m).length (fun t=>f ((npv p r m)[t]?.getD 0))
 | 0=>by
  rw[rsum_eq_zero (n:=r) fun i _=>if_neg (Nat.not_lt_zero _)]
  show (0:F)=0+0
  rw[zero_add]
 | m+1=>by
  rw[rsum_succ,rsum_npv hinj f m,npv_succ];by_cases h:∃ i,i<r∧p i=m
  ·rw[if_pos h,List.append_nil];obtain⟨k,hk,e⟩:=h;have e1:rsum r (fun i=>if p i<m+1 then f (p i) else 0)=rsum r (fun i=>if p i<m then f (p i) else 0)+f m:=by
    have e2:rsum r (fun i=>if i=k then f m else 0)=f m:=by rw[rsum_single hk fun i _ hne=>if_neg hne,if_pos rfl]
    rw[←e2,←rsum_add];refine rsum_congr fun i hi=>?_
    by_cases g:i=k
    ·subst g; rw[if_pos (by omega),if_neg (by omega),if_pos rfl,e,zero_add]
    ·have hne:p i≠m:=fun e3=>g (hinj i k hi hk (e3.trans e.symm))
     rw[if_neg g,add_zero];by_cases g2:p i<m
     ·rw[if_pos g2,if_pos (by omega)]
     ·rw[if_neg g2,if_neg (by omega)]
   rw[e1]; ac_rfl
  ·rw[if_neg h,List.length_append,List.length_singleton,rsum_succ];have e1:rsum r (fun i=>if p i<m+1 then f (p i) else 0)=rsum r (fun i=>if p i<m then f (p i) else 0):=rsum_congr fun i hi=>by
    have hne:p i≠m:=fun e=>h ⟨i,hi,e⟩
    by_cases g2:p i<m
    ·rw[if_pos g2,if_pos (by omega)]
    ·rw[if_neg g2,if_neg (by omega)]
   have e2:rsum (npv p r m).length (fun t=>f ((npv p r m ++ [m])[t]?.getD 0))=rsum (npv p r m).length (fun t=>f ((npv p r m)[t]?.getD 0)):=rsum_congr fun t ht=>by rw[List.getElem?_append_left ht]
   have e3:f ((npv p r m ++ [m])[(npv p r m).length]?.getD 0)=f m:=by rw[List.getElem?_append_right (Nat.le_refl _),Nat.sub_self]; rfl
   rw[e1,e2,e3]; ac_rfl
theorem npv_get {p:Nat→Nat} {r m t:Nat} (ht:t<(npv p r m).length):(npv p r m)[t]?.getD 0<m∧∀ i,i<r→p i≠(npv p r m)[t]?.getD 0:=by
 have e:(npv p r m)[t]?.getD 0∈npv p r m:=by rw[List.getElem?_eq_getElem ht]; exact List.getElem_mem ht
 exact npv_mem.1 e
def nulR (r:Nat)(p:Nat→Nat)(A:Nat→Nat→F)(c:Nat):Nat→F:=fun j=>(if j=c then 1 else 0) - rsum r fun i=>if j=p i then A i c else 0
theorem nulR_piv {m r:Nat} {p:Nat→Nat} {A:Nat→Nat→F} (h:RR m r p A){c i:Nat} (hi:i<r)(hc:p i≠c):nulR r p A c (p i)=- A i c:=by
 unfold nulR;rw[if_neg hc,rsum_single hi fun k hk hne=>if_neg fun e=>?_,if_pos rfl]
 ·rw[zero_sub]
 ·have h1:=h.one i hi;rw[e,h.zero i k hi hk hne.symm]at h1;exact one_ne h1.symm
theorem nulR_oth {r:Nat} {p:Nat→Nat} (A:Nat→Nat→F){c j:Nat} (hj:∀ i,i<r→p i≠j):nulR r p A c j=if j=c then 1 else 0:=by
 unfold nulR;rw[rsum_eq_zero fun i hi=>if_neg fun e=>hj i hi e.symm,sub_zero]
theorem RR.inj {m r:Nat} {p:Nat→Nat} {A:Nat→Nat→F} (h:RR m r p A):∀ i j,i<r→j<r→p i=p j→i=j:=fun i j hi hj e=>by
 rcases Nat.lt_trichotomy i j with g | g | g
 ·have:=h.mono i j g hj; omega
 ·exact g
 ·have:=h.mono j i g hi; omega
theorem npv_nodup (p:Nat→Nat)(r m:Nat):(npv p r m).Nodup:=List.Pairwise.filter _ List.nodup_range
theorem npv_inj {p:Nat→Nat} {r m s t:Nat} (hs:s<(npv p r m).length)(ht:t<(npv p r m).length)(e:(npv p r m)[s]?.getD 0=(npv p r m)[t]?.getD 0):s=t:=by
 rw[List.getElem?_eq_getElem hs,List.getElem?_eq_getElem ht]at e;have hn:=List.pairwise_iff_getElem.1 (npv_nodup p r m);have e':(npv p r m)[s]=(npv p r m)[t]:=e;rcases Nat.lt_trichotomy s t with g | g | g
 ·exact absurd e' (hn s t hs ht g)
 ·exact g
 ·exact absurd e'.symm (hn t s ht hs g)
def nulM (r m:Nat)(p:Nat→Nat)(A:Nat→Nat→F):Nat→Nat→F:=fun t=>nulR r p A ((npv p r m)[t]?.getD 0)
theorem eq_neg_of_add {a b:F} (h:a+b=0):a=-b:=by
 have h2:a+b+-b=-b:=by rw[h,zero_add]
 rwa [add_a,add_neg,add_zero]at h2
theorem nul_iff {m r:Nat} {p:Nat→Nat} {A:Nat→Nat→F} (h:RR m r p A)(u:Nat→F):Span (npv p r m).length m (nulM r m p A) u↔Orth r m A u:=by
 have hsum:∀ f:Nat→F,rsum m f=rsum r (fun i=>f (p i))+rsum (npv p r m).length (fun t=>f ((npv p r m)[t]?.getD 0)):=fun f=>by
  rw[rsum_npv h.inj f m]
  congr 1
  exact rsum_congr fun i hi=>if_pos (h.lt i hi)
 constructor
 ·intro hu i hi;have hrow:∀ t,t<(npv p r m).length→rsum m (fun j=>A i j*nulM r m p A t j)=0:=fun t ht=>by
   obtain⟨hc,hn⟩:=npv_get ht;rw[hsum,rsum_single (k:=i) hi fun k hk hne=>by rw[h.zero i k hi hk hne.symm,zero_mul],rsum_single (k:=t) ht fun s hs hne=>?_]
   ·unfold nulM;rw[nulR_piv h hi (hn i hi),nulR_oth A hn,if_pos rfl,h.one i hi,one_mul,mul_one,neg_add]
   ·unfold nulM;rw[nulR_oth A (npv_get hs).2,if_neg (fun e=>hne (npv_inj hs ht e)),mul_zero]
  obtain⟨c,hc⟩:=hu;rw[rsum_congr (g:=fun j=>rsum (npv p r m).length fun t=>c t*(A i j*nulM r m p A t j)) fun j hj=>by
   rw[hc j hj,←rsum_mul_left]; exact rsum_congr fun t _=>by ac_rfl,rsum_swap]
  exact rsum_eq_zero fun t ht=>by rw[rsum_mul_left,hrow t ht,mul_zero]
 ·intro hu;refine⟨fun t=>u ((npv p r m)[t]?.getD 0),fun j hj=>?_⟩;by_cases g:∃ i,i<r∧p i=j
  ·obtain⟨i,hi,rfl⟩:=g;have h1:=hu i hi;rw[hsum,rsum_single (k:=i) hi fun k hk hne=>by rw[h.zero i k hi hk hne.symm,zero_mul],h.one i hi,one_mul]at h1;rw[rsum_congr (g:=fun t=>-(A i ((npv p r m)[t]?.getD 0)*u ((npv p r m)[t]?.getD 0))) fun t ht=>by
    unfold nulM; rw[nulR_piv h hi ((npv_get ht).2 i hi),mul_neg,mul_c],rsum_neg]
   exact eq_neg_of_add h1
  ·have hn:∀ i,i<r→p i≠j:=fun i hi e=>g ⟨i,hi,e⟩
   have hm:j∈npv p r m:=npv_mem.2 ⟨hj,hn⟩;obtain⟨t,ht,e⟩:=List.getElem_of_mem hm;have e':(npv p r m)[t]?.getD 0=j:=by rw[List.getElem?_eq_getElem ht]; exact e
   rw[rsum_single (k:=t) ht fun s hs hne=>?_]
   ·unfold nulM;dsimp only;rw[nulR_oth A hn,e',if_pos rfl,mul_one]
   ·unfold nulM;rw[nulR_oth A hn,if_neg (fun e2=>hne (npv_inj hs ht (e2.symm.trans e'.symm))),mul_zero]
theorem nul_indep {m r:Nat} {p:Nat→Nat} {A:Nat→Nat→F}:Indep (npv p r m).length m (nulM r m p A):=fun c hc t ht=>by
 obtain⟨hlt,hn⟩:=npv_get ht;have h1:=hc _ hlt;rw[rsum_single (k:=t) ht fun s hs hne=>by unfold nulM; rw[nulR_oth A hn,if_neg (fun e=>hne (npv_inj hs ht e.symm)),mul_zero]]at h1;unfold nulM at h1;rw[nulR_oth A hn,if_pos rfl,mul_one]at h1;exact h1
end
end Cw
namespace Cw
theorem npv_pre {p:Nat→Nat} {r c:Nat}:∀ {m:Nat},c≤m→∃ l,npv p r m=npv p r c ++ l
 | 0,h=>⟨[],by rw[show c=0 by omega,List.append_nil]⟩
 | m+1,h=>by
  by_cases e:c=m+1
  ·exact⟨[],by rw[e,List.append_nil]⟩
  ·obtain⟨l,hl⟩:=npv_pre (p:=p) (r:=r) (m:=m) (show c≤m by omega);exact⟨l ++ _,by rw[npv_succ,hl,List.append_assoc]⟩
theorem npv_at {p:Nat→Nat} {r c m:Nat} (hc:c<m)(hn:¬ ∃ i,i<r∧p i=c):(npv p r m)[(npv p r c).length]?.getD 0=c∧(npv p r (c+1)).length=(npv p r c).length+1:=by
 have e1:npv p r (c+1)=npv p r c ++ [c]:=by rw[npv_succ,if_neg hn]
 obtain⟨l,hl⟩:=npv_pre (p:=p) (r:=r) (show c+1≤m from hc);refine⟨?_,by rw[e1,List.length_append,List.length_singleton]⟩;rw[hl,e1,List.append_assoc,List.getElem?_append_right (Nat.le_refl _),Nat.sub_self];rfl
theorem npv_skip {p:Nat→Nat} {r c:Nat} (hn:∃ i,i<r∧p i=c):npv p r (c+1)=npv p r c:=by
 rw[npv_succ,if_pos hn,List.append_nil]
def lead (p:Nat→Nat):Nat→Nat→Int
 | 0,_=>-1
 | k+1,c=>if p k=c then (k:Int) else lead p k c
theorem lead_iff (p:Nat→Nat)(c:Nat):∀ k,0≤lead p k c↔∃ i,i<k∧p i=c
 | 0=>⟨fun h=>absurd h (by unfold lead; decide),fun⟨_,h,_⟩=>absurd h (Nat.not_lt_zero _)⟩
 | k+1=>by
  unfold lead;by_cases e:p k=c
  ·rw[if_pos e]; exact⟨fun _=>⟨k,by omega,e⟩,fun _=>by omega⟩
  ·rw[if_neg e,lead_iff p c k];exact⟨fun⟨i,h1,h2⟩=>⟨i,by omega,h2⟩,fun⟨i,h1,h2⟩=>⟨i,by
    by_cases g:i=k
    ·subst g; exact absurd h2 e
    ·omega,h2⟩⟩
theorem lead_set (p:Nat→Nat){m k:Nat}:(lst m (lead p k)).set (p k) (k:Int)=lst m (lead p (k+1)):=by
 apply List.ext_getElem
 ·rw[List.length_set,lst_length,lst_length]
 ·intro i h1 h2;rw[List.getElem_set];simp only[lst,List.getElem_map,List.getElem_range,lead]
section
variable {F:Type} [CField F]
def nulK (p:Nat→Nat)(A:Nat→Nat→F)(c k:Nat):Nat→F:=fun j=>(if j=c then 1 else 0) - rsum k fun i=>if j=p i then A i c else 0
theorem nulK_step {m r:Nat} {p:Nat→Nat} {A:Nat→Nat→F} (h:RR m r p A){c k:Nat} (hk:k<r)(hc:p k≠c)(j:Nat):nulK p A c (k+1) j=if j=p k then - A k c else nulK p A c k j:=by
 unfold nulK;rw[rsum_succ];by_cases e:j=p k
 ·rw[if_pos e,if_pos e,if_neg (fun e2=>hc (e.symm.trans e2)),rsum_eq_zero (n:=k) fun i hi=>if_neg fun e2=>?_,zero_add,zero_sub];have:=h.inj i k (by omega) hk (e2.symm.trans e);omega
 ·rw[if_neg e,if_neg e,add_zero]
end
end Cw

namespace Cw
section cmb
variable {F:Type} [CField F]
open CField (inv)
def iv (s k:Nat)(u:Nat→F):Nat→F:=fun t=>if t % s=k then u (t / s) else 0
theorem divmod_mul {b x y:Nat} (hy:y<b):(b*x+y) / b=x∧(b*x+y) % b=y:=by
 constructor
 ·rw[Nat.mul_add_div (by omega),Nat.div_eq_of_lt hy,Nat.add_zero]
 ·rw[Nat.mul_add_mod,Nat.mod_eq_of_lt hy]
end cmb
section burst
variable {F:Type} [CField F] [DecidableEq F]
end burst
end Cw

namespace Go.Proofs.YtjdoneanohhkmaaGreat
section
open Go.RowKit Cw
def joinF {X:Type} (n:Nat)(u v:Nat→X):Nat→X:=fun j=>if j<n then u j else v (j - n)
theorem lst_join (n m:Nat)(u v:Nat→Int):lst n u ++ lst m v=lst (n+m) (joinF n u v):=by
 unfold lst joinF;rw[List.range_add,List.map_append,List.map_map]
 congr 1
 ·exact List.map_congr_left fun j hj=>by rw[if_pos (List.mem_range.1 hj)]
 ·exact List.map_congr_left fun j _=>by
   show v j=if n+j<n then u (n+j) else v (n+j - n)
   rw[if_neg (by omega),Nat.add_sub_cancel_left]
def stackR {X:Type} (K:Nat)(A B:Nat→X):Nat→X:=fun i=>if i<K then A i else B (i - K)
theorem stackR_lo {X:Type} {K i:Nat} (A B:Nat→X)(h:i<K):stackR K A B i=A i:=if_pos h
theorem stackR_hi {X:Type} {K i:Nat} (A B:Nat→X):stackR K A B (K+i)=B i:=by unfold stackR; rw[if_neg (by omega),Nat.add_sub_cancel_left]
def sumR {F:Type} [CField F] (K n:Nat)(A B:Nat→Nat→F):Nat→Nat→F:=stackR K (fun i=>joinF n (A i) fun _=>0) (fun i=>joinF n (fun _=>0) (B i))
def ploR {F:Type} [CField F] (K n:Nat)(A B:Nat→Nat→F):Nat→Nat→F:=stackR K (fun i=>joinF n (A i) (A i)) (fun i=>joinF n (fun _=>0) (B i))
end
section
open Go.RowKit Cw

theorem step_app1V {w:World} {ops:Array Oper} {o:Oper} {a:Act} {K:Act→World→Prop} {Q:Exit→Act→World→Prop} {E:Prop} (hgd:o.guard=none)(s x:Operand)
  (ho:o.op=.call { callee:=.builtin .append,args:=#[s,x],argTypes:=#[25,25] })
  (B:Nat) (v:Value) (l:List Value) (y:Value) (hy:y.oneCell'=true) (hown:OwnV w B v l) (hs:a.eval s=v) {H:Nat} (hx:a.eval x=.slice (some ⟨H,0,none⟩) 1 1) (hH:w.heap.size=H)
  (hl:l.length≤1000000) (hB:B≤w.heap.size)
  (h:∀ v' w',OwnV w' B v' (l ++ [y])→Below B w w'→w.grownBy w' v.ownBlock→(v'.ownBlock=v.ownBlock∨(∀ k,v'.ownBlock=some k→w.heap.size≤k))→K (a.put o.dst v') w') :
  if Region.wanted o (yielded ops a.tmps)=true then Oper.wp Tryz.prog o a (w.alloc (.cells #[y] 22)) K Q else E:=by
 have hw:Region.wanted o (yielded ops a.tmps)=true:=by simp[Region.wanted,hgd]
 rw[if_pos hw];subst hH;obtain⟨i0,hi,hz0,hz1,hz2⟩:=info_parts infoInts;obtain⟨v',w',hrun,h2,h3,_,h5⟩:=run_append_own_at (P:=Tryz.prog) (w.alloc (.cells #[y] 22)) B 25 o.type 22 i0 (.slice none 0 0) 1 24 Tryz.underlying25 hi hz0 hz1 hz2 rfl (by decide) v l.length l (World.ownsRow.alloc hown _)
  ⟨w.heap.size,0,none⟩ 1 1 [y] rfl (cell_one_new _ _ _) (by simp[hy]) (by simp only[maxLen]; omega) (by omega) (by simp; omega)
 unfold Oper.wp execOp;simp only[ho,resolve,invoke,builtin,Sem.run_bind,Sem.run_pure,Result.andThen_ok,List.map_toArray,List.map_cons,List.map_nil,hs,hx,hrun];have hg:w.grownBy w' v.ownBlock:=⟨h3.os,h3.tape,h3.output,Nat.le_trans (by simp) h3.size,fun k hk hne=>(h3.block k (by simp; omega) hne).trans (Below.heap_alloc _ _ _ hk)⟩;refine h v' w' (by unfold OwnV; rw[List.length_append]; exact h2) ⟨hg.os,hg.tape,hg.output,hg.size,fun k hk=>hg.block k (by omega) (fun e=>by have:=(World.ownsRow.lt hown k e.symm).1; omega)⟩ hg ?_;rcases h5 with h5 | h5
 ·exact .inl h5
 ·right; intro k hk; rw[h5]at hk; cases hk; simp
end
section
open Go.RowKit Cw
attribute [local go_sem] Oper.semAt_some

theorem OwnM.lt0 {w:World} {B n:Nat} {v:Value} {rows:Nat→List Int} (h:OwnM w B v n rows):∀ k,v.ownBlock=some k→k<w.heap.size:=fun k e=>by
 obtain⟨hs,-,e2,-⟩:=h;exact (World.ownsRow.lt e2 k e).2
theorem wpList_appRow {w:World} {ops:Array Oper} {rest:List Oper} {o:Oper} {a:Act} {Q:Exit→Act→World→Prop} (hgd:o.guard=none)(s x:Operand)
  (ho:o.op=.call { callee:=.builtin .append,args:=#[s,x],argTypes:=#[25,25] })
  (B:Nat) (v:Value) (n:Nat) (rows:Nat→List Int) (hown:OwnM w B v n rows) (Ak:Option Addr) (L ck:Nat) (hr:Rd w w.heap.size Ak (rows n)) (hL:(rows n).length=L) (hl:L≤ck) (hc:ck≤maxLen)
  (W0:Nat) (hv0:∀ k,v.ownBlock=some k→k<W0) (hd:∀ a,Ak=some a→W0≤a.block) (hBW:B≤W0)
  (hs:a.eval s=v) {H:Nat} (hx:a.eval x=.slice (some ⟨H,0,none⟩) 1 1) (hH:w.heap.size=H) (hn:n≤1000000) (hB:B≤w.heap.size)
  (h:∀ v' w',OwnM w' B v' (n+1) rows→Below B w w'→wpList Tryz.prog ops Q rest (a.put o.dst v') w') :
  wpList Tryz.prog ops Q (o :: rest) a (w.alloc (.cells #[.slice Ak L ck] 22)):=by
 obtain⟨hss,e1,e2,e3⟩:=hown;refine wpList_app1V hgd s x ho B v hss _ rfl e2 hs hx hH (by omega) hB fun v' w' ho' hb hg hv=>?_
 refine h v' w' (OwnM.snoc e1 e3 hr (by omega) hc (fun _ a e=>⟨fun e4=>?_,Nat.le_trans hBW (hd a e)⟩) (by rw[hL]; exact ho') hg hv) hb;have h1:=hd a e;have h2:=hv0 _ e4;omega
theorem OwnM.rdm {w:World} {B n:Nat} {v:Value} {rows:Nat→List Int} (h:OwnM w B v n rows):∃ A c,v=.slice A n c∧RdM w w.heap.size A n rows:=by
 obtain⟨A,c,rfl⟩:=h.size;refine⟨A,c,rfl,?_⟩;by_cases h0:0<n
 ·obtain⟨g,c',e,hg',-,-,hmb⟩:=h.mb h0;have e2:A=some ⟨g,0,none⟩:=by injection e
  rw[e2]; exact (hmb.rdmU hg').rdm
 ·obtain rfl:n=0:=by omega
  exact RdM.zero
end
end Go.Proofs.YtjdoneanohhkmaaGreat

namespace Cw
open Go.Proofs.YtjdoneanohhkmaaGreat (joinF)
open Go.Proofs.YtjdoneanohhkmaaGreat (stackR sumR ploR)
section pl
variable {F:Type} [CField F]
end pl
section wt
variable {F:Type} [CField F] [DecidableEq F]
end wt
end Cw

namespace Go.Proofs.YtjdoneanohhkmaaGreat
section
open Go.RowKit Cw

section rank
variable {F:Type} [CField F]
end rank

section words
variable {F:FD} {n m:Nat} {M:Nat→Nat→R F.toDesc}
end words
end
section
open Go.RowKit Cw

theorem vc_res (F:FD)(hgood:Good F.p F.m (modL F.toDesc))(n m:Nat)(M:Nat→Nat→R F.toDesc)(h1:1≤m)(h2:m≤64):VC F.p F.m m (modL F.toDesc) (rkS F n m M) (rowsL F.toDesc m (elS n M m).1) F m (elS n M m).1 :=
 ⟨rfl,rfl,rfl,hgood,rfl,h1,h2,fun _ _=>rfl,canl_elS F n m M⟩
theorem rk_full {F:FD} {n m:Nat} {M:Nat→Nat→R F.toDesc} (h:Indep n m M):rkS F n m M=n:=elS_rank h
end
section
open Go.RowKit Cw

section res
variable {F:FD} {n m:Nat} {M:Nat→Nat→R F.toDesc}
end res
end
section
open Go.RowKit Cw

end
end Go.Proofs.YtjdoneanohhkmaaGreat

namespace Cw
open Go.Proofs.YtjdoneanohhkmaaGreat (sumR)
section
variable {F:Type} [CField F]
theorem same_iff {n n' m:Nat} {A B:Nat→Nat→F} (h:SameSpan n n' m A B)(u:Nat→F):Span n m A u↔Span n' m B u :=
 ⟨fun g=>g.trans h.1,fun g=>g.trans h.2⟩
end
end Cw
namespace Go.Proofs.YtjdoneanohhkmaaGreat
open Cw
section
variable {F:FD}
end
end Go.Proofs.YtjdoneanohhkmaaGreat

namespace Cw
theorem npv_step {p:Nat→Nat} {r m:Nat}:npv p (r+1) m=(npv p r m).filter fun c=>c !=p r:=by
 unfold npv;rw[List.filter_filter];refine List.filter_congr fun c _=>?_
 by_cases h:∃ i,i<r∧p i=c
 ·have h2:∃ i,i<r+1∧p i=c:=by obtain⟨i,h1,e⟩:=h; exact⟨i,by omega,e⟩
  simp[h,h2]
 ·by_cases e:p r=c
  ·have h2:∃ i,i<r+1∧p i=c:=⟨r,by omega,e⟩;subst e;simp[h2]
  ·have h2:¬ ∃ i,i<r+1∧p i=c:=fun⟨i,h1,e1⟩=>h ⟨i,by
    by_cases g:i=r
    ·subst g; exact absurd e1 e
    ·omega,e1⟩
   have e2:(c !=p r)=true:=by rw[bne_iff_ne]; exact fun g=>e g.symm
   simp only[h,h2,e2,decide_false,Bool.not_false,Bool.and_self]
theorem npv_len {p:Nat→Nat} {m:Nat}:∀ r,(∀ i,i<r→p i<m)→(∀ i j,i<r→j<r→p i=p j→i=j)→(npv p r m).length+r=m
 | 0,_,_=>by
  have e:npv p 0 m=List.range m:=by
   unfold npv;refine List.filter_eq_self.2 fun c _=>?_
   simp
  rw[e,List.length_range]; rfl
 | r+1,h1,h2=>by
  have ih:=npv_len r (fun i hi=>h1 i (by omega)) (fun i j hi hj e=>h2 i j (by omega) (by omega) e);have hm:p r∈npv p r m:=npv_mem.2 ⟨h1 r (by omega),fun i hi e=>by have:=h2 i r (by omega) (by omega) e; omega⟩;have h3:(npv p (r+1) m).length+1=(npv p r m).length:=by
   rw[npv_step,←List.Nodup.erase_eq_filter (npv_nodup p r m),List.length_erase_of_mem hm];have:=List.length_pos_of_mem hm;omega
  omega
end Cw
namespace Cw
open Go.Proofs.YtjdoneanohhkmaaGreat (joinF)
open Go.Proofs.YtjdoneanohhkmaaGreat (stackR sumR ploR stackR_lo stackR_hi)
section
variable {F:Type} [CField F]
theorem orth_stack {K1 K2 m:Nat} {A B:Nat→Nat→F} {u:Nat→F}:Orth (K1+K2) m (stackR K1 A B) u↔Orth K1 m A u∧Orth K2 m B u:=by
 constructor
 ·intro h;refine⟨fun i hi=>?_,fun i hi=>?_⟩
  ·have h1:=h i (by omega); rw[stackR_lo A B hi]at h1; exact h1
  ·have h1:=h (K1+i) (by omega); rw[stackR_hi A B]at h1; exact h1
 ·rintro⟨h1,h2⟩ i hi;by_cases g:i<K1
  ·rw[stackR_lo A B g]; exact h1 i g
  ·have h3:=h2 (i - K1) (by omega);rw[←stackR_hi A B (K:=K1),show K1+(i - K1)=i by omega]at h3;exact h3
end
end Cw

namespace Go.Proofs.YtjdoneanohhkmaaGreat
section
open Go.RowKit Cw
attribute [local go_sem] Oper.semAt_some

def gM (D:Desc)(pts mul:List Int):Nat→Nat→R D:=fun i j=>eli D (mul[j]?.getD 0)*pw (eli D (pts[j]?.getD 0)) i
theorem OwnM.kept {w w':World} {B n b:Nat} {v:Value} {rows:Nat→List Int} (h:OwnM w B v n rows)(hg:w.grownBy w' (some b))(hb:b<B):OwnM w' B v n rows:=by
 obtain⟨hs,h1,h2,h3⟩:=h;refine⟨hs,h1,World.ownsRow.kept h2 hg (.inr fun e=>by have:=(World.ownsRow.lt h2 _ e).1; omega),fun i hi=>?_⟩;obtain⟨Ai,ci',a1,a2,a3,a4,a5⟩:=h3 i hi;refine⟨Ai,ci',a1,fun hn=>?_,a3,a4,a5⟩;obtain⟨b2,off,e,hbl,hcell⟩:=a2 hn;have h5:=(a5 (List.length_pos_iff.1 hn) _ e).2;exact⟨b2,off,e,Nat.lt_of_lt_of_le hbl hg.size,fun j hj=>hg.cell (hcell j hj) fun e2=>by
  have h6:b2=b:=by injection e2
  have h7:B≤b2:=h5;omega⟩

end
section
open Go.RowKit Cw
attribute [local go_sem] Oper.semAt_some

section
variable {W W':World} {bd:Nat} {u0 u1 u2 u3 v1 v2 u:Value} {l1 l2 l':List Int}
end
theorem take_succ_mem {l:List Int} {k:Nat} (hk:k<l.length)(x:Int):x∈l.take (k+1)↔x∈l.take k∨x=l[k]?.getD 0:=by
 rw[List.take_succ_eq_append_getElem hk,List.mem_append,List.mem_singleton,List.getElem?_eq_getElem hk,Option.getD_some]
theorem take_succ_nodup {l:List Int} {k:Nat} (hk:k<l.length)(h:(l.take k).Nodup)(hn:¬ l[k]?.getD 0∈l.take k):(l.take (k+1)).Nodup:=by
 rw[List.take_succ_eq_append_getElem hk,List.nodup_append];rw[List.getElem?_eq_getElem hk,Option.getD_some]at hn;refine⟨h,by simp,fun x hx y hy e=>hn ?_⟩;have:y=l[k]:=by simpa using hy
 rw[←this,←e]; exact hx
theorem not_nodup_take {l:List Int} {k:Nat} (hk:k<l.length)(hn:l[k]?.getD 0∈l.take k):¬ l.Nodup:=fun h=>by
 have h2:(l.take (k+1)).Nodup:=List.Pairwise.sublist (List.take_sublist _ _) h;rw[List.take_succ_eq_append_getElem hk,List.nodup_append]at h2;rw[List.getElem?_eq_getElem hk,Option.getD_some]at hn;exact h2.2.2 _ hn _ (List.mem_singleton.2 rfl) rfl
theorem seen_step {l:List Int} {k x:Nat} (hk:k<l.length)(hx:l[k]?.getD 0=(x:Int)):(fun i:Nat=>if i=x then true else decide ((i:Int)∈l.take k))=fun i:Nat=>decide ((i:Int)∈l.take (k+1)):=funext fun i=>by
 by_cases e:i=x
 ·rw[if_pos e]; exact (decide_eq_true ((take_succ_mem hk _).2 (.inr (by rw[hx,e])))).symm
 ·rw[if_neg e];by_cases h:(i:Int)∈l.take k
  ·rw[decide_eq_true h,decide_eq_true ((take_succ_mem hk _).2 (.inl h))]
  ·rw[decide_eq_false h,decide_eq_false fun h2=>?_];rcases (take_succ_mem hk _).1 h2 with h3 | h3
   ·exact h h3
   ·rw[hx]at h3; exact e (by omega)

end
section
open Go.RowKit Cw

theorem vals_of {w:World} {L B n b off:Nat} {rows:Nat→List Int} (h:∀ i,i<n→∃ Ai ci,w.cell? ⟨b,off+i,none⟩=some (.slice Ai (rows i).length ci)∧Rd w B Ai (rows i)∧(rows i).length≤ci∧ci≤maxLen∧(rows i≠[]→∀ a,Ai=some a→L≤a.block)) :
  ∃ vs:List Value,vs.length=n∧(∀ j v,vs[j]?=some v→w.cell? ((⟨b,off,none⟩:Addr).add j)=some v)∧∀ i,i<n→∃ Ai ci,vs[i]?=some (.slice Ai (rows i).length ci)∧Rd w B Ai (rows i)∧(rows i).length≤ci∧ci≤maxLen∧(rows i≠[]→∀ a,Ai=some a→L≤a.block):=by
 have hg:∀ i,i<n→((List.range n).map fun i=>(w.cell? ⟨b,off+i,none⟩).getD undef)[i]?=some ((w.cell? ⟨b,off+i,none⟩).getD undef):=fun i hi=>by
  rw[List.getElem?_map,List.getElem?_range hi]; rfl
 refine⟨(List.range n).map fun i=>(w.cell? ⟨b,off+i,none⟩).getD undef,by simp,fun j v e=>?_,fun i hi=>?_⟩
 ·by_cases hj:j<n
  ·obtain⟨Ai,ci,h1,-⟩:=h j hj;rw[hg j hj,h1]at e;have e2:v=.slice Ai (rows j).length ci:=by simpa using e.symm
   rw[e2,show ((⟨b,off,none⟩:Addr).add j)=⟨b,off+j,none⟩ from by simp[Addr.add]];exact h1
  ·rw[List.getElem?_eq_none (by simp; omega)]at e
   cases e
 ·obtain⟨Ai,ci,h1,h2⟩:=h i hi;exact⟨Ai,ci,by rw[hg i hi,h1]; rfl,h2⟩
theorem rdM_new {w:World} {L k n:Nat} {rows lines:Nat→List Int} {vs us:List Value} (hL:L≤w.heap.size)(z:Array Value)(hv:vs.length=k)(hu:us.length=n)
  (h1:∀ i,i<k→∃ Ai ci,vs[i]?=some (.slice Ai (rows i).length ci)∧Rd w w.heap.size Ai (rows i)∧(rows i).length≤ci∧ci≤maxLen∧(rows i≠[]→∀ a,Ai=some a→L≤a.block))
  (h2:∀ i,i<n→∃ Ai ci,us[i]?=some (.slice Ai (lines i).length ci)∧Rd w w.heap.size Ai (lines i)∧(lines i).length≤ci∧ci≤maxLen∧(lines i≠[]→∀ a,Ai=some a→L≤a.block)) (t:TypeId) :
  RdMU (w.drew.alloc (.cells (vs.toArray ++ us.toArray ++ z) t)) L (w.drew.alloc (.cells (vs.toArray ++ us.toArray ++ z) t)).heap.size (some ⟨w.heap.size,0,none⟩) (k+n) (stackR k rows lines):=fun _=>by
 obtain⟨W,hW⟩:∃ W,W=w.drew.alloc (.cells (vs.toArray ++ us.toArray ++ z) t):=⟨_,rfl⟩;have hb:Below w.heap.size w W:=by rw[hW]; exact ((Below.refl _ _).drew).alloc (Nat.le_refl _) _
 have hs:W.heap.size=w.heap.size+1:=by rw[hW,World.size_alloc]; rfl
 have hh:W.heap[w.heap.size]?=some (.cells (vs.toArray ++ us.toArray ++ z) t (0,0)):=by rw[hW]; exact heap_alloc_new w.drew _
 rw[←hW];have hc:∀ i (v:Value),(vs ++ us)[i]?=some v→W.cell? ⟨w.heap.size,0+i,none⟩=some v:=fun i v e=>by
  unfold World.cell?;rw[hh];have hlt:i<(vs ++ us).length:=(List.getElem?_eq_some_iff.1 e).1;have e2:(vs.toArray ++ us.toArray ++ z)[i]?=some v:=by
   rw[Array.getElem?_append_left (by simpa using hlt)]
   simpa using e
  simpa using e2
 refine⟨w.heap.size,0,rfl,hL,by omega,fun i hi=>?_⟩;by_cases e:i<k
 ·obtain⟨Ai,ci,g1,g2,g3⟩:=h1 i e;rw[stackR_lo rows lines e];exact⟨Ai,ci,hc i _ (by rw[List.getElem?_append_left (by omega)]; exact g1),(g2.below hb).more hb.size,g3⟩
 ·obtain⟨Ai,ci,g1,g2,g3⟩:=h2 (i - k) (by omega);have e2:stackR k rows lines i=lines (i - k):=if_neg e;rw[e2];exact⟨Ai,ci,hc i _ (by rw[List.getElem?_append_right (by omega),hv]; exact g1),(g2.below hb).more hb.size,g3⟩
theorem run_appRows {w:World} (ty:TypeId){L k n c gl:Nat} {rows lines:Nat→List Int} {Al:Option Addr} (hL:L≤w.heap.size)(h1:RdMU w L w.heap.size Al k rows)(h2:RdMU w L w.heap.size (some ⟨gl,0,none⟩) n lines)(hn:0<n)(hsz:k+n≤1000000) :
  ∃ c' w',(Builtin.append_ #[25,25] ty #[.slice Al k k,.slice (some ⟨gl,0,none⟩) n c]).run Tryz.prog w=.ok (.slice (some ⟨w.heap.size,0,none⟩) (k+n) c') w'∧RdMU w' L w'.heap.size (some ⟨w.heap.size,0,none⟩) (k+n) (stackR k rows lines)∧Below w.heap.size w w'∧k+n≤c'∧c'≤maxLen:=by
 obtain⟨i0,hi,hz0,hz1,hz2⟩:=info_parts infoInts;have ht:=Tryz.underlying25;obtain⟨bx,ox,ex,-,-,hx⟩:=h2 hn
 injection ex with ex
 injection ex with e1 e2
 subst e1 e2;obtain⟨us,hul,huc,huv⟩:=vals_of hx;have hdr:∀ (vs:List Value) (z:Array Value),Below w.heap.size w (w.drew.alloc (.cells (vs.toArray ++ us.toArray ++ z) 22)):=fun vs z=>((Below.refl _ _).drew).alloc (Nat.le_refl _) _
 cases Al with
 | none =>
  have hk:k=0:=by
   refine Classical.byContradiction fun hne=>?_
   obtain⟨b,off,e,-⟩:=h1 (by omega)
   cases e
  subst hk;have hr:=run_append_nil (P:=Tryz.prog) (w:=w) 25 ty 22 i0 (.slice none 0 0) ht hi hz0 ⟨gl,0,none⟩ n c us (by rw[hz1]; omega) huc hn (by omega) (by rw[hz2]; omega);have hr2:(Builtin.append_ #[25,25] ty #[.slice none 0 0,.slice (some ⟨gl,0,none⟩) n c]).run Tryz.prog w=.ok (.slice (some ⟨w.heap.size,0,none⟩) (0+n) (grownCap w n 0 22)) (w.drew.alloc (.cells (([]:List Value).toArray ++ us.toArray ++ Builtin.zeroCells (Value.slice none 0 0).cells (grownCap w n 0 22 - n)) 22)):=by
   rw[hr,Nat.zero_add];simp
  exact⟨_,_,hr2,rdM_new (k:=0) hL _ rfl hul (fun i hi=>absurd hi (Nat.not_lt_zero _)) huv _,hdr [] _,by rw[Nat.zero_add]; exact grownCap_ge w n 0 _,grownCap_le_maxLen w n 0 _ (by unfold maxLen; omega)⟩
 | some a =>
  obtain⟨vs,hvl,hvc,hvv⟩:∃ vs:List Value,vs.length=k∧(∀ j v,vs[j]?=some v→w.cell? (a.add j)=some v)∧∀ i,i<k→∃ Ai ci,vs[i]?=some (.slice Ai (rows i).length ci)∧Rd w w.heap.size Ai (rows i)∧(rows i).length≤ci∧ci≤maxLen∧(rows i≠[]→∀ a,Ai=some a→L≤a.block):=by
   rcases Nat.eq_zero_or_pos k with h0 | h0
   ·subst h0;exact⟨[],rfl,fun j v e=>by simp at e,fun i hi=>absurd hi (Nat.not_lt_zero _)⟩
   ·obtain⟨b,off,e,-,-,hc⟩:=h1 h0
    injection e with e
    subst e;exact vals_of hc
  have hr:=run_append_grow (P:=Tryz.prog) (w:=w) 25 ty 22 i0 (.slice none 0 0) ht hi hz0 a k k vs (by rw[hz1]; omega) hvc ⟨gl,0,none⟩ n c us (by rw[hz1]; omega) huc (by omega) (by omega) (growslice_fits (by omega) (by rw[hz2]; omega));exact⟨_,_,hr,rdM_new hL _ hvl hul hvv huv _,hdr vs _,grownCap_ge w (k+n) k _,grownCap_le_maxLen w (k+n) k _ (by unfold maxLen; omega)⟩
theorem wpList_appRows {w:World} {ops:Array Oper} {rest:List Oper} {o:Oper} {a:Act} {Q:Exit→Act→World→Prop} (hgd:o.guard=none)(s x:Operand)
  (ho:o.op=.call { callee:=.builtin .append,args:=#[s,x],argTypes:=#[25,25] })
  {L k n c gl:Nat} {rows lines:Nat→List Int} {Al:Option Addr} (hL:L≤w.heap.size) (h1:RdMU w L w.heap.size Al k rows) (h2:RdMU w L w.heap.size (some ⟨gl,0,none⟩) n lines) (hn:0<n) (hsz:k+n≤1000000)
  (hs:a.eval s=.slice Al k k) (hx:a.eval x=.slice (some ⟨gl,0,none⟩) n c)
  (h:∀ g c' w',RdMU w' L w'.heap.size (some ⟨g,0,none⟩) (k+n) (stackR k rows lines)→w.heap.size≤g→Below w.heap.size w w'→k+n≤c'→c'≤maxLen→wpList Tryz.prog ops Q rest (a.put o.dst (.slice (some ⟨g,0,none⟩) (k+n) c')) w') :
  wpList Tryz.prog ops Q (o :: rest) a w:=by
 refine wpList_plain hgd fun K hK=>?_
 obtain⟨c',w',hrun,g1,g2,g3,g4⟩:=run_appRows o.type (c:=c) hL h1 h2 hn hsz;unfold Oper.wp execOp;simp only[ho,resolve,invoke,builtin,Sem.run_bind,Sem.run_pure,Result.andThen_ok,List.map_toArray,List.map_cons,List.map_nil,hs,hx,hrun];exact hK _ _ (h _ _ _ g1 (Nat.le_refl _) g2 g3 g4)
end
section
open Go.RowKit Cw
attribute [local go_sem] Oper.semAt_some

set_option maxHeartbeats 1000000 in
theorem Power5_any (i:Nat)(w:World)(hi:i≤1000) :
  Calls Tryz.prog 189 #[.int .i64 i] w (Gives w.heap.size ((List.replicate (i+1) (0:Int)).set i 1) w):=by
 have hmk:=fun W=>mk_ints (i+1) (by omega) W
 push_cast at hmk
 have hwr:IntKind.i64.wrap ((i:Int)+1)=(i:Int)+1:=IntWalk.i64_in _ (by omega);have hi0:(0:Int)≤(i:Int):=by omega
 have hi1:(i:Int)<(i:Int)+1:=by omega
 have hib:=IB.newz w (i+1);have hfz:=hib.frozen i;have hcl:=hib.cell (i:=i) (by simp);have hw2:(w.alloc (.cells (Array.replicate (i+1) (Value.int .i64 0)) 3)).setCell ⟨w.heap.size,i,none⟩ (.int .i64 1)=w.alloc (.cells ((Array.replicate (i+1) (Value.int .i64 0)).setIfInBounds i (.int .i64 1)) 3):=by simp[go_sem]
 have hset:=(hib.set_ i 1);have hB:=(((Below.refl w.heap.size w).alloc (Nat.le_refl _) (.cells (Array.replicate (i+1) (Value.int .i64 0)) 3)).setCell (p:=⟨w.heap.size,i,none⟩) (Nat.le_refl _) (.int .i64 1));rw[hw2]at hset hB;replace hw2:=Lib.hid hw2;replace hset:=Lib.hid hset;replace hB:=Lib.hid hB;go_enter Tryz.func189,Tryz.ntmps189;go_wp2_with (fail);go_ret;exact⟨w.heap.size,by simp,Nat.le_refl _,hset.out,hB.out⟩
end
section
open Go.RowKit Cw
attribute [local go_sem] Oper.semAt_some

def powL (i:Nat):List Int:=(List.replicate (i+1) (0:Int)).set i 1
theorem powL_length (i:Nat):(powL i).length=i+1:=by simp[powL]
theorem OwnM.low {w:World} {B B' n:Nat} {v:Value} {rows:Nat→List Int} (h:OwnM w B v n rows)(hB:B'≤B):OwnM w B' v n rows:=by
 obtain⟨hs,h1,h2,h3⟩:=h;refine⟨hs,h1,⟨h2.1,?_⟩,fun i hi=>?_⟩
 ·rcases h2.2 with hn | ⟨g,cap,cur,e,hb,rest⟩
  ·exact .inl hn
  ·exact .inr ⟨g,cap,cur,e,Nat.le_trans hB hb,rest⟩
 ·obtain⟨Ai,c,a1,a2,a3,a4,a5⟩:=h3 i hi;exact⟨Ai,c,a1,a2,a3,a4,fun hn a e=>⟨(a5 hn a e).1,Nat.le_trans hB (a5 hn a e).2⟩⟩
def rowsW (D:Desc)(pts mul:List Int):Nat→List Int:=fun i=>wordL D pts mul (powL i)
set_option maxRecDepth 100000 in
set_option maxHeartbeats 2000000 in
theorem Rows18_any (D:Desc)(kn:Nat)(pts mul:List Int)(A A1 A2:Option Addr)(c c1 c2:Nat)(w:World)(hr:Rd w w.heap.size A (modL D))(hr1:Rd w w.heap.size A1 pts)(hr2:Rd w w.heap.size A2 mul)
  (hlen:mul.length=pts.length) (hl:pts.length≤64) (hk:kn≤64) :
  Calls Tryz.prog 125 #[.agg #[.int .i64 D.p,.int .i64 D.m,.slice A D.mod.length c,.int .i64 (kn:Int),.slice A1 pts.length c1,.slice A2 mul.length c2]] w fun e w'=>∃ v,e=.returned v∧OwnM w' w.heap.size v kn (rowsW D pts mul)∧Below w.heap.size w w':=by
 have hP:=fun (i:Nat) (W:World) (h:i≤1000)=>Lib.hid (show Calls Tryz.prog 189 #[.int .i64 i] W (Gives W.heap.size (powL i) W) from Power5_any i W h)
 have hW:=fun i A3 c3 W a b c' d (hi:i≤64)=>Lib.hid (Word18_any D kn pts mul (powL i) A A1 A2 A3 c c1 c2 c3 W a b c' d hlen hl (by rw[powL_length]; unfold maxLen; omega))
 obtain⟨Z,hZ⟩:∃ Z,Z=w.alloc (.cells #[.int .i64 D.p,.int .i64 D.m,.slice A D.mod.length c,.int .i64 (kn:Int),.slice A1 pts.length c1,.slice A2 mul.length c2] 72):=⟨_,rfl⟩;have hB:Below w.heap.size w Z:=by rw[hZ]; exact (Below.refl _ _).alloc (Nat.le_refl _) _
 have hZs:w.heap.size<Z.heap.size:=by rw[hZ]; simp
 have k0:=Lib.hid (show Z.cell? ⟨w.heap.size,0,none⟩=some (.int .i64 D.p)∧Z.cell? ⟨w.heap.size,1,none⟩=some (.int .i64 D.m)∧Z.cell? ⟨w.heap.size,2,none⟩=some (.slice A D.mod.length c)∧Z.cell? ⟨w.heap.size,3,none⟩=some (.int .i64 (kn:Int))∧Z.cell? ⟨w.heap.size,4,none⟩=some (.slice A1 pts.length c1)∧Z.cell? ⟨w.heap.size,5,none⟩=some (.slice A2 mul.length c2) from by rw[hZ]; simp[go_sem]);have hlenH:=Lib.hid hlen;replace hZ:=Lib.hid hZ;clear hlen;go_enter Tryz.func125,Tryz.ntmps125;go_wp2_with (fail);rw[←hZ.out];go_loopw [4,3] (fun iS v wr=>∃ k:Nat,k≤kn∧iS=.int .i64 k∧OwnM wr Z.heap.size v k (rowsW D pts mul)∧Hid (wr.cell? ⟨w.heap.size,0,none⟩=some (.int .i64 D.p)∧wr.cell? ⟨w.heap.size,1,none⟩=some (.int .i64 D.m)∧wr.cell? ⟨w.heap.size,2,none⟩=some (.slice A D.mod.length c)∧wr.cell? ⟨w.heap.size,3,none⟩=some (.int .i64 (kn:Int))∧wr.cell? ⟨w.heap.size,4,none⟩=some (.slice A1 pts.length c1)∧wr.cell? ⟨w.heap.size,5,none⟩=some (.slice A2 mul.length c2))∧Below w.heap.size w wr∧Z.heap.size≤wr.heap.size) (fun iS _ _=>kn - (intOf iS).toNat)
 case atStart=>exact⟨0,by omega,rfl,OwnM.nil _ _ _,k0,hB,Nat.le_refl _⟩
 case round =>
  clear k0 hB hZ;obtain⟨w3,rfl⟩:∃ w3:World,w3=wr:=⟨_,rfl⟩;obtain⟨k,hkk,rfl,hown,kk,hbw,hs3⟩:=hrel;obtain⟨Av,cv,rfl⟩:=hown.size;obtain⟨q0,q1,q2,q3,q4,q5⟩:=kk.out;by_cases hlt:k<kn
  ·have hlt3:w.heap.size<w3.heap.size:=by omega
   have hP3:=hP k w3.drew (by omega);unfold Gives at hP3;clear q0 q1 q2 q4 q5;go_wp2_with (fail);refine wp_region_held_drew (S:=fun w'=>w'.cell? ⟨w.heap.size,0,none⟩=some (.int .i64 D.p)∧w'.cell? ⟨w.heap.size,1,none⟩=some (.int .i64 D.m)∧w'.cell? ⟨w.heap.size,2,none⟩=some (.slice A D.mod.length c)∧w'.cell? ⟨w.heap.size,3,none⟩=some (.int .i64 (kn:Int))∧w'.cell? ⟨w.heap.size,4,none⟩=some (.slice A1 pts.length c1)∧w'.cell? ⟨w.heap.size,5,none⟩=some (.slice A2 mul.length c2)) (by kernel_rfl) (by (try dsimp only); exact kk.out) (fun hHeld=>?_);refine tk 0 ?_; try simp only[pS]
   refine tk 1 ?_; try simp only[pS]
   refine tk 2 ?_; try simp only[pS]
   refine rd 3 fun K hK=>?_
   go_simp;go_at_call 189;(with_reducible refine (hP3).out.mono ?_);rintro e w4 ⟨g4,rfl,hg4,hib4,hb4⟩;have kk4:=Lib.hid (keep6 hb4 hlt3 kk.out);have hB4:=hbw.drew.trans (hb4.mono hbw.size);have hs4:w3.heap.size≤w4.heap.size:=hb4.size;have hW4:=hW k (some ⟨g4,0,none⟩) (powL k).length w4 ((hr.below hB4).more hB4.size) ((hr1.below hB4).more hB4.size) ((hr2.below hB4).more hB4.size) hib4.rd (by omega);unfold Gives at hW4;go_wp2_with (fail);refine hK.out _ _ (by (try dsimp only); exact kk4.out) (fun hHeld=>?_);clear hK K;try simp only[pS]
   refine rd 4 fun K hK=>?_
   go_simp;go_at_call 188;(with_reducible refine (hW4).out.mono ?_);rintro e w5 ⟨g5,rfl,hg5,hib5,hb5⟩;have kk5:=Lib.hid (keep6 hb5 (Nat.lt_of_lt_of_le hlt3 hs4) kk4.out);have hb35:Below w3.heap.size w3 w5:=(Below.refl _ w3).drew.trans (hb4.trans (hb5.mono hb4.size));have hown5:=hown.below hb35 (Nat.le_refl _);have hs5:w4.heap.size≤w5.heap.size:=hb5.size;obtain⟨hds,p1,p2,p3⟩:=hown5;have hlt5:w.heap.size<w5.heap.size:=by omega
   go_wp2_with (fail);refine hK.out _ _ (by (try dsimp only); exact kk5.out) (fun hHeld=>?_);clear hK K;try simp only[pS]
   refine rd 5 fun K hK=>?_
   go_simp;refine hK.out _ _ (by (try dsimp only); exact keep6 ((Below.refl w5.heap.size w5).alloc (Nat.le_refl _) _) hlt5 kk5.out) (fun hHeld=>?_);clear hK K;try simp only[pS]
   refine rd 6 fun K hK=>?_
   refine step_app1V rfl (.tmp 11) (.tmp 16) rfl Z.heap.size _ hds _ rfl p2 (by rfl) (by rfl) rfl (by rw[p1]; omega) (by omega) ?_;intro v6 w6 ho6 hb6 hg6 hv6;have kk6:=Lib.hid (keep6 hb6 hZs kk5.out);refine hK.out _ _ (by (try dsimp only); exact kk6.out) (fun hHeld=>?_);clear hK K;try simp only[pS]
   refine tk 7 ?_; try simp only[pS]
   refine wpAnyH_done (by kernel_rfl) ?_ _;have hwl:(rowsW D pts mul k).length≤64:=by unfold rowsW; rw[wordL_length]; exact hl
   have hsn:=OwnM.snoc (rows:=rowsW D pts mul) p1 p3 (Ak:=some ⟨g5,0,none⟩) (ck:=(wordL D pts mul (powL k)).length) hib5.rd (Nat.le_refl _) (by unfold maxLen; exact Nat.le_trans hwl (by omega)) (fun _ a e=>by cases e; exact⟨fun e2=>by have h2:=(World.ownsRow.lt (hown.choose_spec.2.1) _ e2).2; have h3:w4.heap.size≤g5:=hg5; have h4:g5<w3.heap.size:=h2; omega,show Z.heap.size≤g5 by have h3:w4.heap.size≤g5:=hg5; omega⟩) ho6 hg6 hv6;have hBf:=Lib.hid (hbw.trans ((hb35.mono hbw.size).trans (hb6.mono (by omega))));have hsf:Hid (Z.heap.size≤w6.heap.size):=Nat.le_trans (by omega) hb6.size;go_wp2_with (fail);go_roundw
   case rel=>exact⟨k+1,by omega,by go_num,hsn,kk6,hBf.out,hsf.out⟩
   case measure=>simp[intOf]; omega
  ·obtain rfl:k=kn:=by omega
   go_wp2_with (fail);go_ret;exact⟨_,rfl,hown.low (Nat.le_of_lt hZs),hbw⟩
end
section
open Go.RowKit Cw

theorem powL_get (i j:Nat)(h:j<i+1):(powL i)[j]?.getD 0=if j=i then 1 else 0:=by
 unfold powL;rw[List.getElem?_set];by_cases e:i=j
 ·subst e; simp
 ·rw[if_neg e,if_neg (fun h=>e h.symm)]; simp[List.getElem?_replicate,h]
theorem pevI_powL (D:Desc)(i:Nat)(u:R D):pevI D (powL i) u=pw u i:=by
 unfold pevI;rw[powL_length,rsum_single (k:=i) (Nat.lt_succ_self _) fun j hj hne=>?_]
 ·rw[powL_get i i (Nat.lt_succ_self _),if_pos rfl,eli_one,one_mul]
 ·rw[powL_get i j hj,if_neg hne,eli_zero,zero_mul]
theorem rowsW_eq (D:Desc)(pts mul:List Int):rowsW D pts mul=rowsL D pts.length (gM D pts mul):=funext fun i=>by
 unfold rowsW rowsL rowL wordL gM;simp only[pevI_powL]
end
section
open Go.RowKit Cw
attribute [local go_sem] Oper.semAt_some

end
end Go.Proofs.YtjdoneanohhkmaaGreat

/- Construction X: the pivots of a code inside another, the messages of the tail code, the weights. No Go here. Construction X: where the words lie, their weights. No Go here. -/
import Derived.Test.YtogfekjbpcfgmaaGreatZtXSpR
import Derived.Test.YtogfekjbpcfgmaaGreatZtXKerI
set_option linter.unusedVariables false
set_option linter.unusedSimpArgs false
namespace Go.Proofs.YtogfekjbpcfgmaaGreat
section
open Go.RowKit Cw

def ownD (q:Nat→Nat)(x:Nat):Nat→Bool
 | 0=>false
 | n+1=>ownD q x n || decide (q n=x)
theorem ownD_iff {q:Nat→Nat} {x:Nat}:∀ n,ownD q x n=true↔∃ i,i<n∧q i=x
 | 0=>by unfold ownD; simp
 | n+1=>by
  unfold ownD;rw[Bool.or_eq_true,ownD_iff n,decide_eq_true_iff];constructor
  ·rintro (⟨i,hi,e⟩ | e)
   ·exact⟨i,by omega,e⟩
   ·exact⟨n,by omega,e⟩
  ·rintro⟨i,hi,e⟩;by_cases h:i=n
   ·exact .inr (h ▸ e)
   ·exact .inl ⟨i,by omega,e⟩
theorem conB_own (q:Nat→Nat)(n x:Nat):conB (lst n fun i=>(q i:Int)) (x:Int)=ownD q x n:=by
 rw[Bool.eq_iff_iff,ownD_iff];unfold conB lst;rw[decide_eq_true_iff,List.mem_map];constructor
 ·rintro⟨i,hi,e⟩;exact⟨i,List.mem_range.1 hi,Int.ofNat.inj e⟩
 ·rintro⟨i,hi,e⟩;exact⟨i,List.mem_range.2 hi,congrArg Nat.cast e⟩
def selP (q:Nat→Nat)(nb:Nat)(p:Nat→Nat):Nat→List Nat
 | 0=>[]
 | k+1=>if ownD q (p k) nb=true then selP q nb p k else selP q nb p k ++ [p k]
theorem selP_yes {q p:Nat→Nat} {nb k:Nat} (h:ownD q (p k) nb=true):selP q nb p (k+1)=selP q nb p k:=if_pos h
theorem selP_no {q p:Nat→Nat} {nb k:Nat} (h:ownD q (p k) nb=false):selP q nb p (k+1)=selP q nb p k ++ [p k]:=if_neg (by rw[h]; decide)
theorem selP_le (q p:Nat→Nat)(nb:Nat):∀ k,(selP q nb p k).length≤k
 | 0=>Nat.le_refl _
 | k+1=>by
  have:=selP_le q p nb k
  cases h:ownD q (p k) nb
  ·rw[selP_no h,List.length_append]; simp; omega
  ·rw[selP_yes h]; omega
theorem selP_len (q p:Nat→Nat)(nb:Nat):∀ k,(selP q nb p k).length+cn (fun j=>ownD q (p j) nb) k=k
 | 0=>rfl
 | k+1=>by
  have:=selP_len q p nb k;rw[cn_succ]
  cases h:ownD q (p k) nb
  ·rw[selP_no h,List.length_append,if_neg (by decide)]; simp; omega
  ·rw[selP_yes h,if_pos rfl]; omega
def tlF {D:Desc} (q:Nat→Nat)(nb:Nat)(p:Nat→Nat)(f:Nat→R D)(k:Nat):List Int:=rowL D (selP q nb p k).length fun t=>f (pvF (selP q nb p k) t)
theorem tlF_yes {D:Desc} {q p:Nat→Nat} {nb k:Nat} {f:Nat→R D} (h:ownD q (p k) nb=true):tlF q nb p f (k+1)=tlF q nb p f k:=by unfold tlF; rw[selP_yes h]
theorem tlF_no {D:Desc} {q p:Nat→Nat} {nb k:Nat} {f:Nat→R D} (h:ownD q (p k) nb=false):tlF q nb p f k ++ [ci (f (p k))]=tlF q nb p f (k+1):=by
 unfold tlF;rw[selP_no h,List.length_append,List.length_singleton];have e:rowL D (selP q nb p k).length (fun t=>f (pvF (selP q nb p k) t))=rowL D (selP q nb p k).length (fun t=>f (pvF (selP q nb p k ++ [p k]) t)):=lst_congr fun t ht=>by dsimp only; rw[pvF_old ht]
 rw[e,←show ci (f (pvF (selP q nb p k ++ [p k]) (selP q nb p k).length))=ci (f (p k)) from by rw[pvF_new]];unfold rowL;rw[lst_succ]
theorem tlF_length {D:Desc} {q p:Nat→Nat} {nb k:Nat} {f:Nat→R D}:(tlF q nb p f k).length=(selP q nb p k).length:=rowL_length _ _ _

section
variable {F:Type} [CField F] {m na nb mt:Nat} {p q:Nat→Nat} {A B T:Nat→Nat→F}
theorem piv_sub (hA:RR m na p A)(hB:RR m nb q B)(hin:∀ i,i<nb→Span na m A (B i)){i:Nat} (hi:i<nb):∃ j,j<na∧q i=p j:=by
 obtain⟨k,hk,h1,h2⟩:=hA.lead (hin i hi) (hB.lt i hi) (by rw[hB.one i hi]; exact one_ne);refine⟨k,hk,Nat.le_antisymm (Nat.le_of_not_lt fun h=>h1 (hB.low i hi _ h)) (Nat.le_of_not_lt fun h=>?_)⟩;have:=h2 _ h;rw[hB.one i hi]at this;exact one_ne this
theorem cn_or {P Q:Nat→Bool}:∀ n,(∀ j,j<n→P j=true→Q j=false)→cn (fun j=>P j || Q j) n=cn P n+cn Q n
 | 0,_=>rfl
 | n+1,h=>by
  rw[cn_succ,cn_succ,cn_succ,cn_or n fun j hj=>h j (by omega)];have:=h n (by omega)
  cases hp:P n <;> cases hq:Q n <;> simp[hp,hq]at this ⊢ <;> omega
theorem cn_one {p:Nat→Nat} {x:Nat}:∀ {n k:Nat},k<n→p k=x→(∀ j,j<n→p j=x→j=k)→cn (fun j=>decide (x=p j)) n=1
 | 0,k,h,_,_=>absurd h (Nat.not_lt_zero _)
 | n+1,k,h,e,hu=>by
  rw[cn_succ];by_cases hk:k=n
  ·subst hk;rw[if_pos (decide_eq_true e.symm),cn_zero k fun j hj=>decide_eq_false fun e2=>by have:=hu j (by omega) e2.symm; omega]
  ·rw[if_neg (by rw[decide_eq_true_iff]; intro e2; exact hk (hu n (by omega) e2.symm).symm),cn_one (n:=n) (k:=k) (by omega) e fun j hj=>hu j (by omega)]
theorem rr_inj (hA:RR m na p A){i j:Nat} (hi:i<na)(hj:j<na)(e:p i=p j):i=j:=by
 rcases Nat.lt_trichotomy i j with h | h | h
 ·have:=hA.mono i j h hj; omega
 ·exact h
 ·have:=hA.mono j i h hi; omega
theorem own_count (hA:RR m na p A)(hB:RR m nb q B)(hin:∀ i,i<nb→∃ j,j<na∧q i=p j):∀ k,k≤nb→cn (fun j=>ownD q (p j) k) na=k
 | 0,_=>cn_zero na fun _ _=>rfl
 | k+1,hk=>by
  obtain⟨j0,hj0,e⟩:=hin k (by omega);rw[show (fun j=>ownD q (p j) (k+1))=fun j=>ownD q (p j) k || decide (q k=p j) from rfl,cn_or na,own_count hA hB hin k (by omega),cn_one hj0 e.symm fun j hj e2=>rr_inj hA hj hj0 (e2.trans e)];intro j _ h;obtain⟨i,hi,e2⟩:=(ownD_iff k).1 h;refine decide_eq_false fun e3=>?_
  have:=hB.mono i k hi (by omega);omega
theorem sel_len (hA:RR m na p A)(hB:RR m nb q B)(hin:∀ i,i<nb→Span na m A (B i)):(selP q nb p na).length=na - nb:=by
 have h1:=selP_len q p nb na;have h2:=own_count hA hB (fun i hi=>piv_sub hA hB hin hi) nb (Nat.le_refl _);omega
end
section
variable {F:FD} {m na nb mt:Nat} {p q:Nat→Nat} {A B T:Nat→Nat→R F.toDesc}
def tlG (q:Nat→Nat)(nb:Nat)(p:Nat→Nat)(na:Nat)(B:Nat→Nat→R F.toDesc)(u:Nat→R F.toDesc):Nat→R F.toDesc:=fun t=>restF nb q B u (pvF (selP q nb p na) t)
def extR (m:Nat)(q:Nat→Nat)(nb:Nat)(p:Nat→Nat)(na:Nat)(A B T:Nat→Nat→R F.toDesc):Nat→Nat→R F.toDesc:=fun i=>joinF m (A i) (cmb (selP q nb p na).length (tlG q nb p na B (A i)) T)
end
end
section
open Go.RowKit Cw
section
variable {F:FD} {m na nb nz mt:Nat} {p q:Nat→Nat} {A B U:Nat→Nat→R F.toDesc}
theorem selP_iff (q p:Nat→Nat)(nb:Nat):∀ k x,x∈selP q nb p k↔∃ j,j<k∧p j=x∧ownD q x nb=false
 | 0,x=>by unfold selP; simp
 | k+1,x=>by
  have ih:=selP_iff q p nb k x
  cases h:ownD q (p k) nb
  ·rw[selP_no h,List.mem_append,ih,List.mem_singleton];constructor
   ·rintro (⟨j,hj,e,ho⟩ | e)
    ·exact⟨j,by omega,e,ho⟩
    ·exact⟨k,by omega,e.symm,by rw[e]; exact h⟩
   ·rintro⟨j,hj,e,ho⟩;by_cases hk:j=k
    ·exact .inr (by rw[←e,hk])
    ·exact .inl ⟨j,by omega,e,ho⟩
  ·rw[selP_yes h,ih];constructor
   ·rintro⟨j,hj,e,ho⟩;exact⟨j,by omega,e,ho⟩
   ·rintro⟨j,hj,e,ho⟩;by_cases hk:j=k
    ·rw[←e,hk,h]at ho; cases ho
    ·exact⟨j,by omega,e,ho⟩
theorem sel_at {k t:Nat} (ht:t<(selP q nb p k).length):pvF (selP q nb p k) t∈selP q nb p k:=by
 unfold pvF;rw[List.getElem?_eq_getElem ht];exact List.getElem_mem ht
theorem sel_get {k x:Nat} (h:x∈selP q nb p k):∃ t,t<(selP q nb p k).length∧pvF (selP q nb p k) t=x:=by
 obtain⟨t,ht,e⟩:=List.getElem_of_mem h;exact⟨t,ht,by unfold pvF; rw[List.getElem?_eq_getElem ht]; exact e⟩
theorem sel_lt (hA:RR m na p A){t:Nat} (ht:t<(selP q nb p na).length):pvF (selP q nb p na) t<m:=by
 obtain⟨j,hj,e,-⟩:=(selP_iff q p nb na _).1 (sel_at ht);rw[←e];exact hA.lt j hj
theorem restF_lin (s:Nat→R F.toDesc)(c:Nat)(_hc:c<m):restF nb q B (fun j=>rsum na fun i=>s i*A i j) c=rsum na fun i=>s i*restF nb q B (A i) c:=by
 unfold restF;rw[rsum_congr (n:=na) (g:=fun i=>s i*A i c+s i*rsum nb (fun t=>-(A i (q t))*B t c)) fun i _=>mul_add _ _ _,rsum_add]
 congr 1
 rw[rsum_congr (n:=na) (g:=fun i=>rsum nb fun t=>s i*(-(A i (q t))*B t c)) fun i _=>(rsum_mul_left _ _ _).symm,rsum_swap];refine rsum_congr fun t ht=>?_
 rw[neg_mul,←rsum_mul_right,←rsum_neg];exact rsum_congr fun i _=>by rw[neg_mul,mul_neg,mul_a]
theorem ext_word (hA:RR m na p A){u:Nat→R F.toDesc} (hu:Span na (m+mt) (extR m q nb p na A B U) u):∃ x,Span na m A x∧(∀ j,j<m→u j=x j)∧∀ j,j<mt→u (m+j)=cmb (selP q nb p na).length (tlG q nb p na B x) U j:=by
 obtain⟨s,hs⟩:=hu;refine⟨fun j=>rsum na fun i=>s i*A i j,⟨s,fun _ _=>rfl⟩,fun j hj=>?_,fun j hj=>?_⟩
 ·rw[hs j (by omega)];refine rsum_congr fun i _=>?_
  unfold extR;rw[joinF_lo hj]
 ·rw[hs (m+j) (by omega)];unfold cmb;rw[rsum_congr (n:=na) (g:=fun i=>rsum (selP q nb p na).length fun t=>s i*(tlG q nb p na B (A i) t*U t j)) fun i _=>by
   rw[rsum_mul_left];unfold extR;rw[joinF_hi];rfl,rsum_swap]
  refine rsum_congr fun t ht=>?_
  unfold tlG;rw[restF_lin s _ (sel_lt hA ht),←rsum_mul_right];exact rsum_congr fun i _=>(mul_a _ _ _).symm
theorem restF_own (hB:RR m nb q B)(x:Nat→R F.toDesc){i:Nat} (hi:i<nb):restF nb q B x (q i)=0:=by
 unfold restF;rw[rsum_single (k:=i) hi fun t ht hne=>by rw[hB.zero t i ht hi hne,mul_zero],hB.one i hi,mul_one,add_neg]
theorem rest_zero (hB:RR m nb q B){x:Nat→R F.toDesc}:Span nb m B x↔∀ j,j<m→restF nb q B x j=0:=by
 constructor
 ·rintro⟨c,hc⟩ j hj;unfold restF;rw[rsum_congr (g:=fun i=>-(c i*B i j)) fun i hi=>by rw[hB.coef hc hi,neg_mul],rsum_neg,←hc j hj,add_neg]
 ·intro h;refine⟨fun i=>x (q i),fun j hj=>?_⟩;have h1:=h j hj;unfold restF at h1;rw[rsum_congr fun i _=>neg_mul _ _,rsum_neg]at h1;exact sub_eq_zero h1
theorem ext_in (hA:RR m na p A)(hB:RR m nb q B)(hin:∀ i,i<nb→Span na m A (B i))(hU:Indep (selP q nb p na).length mt U){x:Nat→R F.toDesc} (hx:Span na m A x):Span nb m B x↔∀ j,j<mt→cmb (selP q nb p na).length (tlG q nb p na B x) U j=0:=by
 rw[rest_zero hB];constructor
 ·intro h j hj;unfold cmb;refine rsum_eq_zero fun t ht=>?_
  unfold tlG;rw[h _ (sel_lt hA ht),zero_mul]
 ·intro h;have h1:=hU (tlG q nb p na B x) h;have hr:Span na m A (restF nb q B x):=by
   have h2:Span na m A (fun j=>rsum nb fun i=>x (q i)*B i j):=Span.sum (fun i j=>x (q i)*B i j) nb fun i hi=>(hin i hi).smul _
   refine (hx.add (h2.smul (-1))).congr fun j _=>?_
   unfold restF;rw[neg_mul,one_mul,←rsum_neg];exact congrArg (x j+·) (rsum_congr fun i _=>neg_mul _ _)
  obtain⟨c,hc⟩:=hr;have hz:∀ k,k<na→c k=0:=fun k hk=>by
   rw[←hA.coef hc hk]
   cases ho:ownD q (p k) nb
   ·obtain⟨t,ht,e⟩:=sel_get ((selP_iff q p nb na (p k)).2 ⟨k,hk,rfl,ho⟩);have:=h1 t ht;unfold tlG at this
    rwa [e]at this
   ·obtain⟨i,hi,e⟩:=(ownD_iff nb).1 ho;rw[←e];exact restF_own hB x hi
  intro j hj;rw[hc j hj];exact rsum_eq_zero fun k hk=>by rw[hz k hk,zero_mul]
theorem ext_indep (hA:RR m na p A):Indep na (m+mt) (extR m q nb p na A B U):=fun s hs i hi=>by
 refine RR.indep hA s (fun j hj=>?_) i hi;rw[←hs j (by omega)];refine rsum_congr fun t _=>?_
 unfold extR;rw[joinF_lo hj]
theorem ext_law (hA:RR m na p A)(hB:RR m nb q B)(hin:∀ i,i<nb→Span na m A (B i))(hU:Indep (selP q nb p na).length mt U){da db dt:Nat} (hLa:Low na m A da)(hLb:1≤db→Low nb m B db)(hLt:Low (selP q nb p na).length mt U dt){u:Nat→R F.toDesc} (hu:Span na (m+mt) (extR m q nb p na A B U) u) :
  (Span nb m B u↔wtF mt (fun j=>u (m+j))=0)∧(Span nb m B u→wtF m u=0∨db≤wtF (m+mt) u)∧(¬ Span nb m B u→da+dt≤wtF (m+mt) u):=by
 obtain⟨x,hx,h1,h2⟩:=ext_word hA hu;have hux:Span nb m B u↔Span nb m B x:=⟨fun h=>h.congr fun j hj=>(h1 j hj).symm,fun h=>h.congr fun j hj=>h1 j hj⟩;have hi:=ext_in hA hB hin hU hx;have hz:(∀ j,j<mt→cmb (selP q nb p na).length (tlG q nb p na B x) U j=0)↔wtF mt (fun j=>u (m+j))=0:=by
  constructor
  ·intro h;exact wtF_zero fun j hj=>by rw[h2 j hj]; exact h j hj
  ·intro h j hj;refine Classical.byContradiction fun hn=>?_
   have:1≤wtF mt (fun j=>u (m+j)):=wtF_pos ⟨j,hj,by show u (m+j)≠0; rw[h2 j hj]; exact hn⟩;omega
 have hp:=wtF_parts m mt u;have hwu:wtF m u=wtF m x:=wtF_congr fun j hj=>h1 j hj
 refine⟨by rw[hux,hi,hz],fun h=>?_,fun h=>?_⟩
 ·by_cases hn:NZ m x
  ·by_cases hd:1≤db
   ·have:=hLb hd x (hux.1 h) hn;right;omega
   ·right; omega
  ·left;rw[hwu,wtF_zero (not_NZ hn)]
 ·have hn:NZ m x:=Classical.byContradiction fun hn=>h (hux.2 ((Span.zero nb m B).congr fun j hj=>not_NZ hn j hj))
  have h3:=hLa x hx hn;have h4:NZ mt (fun j=>u (m+j)):=Classical.byContradiction fun h5=>h (by rw[hux,hi,hz]; exact wtF_zero (not_NZ h5))
  have h6:dt≤wtF mt (fun j=>u (m+j)):=hLt _ ⟨tlG q nb p na B x,fun j hj=>h2 j hj⟩ h4;omega
end
end
end Go.Proofs.YtogfekjbpcfgmaaGreat

/- Square systems of equations: plain law of the elimination. Bases over a subfield: the plain law. Over each subfield there is a normal basis: found in one field of each order, and carried over. -/
import Derived.Test.YtjdoneanohhkmaaGreatZtV10RP1
import Derived.Test.YtjdoneanohhkmaaGreatZtV10RGaoL
import Derived.Test.YtjdoneanohhkmaaGreatZtV10RNewL
set_option linter.unusedVariables false
set_option linter.unusedSimpArgs false
namespace Cw
section
variable {F:Type} [CField F]
open CField (inv)

def SolA (n:Nat)(M:Nat→Nat→F)(x:Nat→F):Prop:=∀ i,i<n→rsum n (fun j=>M i j*x j)=M i n
def KerA (n:Nat)(M:Nat→Nat→F)(x:Nat→F):Prop:=∀ i,i<n→rsum n (fun j=>M i j*x j)=0
def EqvA (n:Nat)(M M':Nat→Nat→F):Prop:=(∀ x,SolA n M x↔SolA n M' x)∧∀ x,KerA n M x↔KerA n M' x
theorem EqvA.refl (n:Nat)(M:Nat→Nat→F):EqvA n M M:=⟨fun _=>Iff.rfl,fun _=>Iff.rfl⟩
theorem EqvA.trans {n:Nat} {M M' M'':Nat→Nat→F} (h:EqvA n M M')(h':EqvA n M' M''):EqvA n M M'':=⟨fun x=>(h.1 x).trans (h'.1 x),fun x=>(h.2 x).trans (h'.2 x)⟩
def swA (c p:Nat)(M:Nat→Nat→F):Nat→Nat→F:=fun i=>if i=c then M p else if i=p then M c else M i
theorem swA_eqv {n c p:Nat} (hc:c<n)(hp:p<n)(M:Nat→Nat→F):EqvA n M (swA c p M):=by
 have all:∀ P:(Nat→F)→Prop,(∀ i,i<n→P (M i))↔∀ i,i<n→P (swA c p M i):=fun P=>by
  constructor
  ·intro h i hi;unfold swA
   split
   ·exact h p hp
   ·split
    ·exact h c hc
    ·exact h i hi
  ·intro h i hi;by_cases e1:i=p
   ·have h1:=h c hc;unfold swA at h1;rw[if_pos rfl]at h1;rw[e1]; exact h1
   ·by_cases e2:i=c
    ·have h1:=h p hp;unfold swA at h1;by_cases e3:p=c
     ·exact absurd (e2.trans e3.symm) e1
     ·rw[if_neg e3,if_pos rfl]at h1;rw[e2]; exact h1
    ·have h1:=h i hi;unfold swA at h1;rw[if_neg e2,if_neg e1]at h1;exact h1
 exact⟨fun x=>all fun r=>rsum n (fun j=>r j*x j)=r n,fun x=>all fun r=>rsum n (fun j=>r j*x j)=0⟩
def scA (c:Nat)(a:F)(M:Nat→Nat→F):Nat→Nat→F:=fun i j=>if i=c then a*M c j else M i j
theorem scA_eqv {n c:Nat} {a:F} (ha:a≠0)(M:Nat→Nat→F):EqvA n M (scA c a M):=by
 have row:∀ x:Nat→F,rsum n (fun j=>scA c a M c j*x j)=a*rsum n (fun j=>M c j*x j):=fun x=>by
  rw[←rsum_mul_left];exact rsum_congr fun j _=>by unfold scA; rw[if_pos rfl,mul_a]
 have oth:∀ i,i≠c→scA c a M i=M i:=fun i h=>funext fun j=>if_neg h
 have last:scA c a M c n=a*M c n:=if_pos rfl;refine⟨fun x=>⟨fun h i hi=>?_,fun h i hi=>?_⟩,fun x=>⟨fun h i hi=>?_,fun h i hi=>?_⟩⟩
 ·by_cases e:i=c
  ·rw[e,row,last,←e,h i hi]
  ·rw[oth i e]; exact h i hi
 ·by_cases e:i=c
  ·have h1:=h i hi;rw[e,row,last]at h1;rw[e]; exact mul_left_cancel ha h1
  ·have h1:=h i hi;rw[oth i e]at h1; exact h1
 ·by_cases e:i=c
  ·rw[e,row,←e,h i hi,mul_zero]
  ·rw[oth i e]; exact h i hi
 ·by_cases e:i=c
  ·have h1:=h i hi;rw[e,row]at h1;rw[e];exact (mul_eq_zero h1).resolve_left ha
  ·have h1:=h i hi;rw[oth i e]at h1; exact h1
def elA (i c:Nat)(a:F)(M:Nat→Nat→F):Nat→Nat→F:=fun k j=>if k=i then M i j - a*M c j else M k j
theorem elA_eqv {n i c:Nat} (hc:c<n)(hic:i≠c)(a:F)(M:Nat→Nat→F):EqvA n M (elA i c a M):=by
 have row:∀ x:Nat→F,rsum n (fun j=>elA i c a M i j*x j)=rsum n (fun j=>M i j*x j) - a*rsum n (fun j=>M c j*x j):=fun x=>by
  rw[←rsum_mul_left,←rsum_sub];exact rsum_congr fun j _=>by unfold elA; rw[if_pos rfl,sub_mul,mul_a]
 have oth:∀ k,k≠i→elA i c a M k=M k:=fun k h=>funext fun j=>if_neg h
 have last:elA i c a M i n=M i n - a*M c n:=if_pos rfl;have e0:=oth c (fun e=>hic e.symm);refine⟨fun x=>⟨fun h k hk=>?_,fun h k hk=>?_⟩,fun x=>⟨fun h k hk=>?_,fun h k hk=>?_⟩⟩
 ·by_cases e:k=i
  ·rw[e,row,last,h c hc,←e,h k hk]
  ·rw[oth k e]; exact h k hk
 ·by_cases e:k=i
  ·have h1:=h k hk;have h2:=h c hc;rw[e0]at h2;rw[e,row,last,h2]at h1;rw[e];exact (sub_eq_iff.1 h1).trans (sub_add_cancel _ _)
  ·have h1:=h k hk;rw[oth k e]at h1; exact h1
 ·by_cases e:k=i
  ·rw[e,row,h c hc,←e,h k hk,mul_zero,sub_self]
  ·rw[oth k e]; exact h k hk
 ·by_cases e:k=i
  ·have h1:=h k hk;have h2:=h c hc;rw[e0]at h2;rw[e,row,h2,mul_zero,sub_zero]at h1;rw[e]; exact h1
  ·have h1:=h k hk;rw[oth k e]at h1; exact h1
def UnA (n c:Nat)(M:Nat→Nat→F):Prop:=∀ j,j<c→∀ i,i<n→M i j=if i=j then 1 else 0
theorem UnA.sw {n c p:Nat} {M:Nat→Nat→F} (h:UnA n c M)(hc:c<n)(hp:c≤p)(hpn:p<n):UnA n c (swA c p M):=fun j hj i hi=>by
 unfold swA
 split
 ·rename_i e
  rw[h j hj p hpn,if_neg (by omega),if_neg (by omega)]
 ·split
  ·rw[h j hj c hc,if_neg (by omega),if_neg (by omega)]
  ·exact h j hj i hi
theorem UnA.sc {n c:Nat} {a:F} {M:Nat→Nat→F} (h:UnA n c M)(hc:c<n):UnA n c (scA c a M):=fun j hj i hi=>by
 unfold scA
 split
 ·rw[h j hj c hc,if_neg (by omega),mul_zero,if_neg (by omega)]
 ·exact h j hj i hi
theorem UnA.el {n c i:Nat} {a:F} {M:Nat→Nat→F} (h:UnA n c M)(hc:c<n):UnA n c (elA i c a M):=fun j hj k hk=>by
 unfold elA
 split
 ·rename_i e
  rw[h j hj c hc,if_neg (by omega:¬ c=j),mul_zero,sub_zero,←e];exact h j hj k hk
 ·exact h j hj k hk
def CoA (c i:Nat)(M:Nat→Nat→F):Prop:=M c c=1∧∀ k,k<i→k≠c→M k c=0
theorem CoA.zero {c:Nat} {M:Nat→Nat→F} (h:M c c=1):CoA c 0 M:=⟨h,fun _ hk=>absurd hk (Nat.not_lt_zero _)⟩
theorem CoA.skip {c i:Nat} {M:Nat→Nat→F} (h:CoA c i M)(hi:i=c∨M i c=0):CoA c (i+1) M:=⟨h.1,fun k hk hn=>by
 by_cases e:k=i
 ·rcases hi with e2 | e2
  ·exact absurd (e.trans e2) hn
  ·rw[e]; exact e2
 ·exact h.2 k (by omega) hn⟩
theorem CoA.el {c i:Nat} {M:Nat→Nat→F} (h:CoA c i M)(hi:i≠c):CoA c (i+1) (elA i c (M i c) M):=⟨by
 unfold elA; rw[if_neg (fun e=>hi e.symm)]; exact h.1,fun k hk hn=>by
 unfold elA
 split
 ·rw[h.1,mul_one,sub_self]
 ·rename_i e
  exact h.2 k (by omega) hn⟩
theorem UnA.next {n c:Nat} {M:Nat→Nat→F} (h:UnA n c M)(hc:CoA c n M):UnA n (c+1) M:=fun j hj i hi=>by
 by_cases e:j=c
 ·rw[e];by_cases e2:i=c
  ·rw[e2,if_pos rfl]; exact hc.1
  ·rw[if_neg e2]; exact hc.2 i hi e2
 ·exact h j (by omega) i hi
theorem scA_piv {c:Nat} {M:Nat→Nat→F} (h:M c c≠0):scA c (inv (M c c)) M c c=1:=by
 unfold scA; rw[if_pos rfl,inv_mul h]
theorem no_piv {n c:Nat} {M:Nat→Nat→F} (h:UnA n c M)(hc:c<n)(hz:∀ i,c≤i→i<n→M i c=0):∃ x,(∃ j,j<n∧x j≠0)∧KerA n M x:=by
 refine⟨fun j=>if j<c then M j c else if j=c then -1 else 0,⟨c,hc,?_⟩,fun i hi=>?_⟩
 ·show (if c<c then M c c else if c=c then -1 else 0)≠0
  rw[if_neg (Nat.lt_irrefl _),if_pos rfl];exact fun e=>one_ne (F:=F) (by rw[←neg_neg (1:F),e,neg_zero])
 ·obtain⟨d,hd⟩:∃ d,n=c+1+d:=⟨n - c - 1,by omega⟩;have hlow:rsum c (fun j=>M i j*(if j<c then M j c else if j=c then -1 else 0))=if i<c then M i c else 0:=by
   rw[rsum_congr (g:=fun j=>(if i=j then 1 else 0)*M j c) fun j hj=>by rw[if_pos hj,h j hj i hi]];by_cases e:i<c
   ·rw[if_pos e,rsum_single e fun j _ hn=>by rw[if_neg (fun e=>hn e.symm),zero_mul],if_pos rfl,one_mul]
   ·rw[if_neg e];exact rsum_eq_zero fun j hj=>by rw[if_neg (by omega),zero_mul]
  show rsum n (fun j=>M i j*(if j<c then M j c else if j=c then -1 else 0))=0
  rw[hd,rsum_split,rsum_succ,hlow,rsum_eq_zero (n:=d) fun j _=>by rw[if_neg (by omega),if_neg (by omega),mul_zero],add_zero,
   if_neg (Nat.lt_irrefl _),if_pos rfl,mul_neg,mul_one]
  by_cases e:i<c
  ·rw[if_pos e,add_neg]
  ·rw[if_neg e,hz i (by omega) hi,neg_zero,add_zero]
theorem UnA.sum {n:Nat} {M:Nat→Nat→F} (h:UnA n n M){i:Nat} (hi:i<n)(x:Nat→F):rsum n (fun j=>M i j*x j)=x i:=by
 rw[rsum_single (k:=i) hi fun j hj hn=>by rw[h j hj i hi,if_neg (fun e=>hn e.symm),zero_mul],h i hi i hi,if_pos rfl,one_mul]
theorem UnA.sol {n:Nat} {M:Nat→Nat→F} (h:UnA n n M)(x:Nat→F):SolA n M x↔∀ i,i<n→x i=M i n :=
 ⟨fun hs i hi=>by rw[←h.sum hi x]; exact hs i hi,fun hs i hi=>by rw[h.sum hi x]; exact hs i hi⟩
theorem UnA.ker {n:Nat} {M:Nat→Nat→F} (h:UnA n n M){x:Nat→F} (hk:KerA n M x):∀ i,i<n→x i=0:=fun i hi=>by rw[←h.sum hi x]; exact hk i hi
end
end Cw

namespace Cw
section
variable {F:Type} [FF F]
open CField (inv)
open FF (p q M el code gen M_pos)

def IndS (d n:Nat)(l:Nat→F):Prop:=∀ c:Nat→F,(∀ j,j<n→InSub d (c j))→rsum n (fun j=>c j*l j)=0→∀ j,j<n→c j=0
def conA (d n:Nat)(l b:Nat→F):Nat→Nat→F:=fun i j=>if j<n then frob (d*i) (l j) else b i
theorem conA_row (d n:Nat)(l b x:Nat→F)(i:Nat):rsum n (fun j=>conA d n l b i j*x j)=rsum n (fun j=>frob (d*i) (l j)*x j) :=
 rsum_congr fun j hj=>by unfold conA; rw[if_pos hj]
theorem conA_last (d n:Nat)(l b:Nat→F)(i:Nat):conA d n l b i n=b i:=if_neg (Nat.lt_irrefl n)
theorem conA_sol {d n:Nat} {l b x:Nat→F}:SolA n (conA d n l b) x↔∀ i,i<n→rsum n (fun j=>frob (d*i) (l j)*x j)=b i:=by
 unfold SolA;exact⟨fun h i hi=>by have:=h i hi; rwa [conA_row,conA_last]at this,fun h i hi=>by rw[conA_row,conA_last]; exact h i hi⟩
theorem conA_ker {d n:Nat} {l b x:Nat→F}:KerA n (conA d n l b) x↔∀ i,i<n→rsum n (fun j=>frob (d*i) (l j)*x j)=0:=by
 unfold KerA;exact⟨fun h i hi=>by have:=h i hi; rwa [conA_row]at this,fun h i hi=>by rw[conA_row]; exact h i hi⟩
theorem frob_cyc {d n:Nat} (hn:d*n=M F){i k:Nat} (y:F)(h:i % n=k % n):frob (d*i) y=frob (d*k) y:=by
 have e:∀ i,frob (d*i) y=frob (d*(i % n)) y:=fun i=>by
  conv=>lhs; rw[←Nat.div_add_mod i n]
  rw[Nat.mul_add,Nat.add_comm,←frob_frob,←Nat.mul_assoc,hn,frob_Mmul]
 rw[e i,h,←e k]
theorem frob_pre {d n:Nat} (hn:d*n=M F){i:Nat} (hi:i<n):∃ k,k<n∧∀ y:F,frob d (frob (d*k) y)=frob (d*i) y:=by
 refine⟨(i+(n - 1)) % n,Nat.mod_lt _ (by omega),fun y=>?_⟩;have h1:frob d (frob (d*((i+(n - 1)) % n)) y)=frob (d*((i+(n - 1)) % n+1)) y:=by rw[frob_frob,Nat.mul_succ,Nat.add_comm]
 rw[h1];refine frob_cyc hn y ?_;rw[Nat.mod_add_mod,show i+(n - 1)+1=i+n by omega,Nat.add_mod_right]
theorem sol_frob {d n:Nat} (hn:d*n=M F){l x:Nat→F} {u:F} (h:∀ i,i<n→rsum n (fun j=>frob (d*i) (l j)*x j)=frob (d*i) u):∀ i,i<n→rsum n (fun j=>frob (d*i) (l j)*frob d (x j))=frob (d*i) u:=fun i hi=>by
 obtain⟨k,hk,e⟩:=frob_pre (F:=F) hn hi;rw[←e u,←h k hk,frob_rsum];exact rsum_congr fun j _=>by rw[frob_mul,e]
theorem ker_frob {d n:Nat} (hn:d*n=M F){l x:Nat→F} (h:∀ i,i<n→rsum n (fun j=>frob (d*i) (l j)*x j)=0)(k:Nat):∀ i,i<n→rsum n (fun j=>frob (d*i) (l j)*frob (d*k) (x j))=0:=by
 induction k with
 | zero=>intro i hi; rw[←h i hi]; exact rsum_congr fun j _=>by rw[Nat.mul_zero,frob_zero_k]
 | succ k ih =>
  intro i hi;have h1:=sol_frob hn (l:=l) (x:=fun j=>frob (d*k) (x j)) (u:=0) (fun i hi=>by rw[frob_zero]; exact ih i hi) i hi;rw[frob_zero]at h1;rw[←h1];exact rsum_congr fun j _=>by rw[frob_frob,Nat.mul_succ,Nat.add_comm]
theorem div_n {d n:Nat} (hn:d*n=M F)(hn1:1≤n):M F / d=n:=by
 have h0:0<d:=Nat.pos_of_ne_zero fun e=>by have:=M_pos (F:=F); rw[←hn,e,Nat.zero_mul]at this; omega
 rw[←hn,Nat.mul_div_cancel_left _ h0]
theorem tr_n {d n:Nat} (hn:d*n=M F)(hn1:1≤n)(x:F):tr d x=rsum n (fun i=>frob (d*i) x):=by unfold tr; rw[div_n hn hn1]
theorem ind_of_ker {d n:Nat} {l b:Nat→F} (h:∀ x,KerA n (conA d n l b) x→∀ j,j<n→x j=0):IndS d n l:=fun c hc hz=>by
 refine h c (conA_ker.2 fun i _=>?_);have h1:=congrArg (frob (d*i)) hz;rw[frob_rsum,frob_zero]at h1;rw[←h1];exact rsum_congr fun j hj=>by rw[frob_mul,frob_fix_mul (hc j hj),mul_c]
theorem ker_of_ind {d n:Nat} (hn:d*n=M F)(hd1:1≤d)(hn1:1≤n){l b:Nat→F} (h:IndS d n l){x:Nat→F} (hk:KerA n (conA d n l b) x):∀ j,j<n→x j=0:=fun j0 hj0=>by
 refine Classical.byContradiction fun hx=>?_
 have hd:d∣M F:=⟨n,hn.symm⟩;obtain⟨y,hy⟩:=tr_onto (F:=F) hd hd1;have hk2:=conA_ker.1 hk;obtain⟨a,ha⟩:∃ a,a=y*inv (x j0):=⟨_,rfl⟩;have hk3:∀ i,i<n→rsum n (fun j=>frob (d*i) (l j)*(a*x j))=0:=fun i hi=>by
  rw[rsum_congr (g:=fun j=>a*(frob (d*i) (l j)*x j)) fun j _=>mul_lc _ _ _,rsum_mul_left,hk2 i hi,mul_zero]
 have h0:=h (fun j=>tr d (a*x j)) (fun j _=>tr_inSub hd _) (by
  rw[rsum_congr (g:=fun j=>rsum n fun k=>frob (d*k) (a*x j)*l j) fun j _=>by rw[tr_n hn hn1,rsum_mul_right],rsum_swap];refine rsum_eq_zero fun k _=>?_
  have h2:=ker_frob hn hk3 k 0 (by omega);rw[←h2];exact rsum_congr fun j _=>by rw[Nat.mul_zero,frob_zero_k,mul_c]) j0 hj0
 rw[ha,mul_a,inv_mul hx,mul_one]at h0;exact hy h0
theorem coor_sub {d n:Nat} (hn:d*n=M F){l c:Nat→F} {x:F} (hu:∀ y,SolA n (conA d n l fun i=>frob (d*i) x) y↔∀ i,i<n→y i=c i):(∀ j,j<n→InSub d (c j))∧(1≤n→rsum n (fun j=>c j*l j)=x):=by
 have h1:=conA_sol.1 ((hu c).2 fun _ _=>rfl);refine⟨fun j hj=>?_,fun h=>?_⟩
 ·exact (hu fun j=>frob d (c j)).1 (conA_sol.2 (sol_frob hn h1)) j hj
 ·have h2:=h1 0 (by omega);rw[Nat.mul_zero,frob_zero_k]at h2;rw[←h2];exact rsum_congr fun j _=>by rw[frob_zero_k,mul_c]
def e0:Nat→F:=fun i=>if i=0 then 1 else 0
theorem tr_lin {d n:Nat} (hn:d*n=M F)(hn1:1≤n){c:F} (hc:InSub d c)(x:F):tr d (c*x)=c*tr d x:=by
 rw[tr_n hn hn1,tr_n hn hn1,←rsum_mul_left];exact rsum_congr fun i _=>by rw[frob_mul,frob_fix_mul hc]
theorem tr_zero_ (d:Nat):tr d (0:F)=0:=by
 unfold tr; exact rsum_eq_zero fun i _=>frob_zero _
theorem tr_sum_ (d n:Nat)(f:Nat→F):tr d (rsum n f)=rsum n fun j=>tr d (f j):=by
 induction n with
 | zero=>exact tr_zero_ d
 | succ n ih=>rw[rsum_succ,tr_add,ih,rsum_succ]
theorem dual_ind {d n:Nat} (hn:d*n=M F)(hn1:1≤n){l m:Nat→F} (h:∀ s t,s<n→t<n→tr d (l t*m s)=if t=s then 1 else 0):IndS d n m:=fun c hc hz i hi=>by
 have h1:tr d (rsum n (fun j=>c j*m j)*l i)=c i:=by
  rw[←rsum_mul_right,tr_sum_,rsum_congr (g:=fun j=>c j*if i=j then 1 else 0) fun j hj=>by rw[mul_a,tr_lin hn hn1 (hc j hj),mul_c (m j),h j i hj hi],
   rsum_single (k:=i) hi fun j _ hne=>by rw[if_neg (fun e=>hne e.symm),mul_zero],if_pos rfl,mul_one]
 rw[←h1,hz,zero_mul,tr_zero_]
end
end Cw

namespace Go.Proofs.YtjdoneanohhkmaaGreat
open Go.RowKit Cw

theorem prime_dec {p:Nat} (h:2≤p)(h2:∀ d:Fin (p+1),d.val∣p→d.val=1∨d.val=p):Prime p:=⟨h,fun d hd=>h2 ⟨d,by have:=Nat.le_of_dvd (by omega) hd; omega⟩ hd⟩
theorem mod_dec {l:List Nat} {p:Nat} (h0:0<p)(h:∀ x∈l,x<p)(j:Nat):l.getD j 0<p:=by
 rw[List.getD_eq_getElem?_getD];by_cases hj:j<l.length
 ·rw[List.getElem?_eq_getElem hj]; exact h _ (List.getElem_mem _)
 ·rw[List.getElem?_eq_none (by omega)]; exact h0
theorem irr_dec {p m:Nat} {mod:Nat→Nat} (h:∀ d:Fin 5,1≤d.val→2*d.val≤m→∀ v:Fin (p ^ d.val),dvB p d.val m (dg p v.val) mod=false)(hm:m≤8):irrB p m mod=true :=
 irrB_true fun d h1 h2 v hv=>h ⟨d,by omega⟩ h1 h2 ⟨v,hv⟩
def mN (D:Desc)(a b:Nat):Nat:=rcode (rel D a*rel D b)
def aN (D:Desc)(a b:Nat):Nat:=rcode (rel D a+rel D b)
def pN (D:Desc)(a:Nat):Nat→Nat
 | 0=>1
 | k+1=>mN D (pN D a k) a
def fN (D:Desc)(a:Nat):Nat→Nat
 | 0=>a
 | k+1=>pN D (fN D a k) D.p
def tN (D:Desc)(d a:Nat):Nat→Nat
 | 0=>0
 | k+1=>aN D (tN D d a k) (fN D a (d*k))
theorem rel_mN (D:Desc)(a b:Nat):rel D (mN D a b)=rel D a*rel D b:=rel_rcode _
theorem rel_aN (D:Desc)(a b:Nat):rel D (aN D a b)=rel D a+rel D b:=rel_rcode _
theorem rel_pN (S:FD)(a:Nat):∀ k,rel S.toDesc (pN S.toDesc a k)=pw (rel S.toDesc a) k
 | 0=>by rw[pw_zero]; show rel S.toDesc 1=1; rw[←rcode_one (D:=S.toDesc),rel_rcode]
 | k+1=>by show rel S.toDesc (mN S.toDesc (pN S.toDesc a k) a)=_; rw[rel_mN,rel_pN S a k,pw_succ]
theorem rel_fN (S:FD)(a:Nat):∀ k,rel S.toDesc (fN S.toDesc a k)=frob k (rel S.toDesc a)
 | 0=>(frob_zero_k _).symm
 | k+1=>by show rel S.toDesc (pN S.toDesc (fN S.toDesc a k) S.p)=_; rw[rel_pN,rel_fN S a k,frob_succ]; rfl
theorem rel_tN (S:FD)(d a:Nat):∀ k,rel S.toDesc (tN S.toDesc d a k)=rsum k fun i=>frob (d*i) (rel S.toDesc a)
 | 0=>rel_zero
 | k+1=>by show rel S.toDesc (aN S.toDesc (tN S.toDesc d a k) (fN S.toDesc a (d*k)))=_; rw[rel_aN,rel_tN S d a k,rel_fN,rsum_succ]
def DuP (F:FD)(d n:Nat)(u w:R F.toDesc):Prop:=∀ j,j<n→tr d (w*frob (d*j) u)=if j=0 then 1 else 0
theorem DuP.of_dec (S:FD){d n u w:Nat} (hn:d*n=S.m)(hn1:1≤n)(h:∀ j:Fin n,tN S.toDesc d (mN S.toDesc w (fN S.toDesc u (d*j.val))) n=if j.val=0 then 1 else 0):DuP S d n (rel S.toDesc u) (rel S.toDesc w):=fun j hj=>by
 have h1:=h ⟨j,hj⟩;have h2:=congrArg (rel S.toDesc) h1;rw[rel_tN,rel_mN,rel_fN]at h2;rw[tr_n (F:=R S.toDesc) hn hn1];rw[h2];dsimp only;by_cases e:j=0
 ·rw[if_pos e,if_pos e,←rcode_one (D:=S.toDesc),rel_rcode]
 ·rw[if_neg e,if_neg e,rel_zero]
theorem phi_frob {S F:FD} (hp:S.p=F.p){r:R F.toDesc} (h0:muV S F r=0)(k:Nat)(x:R S.toDesc):phi S F r (frob k x)=frob k (phi S F r x):=by
 have hc:nsm S.p (1:R F.toDesc)=0:=by rw[hp]; exact char_R
 unfold frob;rw[phi_pw hc h0]
 show pw (phi S F r x) (S.p ^ k)=pw (phi S F r x) (F.p ^ k)
 rw[hp]
theorem phi_rsum {S F:FD} (hp:S.p=F.p)(r:R F.toDesc)(n:Nat)(f:Nat→R S.toDesc):phi S F r (rsum n f)=rsum n fun i=>phi S F r (f i):=by
 have hc:nsm S.p (1:R F.toDesc)=0:=by rw[hp]; exact char_R
 induction n with
 | zero=>exact phi_zero r
 | succ n ih=>rw[rsum_succ,phi_add hc,ih,rsum_succ]
theorem DuP.carry {S F:FD} (hp:S.p=F.p)(hm:S.m=F.m){d n:Nat} (hn:d*n=F.m)(hn1:1≤n){u w:R S.toDesc} (h:DuP S d n u w):∃ u' w':R F.toDesc,DuP F d n u' w':=by
 have hc:nsm S.p (1:R F.toDesc)=0:=by rw[hp]; exact char_R
 obtain⟨r,h0⟩:=root_ex hp hc (by rw[hm]; exact Nat.dvd_refl _);refine⟨phi S F r u,phi S F r w,fun j hj=>?_⟩;rw[←phi_frob hp h0,←phi_mul hc h0,tr_n (F:=R F.toDesc) hn hn1,rsum_congr (g:=fun i=>phi S F r (frob (d*i) (w*frob (d*j) u))) fun i _=>(phi_frob hp h0 _ _).symm,←phi_rsum hp,
  ←tr_n (F:=R S.toDesc) (by rw[hn]; exact hm.symm) hn1,h j hj]
 by_cases e:j=0
 ·rw[if_pos e,if_pos e,phi_one]
 ·rw[if_neg e,if_neg e,phi_zero]
theorem DuP.ind {F:FD} {d n:Nat} (hn:d*n=F.m)(hn1:1≤n){u w:R F.toDesc} (h:DuP F d n u w):IndS d n fun i=>frob (d*i) u:=by
 have hn':d*n=FF.M (R F.toDesc):=hn;have hd:d∣FF.M (R F.toDesc):=⟨n,hn'.symm⟩;refine dual_ind hn' hn1 (l:=fun i=>frob (d*i) w) fun s t hs ht=>?_
 obtain⟨j,hj⟩:∃ j,j=(s+(n - t)) % n:=⟨_,rfl⟩;have hjn:j<n:=by rw[hj]; exact Nat.mod_lt _ (by omega)
 have e:frob (d*s) u=frob (d*t) (frob (d*j) u):=by
  rw[frob_frob,←Nat.mul_add];refine frob_cyc hn' u ?_;rw[hj,Nat.add_mod_mod,show t+(s+(n - t))=s+n by omega,Nat.add_mod_right]
 show tr d (frob (d*t) w*frob (d*s) u)=if t=s then 1 else 0
 rw[e,←frob_mul,tr_frob_in,h j hjn];have hjs:j=0↔t=s:=by
  rw[hj];constructor
  ·intro h0;by_cases hst:s<t
   ·rw[Nat.mod_eq_of_lt (by omega)]at h0; omega
   ·rw[show s+(n - t)=(s - t)+n by omega,Nat.add_mod_right,Nat.mod_eq_of_lt (by omega)]at h0; omega
  ·intro h0;rw[show s+(n - t)=n by omega,Nat.mod_self]
 by_cases e2:t=s
 ·rw[if_pos e2,if_pos (hjs.2 e2),frob_one]
 ·rw[if_neg e2,if_neg (fun h=>e2 (hjs.1 h)),frob_zero]
theorem fd_of (D:Desc)(h:irrB D.p D.m (fun i=>D.mod.getD i 0)=true):∃ S:FD,S.toDesc=D:=by
 obtain⟨u,hu⟩:=gen_of_good (D:=D) ⟨D,rfl,rfl,rfl,.inr h⟩;exact⟨mkFD D u hu,rfl⟩
theorem du_of (D:Desc)(h:irrB D.p D.m (fun i=>D.mod.getD i 0)=true)(F:FD)(hp:D.p=F.p)(hm:D.m=F.m){d n u w:Nat} (hn:d*n=D.m)(hn1:1≤n)(hdec:∀ j:Fin n,tN D d (mN D w (fN D u (d*j.val))) n=if j.val=0 then 1 else 0):∃ u' w':R F.toDesc,DuP F d n u' w':=by
 obtain⟨S,rfl⟩:=fd_of D h;exact DuP.carry hp hm (by rw[hn,hm]) hn1 (DuP.of_dec S hn hn1 hdec)
def E2_2:Desc where
 p:=2
 m:=2
 mod:=[1,1]
 hp:=prime_dec (by decide) (by decide)
 m1:=by decide
 m8:=by decide
 hq:=by decide
 hlen:=by decide
 hmod:=mod_dec (by decide) (by decide)
theorem E2_2_irr:irrB E2_2.p E2_2.m (fun i=>E2_2.mod.getD i 0)=true:=irr_dec (by decide +kernel) (by decide)
theorem E2_2_1 (F:FD)(hp:2=F.p)(hm:2=F.m):∃ u w:R F.toDesc,DuP F 1 2 u w:=du_of E2_2 E2_2_irr F hp hm (u:=2) (w:=2) (by decide) (by decide) (by decide +kernel)
def E2_3:Desc where
 p:=2
 m:=3
 mod:=[1,1,0]
 hp:=prime_dec (by decide) (by decide)
 m1:=by decide
 m8:=by decide
 hq:=by decide
 hlen:=by decide
 hmod:=mod_dec (by decide) (by decide)
theorem E2_3_irr:irrB E2_3.p E2_3.m (fun i=>E2_3.mod.getD i 0)=true:=irr_dec (by decide +kernel) (by decide)
theorem E2_3_1 (F:FD)(hp:2=F.p)(hm:3=F.m):∃ u w:R F.toDesc,DuP F 1 3 u w:=du_of E2_3 E2_3_irr F hp hm (u:=3) (w:=3) (by decide) (by decide) (by decide +kernel)
def E2_4:Desc where
 p:=2
 m:=4
 mod:=[1,1,0,0]
 hp:=prime_dec (by decide) (by decide)
 m1:=by decide
 m8:=by decide
 hq:=by decide
 hlen:=by decide
 hmod:=mod_dec (by decide) (by decide)
theorem E2_4_irr:irrB E2_4.p E2_4.m (fun i=>E2_4.mod.getD i 0)=true:=irr_dec (by decide +kernel) (by decide)
theorem E2_4_1 (F:FD)(hp:2=F.p)(hm:4=F.m):∃ u w:R F.toDesc,DuP F 1 4 u w:=du_of E2_4 E2_4_irr F hp hm (u:=8) (w:=14) (by decide) (by decide) (by decide +kernel)
theorem E2_4_2 (F:FD)(hp:2=F.p)(hm:4=F.m):∃ u w:R F.toDesc,DuP F 2 2 u w:=du_of E2_4 E2_4_irr F hp hm (u:=2) (w:=2) (by decide) (by decide) (by decide +kernel)
def E2_5:Desc where
 p:=2
 m:=5
 mod:=[1,0,1,0,0]
 hp:=prime_dec (by decide) (by decide)
 m1:=by decide
 m8:=by decide
 hq:=by decide
 hlen:=by decide
 hmod:=mod_dec (by decide) (by decide)
theorem E2_5_irr:irrB E2_5.p E2_5.m (fun i=>E2_5.mod.getD i 0)=true:=irr_dec (by decide +kernel) (by decide)
theorem E2_5_1 (F:FD)(hp:2=F.p)(hm:5=F.m):∃ u w:R F.toDesc,DuP F 1 5 u w:=du_of E2_5 E2_5_irr F hp hm (u:=3) (w:=3) (by decide) (by decide) (by decide +kernel)
def E2_6:Desc where
 p:=2
 m:=6
 mod:=[1,1,0,0,0,0]
 hp:=prime_dec (by decide) (by decide)
 m1:=by decide
 m8:=by decide
 hq:=by decide
 hlen:=by decide
 hmod:=mod_dec (by decide) (by decide)
theorem E2_6_irr:irrB E2_6.p E2_6.m (fun i=>E2_6.mod.getD i 0)=true:=irr_dec (by decide +kernel) (by decide)
theorem E2_6_1 (F:FD)(hp:2=F.p)(hm:6=F.m):∃ u w:R F.toDesc,DuP F 1 6 u w:=du_of E2_6 E2_6_irr F hp hm (u:=32) (w:=46) (by decide) (by decide) (by decide +kernel)
theorem E2_6_2 (F:FD)(hp:2=F.p)(hm:6=F.m):∃ u w:R F.toDesc,DuP F 2 3 u w:=du_of E2_6 E2_6_irr F hp hm (u:=2) (w:=12) (by decide) (by decide) (by decide +kernel)
theorem E2_6_3 (F:FD)(hp:2=F.p)(hm:6=F.m):∃ u w:R F.toDesc,DuP F 3 2 u w:=du_of E2_6 E2_6_irr F hp hm (u:=2) (w:=48) (by decide) (by decide) (by decide +kernel)
def E2_7:Desc where
 p:=2
 m:=7
 mod:=[1,1,0,0,0,0,0]
 hp:=prime_dec (by decide) (by decide)
 m1:=by decide
 m8:=by decide
 hq:=by decide
 hlen:=by decide
 hmod:=mod_dec (by decide) (by decide)
theorem E2_7_irr:irrB E2_7.p E2_7.m (fun i=>E2_7.mod.getD i 0)=true:=irr_dec (by decide +kernel) (by decide)
theorem E2_7_1 (F:FD)(hp:2=F.p)(hm:7=F.m):∃ u w:R F.toDesc,DuP F 1 7 u w:=du_of E2_7 E2_7_irr F hp hm (u:=9) (w:=35) (by decide) (by decide) (by decide +kernel)
def E2_8:Desc where
 p:=2
 m:=8
 mod:=[1,1,0,1,1,0,0,0]
 hp:=prime_dec (by decide) (by decide)
 m1:=by decide
 m8:=by decide
 hq:=by decide
 hlen:=by decide
 hmod:=mod_dec (by decide) (by decide)
theorem E2_8_irr:irrB E2_8.p E2_8.m (fun i=>E2_8.mod.getD i 0)=true:=irr_dec (by decide +kernel) (by decide)
theorem E2_8_1 (F:FD)(hp:2=F.p)(hm:8=F.m):∃ u w:R F.toDesc,DuP F 1 8 u w:=du_of E2_8 E2_8_irr F hp hm (u:=32) (w:=52) (by decide) (by decide) (by decide +kernel)
theorem E2_8_2 (F:FD)(hp:2=F.p)(hm:8=F.m):∃ u w:R F.toDesc,DuP F 2 4 u w:=du_of E2_8 E2_8_irr F hp hm (u:=2) (w:=14) (by decide) (by decide) (by decide +kernel)
theorem E2_8_4 (F:FD)(hp:2=F.p)(hm:8=F.m):∃ u w:R F.toDesc,DuP F 4 2 u w:=du_of E2_8 E2_8_irr F hp hm (u:=2) (w:=121) (by decide) (by decide) (by decide +kernel)
def E3_2:Desc where
 p:=3
 m:=2
 mod:=[1,0]
 hp:=prime_dec (by decide) (by decide)
 m1:=by decide
 m8:=by decide
 hq:=by decide
 hlen:=by decide
 hmod:=mod_dec (by decide) (by decide)
theorem E3_2_irr:irrB E3_2.p E3_2.m (fun i=>E3_2.mod.getD i 0)=true:=irr_dec (by decide +kernel) (by decide)
theorem E3_2_1 (F:FD)(hp:3=F.p)(hm:2=F.m):∃ u w:R F.toDesc,DuP F 1 2 u w:=du_of E3_2 E3_2_irr F hp hm (u:=4) (w:=7) (by decide) (by decide) (by decide +kernel)
def E3_3:Desc where
 p:=3
 m:=3
 mod:=[1,2,0]
 hp:=prime_dec (by decide) (by decide)
 m1:=by decide
 m8:=by decide
 hq:=by decide
 hlen:=by decide
 hmod:=mod_dec (by decide) (by decide)
theorem E3_3_irr:irrB E3_3.p E3_3.m (fun i=>E3_3.mod.getD i 0)=true:=irr_dec (by decide +kernel) (by decide)
theorem E3_3_1 (F:FD)(hp:3=F.p)(hm:3=F.m):∃ u w:R F.toDesc,DuP F 1 3 u w:=du_of E3_3 E3_3_irr F hp hm (u:=9) (w:=10) (by decide) (by decide) (by decide +kernel)
def E3_4:Desc where
 p:=3
 m:=4
 mod:=[2,1,0,0]
 hp:=prime_dec (by decide) (by decide)
 m1:=by decide
 m8:=by decide
 hq:=by decide
 hlen:=by decide
 hmod:=mod_dec (by decide) (by decide)
theorem E3_4_irr:irrB E3_4.p E3_4.m (fun i=>E3_4.mod.getD i 0)=true:=irr_dec (by decide +kernel) (by decide)
theorem E3_4_1 (F:FD)(hp:3=F.p)(hm:4=F.m):∃ u w:R F.toDesc,DuP F 1 4 u w:=du_of E3_4 E3_4_irr F hp hm (u:=4) (w:=7) (by decide) (by decide) (by decide +kernel)
theorem E3_4_2 (F:FD)(hp:3=F.p)(hm:4=F.m):∃ u w:R F.toDesc,DuP F 2 2 u w:=du_of E3_4 E3_4_irr F hp hm (u:=3) (w:=63) (by decide) (by decide) (by decide +kernel)
def E3_5:Desc where
 p:=3
 m:=5
 mod:=[1,2,0,0,0]
 hp:=prime_dec (by decide) (by decide)
 m1:=by decide
 m8:=by decide
 hq:=by decide
 hlen:=by decide
 hmod:=mod_dec (by decide) (by decide)
theorem E3_5_irr:irrB E3_5.p E3_5.m (fun i=>E3_5.mod.getD i 0)=true:=irr_dec (by decide +kernel) (by decide)
theorem E3_5_1 (F:FD)(hp:3=F.p)(hm:5=F.m):∃ u w:R F.toDesc,DuP F 1 5 u w:=du_of E3_5 E3_5_irr F hp hm (u:=4) (w:=171) (by decide) (by decide) (by decide +kernel)
def E5_2:Desc where
 p:=5
 m:=2
 mod:=[2,0]
 hp:=prime_dec (by decide) (by decide)
 m1:=by decide
 m8:=by decide
 hq:=by decide
 hlen:=by decide
 hmod:=mod_dec (by decide) (by decide)
theorem E5_2_irr:irrB E5_2.p E5_2.m (fun i=>E5_2.mod.getD i 0)=true:=irr_dec (by decide +kernel) (by decide)
theorem E5_2_1 (F:FD)(hp:5=F.p)(hm:2=F.m):∃ u w:R F.toDesc,DuP F 1 2 u w:=du_of E5_2 E5_2_irr F hp hm (u:=6) (w:=19) (by decide) (by decide) (by decide +kernel)
def E5_3:Desc where
 p:=5
 m:=3
 mod:=[1,1,0]
 hp:=prime_dec (by decide) (by decide)
 m1:=by decide
 m8:=by decide
 hq:=by decide
 hlen:=by decide
 hmod:=mod_dec (by decide) (by decide)
theorem E5_3_irr:irrB E5_3.p E5_3.m (fun i=>E5_3.mod.getD i 0)=true:=irr_dec (by decide +kernel) (by decide)
theorem E5_3_1 (F:FD)(hp:5=F.p)(hm:3=F.m):∃ u w:R F.toDesc,DuP F 1 3 u w:=du_of E5_3 E5_3_irr F hp hm (u:=6) (w:=19) (by decide) (by decide) (by decide +kernel)
def E7_2:Desc where
 p:=7
 m:=2
 mod:=[1,0]
 hp:=prime_dec (by decide) (by decide)
 m1:=by decide
 m8:=by decide
 hq:=by decide
 hlen:=by decide
 hmod:=mod_dec (by decide) (by decide)
theorem E7_2_irr:irrB E7_2.p E7_2.m (fun i=>E7_2.mod.getD i 0)=true:=irr_dec (by decide +kernel) (by decide)
theorem E7_2_1 (F:FD)(hp:7=F.p)(hm:2=F.m):∃ u w:R F.toDesc,DuP F 1 2 u w:=du_of E7_2 E7_2_irr F hp hm (u:=8) (w:=37) (by decide) (by decide) (by decide +kernel)
def E11_2:Desc where
 p:=11
 m:=2
 mod:=[1,0]
 hp:=prime_dec (by decide) (by decide)
 m1:=by decide
 m8:=by decide
 hq:=by decide
 hlen:=by decide
 hmod:=mod_dec (by decide) (by decide)
theorem E11_2_irr:irrB E11_2.p E11_2.m (fun i=>E11_2.mod.getD i 0)=true:=irr_dec (by decide +kernel) (by decide)
theorem E11_2_1 (F:FD)(hp:11=F.p)(hm:2=F.m):∃ u w:R F.toDesc,DuP F 1 2 u w:=du_of E11_2 E11_2_irr F hp hm (u:=12) (w:=91) (by decide) (by decide) (by decide +kernel)
def E13_2:Desc where
 p:=13
 m:=2
 mod:=[2,0]
 hp:=prime_dec (by decide) (by decide)
 m1:=by decide
 m8:=by decide
 hq:=by decide
 hlen:=by decide
 hmod:=mod_dec (by decide) (by decide)
theorem E13_2_irr:irrB E13_2.p E13_2.m (fun i=>E13_2.mod.getD i 0)=true:=irr_dec (by decide +kernel) (by decide)
theorem E13_2_1 (F:FD)(hp:13=F.p)(hm:2=F.m):∃ u w:R F.toDesc,DuP F 1 2 u w:=du_of E13_2 E13_2_irr F hp hm (u:=14) (w:=114) (by decide) (by decide) (by decide +kernel)
theorem div_cases:∀ M d n:Fin 9,2≤M.val→M.val=d.val*n.val→2≤n.val→(M.val=2∧d.val=1∧n.val=2)∨(M.val=3∧d.val=1∧n.val=3)∨(M.val=4∧d.val=1∧n.val=4)∨(M.val=4∧d.val=2∧n.val=2)∨(M.val=5∧d.val=1∧n.val=5)∨(M.val=6∧d.val=1∧n.val=6)∨(M.val=6∧d.val=2∧n.val=3)∨(M.val=6∧d.val=3∧n.val=2)∨(M.val=7∧d.val=1∧n.val=7)∨(M.val=8∧d.val=1∧n.val=8)∨(M.val=8∧d.val=2∧n.val=4)∨(M.val=8∧d.val=4∧n.val=2):=by decide +kernel
set_option maxHeartbeats 4000000 in
theorem normal_ex (F:FD){d:Nat} (hd:d∣F.m)(h1:1≤d):∃ u:R F.toDesc,IndS d (F.m / d) fun i=>frob (d*i) u:=by
 obtain⟨n,hn⟩:=hd;have hm1:=F.m1;have hn1:1≤n:=Nat.pos_of_ne_zero fun e=>by rw[e,Nat.mul_zero]at hn; omega
 have hq:F.p ^ F.m≤256:=F.hq;have hm8:=F.m8;have hp2:=F.p2;have hpr:=F.hp;rw[hn,Nat.mul_div_cancel_left _ h1];by_cases e1:n=1
 ·subst e1;refine⟨1,fun c _ hz j hj=>?_⟩;obtain rfl:j=0:=by omega
  rw[rsum_succ,rsum_zero,zero_add]at hz;have hz2:c 0*frob (d*0) 1=0:=hz
  rwa [frob_one,mul_one]at hz2
 ·have hdu:∃ u w:R F.toDesc,DuP F d n u w:=by
   have hm2:2≤F.m:=by rw[hn]; exact Nat.le_trans (by omega:2≤1*n) (Nat.mul_le_mul_right n h1)
   have hp16:F.p≤16:=by
    have h3:=Nat.pow_le_pow_right (n:=F.p) (by omega) hm2;rw[Nat.pow_two]at h3;refine Nat.le_of_not_lt fun h=>?_
    have h4:17*17≤F.p*F.p:=Nat.mul_le_mul h h;omega
   have hdm:d≤F.m:=by rw[hn]; exact Nat.le_trans (by omega:d≤d*1) (Nat.mul_le_mul_left d hn1)
   have hnm:n≤F.m:=by rw[hn]; exact Nat.le_trans (by omega:n≤1*n) (Nat.mul_le_mul_right n h1)
   obtain⟨P,hP⟩:∃ P,P=F.p:=⟨_,rfl⟩;obtain⟨M,hM⟩:∃ M,M=F.m:=⟨_,rfl⟩;rw[←hP,←hM]at hq;rw[←hP]at hp16 hp2 hpr;rw[←hM]at hm8 hm2 hdm hnm hn;have hPs:P=2∨P=3∨P=5∨P=7∨P=11∨P=13:=by
    have key:∀ k:Fin 17,k.val=P→P=2∨P=3∨P=5∨P=7∨P=11∨P=13:=fun k hk=>by
     have h2:=hpr.2 2;have h3:=hpr.2 3;have hk2:=k.2;rcases (by omega:P=2∨P=3∨P=5∨P=7∨P=11∨P=13∨P=4∨P=6∨P=8∨P=9∨P=10∨P=12∨P=14∨P=15∨P=16) with e | e | e | e | e | e | e | e | e | e | e | e | e | e | e
     all_goals first
      | omega
      | (exfalso; rw[e]at h2; have:=h2 (by decide); omega)
      | (exfalso; rw[e]at h3; have:=h3 (by decide); omega)
    exact key ⟨P,by omega⟩ rfl
   rcases hPs with rfl | rfl | rfl | rfl | rfl | rfl
   ·have hMx:M≤8:=Nat.le_of_not_lt fun h=>by
     have h5:=Nat.pow_le_pow_right (n:=2) (by decide) h;have h6:2 ^ (8+1)≤2 ^ M:=h5;have h7:256<2 ^ (8+1):=by decide
     omega
    have hc:=div_cases ⟨M,by omega⟩ ⟨d,by omega⟩ ⟨n,by omega⟩ hm2 hn (by show 2≤n; omega);dsimp only at hc;rcases hc with ⟨rfl,rfl,rfl⟩ | ⟨rfl,rfl,rfl⟩ | ⟨rfl,rfl,rfl⟩ | ⟨rfl,rfl,rfl⟩ | ⟨rfl,rfl,rfl⟩ | ⟨rfl,rfl,rfl⟩ | ⟨rfl,rfl,rfl⟩ | ⟨rfl,rfl,rfl⟩ | ⟨rfl,rfl,rfl⟩ | ⟨rfl,rfl,rfl⟩ | ⟨rfl,rfl,rfl⟩ | ⟨rfl,rfl,rfl⟩
    ·exact E2_2_1 F hP hM
    ·exact E2_3_1 F hP hM
    ·exact E2_4_1 F hP hM
    ·exact E2_4_2 F hP hM
    ·exact E2_5_1 F hP hM
    ·exact E2_6_1 F hP hM
    ·exact E2_6_2 F hP hM
    ·exact E2_6_3 F hP hM
    ·exact E2_7_1 F hP hM
    ·exact E2_8_1 F hP hM
    ·exact E2_8_2 F hP hM
    ·exact E2_8_4 F hP hM
   ·have hMx:M≤5:=Nat.le_of_not_lt fun h=>by
     have h5:=Nat.pow_le_pow_right (n:=3) (by decide) h;have h6:3 ^ (5+1)≤3 ^ M:=h5;have h7:256<3 ^ (5+1):=by decide
     omega
    have hc:=div_cases ⟨M,by omega⟩ ⟨d,by omega⟩ ⟨n,by omega⟩ hm2 hn (by show 2≤n; omega);dsimp only at hc;rcases hc with ⟨rfl,rfl,rfl⟩ | ⟨rfl,rfl,rfl⟩ | ⟨rfl,rfl,rfl⟩ | ⟨rfl,rfl,rfl⟩ | ⟨rfl,rfl,rfl⟩ | ⟨rfl,rfl,rfl⟩ | ⟨rfl,rfl,rfl⟩ | ⟨rfl,rfl,rfl⟩ | ⟨rfl,rfl,rfl⟩ | ⟨rfl,rfl,rfl⟩ | ⟨rfl,rfl,rfl⟩ | ⟨rfl,rfl,rfl⟩
    ·exact E3_2_1 F hP hM
    ·exact E3_3_1 F hP hM
    ·exact E3_4_1 F hP hM
    ·exact E3_4_2 F hP hM
    ·exact E3_5_1 F hP hM
    ·omega
    ·omega
    ·omega
    ·omega
    ·omega
    ·omega
    ·omega
   ·have hMx:M≤3:=Nat.le_of_not_lt fun h=>by
     have h5:=Nat.pow_le_pow_right (n:=5) (by decide) h;have h6:5 ^ (3+1)≤5 ^ M:=h5;have h7:256<5 ^ (3+1):=by decide
     omega
    have hc:=div_cases ⟨M,by omega⟩ ⟨d,by omega⟩ ⟨n,by omega⟩ hm2 hn (by show 2≤n; omega);dsimp only at hc;rcases hc with ⟨rfl,rfl,rfl⟩ | ⟨rfl,rfl,rfl⟩ | ⟨rfl,rfl,rfl⟩ | ⟨rfl,rfl,rfl⟩ | ⟨rfl,rfl,rfl⟩ | ⟨rfl,rfl,rfl⟩ | ⟨rfl,rfl,rfl⟩ | ⟨rfl,rfl,rfl⟩ | ⟨rfl,rfl,rfl⟩ | ⟨rfl,rfl,rfl⟩ | ⟨rfl,rfl,rfl⟩ | ⟨rfl,rfl,rfl⟩
    ·exact E5_2_1 F hP hM
    ·exact E5_3_1 F hP hM
    ·omega
    ·omega
    ·omega
    ·omega
    ·omega
    ·omega
    ·omega
    ·omega
    ·omega
    ·omega
   ·have hMx:M≤2:=Nat.le_of_not_lt fun h=>by
     have h5:=Nat.pow_le_pow_right (n:=7) (by decide) h;have h6:7 ^ (2+1)≤7 ^ M:=h5;have h7:256<7 ^ (2+1):=by decide
     omega
    have hc:=div_cases ⟨M,by omega⟩ ⟨d,by omega⟩ ⟨n,by omega⟩ hm2 hn (by show 2≤n; omega);dsimp only at hc;rcases hc with ⟨rfl,rfl,rfl⟩ | ⟨rfl,rfl,rfl⟩ | ⟨rfl,rfl,rfl⟩ | ⟨rfl,rfl,rfl⟩ | ⟨rfl,rfl,rfl⟩ | ⟨rfl,rfl,rfl⟩ | ⟨rfl,rfl,rfl⟩ | ⟨rfl,rfl,rfl⟩ | ⟨rfl,rfl,rfl⟩ | ⟨rfl,rfl,rfl⟩ | ⟨rfl,rfl,rfl⟩ | ⟨rfl,rfl,rfl⟩
    ·exact E7_2_1 F hP hM
    ·omega
    ·omega
    ·omega
    ·omega
    ·omega
    ·omega
    ·omega
    ·omega
    ·omega
    ·omega
    ·omega
   ·have hMx:M≤2:=Nat.le_of_not_lt fun h=>by
     have h5:=Nat.pow_le_pow_right (n:=11) (by decide) h;have h6:11 ^ (2+1)≤11 ^ M:=h5;have h7:256<11 ^ (2+1):=by decide
     omega
    have hc:=div_cases ⟨M,by omega⟩ ⟨d,by omega⟩ ⟨n,by omega⟩ hm2 hn (by show 2≤n; omega);dsimp only at hc;rcases hc with ⟨rfl,rfl,rfl⟩ | ⟨rfl,rfl,rfl⟩ | ⟨rfl,rfl,rfl⟩ | ⟨rfl,rfl,rfl⟩ | ⟨rfl,rfl,rfl⟩ | ⟨rfl,rfl,rfl⟩ | ⟨rfl,rfl,rfl⟩ | ⟨rfl,rfl,rfl⟩ | ⟨rfl,rfl,rfl⟩ | ⟨rfl,rfl,rfl⟩ | ⟨rfl,rfl,rfl⟩ | ⟨rfl,rfl,rfl⟩
    ·exact E11_2_1 F hP hM
    ·omega
    ·omega
    ·omega
    ·omega
    ·omega
    ·omega
    ·omega
    ·omega
    ·omega
    ·omega
    ·omega
   ·have hMx:M≤2:=Nat.le_of_not_lt fun h=>by
     have h5:=Nat.pow_le_pow_right (n:=13) (by decide) h;have h6:13 ^ (2+1)≤13 ^ M:=h5;have h7:256<13 ^ (2+1):=by decide
     omega
    have hc:=div_cases ⟨M,by omega⟩ ⟨d,by omega⟩ ⟨n,by omega⟩ hm2 hn (by show 2≤n; omega);dsimp only at hc;rcases hc with ⟨rfl,rfl,rfl⟩ | ⟨rfl,rfl,rfl⟩ | ⟨rfl,rfl,rfl⟩ | ⟨rfl,rfl,rfl⟩ | ⟨rfl,rfl,rfl⟩ | ⟨rfl,rfl,rfl⟩ | ⟨rfl,rfl,rfl⟩ | ⟨rfl,rfl,rfl⟩ | ⟨rfl,rfl,rfl⟩ | ⟨rfl,rfl,rfl⟩ | ⟨rfl,rfl,rfl⟩ | ⟨rfl,rfl,rfl⟩
    ·exact E13_2_1 F hP hM
    ·omega
    ·omega
    ·omega
    ·omega
    ·omega
    ·omega
    ·omega
    ·omega
    ·omega
    ·omega
    ·omega
  obtain⟨u,w,h⟩:=hdu;exact⟨u,h.ind hn.symm hn1⟩
end Go.Proofs.YtjdoneanohhkmaaGreat

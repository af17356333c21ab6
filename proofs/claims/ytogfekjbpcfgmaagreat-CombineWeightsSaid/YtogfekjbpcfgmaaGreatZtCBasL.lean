/- Square systems of equations: plain law of the elimination. Bases over a subfield: the plain law. -/
import Derived.Test.YtogfekjbpcfgmaaGreatZtCP1
set_option linter.unusedVariables false
set_option linter.unusedSimpArgs false
namespace Cw
section
variable {F:Type} [CField F]
open CField (inv)

def SolA (n:Nat)(M:Nat→Nat→F)(x:Nat→F):Prop:=∀ i,i<n→rsum n (fun j=>M i j*x j)=M i n
def KerA (n:Nat)(M:Nat→Nat→F)(x:Nat→F):Prop:=∀ i,i<n→rsum n (fun j=>M i j*x j)=0
def EqvA (n:Nat)(M M':Nat→Nat→F):Prop:=(∀ x,SolA n M x↔SolA n M' x)∧∀ x,KerA n M x↔KerA n M' x
theorem EqvA.refl (n:Nat)(M:Nat→Nat→F):EqvA n M M:=⟨fun _=>Iff.rfl,fun _=>Iff.rfl⟩
theorem EqvA.trans {n:Nat} {M M' M'':Nat→Nat→F} (h:EqvA n M M')(h':EqvA n M' M''):EqvA n M M'':=⟨fun x=>(h.1 x).trans (h'.1 x),fun x=>(h.2 x).trans (h'.2 x)⟩
def swA (c p:Nat)(M:Nat→Nat→F):Nat→Nat→F:=fun i=>if i=c then M p else if i=p then M c else M i
theorem swA_eqv {n c p:Nat} (hc:c<n)(hp:p<n)(M:Nat→Nat→F):EqvA n M (swA c p M):=by
 have all:∀ P:(Nat→F)→Prop,(∀ i,i<n→P (M i))↔∀ i,i<n→P (swA c p M i):=fun P=>by
  constructor
  ·intro h i hi;unfold swA
   split
   ·exact h p hp
   ·split
    ·exact h c hc
    ·exact h i hi
  ·intro h i hi;by_cases e1:i=p
   ·have h1:=h c hc;unfold swA at h1;rw[if_pos rfl]at h1;rw[e1]; exact h1
   ·by_cases e2:i=c
    ·have h1:=h p hp;unfold swA at h1;by_cases e3:p=c
     ·exact absurd (e2.trans e3.symm) e1
     ·rw[if_neg e3,if_pos rfl]at h1;rw[e2]; exact h1
    ·have h1:=h i hi;unfold swA at h1;rw[if_neg e2,if_neg e1]at h1;exact h1
 exact⟨fun x=>all fun r=>rsum n (fun j=>r j*x j)=r n,fun x=>all fun r=>rsum n (fun j=>r j*x j)=0⟩
def scA (c:Nat)(a:F)(M:Nat→Nat→F):Nat→Nat→F:=fun i j=>if i=c then a*M c j else M i j
theorem scA_eqv {n c:Nat} {a:F} (ha:a≠0)(M:Nat→Nat→F):EqvA n M (scA c a M):=by
 have row:∀ x:Nat→F,rsum n (fun j=>scA c a M c j*x j)=a*rsum n (fun j=>M c j*x j):=fun x=>by
  rw[←rsum_mul_left];exact rsum_congr fun j _=>by unfold scA; rw[if_pos rfl,mul_a]
 have oth:∀ i,i≠c→scA c a M i=M i:=fun i h=>funext fun j=>if_neg h
 have last:scA c a M c n=a*M c n:=if_pos rfl;refine⟨fun x=>⟨fun h i hi=>?_,fun h i hi=>?_⟩,fun x=>⟨fun h i hi=>?_,fun h i hi=>?_⟩⟩
 ·by_cases e:i=c
  ·rw[e,row,last,←e,h i hi]
  ·rw[oth i e]; exact h i hi
 ·by_cases e:i=c
  ·have h1:=h i hi;rw[e,row,last]at h1;rw[e]; exact mul_left_cancel ha h1
  ·have h1:=h i hi;rw[oth i e]at h1; exact h1
 ·by_cases e:i=c
  ·rw[e,row,←e,h i hi,mul_zero]
  ·rw[oth i e]; exact h i hi
 ·by_cases e:i=c
  ·have h1:=h i hi;rw[e,row]at h1;rw[e];exact (mul_eq_zero h1).resolve_left ha
  ·have h1:=h i hi;rw[oth i e]at h1; exact h1
def elA (i c:Nat)(a:F)(M:Nat→Nat→F):Nat→Nat→F:=fun k j=>if k=i then M i j - a*M c j else M k j
theorem elA_eqv {n i c:Nat} (hc:c<n)(hic:i≠c)(a:F)(M:Nat→Nat→F):EqvA n M (elA i c a M):=by
 have row:∀ x:Nat→F,rsum n (fun j=>elA i c a M i j*x j)=rsum n (fun j=>M i j*x j) - a*rsum n (fun j=>M c j*x j):=fun x=>by
  rw[←rsum_mul_left,←rsum_sub];exact rsum_congr fun j _=>by unfold elA; rw[if_pos rfl,sub_mul,mul_a]
 have oth:∀ k,k≠i→elA i c a M k=M k:=fun k h=>funext fun j=>if_neg h
 have last:elA i c a M i n=M i n - a*M c n:=if_pos rfl;have e0:=oth c (fun e=>hic e.symm);refine⟨fun x=>⟨fun h k hk=>?_,fun h k hk=>?_⟩,fun x=>⟨fun h k hk=>?_,fun h k hk=>?_⟩⟩
 ·by_cases e:k=i
  ·rw[e,row,last,h c hc,←e,h k hk]
  ·rw[oth k e]; exact h k hk
 ·by_cases e:k=i
  ·have h1:=h k hk;have h2:=h c hc;rw[e0]at h2;rw[e,row,last,h2]at h1;rw[e];exact (sub_eq_iff.1 h1).trans (sub_add_cancel _ _)
  ·have h1:=h k hk;rw[oth k e]at h1; exact h1
 ·by_cases e:k=i
  ·rw[e,row,h c hc,←e,h k hk,mul_zero,sub_self]
  ·rw[oth k e]; exact h k hk
 ·by_cases e:k=i
  ·have h1:=h k hk;have h2:=h c hc;rw[e0]at h2;rw[e,row,h2,mul_zero,sub_zero]at h1;rw[e]; exact h1
  ·have h1:=h k hk;rw[oth k e]at h1; exact h1
def UnA (n c:Nat)(M:Nat→Nat→F):Prop:=∀ j,j<c→∀ i,i<n→M i j=if i=j then 1 else 0
theorem UnA.sw {n c p:Nat} {M:Nat→Nat→F} (h:UnA n c M)(hc:c<n)(hp:c≤p)(hpn:p<n):UnA n c (swA c p M):=fun j hj i hi=>by
 unfold swA
 split
 ·rename_i e
  rw[h j hj p hpn,if_neg (by omega),if_neg (by omega)]
 ·split
  ·rw[h j hj c hc,if_neg (by omega),if_neg (by omega)]
  ·exact h j hj i hi
theorem UnA.sc {n c:Nat} {a:F} {M:Nat→Nat→F} (h:UnA n c M)(hc:c<n):UnA n c (scA c a M):=fun j hj i hi=>by
 unfold scA
 split
 ·rw[h j hj c hc,if_neg (by omega),mul_zero,if_neg (by omega)]
 ·exact h j hj i hi
theorem UnA.el {n c i:Nat} {a:F} {M:Nat→Nat→F} (h:UnA n c M)(hc:c<n):UnA n c (elA i c a M):=fun j hj k hk=>by
 unfold elA
 split
 ·rename_i e
  rw[h j hj c hc,if_neg (by omega:¬ c=j),mul_zero,sub_zero,←e];exact h j hj k hk
 ·exact h j hj k hk
def CoA (c i:Nat)(M:Nat→Nat→F):Prop:=M c c=1∧∀ k,k<i→k≠c→M k c=0
theorem CoA.zero {c:Nat} {M:Nat→Nat→F} (h:M c c=1):CoA c 0 M:=⟨h,fun _ hk=>absurd hk (Nat.not_lt_zero _)⟩
theorem CoA.skip {c i:Nat} {M:Nat→Nat→F} (h:CoA c i M)(hi:i=c∨M i c=0):CoA c (i+1) M:=⟨h.1,fun k hk hn=>by
 by_cases e:k=i
 ·rcases hi with e2 | e2
  ·exact absurd (e.trans e2) hn
  ·rw[e]; exact e2
 ·exact h.2 k (by omega) hn⟩
theorem CoA.el {c i:Nat} {M:Nat→Nat→F} (h:CoA c i M)(hi:i≠c):CoA c (i+1) (elA i c (M i c) M):=⟨by
 unfold elA; rw[if_neg (fun e=>hi e.symm)]; exact h.1,fun k hk hn=>by
 unfold elA
 split
 ·rw[h.1,mul_one,sub_self]
 ·rename_i e
  exact h.2 k (by omega) hn⟩
theorem UnA.next {n c:Nat} {M:Nat→Nat→F} (h:UnA n c M)(hc:CoA c n M):UnA n (c+1) M:=fun j hj i hi=>by
 by_cases e:j=c
 ·rw[e];by_cases e2:i=c
  ·rw[e2,if_pos rfl]; exact hc.1
  ·rw[if_neg e2]; exact hc.2 i hi e2
 ·exact h j (by omega) i hi
theorem scA_piv {c:Nat} {M:Nat→Nat→F} (h:M c c≠0):scA c (inv (M c c)) M c c=1:=by
 unfold scA; rw[if_pos rfl,inv_mul h]
theorem no_piv {n c:Nat} {M:Nat→Nat→F} (h:UnA n c M)(hc:c<n)(hz:∀ i,c≤i→i<n→M i c=0):∃ x,(∃ j,j<n∧x j≠0)∧KerA n M x:=by
 refine⟨fun j=>if j<c then M j c else if j=c then -1 else 0,⟨c,hc,?_⟩,fun i hi=>?_⟩
 ·show (if c<c then M c c else if c=c then -1 else 0)≠0
  rw[if_neg (Nat.lt_irrefl _),if_pos rfl];exact fun e=>one_ne (F:=F) (by rw[←neg_neg (1:F),e,neg_zero])
 ·obtain⟨d,hd⟩:∃ d,n=c+1+d:=⟨n - c - 1,by omega⟩;have hlow:rsum c (fun j=>M i j*(if j<c then M j c else if j=c then -1 else 0))=if i<c then M i c else 0:=by
   rw[rsum_congr (g:=fun j=>(if i=j then 1 else 0)*M j c) fun j hj=>by rw[if_pos hj,h j hj i hi]];by_cases e:i<c
   ·rw[if_pos e,rsum_single e fun j _ hn=>by rw[if_neg (fun e=>hn e.symm),zero_mul],if_pos rfl,one_mul]
   ·rw[if_neg e];exact rsum_eq_zero fun j hj=>by rw[if_neg (by omega),zero_mul]
  show rsum n (fun j=>M i j*(if j<c then M j c else if j=c then -1 else 0))=0
  rw[hd,rsum_split,rsum_succ,hlow,rsum_eq_zero (n:=d) fun j _=>by rw[if_neg (by omega),if_neg (by omega),mul_zero],add_zero,
   if_neg (Nat.lt_irrefl _),if_pos rfl,mul_neg,mul_one]
  by_cases e:i<c
  ·rw[if_pos e,add_neg]
  ·rw[if_neg e,hz i (by omega) hi,neg_zero,add_zero]
theorem UnA.sum {n:Nat} {M:Nat→Nat→F} (h:UnA n n M){i:Nat} (hi:i<n)(x:Nat→F):rsum n (fun j=>M i j*x j)=x i:=by
 rw[rsum_single (k:=i) hi fun j hj hn=>by rw[h j hj i hi,if_neg (fun e=>hn e.symm),zero_mul],h i hi i hi,if_pos rfl,one_mul]
theorem UnA.sol {n:Nat} {M:Nat→Nat→F} (h:UnA n n M)(x:Nat→F):SolA n M x↔∀ i,i<n→x i=M i n :=
 ⟨fun hs i hi=>by rw[←h.sum hi x]; exact hs i hi,fun hs i hi=>by rw[h.sum hi x]; exact hs i hi⟩
theorem UnA.ker {n:Nat} {M:Nat→Nat→F} (h:UnA n n M){x:Nat→F} (hk:KerA n M x):∀ i,i<n→x i=0:=fun i hi=>by rw[←h.sum hi x]; exact hk i hi
end
end Cw

namespace Cw
section
variable {F:Type} [FF F]
open CField (inv)
open FF (p q M el code gen M_pos)

def IndS (d n:Nat)(l:Nat→F):Prop:=∀ c:Nat→F,(∀ j,j<n→InSub d (c j))→rsum n (fun j=>c j*l j)=0→∀ j,j<n→c j=0
def conA (d n:Nat)(l b:Nat→F):Nat→Nat→F:=fun i j=>if j<n then frob (d*i) (l j) else b i
theorem conA_row (d n:Nat)(l b x:Nat→F)(i:Nat):rsum n (fun j=>conA d n l b i j*x j)=rsum n (fun j=>frob (d*i) (l j)*x j) :=
 rsum_congr fun j hj=>by unfold conA; rw[if_pos hj]
theorem conA_last (d n:Nat)(l b:Nat→F)(i:Nat):conA d n l b i n=b i:=if_neg (Nat.lt_irrefl n)
theorem conA_sol {d n:Nat} {l b x:Nat→F}:SolA n (conA d n l b) x↔∀ i,i<n→rsum n (fun j=>frob (d*i) (l j)*x j)=b i:=by
 unfold SolA;exact⟨fun h i hi=>by have:=h i hi; rwa [conA_row,conA_last]at this,fun h i hi=>by rw[conA_row,conA_last]; exact h i hi⟩
theorem conA_ker {d n:Nat} {l b x:Nat→F}:KerA n (conA d n l b) x↔∀ i,i<n→rsum n (fun j=>frob (d*i) (l j)*x j)=0:=by
 unfold KerA;exact⟨fun h i hi=>by have:=h i hi; rwa [conA_row]at this,fun h i hi=>by rw[conA_row]; exact h i hi⟩
theorem frob_cyc {d n:Nat} (hn:d*n=M F){i k:Nat} (y:F)(h:i % n=k % n):frob (d*i) y=frob (d*k) y:=by
 have e:∀ i,frob (d*i) y=frob (d*(i % n)) y:=fun i=>by
  conv=>lhs; rw[←Nat.div_add_mod i n]
  rw[Nat.mul_add,Nat.add_comm,←frob_frob,←Nat.mul_assoc,hn,frob_Mmul]
 rw[e i,h,←e k]
theorem frob_pre {d n:Nat} (hn:d*n=M F){i:Nat} (hi:i<n):∃ k,k<n∧∀ y:F,frob d (frob (d*k) y)=frob (d*i) y:=by
 refine⟨(i+(n - 1)) % n,Nat.mod_lt _ (by omega),fun y=>?_⟩;have h1:frob d (frob (d*((i+(n - 1)) % n)) y)=frob (d*((i+(n - 1)) % n+1)) y:=by rw[frob_frob,Nat.mul_succ,Nat.add_comm]
 rw[h1];refine frob_cyc hn y ?_;rw[Nat.mod_add_mod,show i+(n - 1)+1=i+n by omega,Nat.add_mod_right]
theorem sol_frob {d n:Nat} (hn:d*n=M F){l x:Nat→F} {u:F} (h:∀ i,i<n→rsum n (fun j=>frob (d*i) (l j)*x j)=frob (d*i) u):∀ i,i<n→rsum n (fun j=>frob (d*i) (l j)*frob d (x j))=frob (d*i) u:=fun i hi=>by
 obtain⟨k,hk,e⟩:=frob_pre (F:=F) hn hi;rw[←e u,←h k hk,frob_rsum];exact rsum_congr fun j _=>by rw[frob_mul,e]
theorem ker_frob {d n:Nat} (hn:d*n=M F){l x:Nat→F} (h:∀ i,i<n→rsum n (fun j=>frob (d*i) (l j)*x j)=0)(k:Nat):∀ i,i<n→rsum n (fun j=>frob (d*i) (l j)*frob (d*k) (x j))=0:=by
 induction k with
 | zero=>intro i hi; rw[←h i hi]; exact rsum_congr fun j _=>by rw[Nat.mul_zero,frob_zero_k]
 | succ k ih =>
  intro i hi;have h1:=sol_frob hn (l:=l) (x:=fun j=>frob (d*k) (x j)) (u:=0) (fun i hi=>by rw[frob_zero]; exact ih i hi) i hi;rw[frob_zero]at h1;rw[←h1];exact rsum_congr fun j _=>by rw[frob_frob,Nat.mul_succ,Nat.add_comm]
theorem div_n {d n:Nat} (hn:d*n=M F)(hn1:1≤n):M F / d=n:=by
 have h0:0<d:=Nat.pos_of_ne_zero fun e=>by have:=M_pos (F:=F); rw[←hn,e,Nat.zero_mul]at this; omega
 rw[←hn,Nat.mul_div_cancel_left _ h0]
theorem tr_n {d n:Nat} (hn:d*n=M F)(hn1:1≤n)(x:F):tr d x=rsum n (fun i=>frob (d*i) x):=by unfold tr; rw[div_n hn hn1]
theorem ind_of_ker {d n:Nat} {l b:Nat→F} (h:∀ x,KerA n (conA d n l b) x→∀ j,j<n→x j=0):IndS d n l:=fun c hc hz=>by
 refine h c (conA_ker.2 fun i _=>?_);have h1:=congrArg (frob (d*i)) hz;rw[frob_rsum,frob_zero]at h1;rw[←h1];exact rsum_congr fun j hj=>by rw[frob_mul,frob_fix_mul (hc j hj),mul_c]
theorem ker_of_ind {d n:Nat} (hn:d*n=M F)(hd1:1≤d)(hn1:1≤n){l b:Nat→F} (h:IndS d n l){x:Nat→F} (hk:KerA n (conA d n l b) x):∀ j,j<n→x j=0:=fun j0 hj0=>by
 refine Classical.byContradiction fun hx=>?_
 have hd:d∣M F:=⟨n,hn.symm⟩;obtain⟨y,hy⟩:=tr_onto (F:=F) hd hd1;have hk2:=conA_ker.1 hk;obtain⟨a,ha⟩:∃ a,a=y*inv (x j0):=⟨_,rfl⟩;have hk3:∀ i,i<n→rsum n (fun j=>frob (d*i) (l j)*(a*x j))=0:=fun i hi=>by
  rw[rsum_congr (g:=fun j=>a*(frob (d*i) (l j)*x j)) fun j _=>mul_lc _ _ _,rsum_mul_left,hk2 i hi,mul_zero]
 have h0:=h (fun j=>tr d (a*x j)) (fun j _=>tr_inSub hd _) (by
  rw[rsum_congr (g:=fun j=>rsum n fun k=>frob (d*k) (a*x j)*l j) fun j _=>by rw[tr_n hn hn1,rsum_mul_right],rsum_swap];refine rsum_eq_zero fun k _=>?_
  have h2:=ker_frob hn hk3 k 0 (by omega);rw[←h2];exact rsum_congr fun j _=>by rw[Nat.mul_zero,frob_zero_k,mul_c]) j0 hj0
 rw[ha,mul_a,inv_mul hx,mul_one]at h0;exact hy h0
theorem coor_sub {d n:Nat} (hn:d*n=M F){l c:Nat→F} {x:F} (hu:∀ y,SolA n (conA d n l fun i=>frob (d*i) x) y↔∀ i,i<n→y i=c i):(∀ j,j<n→InSub d (c j))∧(1≤n→rsum n (fun j=>c j*l j)=x):=by
 have h1:=conA_sol.1 ((hu c).2 fun _ _=>rfl);refine⟨fun j hj=>?_,fun h=>?_⟩
 ·exact (hu fun j=>frob d (c j)).1 (conA_sol.2 (sol_frob hn h1)) j hj
 ·have h2:=h1 0 (by omega);rw[Nat.mul_zero,frob_zero_k]at h2;rw[←h2];exact rsum_congr fun j _=>by rw[frob_zero_k,mul_c]
def e0:Nat→F:=fun i=>if i=0 then 1 else 0
def smA (S:Nat)(sub u:Nat→F):Nat→Nat→F
 | 0,_=>0
 | k+1,t=>smA S sub u k (t / S)+sub (t % S)*u k
def cfA (S:Nat)(sub:Nat→F):Nat→Nat→Nat→F
 | 0,_,_=>0
 | k+1,t,i=>if i=k then sub (t % S) else cfA S sub k (t / S) i
theorem smA_sum (S:Nat)(sub u:Nat→F):∀ k t,smA S sub u k t=rsum k (fun i=>cfA S sub k t i*u i)
 | 0,_=>rfl
 | k+1,t=>by
  rw[rsum_succ]
  show smA S sub u k (t / S)+sub (t % S)*u k=rsum k (fun i=>(if i=k then sub (t % S) else cfA S sub k (t / S) i)*u i)+(if k=k then sub (t % S) else cfA S sub k (t / S) k)*u k
  rw[if_pos rfl,smA_sum S sub u k]
  congr 1
  exact rsum_congr fun i hi=>by rw[if_neg (by omega)]
theorem cfA_sub {S d:Nat} {sub:Nat→F} (hS:0<S)(hs:∀ e,e<S→InSub d (sub e)):∀ k t i,i<k→InSub d (cfA S sub k t i)
 | 0,_,_,h=>absurd h (Nat.not_lt_zero _)
 | k+1,t,i,h=>by
  show InSub d (if i=k then sub (t % S) else cfA S sub k (t / S) i)
  split
  ·exact hs _ (Nat.mod_lt _ hS)
  ·exact cfA_sub hS hs k _ i (by omega)
theorem cfA_inj {S:Nat} {sub:Nat→F} (hS:0<S)(hs:∀ e e',e<S→e'<S→sub e=sub e'→e=e'):∀ k t t',t<S ^ k→t'<S ^ k→(∀ i,i<k→cfA S sub k t i=cfA S sub k t' i)→t=t'
 | 0,t,t',h,h',_=>by simp at h h'; omega
 | k+1,t,t',h,h',e=>by
  have e1:=e k (Nat.lt_succ_self _);have e1:sub (t % S)=sub (t' % S):=by
   have:(if k=k then sub (t % S) else cfA S sub k (t / S) k)=(if k=k then sub (t' % S) else cfA S sub k (t' / S) k):=e1
   rwa [if_pos rfl,if_pos rfl]at this
  have e2:=hs _ _ (Nat.mod_lt _ hS) (Nat.mod_lt _ hS) e1;have hq:∀ t,t<S ^ (k+1)→t / S<S ^ k:=fun t h=>by
   rw[Nat.pow_succ]at h;exact Nat.div_lt_of_lt_mul (by rwa [Nat.mul_comm]at h)
  have e3:=cfA_inj hS hs k (t / S) (t' / S) (hq t h) (hq t' h') fun i hi=>by
   have:(if i=k then sub (t % S) else cfA S sub k (t / S) i)=(if i=k then sub (t' % S) else cfA S sub k (t' / S) i):=e i (by omega)
   rwa [if_neg (by omega),if_neg (by omega)]at this
  rw[←Nat.div_add_mod t S,←Nat.div_add_mod t' S,e2,e3]
theorem cfA_onto {S d:Nat} {sub:Nat→F} (hs:∀ x,InSub d x→∃ e,e<S∧sub e=x):∀ k (c:Nat→F),(∀ i,i<k→InSub d (c i))→∃ t,t<S ^ k∧∀ i,i<k→cfA S sub k t i=c i
 | 0,_,_=>⟨0,by simp,fun _ h=>absurd h (Nat.not_lt_zero _)⟩
 | k+1,c,h=>by
  obtain⟨t,ht,h1⟩:=cfA_onto hs k c fun i hi=>h i (by omega)
  obtain⟨e,he,h2⟩:=hs (c k) (h k (Nat.lt_succ_self _));refine⟨t*S+e,?_,fun i hi=>?_⟩
  ·rw[Nat.pow_succ];have:(t+1)*S≤S ^ k*S:=Nat.mul_le_mul_right _ ht;rw[Nat.succ_mul]at this;omega
  ·show (if i=k then sub ((t*S+e) % S) else cfA S sub k ((t*S+e) / S) i)=c i
   have e1:(t*S+e) % S=e:=by rw[Nat.add_comm,Nat.add_mul_mod_self_right,Nat.mod_eq_of_lt he]
   have e2:(t*S+e) / S=t:=by rw[Nat.add_comm,Nat.add_mul_div_right _ _ (by omega:0<S),Nat.div_eq_of_lt he,Nat.zero_add]
   rw[e1,e2];by_cases e3:i=k
   ·rw[if_pos e3,e3,h2]
   ·rw[if_neg e3]; exact h1 i (by omega)
theorem smA_ind {S d n:Nat} {sub u:Nat→F} (hS:0<S)(h1:∀ e,e<S→InSub d (sub e))(h2:∀ e e',e<S→e'<S→sub e=sub e'→e=e')(h3:∀ x,InSub d x→∃ e,e<S∧sub e=x) :
  IndS d n u↔∀ t t',t<S ^ n→t'<S ^ n→smA S sub u n t=smA S sub u n t'→t=t':=by
 constructor
 ·intro h t t' ht ht' e;refine cfA_inj hS h2 n t t' ht ht' fun i hi=>?_
  rw[smA_sum,smA_sum]at e;refine sub_eq_zero (h (fun i=>cfA S sub n t i - cfA S sub n t' i) (fun j hj=>(cfA_sub hS h1 n t j hj).sub (cfA_sub hS h1 n t' j hj)) ?_ i hi);rw[rsum_congr (g:=fun j=>cfA S sub n t j*u j - cfA S sub n t' j*u j) fun j _=>sub_mul _ _ _,rsum_sub,e,sub_self]
 ·intro h c hc hz j hj;obtain⟨t,ht,e⟩:=cfA_onto h3 n c hc;obtain⟨t0,ht0,e0⟩:=cfA_onto h3 n (fun _=>0) fun _ _=>InSub.zero d
  have e1:smA S sub u n t=0:=by rw[smA_sum,rsum_congr (g:=fun i=>c i*u i) fun i hi=>by rw[e i hi],hz]
  have e2:smA S sub u n t0=0:=by rw[smA_sum]; exact rsum_eq_zero fun i hi=>by rw[e0 i hi,zero_mul]
  have e3:=h t t0 ht ht0 (e1.trans e2.symm);rw[←e j hj,e3,e0 j hj]
end
end Cw

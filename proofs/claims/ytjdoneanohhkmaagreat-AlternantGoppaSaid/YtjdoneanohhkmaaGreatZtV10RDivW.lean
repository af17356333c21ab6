/- Layer 5 of the program: DivMod. -/
import Derived.Lib.MinMax
import Derived.Test.YtjdoneanohhkmaaGreatZtV10RGaoL
import Derived.Test.YtjdoneanohhkmaaGreatZtV10RAlvP
import Derived.Test.YtjdoneanohhkmaaGreatZtV10RTk
namespace Go.Proofs.YtjdoneanohhkmaaGreat
open Go.RowKit Cw
open Cw.CField (inv)
attribute [local go_sem] Oper.semAt_some
attribute [local go_sem high] Go.Lib.run_max_ints

def DivPost (D:Desc)(p q:List Int)(w:World)(e:Ending)(w':World):Prop :=
 ∃ quo rem Aq cq Ar cr,e=.returned (.tuple #[.slice Aq quo.length cq,.slice Ar rem.length cr,.int .i64 0])∧Own w' w.heap.size (.slice Aq quo.length cq) quo∧Rd w' w'.heap.size Ar rem∧DivI D p q quo rem∧Below w.heap.size w w'

theorem mix_low {n k:Nat} {f h:Nat→Int} (e:∀ i,i<k→f i=h i):mix n k f h=lst n h:=by
 unfold mix;exact lst_congr fun i _=>by
  by_cases e2:i<k
  ·rw[if_pos e2,e i e2]
  ·rw[if_neg e2]
set_option maxRecDepth 100000 in
set_option maxHeartbeats 8000000 in
theorem gDivMod_any (F:FD)(p q:List Int)(d:Nat)(hq:(canI F.toDesc q).length=d+1)(A1 A2:Option Addr)(c1 c2 g:Nat)(w:World)(hg:GF w w.heap.size g F)(hr1:Rd w w.heap.size A1 p)(hr2:Rd w w.heap.size A2 q)(hl1:p.length≤20000)(hl2:q.length≤20000) :
  Calls Tryz.prog 219 #[.pointer (some ⟨g,0,none⟩),.slice A1 p.length c1,.slice A2 q.length c2] w (DivPost F.toDesc p q w):=by
 have hple:=canI_le F.toDesc p;have hqle:=canI_le F.toDesc q;obtain⟨A,hA⟩:∃ A,A=(canI F.toDesc p).length:=⟨_,rfl⟩;obtain⟨Q,hQ⟩:∃ Q,Q=A - d:=⟨_,rfl⟩;have hok:=div_ok hq hA.symm hQ;have hC1:=fun W a b=>gCanonP_box F p A1 c1 g W a b (by omega)
 have hC2:=fun W a b=>gCanonP_box F q A2 c2 g W a b (by omega)
 have hfA:LtD (cfR F.toDesc p) A:=fun t ht=>by rw[←cfR_canI]; exact cfR_out F.toDesc (by omega)
 have hg0:cfR F.toDesc q d≠0:=by rw[←cfR_canI]; exact can_lead (canI_canI F.toDesc q) hq
 have hgD:LtD (cfR F.toDesc q) (d+1):=fun t ht=>by rw[←cfR_canI]; exact cfR_out F.toDesc (by omega)
 rw[←hA]at hC1 hple;rw[hq]at hC2 hqle;obtain⟨np,hnp⟩:∃ np,np=p.length:=⟨_,rfl⟩;obtain⟨nq,hnq⟩:∃ nq,nq=q.length:=⟨_,rfl⟩;rw[←hnp]at hC1 hple;rw[←hnq]at hC2 hqle;have hnp2:np≤20000:=by omega
 have hnq2:nq≤20000:=by omega
 have e1:cfI F.toDesc p=fun i=>ci (cfR F.toDesc p i):=rfl
 have e2:cfI F.toDesc q=fun i=>ci (cfR F.toDesc q i):=rfl
 rw[e1]at hC1;rw[e2]at hC2;obtain⟨iv,hiv⟩:∃ iv,iv=inv (cfR F.toDesc q d):=⟨_,rfl⟩;rw[←hiv]at hok;obtain⟨f,hf⟩:∃ f,f=cfR F.toDesc p:=⟨_,rfl⟩;obtain⟨k,hk⟩:∃ k,k=cfR F.toDesc q:=⟨_,rfl⟩;rw[←hf]at hok hC1 hfA;rw[←hk]at hok hC2 hg0 hiv hgD;obtain⟨N,hN⟩:∃ N,N=d+1:=⟨_,rfl⟩;rw[←hN]at hC2 hqle;rw[←hnp,←hnq];have hNz:((N:Int)==0)=false:=by rw[beq_eq_false_iff_ne]; omega
 have hN1:IntKind.i64.wrap ((N:Int) - 1)=(d:Int):=by rw[IntWalk.i64_in _ (by omega)]; omega
 have hd0:(0:Int)≤(d:Int):=by omega
 have hd1:(d:Int)<(N:Int):=by omega
 have hw1:IntKind.i64.wrap ((A:Int) - (N:Int))=(Q:Int) - 1∨A≤d:=by
  by_cases h:A≤d
  ·exact .inr h
  ·left; rw[IntWalk.i64_in _ (by omega)]; omega
 have hw2:IntKind.i64.wrap ((A:Int) - (N:Int))=(A:Int) - (N:Int):=IntWalk.i64_in _ (by omega);have hw3:IntKind.i64.wrap ((A:Int) - (N:Int)+1)=(A:Int) - (N:Int)+1:=IntWalk.i64_in _ (by omega);have hw4:max (0:Int) ((A:Int) - (N:Int)+1)=(Q:Int):=by omega
 have hstart:(0≤(A:Int) - (N:Int)∧(A:Int) - (N:Int)=(Q:Int) - 1 - ((0:Nat):Int))∨((A:Int) - (N:Int)<0∧Q=0):=by omega
 have hmk:=mk_ints Q (by omega);have hI:=fun W a=>gInv_ok F (ci (k d)) g W a (by rw[eli_ci]; exact hg0)
 rw[eli_ci,←hiv]at hI;obtain⟨zi,hzi⟩:∃ zi,zi=ci iv:=⟨_,rfl⟩;obtain⟨ld,hld⟩:∃ ld,ld=ci (k d):=⟨_,rfl⟩;rw[←hzi,←hld]at hI;have hdq:d<nq:=by omega
 have hAd:A≤d+Q:=by omega
 have hQA:∀ s n,Q=n+1+s→n+d<np∧n+d<A∧A=n+1+s+d:=fun s n h=>by omega
 have hjA:∀ s n j,Q=n+1+s→j<N→n+j<np∧n+j<A:=fun s n j h1 h2=>by omega
 have hTr:=fun f' A' c' W a b c=>Lib.hid (gTrim_any A f' A' c' W a (by omega) b c)
 have hTq:=fun f' A' c' W a b c=>Lib.hid (gTrim_any Q f' A' c' W a (by omega) b c)
 replace hC1:=fun W a b=>Lib.hid (hC1 W a b)
 replace hC2:=fun W a b=>Lib.hid (hC2 W a b)
 replace hI:=fun W a=>Lib.hid (hI W a)
 replace hQA:=Lib.hid hQA;replace hjA:=Lib.hid hjA;replace hok:=Lib.hid hok;replace hf:=Lib.hid hf;replace hk:=Lib.hid hk;replace hA:=Lib.hid hA;replace hQ:=Lib.hid hQ;replace hnp:=Lib.hid hnp;replace hnq:=Lib.hid hnq;replace hN:=Lib.hid hN;replace hiv:=Lib.hid hiv;replace hzi:=Lib.hid hzi;replace hld:=Lib.hid hld;replace hgD:=Lib.hid hgD;replace hstart:=Lib.hid hstart;clear hw1 hq e1 e2 hl1 hl2 hg0;unfold DivPost;go_enter Tryz.func219,Tryz.ntmps219;go_wp2_with (fail);(with_reducible refine (hC1 w hg hr1).out.mono ?_);rintro e w1 ⟨gr,rfl,hgr,hir,hb1⟩;have hg1:=(hg.below hb1).more hb1.size;go_wp2_with (fail);(with_reducible refine (hC2 w1 hg1 ((hr2.below hb1).more hb1.size)).out.mono ?_);rintro e w2 ⟨gk,rfl,hgk,hik,hb2⟩;have hir2:=hir.below hb2 hir.lt;have hB2:=hb1.trans (hb2.mono hb1.size);have hgrk:gr<gk:=Nat.lt_of_lt_of_le hir.lt hgk;have hcl:=hik.cell (i:=d) (by rw[lst_length]; exact hdq);rw[lst_get _ hdq,←hld.out]at hcl;have hg2:=(hg1.below hb2).more hb2.size;clear hir hb1 hb2;go_wp2_with (fail);(with_reducible refine (hI w2 hg2).out.mono ?_);rintro e w3 ⟨rfl,hb3⟩;have hB3:=hB2.trans (hb3.mono hB2.size);have hir3:=hir2.below hb3 hir2.lt;have hik3:=hik.below hb3 hik.lt;have hg3:=(hg2.below hb3).more hb3.size;have hrs:gr<w3.heap.size:=hir3.lt;have hks:gk<w3.heap.size:=hik3.lt;obtain⟨gq,hgq⟩:∃ gq,gq=w3.heap.size:=⟨_,rfl⟩;obtain⟨Y,hY⟩:∃ Y,Y=w3.alloc (.cells (Array.replicate Q (Value.int .i64 0)) 3):=⟨_,rfl⟩;have hiq0:IB Y gq (lst Q fun i=>ci (quoS f k iv d Q 0 i)):=by
  rw[hY,hgq,lst_congr (g:=fun _=>0) (fun i hi=>by unfold quoS; rw[if_neg (by omega),ci_zero]),←lst_zero]; exact IB.newz w3 _
 have hbY:Below w3.heap.size w3 Y:=by rw[hY]; exact (Below.refl _ _).alloc (Nat.le_refl _) _
 have hirY:IB Y gr (lst np fun i=>ci (remF f k iv d Q 0 i)):=hir3.below hbY hrs;have hikY:=hik3.below hbY hks;have hBY:=hB3.trans (hbY.mono hB3.size);have hgY:=(hg3.below hbY).more hbY.size;have hwq:w.heap.size≤gq:=by rw[hgq]; exact hB3.size
 have hwk:w.heap.size≤gk:=by omega
 have hrq:gr≠gq:=by omega
 have hkq:gk≠gq:=by omega
 have hkr:gk≠gr:=by omega
 have hwg:∃ B,w.heap.size≤B∧B≤gr∧B≤gq∧B≤gk:=⟨w.heap.size,Nat.le_refl _,hgr,hwq,hwk⟩;replace hiq0:=Lib.hid hiq0;replace hirY:=Lib.hid hirY;replace hikY:=Lib.hid hikY;replace hY:=Lib.hid hY;replace hgq:=Lib.hid hgq;clear hC1 hC2 hI hcl hb3 hir2 hir3 hik hik3 hbY hB2 hB3;go_wp2_with (fail);rw[←hY.out];simp only[←hgq.out];clear hmk;go_loopw [11] (fun v wr=>∃ (s:Nat) (x:Int),s≤Q∧v=.int .i64 x∧Hid ((0≤x∧x=(Q:Int) - 1 - (s:Int))∨(x<0∧s=Q))∧Hid (IB wr gr (lst np fun i=>ci (remF f k iv d Q s i)))∧Hid (IB wr gq (lst Q fun i=>ci (quoS f k iv d Q s i)))∧Hid (IB wr gk (lst nq fun i=>ci (k i)))∧Below w.heap.size w wr) (fun v _=>(intOf v+1).toNat)
 case atStart =>
  refine⟨0,_,Nat.zero_le _,rfl,?_,hirY,hiq0,hikY,hBY⟩;rcases hstart.out with ⟨h1,h2⟩ | ⟨h1,h2⟩
  ·exact .inl ⟨h1,h2⟩
  ·exact .inr ⟨h1,h2.symm⟩
 case round =>
  clear hirY hiq0 hikY hBY;obtain⟨wo,rfl⟩:∃ wo:World,wo=wr:=⟨_,rfl⟩;obtain⟨s,x,hs,rfl,hx,hir,hiq,hik,hbw⟩:=hrel;have hgo:=(hg.below hbw).more hbw.size;by_cases hx0:0≤x
  ·obtain⟨n,rfl⟩:∃ n:Nat,x=(n:Int):=⟨x.toNat,by omega⟩;have hn:Q=n+1+s:=by rcases hx.out with ⟨h1,h2⟩ | ⟨h1,h2⟩ <;> omega
   obtain⟨h1,h2,h3⟩:=hQA.out s n hn;have hv1:IntKind.i64.wrap ((n:Int)+(N:Int))=(n:Int)+(N:Int):=IntWalk.i64_in _ (by omega);obtain⟨nd,hnd⟩:∃ nd,nd=n+d:=⟨_,rfl⟩;have hv2:IntKind.i64.wrap ((n:Int)+(N:Int) - 1)=(nd:Int):=by rw[IntWalk.i64_in _ (by omega)]; have:=hN.out; omega
   have hv3:(0:Int)≤(nd:Int):=by omega
   have hv4:(nd:Int)<(A:Int):=by omega
   have hv5:(n:Int)<(Q:Int):=by omega
   have hc1:=hir.out.cell (i:=nd) (by rw[lst_length]; omega);rw[lst_get _ (by omega)]at hc1;have hM:=gMul_any F (ci (remF f k iv d Q s nd)) zi g wo hgo;rw[eli_ci,show eli F.toDesc zi=iv from by rw[hzi.out,eli_ci]]at hM;have hqe:remF f k iv d Q s nd*iv=quoF f k iv d Q n:=by rw[quoF_at hn,hnd]
   rw[hqe]at hM;replace hqe:=Lib.hid hqe;obtain⟨y1,hy1⟩:∃ y1,y1=ci (remF f k iv d Q s nd):=⟨_,rfl⟩;obtain⟨av,hav⟩:∃ av,av=ci (quoF f k iv d Q n):=⟨_,rfl⟩;rw[←hy1]at hc1 hM;rw[←hav]at hM;have hset:Hid ((lst Q fun i=>ci (quoS f k iv d Q s i)).set n av=lst Q fun i=>ci (quoS f k iv d Q (s+1) i)):=by
    unfold Hid;rw[lst_set];exact lst_congr fun i hi=>by
     rw[quoS_succ hn];by_cases e:i=n
     ·rw[if_pos e,if_pos e,hav,e];unfold quoS;rw[if_neg (by omega),zero_add]
     ·rw[if_neg e,if_neg e,add_zero]
   have hnj:=fun j hj=>hjA.out s n j hn hj
   have hlow:Hid (∀ i,i<n→remF f k iv d Q (s+1) i=remF f k iv d Q s i):=fun i hi=>by rw[remF_succ hn,if_neg (by omega),sub_zero]
   have hhigh:Hid (∀ i,n+N≤i→remF f k iv d Q s i=remF f k iv d Q (s+1) i):=fun i hi=>by rw[remF_succ hn,if_pos (by omega),hgD.out _ (by have:=hN.out; omega),mul_zero,sub_zero]
   have hstep:Hid (∀ j,remF f k iv d Q s (n+j) - quoF f k iv d Q n*k j=remF f k iv d Q (s+1) (n+j)):=fun j=>by rw[remF_succ hn,if_pos (by omega),show n+j - n=j by omega]
   have hs1:s+1≤Q:=by omega
   have hx2:Hid (IntKind.i64.wrap ((n:Int) - 1)=(n:Int) - 1):=IntWalk.i64_in _ (by omega);have hx3:Hid ((0≤(n:Int) - 1∧(n:Int) - 1=(Q:Int) - 1 - ((s+1:Nat):Int))∨((n:Int) - 1<0∧s+1=Q)):=by unfold Hid; omega
   have hM':=Lib.hid hM;replace hnj:=Lib.hid hnj;replace hn:=Lib.hid hn;replace hnd:=Lib.hid hnd;replace hy1:=Lib.hid hy1;replace hav:=Lib.hid hav;clear hM h1 h2 h3;go_wp2_with (fail);(with_reducible refine hM'.out.mono ?_);rintro e w4 ⟨rfl,hb4⟩;have hir4:=Lib.hid (hir.out.below hb4 hir.out.lt);have hiq4:=hiq.out.below hb4 hiq.out.lt;have hik4:=Lib.hid (hik.out.below hb4 hik.out.lt);have hcW:=hiq4.cell (i:=n) (by rw[lst_length]; have:=hn.out; omega);have hfW:=hiq4.frozen n;have hiq5:=hiq4.set_ n av;rw[hset.out]at hiq5;replace hiq5:=Lib.hid hiq5;have hir5:Hid (IB (w4.setCell ⟨gq,n,none⟩ (.int .i64 av)) gr (mix np (n+0) (fun i=>ci (remF f k iv d Q (s+1) i)) (fun i=>ci (remF f k iv d Q s i)))):=by
    unfold Hid;rw[mix_low fun i hi=>by rw[hlow.out i (by omega)]];exact hir4.out.far (p:=⟨gq,n,none⟩) hrq _
   have hik5:=Lib.hid (hik4.out.far (p:=⟨gq,n,none⟩) hkq (.int .i64 av));have hB5:Below w.heap.size w (w4.setCell ⟨gq,n,none⟩ (.int .i64 av)):=(hbw.trans (hb4.mono hbw.size)).setCell (p:=⟨gq,n,none⟩) hwq _;clear hc1 hir hiq hik hir4 hiq4 hik4 hM' hbw hb4 hgo;go_wp2_with (fail);clear hcW hfW;go_loopw [69] (fun v wr=>∃ j:Nat,j≤N∧v=.int .i64 j∧Hid (IB wr gr (mix np (n+j) (fun i=>ci (remF f k iv d Q (s+1) i)) (fun i=>ci (remF f k iv d Q s i))))∧Hid (IB wr gq (lst Q fun i=>ci (quoS f k iv d Q (s+1) i)))∧Hid (IB wr gk (lst nq fun i=>ci (k i)))∧Below w.heap.size w wr) (fun v _=>N - (intOf v).toNat)
   case atStart=>exact⟨0,by omega,rfl,hir5,hiq5,hik5,hB5⟩
   case round =>
    clear hir5 hiq5 hik5 hB5;obtain⟨wi,rfl⟩:∃ wi:World,wi=wr:=⟨_,rfl⟩;obtain⟨j,hj,rfl,hir,hiq,hik,hbw⟩:=hrel;by_cases hjl:j<N
    ·have hj0:(0:Int)≤(j:Int):=by omega
     have hj1:(j:Int)<(N:Int):=by omega
     obtain⟨h1,h2⟩:=hnj.out j hjl;have hc4:=hik.out.cell (i:=j) (by rw[lst_length]; omega);rw[lst_get _ (by omega)]at hc4;have hc3:=hir.out.cell (i:=n+j) (by rw[mix_length]; exact h1);rw[mix_get_at _ _ h1]at hc3;have hgi:=(hg.below hbw).more hbw.size;have hM:=gMul_any F av (ci (k j)) g wi.drew hgi.drew;have hS:=fun W h=>gSub_any F (ci (remF f k iv d Q s (n+j))) (ci (quoF f k iv d Q n*k j)) g W h
     rw[eli_ci,eli_ci,hstep.out j]at hS;rw[show eli F.toDesc av=quoF f k iv d Q n from by rw[hav.out,eli_ci],eli_ci]at hM;obtain⟨y2,hy2⟩:∃ y2,y2=ci (k j):=⟨_,rfl⟩;obtain⟨y3,hy3⟩:∃ y3,y3=ci (remF f k iv d Q s (n+j)):=⟨_,rfl⟩;obtain⟨y4,hy4⟩:∃ y4,y4=ci (remF f k iv d Q (s+1) (n+j)):=⟨_,rfl⟩;obtain⟨z,hz⟩:∃ z,z=ci (quoF f k iv d Q n*k j):=⟨_,rfl⟩;rw[←hy2]at hc4 hM;rw[←hz]at hM hS;rw[←hy3]at hc3 hS;rw[←hy4]at hS;replace hM:=Lib.hid hM;replace hS:=fun W h=>Lib.hid (hS W h)
     have hwi:IntKind.i64.wrap ((n:Int)+(j:Int))=(n:Int)+(j:Int):=IntWalk.i64_in _ (by omega);have hij0:(0:Int)≤(n:Int)+(j:Int):=by omega
     have hij1:(n:Int)+(j:Int)<(A:Int):=by omega
     have htn:((n:Int)+(j:Int)).toNat=n+j:=by omega
     have hgl:=hir.out.lt;have hql:=hiq.out.lt;have hkl:=hik.out.lt;replace hy2:=Lib.hid hy2;replace hy3:=Lib.hid hy3;replace hy4:=Lib.hid hy4;replace hz:=Lib.hid hz;go_wp2_with (fail);refine wp_region_held_drew (S:=fun w'=>True) (by kernel_rfl) (by (try dsimp only); all_goals trivial) (fun hHeld=>?_);refine tk 0 ?_; try simp only[pS]
     refine tk 1 ?_; try simp only[pS]
     refine tk 2 ?_; try simp only[pS]
     refine tk 3 ?_; try simp only[pS]
     refine tk 4 ?_; try simp only[pS]
     refine tk 5 ?_; try simp only[pS]
     refine tk 6 ?_; try simp only[pS]
     refine tk 7 ?_; try simp only[pS]
     refine tk 8 ?_; try simp only[pS]
     refine tk 9 ?_; try simp only[pS]
     refine tk 11 ?_; try simp only[pS]
     refine tk 12 ?_; try simp only[pS]
     refine tk 13 ?_; try simp only[pS]
     refine wpAnyH_ready (rs:=[10,14]) (by kernel_rfl) (by simp) ?_;refine AllReadyH.cons (o:=⟨_,_,_,_,_,_⟩) rfl (fun K hK=>?_) ?_
     ·go_simp;refine hK.out _ _ (by (try dsimp only); all_goals trivial) (fun hHeld=>?_);clear hK K;try simp only[pS]
      refine rd 14 fun K hK=>?_
      go_simp;go_at_call 140;(with_reducible refine (hM).out.mono ?_);rintro e w6 ⟨rfl,hb6⟩;have hx6:=(hb6.cell (p:=⟨gr,n+j,none⟩) hgl).trans hc3;have hs6:wi.heap.size≤w6.heap.size:=hb6.size;have hA6:=hS w6 ((hgi.drew.below hb6).more hb6.size);go_wp2_with (fail);refine hK.out _ _ (by (try dsimp only); all_goals trivial) (fun hHeld=>?_);clear hK K;try simp only[pS]
      refine rd 15 fun K hK=>?_
      go_simp;go_at_call 67;(with_reducible refine (hA6).out.mono ?_);rintro e w7 ⟨rfl,hb7⟩;have hb57:Below wi.heap.size wi w7:=((Below.refl _ wi).drew.trans hb6).trans (hb7.mono hs6);have hir7:=hir.out.below hb57 hgl;have hiq7:=Lib.hid (hiq.out.below hb57 hql);have hik7:=Lib.hid (hik.out.below hb57 hkl);have hx7:=hir7.cell (i:=n+j) (by rw[mix_length]; exact h1);have hf7:=hir7.frozen (n+j);go_wp2_with (fail);refine hK.out _ _ (by (try dsimp only); all_goals trivial) (fun hHeld=>?_);clear hK K;try simp only[pS]
      refine tk 16 ?_; try simp only[pS]
      refine rd 17 fun K hK=>?_
      go_simp;refine hK.out _ _ (by (try dsimp only); all_goals trivial) (fun hHeld=>?_);clear hK K;try simp only[pS]
      refine wpAnyH_done (by kernel_rfl) ?_ _;have hs7:=hir7.set_ (n+j) y4;rw[hy4.out,mix_set,←hy4.out]at hs7;replace hs7:=Lib.hid hs7;have hq7:=Lib.hid (hiq7.out.far (p:=⟨gr,n+j,none⟩) hrq.symm (.int .i64 y4));have hk7:=Lib.hid (hik7.out.far (p:=⟨gr,n+j,none⟩) hkr (.int .i64 y4));have hbs:Below w.heap.size w (w7.setCell ⟨gr,n+j,none⟩ (.int .i64 y4)):=(hbw.trans (hb57.mono hbw.size)).setCell (p:=⟨gr,n+j,none⟩) hgr _;clear hx6 hx7 hf7 hc3 hc4;go_wp2_with (fail);go_roundw
      case rel=>exact⟨j+1,by omega,by go_num,hs7,hq7,hk7,hbs⟩
      case measure=>simp[intOf]; omega
     refine AllReadyH.cons (o:=⟨_,_,_,_,_,_⟩) rfl (fun K hK=>?_) AllReadyH.nil;go_simp;go_at_call 140;(with_reducible refine (hM).out.mono ?_);rintro e w6 ⟨rfl,hb6⟩;have hx6:=(hb6.cell (p:=⟨gr,n+j,none⟩) hgl).trans hc3;have hs6:wi.heap.size≤w6.heap.size:=hb6.size;have hA6:=hS w6 ((hgi.drew.below hb6).more hb6.size);go_wp2_with (fail);refine hK.out _ _ (by (try dsimp only); all_goals trivial) (fun hHeld=>?_);clear hK K;try simp only[pS]
     refine rd 10 fun K hK=>?_
     go_simp;refine hK.out _ _ (by (try dsimp only); all_goals trivial) (fun hHeld=>?_);clear hK K;try simp only[pS]
     refine rd 15 fun K hK=>?_
     go_simp;go_at_call 67;(with_reducible refine (hA6).out.mono ?_);rintro e w7 ⟨rfl,hb7⟩;have hb57:Below wi.heap.size wi w7:=((Below.refl _ wi).drew.trans hb6).trans (hb7.mono hs6);have hir7:=hir.out.below hb57 hgl;have hiq7:=Lib.hid (hiq.out.below hb57 hql);have hik7:=Lib.hid (hik.out.below hb57 hkl);have hx7:=hir7.cell (i:=n+j) (by rw[mix_length]; exact h1);have hf7:=hir7.frozen (n+j);go_wp2_with (fail);refine hK.out _ _ (by (try dsimp only); all_goals trivial) (fun hHeld=>?_);clear hK K;try simp only[pS]
     refine tk 16 ?_; try simp only[pS]
     refine rd 17 fun K hK=>?_
     go_simp;refine hK.out _ _ (by (try dsimp only); all_goals trivial) (fun hHeld=>?_);clear hK K;try simp only[pS]
     refine wpAnyH_done (by kernel_rfl) ?_ _;have hs7:=hir7.set_ (n+j) y4;rw[hy4.out,mix_set,←hy4.out]at hs7;replace hs7:=Lib.hid hs7;have hq7:=Lib.hid (hiq7.out.far (p:=⟨gr,n+j,none⟩) hrq.symm (.int .i64 y4));have hk7:=Lib.hid (hik7.out.far (p:=⟨gr,n+j,none⟩) hkr (.int .i64 y4));have hbs:Below w.heap.size w (w7.setCell ⟨gr,n+j,none⟩ (.int .i64 y4)):=(hbw.trans (hb57.mono hbw.size)).setCell (p:=⟨gr,n+j,none⟩) hgr _;clear hx6 hx7 hf7 hc3 hc4;go_wp2_with (fail);go_roundw
     case rel=>exact⟨j+1,by omega,by go_num,hs7,hq7,hk7,hbs⟩
     case measure=>simp[intOf]; omega
    ·obtain rfl:N=j:=by omega
     have hrow:=hir.out;rw[mix_lst fun i hi=>by rw[hhigh.out i hi]]at hrow;replace hrow:=Lib.hid hrow;go_wp2_with (fail);go_roundw
     case rel=>exact⟨s+1,(n:Int) - 1,hs1,rfl,hx3,hrow,hiq,hik,hbw⟩
     case measure=>simp[intOf]
  ·have hsQ:s=Q:=by rcases hx.out with ⟨h1,h2⟩ | ⟨h1,h2⟩ <;> omega
   subst hsQ;have hT1:=hTq (fun i=>ci (quoS f k iv d s s i)) (some ⟨gq,0,none⟩) s wo hiq.out.rd (Nat.le_refl _) (by unfold maxLen; omega);have hT2:=hTr (fun i=>ci (remF f k iv d s s i)) (some ⟨gr,0,none⟩) np wo (hir.out.rd.lst_take hple) hple (by unfold maxLen; omega);have hq1:=cdeg_le (fun i=>ci (quoS f k iv d s s i)) s;have hq2:=cdeg_le (fun i=>ci (remF f k iv d s s i)) A;have hsm:s≤maxLen:=by unfold maxLen; omega
   clear hTq hTr;go_wp2_with (fail);(with_reducible refine hT1.out.mono ?_);rintro e w8 ⟨rfl,rfl⟩;go_wp2_with (fail);(with_reducible refine hT2.out.mono ?_);rintro e w9 ⟨rfl,rfl⟩;go_wp2_with (fail);go_ret3;exact⟨canL (fun i=>ci (quoS f k iv d s s i)) s,canL (fun i=>ci (remF f k iv d s s i)) A,some ⟨gq,0,none⟩,s,some ⟨gr,0,none⟩,np,by rw[canL_length,canL_length]; rfl,by rw[canL_length]; exact Own.of_take hiq.out hq1 hwq hsm,(hir.out.rd.lst_take (Nat.le_trans hq2 hple)),by rw[hf.out,hk.out]at *; exact hok.out,hbw⟩
end Go.Proofs.YtjdoneanohhkmaaGreat

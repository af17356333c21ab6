/- Layer 5 of the program: Monic, Gcd, Derivative. -/
import Derived.Test.YtjdoneanohhkmaaGreatZtV10RBxs
import Derived.Test.YtjdoneanohhkmaaGreatZtV10RAlvP
import Derived.Test.YtjdoneanohhkmaaGreatZtV10RDivW
import Derived.Test.YtjdoneanohhkmaaGreatZtV10RTk
namespace Go.Proofs.YtjdoneanohhkmaaGreat
open Go.RowKit Cw
open Cw.CField (inv)
attribute [local go_sem] Oper.semAt_some

theorem scale_can {F:FD} {p:List Int} (hp:canI F.toDesc p=p){x:R F.toDesc} (hx:x≠0):canI F.toDesc (rowL F.toDesc p.length fun j=>x*cfR F.toDesc p j)=rowL F.toDesc p.length (fun j=>x*cfR F.toDesc p j)∧∀ t,cfR F.toDesc (rowL F.toDesc p.length fun j=>x*cfR F.toDesc p j) t=x*cfR F.toDesc p t:=by
 have hc:∀ t,cfR F.toDesc (rowL F.toDesc p.length fun j=>x*cfR F.toDesc p j) t=x*cfR F.toDesc p t:=fun t=>by
  by_cases ht:t<p.length
  ·unfold cfR;rw[rowL_get _ _ ht,eli_ci]
  ·rw[cfR_out F.toDesc (by rw[rowL_length]; omega),cfR_out F.toDesc (show p.length≤t by omega),mul_zero]
 refine⟨?_,hc⟩;have h1:canI F.toDesc (rowL F.toDesc p.length fun j=>x*cfR F.toDesc p j)=canL (fun i=>ci (x*cfR F.toDesc p i)) p.length:=canI_lst F.toDesc (fun j=>x*cfR F.toDesc p j) p.length;rw[h1];rcases Nat.eq_zero_or_pos p.length with h0 | h0
 ·rw[h0]; rfl
 ·obtain⟨n,hn⟩:∃ n,p.length=n+1:=⟨p.length - 1,by omega⟩;rw[hn,canL_full (f:=fun i=>ci (x*cfR F.toDesc p i)) (n:=n) (fun e=>mul_ne_zero hx (can_lead hp hn) (ci_eq_zero.1 e))];rfl
def MonPost (F:FD)(p:List Int)(w:World)(e:Ending)(w':World):Prop :=
 ∃ l A c E,e=.returned (.tuple #[.slice A l.length c,.int .i64 E])∧Rd w' w'.heap.size A l∧GcdI F.toDesc (plI F.toDesc p) 0 l∧l.length=p.length∧Below w.heap.size w w'
set_option maxHeartbeats 2000000 in
theorem gMonic_any (F:FD)(p:List Int)(hp:canI F.toDesc p=p)(A1:Option Addr)(c1 g:Nat)(w:World)(hg:GF w w.heap.size g F)(hr1:Rd w w.heap.size A1 p)(hl:p.length≤20000) :
  Calls Tryz.prog 220 #[.pointer (some ⟨g,0,none⟩),.slice A1 p.length c1] w (MonPost F p w):=by
 have hC:=gCanonP_any F p A1 c1 g w hg hr1 (by omega);rw[hp]at hC;have hI:=fun x W h=>Lib.hid (gInv_any F x g W h)
 have hSc:=fun a A c W h1 h2=>gScale_any F p.length (fun j=>cfR F.toDesc p j) a A c g W h1 h2 (by omega)
 have hpl:rowL F.toDesc p.length (fun j=>cfR F.toDesc p j)=p:=by
  have h1:canI F.toDesc p=lst p.length (cfI F.toDesc p):=by
   have h2:canI F.toDesc p=lst (canI F.toDesc p).length (cfI F.toDesc p):=by unfold canI; rw[canL_length]; rfl
   rw[hp]at h2;rw[hp]; exact h2
  rw[hp]at h1;exact h1.symm
 rw[hpl]at hSc;replace hC:=Lib.hid hC;replace hSc:=fun a A c W h1 h2=>Lib.hid (hSc a A c W h1 h2)
 obtain⟨n,hn⟩:∃ n,n=p.length:=⟨_,rfl⟩;rw[←hn]at hC hSc hl ⊢;by_cases h0:n=0
 ·have hz:Hid (p=[]):=List.eq_nil_of_length_eq_zero (by omega);have hb0:((n:Int)==0)=true:=by rw[beq_iff_eq]; omega
  have hfin:Hid (GcdI F.toDesc (plI F.toDesc p) 0 []∧([]:List Int).length=p.length):=by rw[hz.out,plI_nil]; exact⟨GcdI.nil,rfl⟩
  replace hn:=Lib.hid hn;replace h0:=Lib.hid h0;clear hp hpl hz;go_enter Tryz.func220,Tryz.ntmps220;go_wp2_with (fail);(with_reducible refine hC.out.mono ?_);rintro e w1 ⟨A,c,rfl,hr,-,-,-,hb⟩;rw[←hn.out];go_wp2_with (fail);go_ret2;exact⟨[],none,0,7,rfl,Rd.nil,hfin.out.1,hfin.out.2,hb⟩
 ·obtain⟨m,hm⟩:∃ m,n=m+1:=⟨n - 1,by omega⟩;have hb0:((n:Int)==0)=false:=by rw[beq_eq_false_iff_ne]; omega
  have hw1:IntKind.i64.wrap ((n:Int) - 1)=(m:Int):=by rw[IntWalk.i64_in _ (by omega)]; omega
  have hm0:(0:Int)≤(m:Int):=by omega
  have hm1:(m:Int)<(n:Int):=by omega
  have hlead:cfR F.toDesc p m≠0:=can_lead hp (by omega);have hx:inv (cfR F.toDesc p m)≠0:=inv_ne_zero hlead;obtain⟨hs1,hs2⟩:=scale_can hp hx;have hfin:Hid (GcdI F.toDesc (plI F.toDesc p) 0 (rowL F.toDesc n fun j=>inv (cfR F.toDesc p m)*cfR F.toDesc p j)):=by
   rw[hn];exact GcdI.monic hx hs1 hs2
  have hmp:m<p.length:=by omega
  obtain⟨y,hy⟩:∃ y,y=p[m]?.getD 0:=⟨_,rfl⟩;have hye:Hid (eli F.toDesc y=cfR F.toDesc p m):=by rw[hy]; rfl
  replace hn:=Lib.hid hn;replace hm:=Lib.hid hm;clear hp hpl hlead hx hs1 hs2;go_enter Tryz.func220,Tryz.ntmps220;go_wp2_with (fail);(with_reducible refine hC.out.mono ?_);rintro e w1 ⟨A,c,rfl,hr,hc1,hc2,-,hb⟩;rw[←hn.out]at hc1 ⊢;obtain⟨ba,oa,rfl,hba,hca⟩:=hr.at_ hmp;rw[←hy]at hca;replace hy:=Lib.hid hy;have hI1:=hI y w1 ((hg.below hb).more hb.size);rw[hye.out]at hI1;go_wp2_with (fail);(with_reducible refine hI1.out.mono ?_);rintro e w2 ⟨⟨t,rfl⟩,hb2⟩;have hB2:=hb.trans (hb2.mono hb.size);have hS2:=hSc (ci (inv (cfR F.toDesc p m))) (some ⟨ba,oa,none⟩) c w2 ((hg.below hB2).more hB2.size) ((hr.below hb2).more hb2.size);rw[eli_ci]at hS2;clear hca hI1;go_wp2_with (fail);(with_reducible refine hS2.out.mono ?_);rintro e w3 ⟨gs,rfl,hgs,hib,hb3⟩;rw[rowL_length];have hB3:=hB2.trans (hb3.mono hB2.size);go_wp2_with (fail);go_ret2;exact⟨rowL F.toDesc n fun j=>inv (cfR F.toDesc p m)*cfR F.toDesc p j,some ⟨gs,0,none⟩,n,0,by rw[rowL_length]; rfl,hib.rd,hfin.out,by rw[rowL_length]; exact hn.out,hB3⟩
def GcdPost (F:FD)(p q:List Int)(w:World)(e:Ending)(w':World):Prop :=
 ∃ l A c,e=.returned (.slice A l.length c)∧Rd w' w'.heap.size A l∧GcdI F.toDesc (plI F.toDesc p) (plI F.toDesc q) l∧Below w.heap.size w w'
def lenV2:Value→Nat
 | .slice _ n _=>n
 | _=>0
set_option maxRecDepth 100000 in
set_option maxHeartbeats 4000000 in
theorem gGcd_any (F:FD)(p q:List Int)(A1 A2:Option Addr)(c1 c2 g:Nat)(w:World)(hg:GF w w.heap.size g F)(hr1:Rd w w.heap.size A1 p)(hr2:Rd w w.heap.size A2 q)(hl1:p.length≤20000)(hl2:q.length≤20000) :
  Calls Tryz.prog 166 #[.pointer (some ⟨g,0,none⟩),.slice A1 p.length c1,.slice A2 q.length c2] w (GcdPost F p q w):=by
 have hC1:=Lib.hid (gCanonP_any F p A1 c1 g w hg hr1 (by omega));have hC2:=fun W h1 h2=>Lib.hid (gCanonP_any F q A2 c2 g W h1 h2 (by omega))
 have hD:=fun a b hb A B ca cb W h1 h2 h3 h4 h5=>Lib.hid (gDivMod_any F a b (b.length - 1) hb A B ca cb g W h1 h2 h3 h4 h5)
 have hM:=fun a ha A ca W h1 h2 h3=>Lib.hid (gMonic_any F a ha A ca g W h1 h2 h3)
 have hle1:=canI_le F.toDesc p;have hle2:=canI_le F.toDesc q;have hK0:Hid (∀ l,GcdI F.toDesc (plI F.toDesc (canI F.toDesc p)) (plI F.toDesc (canI F.toDesc q)) l→GcdI F.toDesc (plI F.toDesc p) (plI F.toDesc q) l):=fun l h=>by rw[plI_canI,plI_canI]at h; exact h
 have hp0:=Lib.hid (canI_canI F.toDesc p);have hq0:=Lib.hid (canI_canI F.toDesc q);obtain⟨p0,hpe⟩:∃ p0,p0=canI F.toDesc p:=⟨_,rfl⟩;obtain⟨q0,hqe⟩:∃ q0,q0=canI F.toDesc q:=⟨_,rfl⟩;rw[←hpe]at hC1 hle1 hK0 hp0;rw[←hqe]at hC2 hle2 hK0 hq0;replace hpe:=Lib.hid hpe;replace hqe:=Lib.hid hqe;go_enter Tryz.func166,Tryz.ntmps166;go_wp2_with (fail);(with_reducible refine hC1.out.mono ?_);rintro e w1 ⟨Aa,ca,rfl,hra,hca1,hca2,-,hb1⟩;have hC2w:=hC2 w1 ((hg.below hb1).more hb1.size) ((hr2.below hb1).more hb1.size);go_wp2_with (fail);(with_reducible refine hC2w.out.mono ?_);rintro e w2 ⟨Ab,cb,rfl,hrb,hcb1,hcb2,-,hb2⟩;have hB2:=hb1.trans (hb2.mono hb1.size);have hra2:=(hra.below hb2).more hb2.size;have hl1':p0.length≤20000:=by omega
 have hl2':q0.length≤20000:=by omega
 clear hC1 hC2 hC2w hra hb1 hb2 hr1 hr2 hle1 hle2;go_wp2_with (fail);go_loopw [1,2,7,8,9] (fun va vb _ _ _ wr=>∃ (a b:List Int) (Aa:Option Addr) (ca:Nat) (Ab:Option Addr) (cb:Nat),va=.slice Aa a.length ca∧vb=.slice Ab b.length cb∧Rd wr wr.heap.size Aa a∧Rd wr wr.heap.size Ab b∧Hid (canI F.toDesc a=a)∧Hid (canI F.toDesc b=b)∧a.length≤20000∧b.length≤20000∧Hid (∀ l,GcdI F.toDesc (plI F.toDesc a) (plI F.toDesc b) l→GcdI F.toDesc (plI F.toDesc p) (plI F.toDesc q) l)∧Below w.heap.size w wr) (fun _ vb _ _ _ _=>lenV2 vb)
 case atStart=>exact⟨p0,q0,Aa,ca,Ab,cb,rfl,rfl,hra2,hrb,hp0,hq0,hl1',hl2',hK0,hB2⟩
 case round =>
  clear hra2 hrb hp0 hq0 hl1' hl2' hK0 hB2 hpe hqe hca1 hca2 hcb1 hcb2;obtain⟨w3,rfl⟩:∃ w3:World,w3=wr:=⟨_,rfl⟩;obtain⟨a,b,Aa,ca,Ab,cb,rfl,rfl,hra,hrb,hca,hcb,hla,hlb,hK,hb3⟩:=hrel;have hg3:=(hg.below hb3).more hb3.size;by_cases hb0:b.length=0
  ·have hbn:Hid (b=[]):=List.eq_nil_of_length_eq_zero hb0;have hnb:¬ (0:Int)<(b.length:Int):=by omega
   have hq:=hM a hca.out Aa ca w3 hg3 hra hla;rw[hbn.out,plI_nil]at hK;replace hb0:=Lib.hid hb0;go_wp2_with (fail);(with_reducible refine hq.out.mono ?_);rintro e w4 ⟨l,A,c,E,rfl,hrl,hgl,-,hb4⟩;have hfin:=Lib.hid (hK.out l hgl);clear hgl hK;go_wp2_with (fail);go_ret;exact⟨l,A,c,rfl,hrl,hfin.out,hb3.trans (hb4.mono hb3.size)⟩
  ·have hnb:(0:Int)<(b.length:Int):=by omega
   have hq:=hD a b (by rw[hcb.out]; omega) Aa Ab ca cb w3 hg3 hra hrb hla hlb;replace hb0:=Lib.hid hb0;go_wp2_with (fail);(with_reducible refine hq.out.mono ?_);rintro e w4 ⟨quo,rem,Aq,cq,Ar,cr,rfl,hoq,hrr,hdi,hb4⟩;have hlt:=hdi.lt;rw[hcb.out]at hlt;have hcr:Hid (canI F.toDesc rem=rem):=hdi.cr;have hK2:Hid (∀ l,GcdI F.toDesc (plI F.toDesc b) (plI F.toDesc rem) l→GcdI F.toDesc (plI F.toDesc p) (plI F.toDesc q) l):=fun l h=>hK.out l (GcdI.step hdi h)
   have hrb4:=(hrb.below hb4).more hb4.size;have hb5:=hb3.trans (hb4.mono hb3.size);clear hdi hK hoq hq;go_wp2_with (fail);go_roundw
   case rel=>exact⟨b,rem,Ab,cb,Ar,cr,rfl,rfl,hrb4,hrr,hcb,hcr,hlb,by omega,hK2,hb5⟩
   case measure=>simp[lenV2]; omega
set_option maxRecDepth 100000 in
set_option maxHeartbeats 4000000 in
theorem gDer_any (F:FD)(p:List Int)(A1:Option Addr)(c1 g:Nat)(w:World)(hg:GF w w.heap.size g F)(hr1:Rd w w.heap.size A1 p)(hl:p.length≤20000) :
  Calls Tryz.prog 167 #[.pointer (some ⟨g,0,none⟩),.slice A1 p.length c1] w (GivesR (derI F.toDesc p) w):=by
 obtain⟨n,hn⟩:∃ n,n=p.length:=⟨_,rfl⟩;by_cases h0:n=0
 ·have hz:Hid (derI F.toDesc p=[]):=by
   have:p=[]:=List.eq_nil_of_length_eq_zero (by omega);rw[this]; rfl
  have hb0:((n:Int)==0)=true:=by rw[beq_iff_eq]; omega
  rw[←hn];replace hn:=Lib.hid hn;replace h0:=Lib.hid h0;go_enter Tryz.func167,Tryz.ntmps167;go_wp2_with (fail);go_ret;rw[hz.out];exact⟨none,0,rfl,Rd.nil,Nat.le_refl _,Nat.zero_le _,fun a e=>(by cases e),Below.refl _ _⟩
 ·obtain⟨m,hm⟩:∃ m,n=m+1:=⟨n - 1,by omega⟩;have hb0:((n:Int)==0)=false:=by rw[beq_eq_false_iff_ne]; omega
  have hw1:IntKind.i64.wrap ((n:Int) - 1)=(m:Int):=by rw[IntWalk.i64_in _ (by omega)]; omega
  have hmk:=mk_ints m (by omega);have hm0:(0:Int)≤(m:Int):=by omega
  have hp2:=F.toDesc.p2;have hp256:=F.toDesc.p256;have hpz:¬ (F.p:Int)=0:=by omega
  have hpz2:¬ F.p=0:=by omega
  have hm2:m≤20000:=by omega
  obtain⟨f,hf⟩:∃ f:Nat→Int,f=fun i=>ci (nsm (i+1) (cfR F.toDesc p (i+1))):=⟨_,rfl⟩
  have hder:Hid (derI F.toDesc p=lst (cdeg f m) f):=by unfold Hid derI canL; rw[←hn,hm,Nat.add_sub_cancel,hf]
  have hFl:=Lib.hid (gField_any F g);have hMu:=fun x y W h=>Lib.hid (gMul_any F x y g W h)
  have hT:=fun A c W h1 h2 h3=>Lib.hid (gTrim_any m f A c W h1 (by omega) h2 h3)
  have hfk:Hid (∀ k:Nat,k<m→ci (eli F.toDesc (((k+1) % F.p:Nat):Int)*eli F.toDesc (p[k+1]?.getD 0))=f k):=fun k _=>by
   rw[eli_mod,hf]
   show ci (nsm (k+1) 1*cfR F.toDesc p (k+1))=ci (nsm (k+1) (cfR F.toDesc p (k+1)))
   rw[←nsm_mul]
  rw[←hn];replace hder:=hder;replace hn:=Lib.hid hn;replace hm:=Lib.hid hm;replace hf:=Lib.hid hf;replace h0:=Lib.hid h0;obtain⟨gd,hgd⟩:∃ gd,gd=w.heap.size:=⟨_,rfl⟩;obtain⟨Y,hY⟩:∃ Y,Y=w.alloc (.cells (Array.replicate m (Value.int .i64 0)) 3):=⟨_,rfl⟩;have hib0:IB Y gd (upd m 0 f):=by rw[hY,hgd,upd_zero]; exact IB.newz w m
  have hbY:Below w.heap.size w Y:=by rw[hY]; exact (Below.refl _ _).alloc (Nat.le_refl _) _
  have hq:=(hFl.out Y ((hg.below hbY).more hbY.size));have hgw:w.heap.size≤gd:=Nat.le_of_eq hgd.symm;replace hq:=Lib.hid hq;replace hY:=Lib.hid hY;clear hFl;go_enter Tryz.func167,Tryz.ntmps167;go_wp2_with (fail);rw[←hY.out];simp only[←hgd];replace hgd:=Lib.hid hgd;(with_reducible refine hq.out.mono ?_);rintro e w1 ⟨A3,c3,rfl,-,-,hb1⟩;have hib1:=hib0.below hb1 hib0.lt;have hB1:=hbY.trans (hb1.mono hbY.size);clear hq hib0 hb1 hbY;have hfd:∀ W:World,(Instr.field 24 (.agg #[.int .i64 F.p,.int .i64 F.m,.slice A3 F.mod.length c3]) 0).run Tryz.prog W=.ok (.int .i64 F.p) W:=fun _=>by kernel_rfl
  go_wp2_with (fail);clear hfd;go_loopw [20,7] (fun iS _ wr=>∃ k:Nat,k≤m∧iS=.int .i64 k∧Hid (IB wr gd (upd m k f))∧Below w.heap.size w wr) (fun iS _ _=>m - (intOf iS).toNat)
  case atStart=>exact⟨0,by omega,rfl,hib1,hB1⟩
  case round =>
   clear hib1 hB1 hmk;obtain⟨w2,rfl⟩:∃ w2:World,w2=wr:=⟨_,rfl⟩;obtain⟨k,hk,rfl,hib,hb2⟩:=hrel;have hgl:=hib.out.lt;by_cases hkm:k<m
   ·have k0:(0:Int)≤(k:Int):=by omega
    have k1:(k:Int)<(m:Int):=by omega
    have k2:(0:Int)≤(k:Int)+1:=by omega
    have k3:(k:Int)+1<(n:Int):=by have:=hm.out; omega
    have kw:IntKind.i64.wrap ((k:Int)+1)=(k:Int)+1:=by rw[IntWalk.i64_in _ (by omega)]
    obtain⟨kp,hkp⟩:∃ kp:Nat,kp=k+1:=⟨_,rfl⟩;have hkpI:(k:Int)+1=(kp:Int):=by omega
    obtain⟨md,hmd⟩:∃ md:Nat,md=(k+1) % F.p:=⟨_,rfl⟩;have ht:(kp:Int).tmod (F.p:Int)=(md:Int):=by rw[Int.tmod_eq_emod_of_nonneg (by omega),hmd,hkp]; rfl
    rw[hkpI]at kw k2 k3;obtain⟨ba,oa,rfl,hba,hca⟩:=hr1.at_ (k:=kp) (by have:=hn.out; have:=hm.out; omega);have hcb:=(hb2.cell (p:=⟨ba,oa+kp,none⟩) hba).trans hca;obtain⟨y,hy⟩:∃ y,y=p[kp]?.getD 0:=⟨_,rfl⟩;rw[←hy]at hcb;have hfk2:=hfk.out k hkm;rw[←hmd,←hkp,←hy]at hfk2;have hbd:Below w2.heap.size w2 w2.drew:=(Below.refl _ w2).drew;have hq:=hMu (md:Int) y w2.drew (((hg.below hb2).more hb2.size).below hbd);replace hq:=hq.out;rw[hfk2]at hq;obtain⟨z,hz⟩:∃ z,z=f k:=⟨_,rfl⟩;rw[←hz]at hq;replace hq:=Lib.hid hq;replace hz:=Lib.hid hz;have hcbd:w2.drew.cell? ⟨ba,oa+kp,none⟩=some (.int .i64 y):=hcb;have hcb':=Lib.hid hcb;clear hca;replace hfk2:=Lib.hid hfk2;replace hkp:=Lib.hid hkp;replace hmd:=Lib.hid hmd;replace hy:=Lib.hid hy;have hbaw:ba<w2.heap.size:=Nat.lt_of_lt_of_le hba hb2.size;go_wp2_with (fail);refine wp_region_held_drew (S:=fun w'=>w'.cell? ⟨ba,oa+kp,none⟩=some (.int .i64 y)) (by kernel_rfl) (by (try dsimp only); exact hcb'.out) (fun hHeld=>?_);refine tk 0 ?_; try simp only[pS]
    refine tk 1 ?_; try simp only[pS]
    refine tk 2 ?_; try simp only[pS]
    refine tk 3 ?_; try simp only[pS]
    refine tk 4 ?_; try simp only[pS]
    refine tk 5 ?_; try simp only[pS]
    refine tk 6 ?_; try simp only[pS]
    refine tk 7 ?_; try simp only[pS]
    refine tk 8 ?_; try simp only[pS]
    refine tk 9 ?_; try simp only[pS]
    refine tk 10 ?_; try simp only[pS]
    refine tk 11 ?_; try simp only[pS]
    refine rd 12 fun K hK=>?_
    go_simp;go_at_call 140;(with_reducible refine (hq).out.mono ?_);rintro e w3 ⟨rfl,hb3⟩;have hib3:=(show IB w2.drew gd (upd m k f) from hib.out).below hb3 hgl;have hcW:=hib3.cell (i:=k) (by rw[upd_length]; exact hkm);have hfW:=hib3.frozen k;have hset:=hib3.set_ k z;rw[hz.out,upd_set,←hz.out]at hset;have hset2:=Lib.hid hset;have hne:gd≠ba:=(by omega);have hbe:=Lib.hid ((hb2.trans ((hbd.trans hb3).mono hb2.size)).setCell (p:=⟨gd,k,none⟩) hgw (.int .i64 z));go_wp2_with (fail);refine hK.out _ _ (by (try dsimp only); exact (hb3.cell (p:=⟨ba,oa+kp,none⟩) hbaw).trans hcb'.out) (fun hHeld=>?_);clear hK K;try simp only[pS]
    refine tk 13 ?_; try simp only[pS]
    refine rd 14 fun K hK=>?_
    go_simp;refine hK.out _ _ (by (try dsimp only); exact (World.cell?_setCell_far _ _ _ _ hne).trans ((hb3.cell (p:=⟨ba,oa+kp,none⟩) hbaw).trans hcb'.out)) (fun hHeld=>?_);clear hK K;try simp only[pS]
    refine wpAnyH_done (by kernel_rfl) ?_ _;go_wp2_with (fail);go_roundw
    case rel=>exact⟨k+1,by omega,by go_num,hset2,hbe.out⟩
    case measure=>simp[intOf]; omega
   ·obtain rfl:k=m:=by omega
    rw[upd_full]at hib;have hq:=hT (some ⟨gd,0,none⟩) k w2 hib.out.rd (Nat.le_refl _) (by unfold maxLen; omega);have hcl:cdeg f k≤k:=cdeg_le f k;have hrd:Hid (Rd w2 w2.heap.size (some ⟨gd,0,none⟩) (lst (cdeg f k) f)):=hib.out.rd.lst_take hcl;go_wp2_with (fail);(with_reducible refine hq.out.mono ?_);rintro e w3 ⟨rfl,rfl⟩;go_wp2_with (fail);go_ret;rw[hder.out];exact⟨some ⟨gd,0,none⟩,k,by rw[lst_length]; rfl,hrd.out,by rw[lst_length]; exact hcl,by unfold maxLen; omega,fun a e=>by cases e; exact hgw,hb2⟩
end Go.Proofs.YtjdoneanohhkmaaGreat

/- Layer 7 of the program: solve. -/
import Derived.Test.YtogfekjbpcfgmaaGreatZtCRowL
import Derived.Test.YtogfekjbpcfgmaaGreatZtCBasL
import Derived.Test.YtogfekjbpcfgmaaGreatZtCTk
namespace Go.Proofs.YtogfekjbpcfgmaaGreat
open Go.RowKit Cw
open CField (inv)
attribute [local go_sem] Oper.semAt_some

section
variable {D:Desc} {w w':World} {L g n m:Nat} {q q':Option Nat} {i b c:Nat} {f:Nat→R D} {M:Nat→Nat→R D}
theorem RowAt.uniq {b' c':Nat} {f':Nat→R D} (h:RowAt w L g m q i b c f)(h':RowAt w L g m q i b' c' f'):b'=b∧c'=c:=by
 have e1:=h.hd;rw[h'.hd]at e1
 injection e1 with e1
 injection e1 with e1 _ e3
 injection e1 with e1
 injection e1 with e1
 exact⟨e1,e3⟩
theorem MP.again (h:MP w L g n m q M)(hi:i<n)(h1:RowAt w L g m q i b c (M i)):MP (w.setCell ⟨g,i,none⟩ (.slice (some ⟨b,0,none⟩) m c)) L g n m q M:=by
 obtain⟨hgl,B,C,h3,h4⟩:=h;refine⟨by simp only[World.setCell,Array.size_modify]; exact hgl,B,C,fun t ht=>?_,h4⟩;by_cases e:t=i
 ·subst e;obtain⟨e1,e2⟩:=h1.uniq (h3 t ht);have h5:=h3 t ht;rw[e1,e2]at h5 ⊢;exact h5.put hgl h5.lt h5.ne h5.nq h5.lo h5.c1 h5.c2 h5.cells
 ·exact (h3 t ht).other e
theorem MP.swap2 {k b' c':Nat} (h:MP w L g n m q M)(hi:i<n)(hk:k<n)(h1:RowAt w L g m q i b c (M i))(h2:RowAt w L g m q k b' c' (M k)) :
  MP ((w.setCell ⟨g,i,none⟩ (.slice (some ⟨b',0,none⟩) m c')).setCell ⟨g,k,none⟩ (.slice (some ⟨b,0,none⟩) m c)) L g n m q (swA i k M):=by
 by_cases e:k=i
 ·subst e;obtain⟨e1,e2⟩:=h1.uniq h2;rw[e1,e2,show swA k k M=M from funext fun t=>by unfold swA; split <;> simp_all];have h3:=h.again hk h1;refine h3.again hk ?_;have h5:=h1.put h.1 h1.lt h1.ne h1.nq h1.lo h1.c1 h1.c2 h1.cells;exact h5
 ·exact h.swap hi hk e h1 h2
end

structure SI (F:FD) (n m:Nat) (M:Nat→Nat→R F.toDesc) (L g:Nat) (w:World) (c:Nat) (Mc:Nat→Nat→R F.toDesc) (wr:World):Prop where
 mp:MP wr L g n m none Mc
 eqv:EqvA n M Mc
 un:UnA n c Mc
 below:Below L w wr
def SolvePost (F:FD)(n:Nat)(M:Nat→Nat→R F.toDesc)(L:Nat)(w:World)(e:Ending)(w':World):Prop :=
 Below L w w'∧((e=.returned (.tuple #[.slice none 0 0,.bool false])∧∃ x,(∃ j,j<n∧x j≠0)∧KerA n M x) ∨
  (∃ b x,e=.returned (.tuple #[.slice (some ⟨b,0,none⟩) n n,.bool true])∧w.heap.size≤b∧IB w' b (rowL F.toDesc n x)∧(∀ y,SolA n M y↔∀ i,i<n→y i=x i)∧∀ y,KerA n M y→∀ i,i<n→y i=0))

set_option maxRecDepth 100000 in
set_option maxHeartbeats 8000000 in
theorem tSolve_any (F:FD)(n m:Nat)(hmn:m=n+1)(M:Nat→Nat→R F.toDesc)(g cl gf L:Nat)(w:World)(hg:GF w L gf F)(hm:MP w L g n m none M)(hL:L≤w.heap.size)(hLg:L≤g)(hn:n≤60000) :
  Calls Tryz.prog 166 #[.pointer (some ⟨gf,0,none⟩),.slice (some ⟨g,0,none⟩) n cl] w (SolvePost F n M L w):=by
 have hIv:=fun y W h=>Lib.hid (gInv_any F y gf W h)
 have hSc:=fun f a A1 c1 W h h1=>Lib.hid (gScale_any F m f a A1 c1 gf W h h1 (by omega))
 have hMl:=fun x y W h=>Lib.hid (gMul_any F x y gf W h)
 have hSb:=fun x y W h=>Lib.hid (gSub_any F x y gf W h)
 have hmk:=mk_ints n (by omega);have hnm:n<m:=by omega
 have hml:m≤60001:=by omega
 replace hmn:=Lib.hid hmn;have hnm2:(n:Int)<(m:Int):=by omega
 go_enter Tryz.func166,Tryz.ntmps166;go_wp2_with (fail);go_loopw [20] (fun cS wr=>∃ (c:Nat) (Mc:Nat→Nat→R F.toDesc),c≤n∧cS=.int .i64 c∧Hid (SI F n m M L g w c Mc wr)) (fun cS _=>n - (intOf cS).toNat)
 case atStart=>exact⟨0,M,by omega,rfl,⟨hm,EqvA.refl _ _,fun j hj=>absurd hj (by omega),Below.refl _ _⟩⟩
 case round =>
  clear hm;obtain⟨w1,rfl⟩:∃ w1:World,w1=wr:=⟨_,rfl⟩;obtain⟨c,Mc,hc,rfl,hsi⟩:=hrel;have hB1:=hsi.out.below;by_cases hlt:c<n
  ·have c0:(0:Int)≤(c:Int):=by omega
   have c1:(c:Int)<(n:Int):=by omega
   have c2:(c:Int)<(m:Int):=by omega
   have hcm:c<m:=by omega
   go_wp2_with (fail);go_loop [8] (fun pS=>∃ p:Nat,c≤p∧p≤n∧pS=.int .i64 p∧Hid (∀ t,c≤t→t<p→Mc t c=0)) (fun pS=>n - (intOf pS).toNat)
   case atStart=>exact⟨c,by omega,by omega,rfl,fun t h1 h2=>absurd h2 (by omega)⟩
   case round =>
    obtain⟨p,hcp,hpn,rfl,hz⟩:=hrel;by_cases hp:p<n
    ·obtain⟨bp,cp,hrp,-⟩:=hsi.out.mp.at_ hp;have hxp:=hrp.hd;have hfp:=hrp.fz;have hyp:=(hrp.cells c hcm).1;have p0:(0:Int)≤(p:Int):=by omega
     have p1:(p:Int)<(n:Int):=by omega
     obtain⟨y,hy⟩:∃ y,y=ci (Mc p c):=⟨_,rfl⟩;rw[←hy]at hyp;by_cases hz2:Mc p c=0
     ·have hyz:(y==0)=true:=by rw[beq_iff_eq,hy]; exact ci_eq_zero.2 hz2
      have hz3:Hid (∀ t,c≤t→t<p+1→Mc t c=0):=fun t h1 h2=>by
       by_cases e:t=p
       ·rw[e]; exact hz2
       ·exact hz.out t h1 (by omega)
      replace hy:=Lib.hid hy;clear hz2 hz hrp hfp;go_wp2_with (fail);go_round
      case rel=>exact⟨p+1,by omega,by omega,by go_num,hz3⟩
      case measure=>simp[intOf]; omega
     ·have hyz:(y==0)=false:=by rw[beq_eq_false_iff_ne,hy]; exact fun e=>hz2 (ci_eq_zero.1 e)
      have hpe:((p:Int)==(n:Int))=false:=by rw[beq_eq_false_iff_ne]; omega
      obtain⟨bc,cc,hrc,-⟩:=hsi.out.mp.at_ hlt;have hxc:=hrc.hd;have hfc:=hrc.fz;obtain⟨w5,hw5⟩:∃ w5,w5=(w1.setCell ⟨g,c,none⟩ (.slice (some ⟨bp,0,none⟩) m cp)).drew:=⟨_,rfl⟩;have hxp5:∃ v,w5.cell? ⟨g,p,none⟩=some v:=by
       rw[hw5];by_cases e:p=c
       ·subst e; exact⟨_,World.cell?_setCell_same _ _ _ hxp⟩
       ·exact⟨_,(hdr_other e).trans hxp⟩
      obtain⟨vp5,hxp5⟩:=hxp5;have hfp5:w5.frozen? ⟨g,p,none⟩=false:=by rw[hw5]; simp[go_sem,hfp]
      obtain⟨w6,hw6⟩:∃ w6,w6=w5.setCell ⟨g,p,none⟩ (.slice (some ⟨bc,0,none⟩) m cc):=⟨_,rfl⟩;have hmp6:Hid (MP w6 L g n m none (swA c p Mc)):=by
       rw[hw6,hw5]; exact (hsi.out.mp.drew.swap2 hlt hp ⟨hrc.hd,hrc.fz,hrc.lt,hrc.ne,hrc.nq,hrc.lo,hrc.c1,hrc.c2,hrc.cells⟩ ⟨hrp.hd,hrp.fz,hrp.lt,hrp.ne,hrp.nq,hrp.lo,hrp.c1,hrp.c2,hrp.cells⟩)
      have hB6:Below L w w6:=by
       rw[hw6,hw5]; exact (hB1.setCell (p:=⟨g,c,none⟩) hLg _).drew.setCell (p:=⟨g,p,none⟩) hLg _
      have hL6:L≤w6.heap.size:=Nat.le_trans hL hB6.size;have heq6:Hid (EqvA n M (swA c p Mc)):=hsi.out.eqv.trans (swA_eqv hlt hp Mc);have hun6:Hid (UnA n c (swA c p Mc)):=hsi.out.un.sw hlt hcp hp;have hpv6:Hid (swA c p Mc c c≠0):=by unfold Hid swA; rw[if_pos rfl]; exact hz2
      replace hw5:=Lib.hid hw5;replace hw6:=Lib.hid hw6;replace hy:=Lib.hid hy;clear hz2 hz hrp hrc hB1;go_wp2_with (fail);refine wp_region_held_drew (S:=fun w'=>True) (by kernel_rfl) (by (try dsimp only); all_goals trivial) (fun hHeld=>?_);refine tk 0 ?_; try simp only[pS]
      refine tk 1 ?_; try simp only[pS]
      refine tk 2 ?_; try simp only[pS]
      refine tk 3 ?_; try simp only[pS]
      refine tk 4 ?_; try simp only[pS]
      refine tk 5 ?_; try simp only[pS]
      refine tk 6 ?_; try simp only[pS]
      refine tk 8 ?_; try simp only[pS]
      refine tk 9 ?_; try simp only[pS]
      refine tk 10 ?_; try simp only[pS]
      refine wpAnyH_ready (rs:=[7,11]) (by kernel_rfl) (by simp) ?_;refine AllReadyH.cons (o:=⟨_,_,_,_,_,_⟩) rfl (fun K hK=>?_) ?_
      ·go_simp;refine hK.out _ _ (by (try dsimp only); all_goals trivial) (fun hHeld=>?_);clear hK K;try simp only[pS]
       refine rd 11 fun K hK=>?_
       go_simp;refine hK.out _ _ (by (try dsimp only); all_goals trivial) (fun hHeld=>?_);clear hK K;try simp only[pS]
       refine tk 12 ?_; try simp only[pS]
       refine rd 13 fun K hK=>?_
       go_simp;rw[←hw5.out];refine hK.out _ _ (by (try dsimp only); all_goals trivial) (fun hHeld=>?_);clear hK K;try simp only[pS]
       refine tk 14 ?_; try simp only[pS]
       refine rd 15 fun K hK=>?_
       go_simp;rw[←hw6.out];refine hK.out _ _ (by (try dsimp only); all_goals trivial) (fun hHeld=>?_);clear hK K;try simp only[pS]
       refine wpAnyH_done (by kernel_rfl) ?_ _;clear hxp hfp hxc hfc hxp5 hfp5 hyp hyz hpe hsi hw5 hw6 hy;generalize swA c p Mc=M6 at *;obtain⟨b7,c7,hr7,-⟩:=hmp6.out.at_ hlt;have hx7:=hr7.hd;have hy7:=(hr7.cells c hcm).1;have hg6:=(hg.below hB6).more hL6;have hIv2:=(hIv (ci (M6 c c)) w6 hg6).out;rw[eli_ci]at hIv2;obtain⟨y7,hy72⟩:∃ y,y=ci (M6 c c):=⟨_,rfl⟩;rw[←hy72]at hy7 hIv2;obtain⟨z7,hz7⟩:∃ z,z=ci (inv (M6 c c)):=⟨_,rfl⟩;rw[←hz7]at hIv2;replace hIv2:=Lib.hid hIv2;replace hy72:=Lib.hid hy72;replace hz7:=Lib.hid hz7;clear hr7;go_wp2_with (fail);(with_reducible refine hIv2.out.mono ?_);rintro e w7 ⟨⟨t7,rfl⟩,hb7⟩;have hmp7:=Lib.hid (hmp6.out.below hb7 (Nat.le_refl _));have hB7:=hB6.trans (hb7.mono hL6);have hL7:L≤w7.heap.size:=Nat.le_trans hL6 hb7.size;obtain⟨b8,c8,hr8,-⟩:=hmp7.out.at_ hlt;have hx8:=hr8.hd;have hSc8:=Lib.hid (hSc (M6 c) z7 (some ⟨b8,0,none⟩) c8 w7 ((hg.below hB7).more hL7) hr8.rd);have hgl7:=hmp7.out.1;have hf8:=hr8.fz;clear hx7 hy7 hr8;go_wp2_with (fail);(with_reducible refine hSc8.out.out.mono ?_);rintro e w8 ⟨g8,rfl,hg8,hib8,hb8⟩;rw[rowL_length];have hx9:=(hb8.cell (p:=⟨g,c,none⟩) hgl7).trans hx8;have hf9:=(hb8.frozen (p:=⟨g,c,none⟩) hgl7).trans hf8;have hmp9:=hmp7.out.putNew hlt hb8 hib8 hg8 hL7 (by simp) (by unfold maxLen; omega);rw[show setR M6 c (fun j=>eli F.toDesc z7*M6 c j)=scA c (inv (M6 c c)) M6 from funext fun t=>funext fun j=>by
        rw[hz7.out,eli_ci]; unfold setR scA; by_cases e:t=c <;> simp[e]]at hmp9
       replace hmp9:=Lib.hid hmp9;have hB9:Below L w (w8.setCell ⟨g,c,none⟩ (.slice (some ⟨g8,0,none⟩) m m)):=(hB7.trans (hb8.mono hL7)).setCell (p:=⟨g,c,none⟩) hLg _;have heq9:Hid (EqvA n M (scA c (inv (M6 c c)) M6)):=heq6.out.trans (scA_eqv (inv_ne_zero hpv6.out) M6);have hun9:Hid (UnA n c (scA c (inv (M6 c c)) M6)):=hun6.out.sc hlt;have hco9:Hid (CoA c 0 (scA c (inv (M6 c c)) M6)):=CoA.zero (scA_piv hpv6.out);clear hx8 hf8 hmp7 hmp6 heq6 hun6 hpv6 hSc8 hIv2 hB7 hB6 hgl7;go_wp2_with (fail);clear hx9 hf9;generalize scA c (inv (M6 c c)) M6=M9 at *;generalize w8.setCell ⟨g,c,none⟩ (.slice (some ⟨g8,0,none⟩) m m)=w9 at *;have hL9:L≤w9.heap.size:=Nat.le_trans hL hB9.size;go_loopw [80] (fun iS wr=>∃ (i:Nat) (Mi:Nat→Nat→R F.toDesc),i≤n∧iS=.int .i64 i∧Hid (SI F n m M L g w c Mi wr)∧Hid (CoA c i Mi)) (fun iS _=>n - (intOf iS).toNat)
       case atStart=>exact⟨0,M9,by omega,rfl,⟨hmp9.out,heq9.out,hun9.out,hB9⟩,hco9⟩
       case round =>
        clear hmp9 heq9 hun9 hco9 hB9 hL9;obtain⟨w2,rfl⟩:∃ w2:World,w2=wr:=⟨_,rfl⟩;obtain⟨i,Mi,hi,rfl,hsi,hco⟩:=hrel;by_cases hin:i<n
        ·have i0:(0:Int)≤(i:Int):=by omega
         have i1:(i:Int)<(n:Int):=by omega
         obtain⟨bi,ci',hri,hput⟩:=hsi.out.mp.at_ hin;have hxi:=hri.hd;have hyi:=(hri.cells c hcm).1;obtain⟨a,ha⟩:∃ a,a=ci (Mi i c):=⟨_,rfl⟩;rw[←ha]at hyi;have hdec:(i=c∨Mi i c=0)∨(i≠c∧Mi i c≠0):=by
          by_cases e1:i=c
          ·exact .inl (.inl e1)
          ·by_cases e2:Mi i c=0
           ·exact .inl (.inr e2)
           ·exact .inr ⟨e1,e2⟩
         rcases hdec with hsk | ⟨hic,hne⟩
         ·have hco2:Hid (CoA c (i+1) Mi):=hco.out.skip hsk;by_cases e1:i=c
          ·have hb1:((i:Int) !=(c:Int))=false:=by rw[bne_eq_false_iff_eq,e1]
           replace e1:=Lib.hid e1;replace ha:=Lib.hid ha;replace hput:=Lib.hid hput;clear hsk hri;go_wp2_with (fail);go_roundw
           case rel=>exact⟨i+1,Mi,by omega,by go_num,hsi,hco2⟩
           case measure=>simp[intOf]; omega
          ·have hb1:((i:Int) !=(c:Int))=true:=by rw[bne_iff_ne]; omega
           have hb2:(a !=0)=false:=by rw[bne_eq_false_iff_eq,ha]; exact ci_eq_zero.2 (hsk.resolve_left e1)
           replace e1:=Lib.hid e1;replace ha:=Lib.hid ha;replace hput:=Lib.hid hput;clear hsk hri;go_wp2_with (fail);go_roundw
           case rel=>exact⟨i+1,Mi,by omega,by go_num,hsi,hco2⟩
           case measure=>simp[intOf]; omega
         ·have hb1:((i:Int) !=(c:Int))=true:=by rw[bne_iff_ne]; omega
          have hb2:(a !=0)=true:=by rw[bne_iff_ne,ha]; exact fun e=>hne (ci_eq_zero.1 e)
          obtain⟨bc,cc,hrc,-⟩:=hsi.out.mp.at_ hlt;have hbb:bc≠bi:=hsi.out.mp.apart hin hlt (fun e=>hic e.symm) hri hrc;have hxc:=hrc.hd;have hbl:=hri.lt;have hbg:=hri.ne;have hlo:=hri.lo;have hgl:=hsi.out.mp.1;have hB2:=hsi.out.below;have hL2:L≤w2.heap.size:=Nat.le_trans hL hB2.size;have hci:Hid (∀ j,j<m→w2.cell? ⟨bi,j,none⟩=some (.int .i64 (ci (Mi i j)))∧w2.frozen? ⟨bi,j,none⟩=false):=hri.cells;have hcc:Hid (∀ j,j<m→w2.cell? ⟨bc,j,none⟩=some (.int .i64 (ci (Mi c j)))):=fun j hj=>(hrc.cells j hj).1
          have heli:Hid (eli F.toDesc a=Mi i c):=by unfold Hid; rw[ha,eli_ci]
          replace ha:=Lib.hid ha;replace hput:=Lib.hid hput;clear hri hrc hne;go_wp2_with (fail);go_loopw [102] (fun jS wr=>∃ j:Nat,j≤m∧jS=.int .i64 j∧Hid (w2.grownBy wr (some bi))∧Hid (∀ t,t<m→wr.cell? ⟨bi,t,none⟩=some (.int .i64 (ci (if t<j then Mi i t - Mi i c*Mi c t else Mi i t)))∧wr.frozen? ⟨bi,t,none⟩=false)) (fun jS _=>m - (intOf jS).toNat)
          case atStart=>exact⟨0,by omega,rfl,World.grownBy.refl _ _,fun t ht=>by rw[if_neg (Nat.not_lt_zero _)]; exact hci.out t ht⟩
          case round =>
           obtain⟨w3,rfl⟩:∃ w3:World,w3=wr:=⟨_,rfl⟩;obtain⟨j,hj,rfl,hgr,hcl⟩:=hrel;by_cases hjm:j<m
           ·have j0:(0:Int)≤(j:Int):=by omega
            have j1:(j:Int)<(m:Int):=by omega
            have hs3:=hgr.out.size;have hbl3:bi<w3.heap.size:=Nat.lt_of_lt_of_le hbl hs3;have hgl3:g<w3.heap.size:=Nat.lt_of_lt_of_le hgl hs3;have hB3:=hB2.trans (grown_below hgr.out hlo hbl);have hL3:L≤w3.heap.size:=Nat.le_trans hL2 hs3;have hxi3:=hgr.out.cell hxi (fun e=>hbg (by injection e with e; exact e.symm));have hxc3:=hgr.out.cell (hcc.out j hjm) (fun e=>hbb (by injection e));obtain⟨hyi3,hfi3⟩:=hcl.out j hjm;rw[if_neg (Nat.lt_irrefl _)]at hyi3;obtain⟨y1,hy1⟩:∃ y,y=ci (Mi i j):=⟨_,rfl⟩;obtain⟨y2,hy2⟩:∃ y,y=ci (Mi c j):=⟨_,rfl⟩;obtain⟨y3,hy3⟩:∃ y,y=ci (Mi i c*Mi c j):=⟨_,rfl⟩;obtain⟨y4,hy4⟩:∃ y,y=ci (Mi i j - Mi i c*Mi c j):=⟨_,rfl⟩;rw[←hy1]at hyi3;rw[←hy2]at hxc3;have hM3:=(hMl a y2 w3.drew ((hg.below hB3).more hL3).drew).out;rw[heli.out,hy2,eli_ci,←hy2,←hy3]at hM3;have hS3:=fun W h=>(hSb y1 y3 W h).out
            rw[hy1,hy3,eli_ci,eli_ci,←hy1,←hy3,←hy4]at hS3;have hg3:=(hg.below hB3).more hL3;replace hM3:=Lib.hid hM3;replace hS3:=fun W h=>Lib.hid (hS3 W h)
            replace hy1:=Lib.hid hy1;replace hy2:=Lib.hid hy2;replace hy3:=Lib.hid hy3;replace hy4:=Lib.hid hy4;have hxi4:=Lib.hid hxi3;go_wp2_with (fail);refine wp_region_held_drew (S:=fun w'=>w'.cell? ⟨g,i,none⟩=some (.slice (some ⟨bi,0,none⟩) m ci')) (by kernel_rfl) (by (try dsimp only); exact hxi4.out) (fun hHeld=>?_);refine tk 0 ?_; try simp only[pS]
            refine tk 1 ?_; try simp only[pS]
            refine tk 2 ?_; try simp only[pS]
            refine tk 3 ?_; try simp only[pS]
            refine tk 4 ?_; try simp only[pS]
            refine tk 5 ?_; try simp only[pS]
            refine tk 6 ?_; try simp only[pS]
            refine tk 7 ?_; try simp only[pS]
            refine tk 8 ?_; try simp only[pS]
            refine tk 9 ?_; try simp only[pS]
            refine tk 10 ?_; try simp only[pS]
            refine tk 11 ?_; try simp only[pS]
            refine tk 13 ?_; try simp only[pS]
            refine tk 14 ?_; try simp only[pS]
            refine tk 15 ?_; try simp only[pS]
            refine wpAnyH_ready (rs:=[12,16]) (by kernel_rfl) (by simp) ?_;refine AllReadyH.cons (o:=⟨_,_,_,_,_,_⟩) rfl (fun K hK=>?_) ?_
            ·go_simp;refine hK.out _ _ (by (try dsimp only); first | exact hxi4.out | exact (hb4.cell (p:=⟨g,i,none⟩) hgl3).trans hxi3) (fun hHeld=>?_);clear hK K;try simp only[pS]
             refine rd 16 fun K hK=>?_
             go_simp;go_at_call 90;(with_reducible refine (hM3).out.mono ?_);rintro e w4 ⟨rfl,hb4⟩;have hyi4:=(hb4.cell (p:=⟨bi,j,none⟩) hbl3).trans hyi3;have hfi4:=(hb4.frozen (p:=⟨bi,j,none⟩) hbl3).trans hfi3;have hs4:w3.heap.size≤w4.heap.size:=hb4.size;have hS4:=Lib.hid (hS3 w4 ((hg3.drew.below hb4).more hb4.size));go_wp2_with (fail);refine hK.out _ _ (by (try dsimp only); exact (hb4.cell (p:=⟨g,i,none⟩) hgl3).trans hxi3) (fun hHeld=>?_);clear hK K;try simp only[pS]
             refine rd 17 fun K hK=>?_
             go_simp;go_at_call 34;(with_reducible refine (hS4.out).out.mono ?_);rintro e w5 ⟨rfl,hb5⟩;have hyi5:=(hb5.cell (p:=⟨bi,j,none⟩) (Nat.lt_of_lt_of_le hbl3 hs4)).trans hyi4;have hfi5:=(hb5.frozen (p:=⟨bi,j,none⟩) (Nat.lt_of_lt_of_le hbl3 hs4)).trans hfi4;go_wp2_with (fail);refine hK.out _ _ (by (try dsimp only); exact (hb5.cell (p:=⟨g,i,none⟩) (Nat.lt_of_lt_of_le hgl3 hs4)).trans ((hb4.cell (p:=⟨g,i,none⟩) hgl3).trans hxi3)) (fun hHeld=>?_);clear hK K;try simp only[pS]
             refine tk 18 ?_; try simp only[pS]
             refine rd 19 fun K hK=>?_
             go_simp;refine hK.out _ _ (by (try dsimp only); exact (World.cell?_setCell_far _ _ _ _ hbg).trans ((hb5.cell (p:=⟨g,i,none⟩) (Nat.lt_of_lt_of_le hgl3 hs4)).trans ((hb4.cell (p:=⟨g,i,none⟩) hgl3).trans hxi3))) (fun hHeld=>?_);clear hK K;try simp only[pS]
             refine wpAnyH_done (by kernel_rfl) ?_ _;have hb35:Below w3.heap.size w3 w5:=((Below.refl w3.heap.size w3).drew.trans hb4).trans (hb5.mono hs4);have hgr6:Hid (w2.grownBy (w5.setCell ⟨bi,j,none⟩ (.int .i64 y4)) (some bi)):=(hgr.out.trans ((below_grown hb35 (Nat.le_refl _)).but _)).trans (grown_set w5 ⟨bi,j,none⟩ _);have hcl6:Hid (∀ t,t<m→(w5.setCell ⟨bi,j,none⟩ (.int .i64 y4)).cell? ⟨bi,t,none⟩=some (.int .i64 (ci (if t<j+1 then Mi i t - Mi i c*Mi c t else Mi i t)))∧(w5.setCell ⟨bi,j,none⟩ (.int .i64 y4)).frozen? ⟨bi,t,none⟩=false):=fun t ht=>by
              obtain⟨h1,h2⟩:=hcl.out t ht;have h1':=(hb35.cell (p:=⟨bi,t,none⟩) hbl3).trans h1;have h2':=(hb35.frozen (p:=⟨bi,t,none⟩) hbl3).trans h2;refine⟨?_,by simp[go_sem,h2']⟩;by_cases e:t=j
              ·subst e;rw[World.cell?_setCell_same _ _ _ h1',if_pos (Nat.lt_succ_self _),hy4.out]
              ·rw[hdr_other e,h1'];by_cases e2:t<j
               ·rw[if_pos e2,if_pos (by omega)]
               ·rw[if_neg e2,if_neg (by omega)]
             clear hyi5 hfi5 hyi4 hfi4 hyi3 hfi3;go_wp2_with (fail);go_roundw
             case rel=>exact⟨j+1,by omega,by go_num,hgr6,hcl6⟩
             case measure=>simp[intOf]; omega
            refine AllReadyH.cons (o:=⟨_,_,_,_,_,_⟩) rfl (fun K hK=>?_) AllReadyH.nil;go_simp;go_at_call 90;(with_reducible refine (hM3).out.mono ?_);rintro e w4 ⟨rfl,hb4⟩;have hyi4:=(hb4.cell (p:=⟨bi,j,none⟩) hbl3).trans hyi3;have hfi4:=(hb4.frozen (p:=⟨bi,j,none⟩) hbl3).trans hfi3;have hs4:w3.heap.size≤w4.heap.size:=hb4.size;have hS4:=Lib.hid (hS3 w4 ((hg3.drew.below hb4).more hb4.size));go_wp2_with (fail);refine hK.out _ _ (by (try dsimp only); exact (hb4.cell (p:=⟨g,i,none⟩) hgl3).trans hxi3) (fun hHeld=>?_);clear hK K;try simp only[pS]
            refine rd 12 fun K hK=>?_
            go_simp;refine hK.out _ _ (by (try dsimp only); first | exact hxi4.out | exact (hb4.cell (p:=⟨g,i,none⟩) hgl3).trans hxi3) (fun hHeld=>?_);clear hK K;try simp only[pS]
            refine rd 17 fun K hK=>?_
            go_simp;go_at_call 34;(with_reducible refine (hS4.out).out.mono ?_);rintro e w5 ⟨rfl,hb5⟩;have hyi5:=(hb5.cell (p:=⟨bi,j,none⟩) (Nat.lt_of_lt_of_le hbl3 hs4)).trans hyi4;have hfi5:=(hb5.frozen (p:=⟨bi,j,none⟩) (Nat.lt_of_lt_of_le hbl3 hs4)).trans hfi4;go_wp2_with (fail);refine hK.out _ _ (by (try dsimp only); exact (hb5.cell (p:=⟨g,i,none⟩) (Nat.lt_of_lt_of_le hgl3 hs4)).trans ((hb4.cell (p:=⟨g,i,none⟩) hgl3).trans hxi3)) (fun hHeld=>?_);clear hK K;try simp only[pS]
            refine tk 18 ?_; try simp only[pS]
            refine rd 19 fun K hK=>?_
            go_simp;refine hK.out _ _ (by (try dsimp only); exact (World.cell?_setCell_far _ _ _ _ hbg).trans ((hb5.cell (p:=⟨g,i,none⟩) (Nat.lt_of_lt_of_le hgl3 hs4)).trans ((hb4.cell (p:=⟨g,i,none⟩) hgl3).trans hxi3))) (fun hHeld=>?_);clear hK K;try simp only[pS]
            refine wpAnyH_done (by kernel_rfl) ?_ _;have hb35:Below w3.heap.size w3 w5:=((Below.refl w3.heap.size w3).drew.trans hb4).trans (hb5.mono hs4);have hgr6:Hid (w2.grownBy (w5.setCell ⟨bi,j,none⟩ (.int .i64 y4)) (some bi)):=(hgr.out.trans ((below_grown hb35 (Nat.le_refl _)).but _)).trans (grown_set w5 ⟨bi,j,none⟩ _);have hcl6:Hid (∀ t,t<m→(w5.setCell ⟨bi,j,none⟩ (.int .i64 y4)).cell? ⟨bi,t,none⟩=some (.int .i64 (ci (if t<j+1 then Mi i t - Mi i c*Mi c t else Mi i t)))∧(w5.setCell ⟨bi,j,none⟩ (.int .i64 y4)).frozen? ⟨bi,t,none⟩=false):=fun t ht=>by
             obtain⟨h1,h2⟩:=hcl.out t ht;have h1':=(hb35.cell (p:=⟨bi,t,none⟩) hbl3).trans h1;have h2':=(hb35.frozen (p:=⟨bi,t,none⟩) hbl3).trans h2;refine⟨?_,by simp[go_sem,h2']⟩;by_cases e:t=j
             ·subst e;rw[World.cell?_setCell_same _ _ _ h1',if_pos (Nat.lt_succ_self _),hy4.out]
             ·rw[hdr_other e,h1'];by_cases e2:t<j
              ·rw[if_pos e2,if_pos (by omega)]
              ·rw[if_neg e2,if_neg (by omega)]
            clear hyi5 hfi5 hyi4 hfi4 hyi3 hfi3;go_wp2_with (fail);go_roundw
            case rel=>exact⟨j+1,by omega,by go_num,hgr6,hcl6⟩
            case measure=>simp[intOf]; omega
           ·obtain rfl:j=m:=by omega
            have hsi2:Hid (SI F n j M L g w c (elA i c (Mi i c) Mi) w3):=by
             have h1:=hput.out w3 (fun t=>Mi i t - Mi i c*Mi c t) hgr.out fun t ht=>by
              have:=hcl.out t ht
              rwa [if_pos ht]at this
             rw[show setR Mi i (fun t=>Mi i t - Mi i c*Mi c t)=elA i c (Mi i c) Mi from funext fun t=>funext fun s=>by
              unfold setR elA; by_cases e:t=i <;> simp[e]]at h1
             exact⟨h1,hsi.out.eqv.trans (elA_eqv hlt hic _ _),hsi.out.un.el hlt,hB2.trans (grown_below hgr.out hlo hbl)⟩
            have hco2:Hid (CoA c (i+1) (elA i c (Mi i c) Mi)):=hco.out.el hic;go_wp2_with (fail);go_roundw
            case rel=>exact⟨i+1,_,by omega,by go_num,hsi2,hco2⟩
            case measure=>simp[intOf]; omega
        ·obtain rfl:i=n:=by omega
         have hsi2:Hid (SI F i m M L g w (c+1) Mi w2):=⟨hsi.out.mp,hsi.out.eqv,hsi.out.un.next hco.out,hsi.out.below⟩;go_wp2_with (fail);go_roundw
         case rel=>exact⟨c+1,_,by omega,by go_num,hsi2⟩
         case measure=>simp[intOf]; omega
      refine AllReadyH.cons (o:=⟨_,_,_,_,_,_⟩) rfl (fun K hK=>?_) AllReadyH.nil;go_simp;refine hK.out _ _ (by (try dsimp only); all_goals trivial) (fun hHeld=>?_);clear hK K;try simp only[pS]
      refine rd 7 fun K hK=>?_
      go_simp;refine hK.out _ _ (by (try dsimp only); all_goals trivial) (fun hHeld=>?_);clear hK K;try simp only[pS]
      refine tk 12 ?_; try simp only[pS]
      refine rd 13 fun K hK=>?_
      go_simp;rw[←hw5.out];refine hK.out _ _ (by (try dsimp only); all_goals trivial) (fun hHeld=>?_);clear hK K;try simp only[pS]
      refine tk 14 ?_; try simp only[pS]
      refine rd 15 fun K hK=>?_
      go_simp;rw[←hw6.out];refine hK.out _ _ (by (try dsimp only); all_goals trivial) (fun hHeld=>?_);clear hK K;try simp only[pS]
      refine wpAnyH_done (by kernel_rfl) ?_ _;clear hxp hfp hxc hfc hxp5 hfp5 hyp hyz hpe hsi hw5 hw6 hy;generalize swA c p Mc=M6 at *;obtain⟨b7,c7,hr7,-⟩:=hmp6.out.at_ hlt;have hx7:=hr7.hd;have hy7:=(hr7.cells c hcm).1;have hg6:=(hg.below hB6).more hL6;have hIv2:=(hIv (ci (M6 c c)) w6 hg6).out;rw[eli_ci]at hIv2;obtain⟨y7,hy72⟩:∃ y,y=ci (M6 c c):=⟨_,rfl⟩;rw[←hy72]at hy7 hIv2;obtain⟨z7,hz7⟩:∃ z,z=ci (inv (M6 c c)):=⟨_,rfl⟩;rw[←hz7]at hIv2;replace hIv2:=Lib.hid hIv2;replace hy72:=Lib.hid hy72;replace hz7:=Lib.hid hz7;clear hr7;go_wp2_with (fail);(with_reducible refine hIv2.out.mono ?_);rintro e w7 ⟨⟨t7,rfl⟩,hb7⟩;have hmp7:=Lib.hid (hmp6.out.below hb7 (Nat.le_refl _));have hB7:=hB6.trans (hb7.mono hL6);have hL7:L≤w7.heap.size:=Nat.le_trans hL6 hb7.size;obtain⟨b8,c8,hr8,-⟩:=hmp7.out.at_ hlt;have hx8:=hr8.hd;have hSc8:=Lib.hid (hSc (M6 c) z7 (some ⟨b8,0,none⟩) c8 w7 ((hg.below hB7).more hL7) hr8.rd);have hgl7:=hmp7.out.1;have hf8:=hr8.fz;clear hx7 hy7 hr8;go_wp2_with (fail);(with_reducible refine hSc8.out.out.mono ?_);rintro e w8 ⟨g8,rfl,hg8,hib8,hb8⟩;rw[rowL_length];have hx9:=(hb8.cell (p:=⟨g,c,none⟩) hgl7).trans hx8;have hf9:=(hb8.frozen (p:=⟨g,c,none⟩) hgl7).trans hf8;have hmp9:=hmp7.out.putNew hlt hb8 hib8 hg8 hL7 (by simp) (by unfold maxLen; omega);rw[show setR M6 c (fun j=>eli F.toDesc z7*M6 c j)=scA c (inv (M6 c c)) M6 from funext fun t=>funext fun j=>by
       rw[hz7.out,eli_ci]; unfold setR scA; by_cases e:t=c <;> simp[e]]at hmp9
      replace hmp9:=Lib.hid hmp9;have hB9:Below L w (w8.setCell ⟨g,c,none⟩ (.slice (some ⟨g8,0,none⟩) m m)):=(hB7.trans (hb8.mono hL7)).setCell (p:=⟨g,c,none⟩) hLg _;have heq9:Hid (EqvA n M (scA c (inv (M6 c c)) M6)):=heq6.out.trans (scA_eqv (inv_ne_zero hpv6.out) M6);have hun9:Hid (UnA n c (scA c (inv (M6 c c)) M6)):=hun6.out.sc hlt;have hco9:Hid (CoA c 0 (scA c (inv (M6 c c)) M6)):=CoA.zero (scA_piv hpv6.out);clear hx8 hf8 hmp7 hmp6 heq6 hun6 hpv6 hSc8 hIv2 hB7 hB6 hgl7;go_wp2_with (fail);clear hx9 hf9;generalize scA c (inv (M6 c c)) M6=M9 at *;generalize w8.setCell ⟨g,c,none⟩ (.slice (some ⟨g8,0,none⟩) m m)=w9 at *;have hL9:L≤w9.heap.size:=Nat.le_trans hL hB9.size;go_loopw [80] (fun iS wr=>∃ (i:Nat) (Mi:Nat→Nat→R F.toDesc),i≤n∧iS=.int .i64 i∧Hid (SI F n m M L g w c Mi wr)∧Hid (CoA c i Mi)) (fun iS _=>n - (intOf iS).toNat)
      case atStart=>exact⟨0,M9,by omega,rfl,⟨hmp9.out,heq9.out,hun9.out,hB9⟩,hco9⟩
      case round =>
       clear hmp9 heq9 hun9 hco9 hB9 hL9;obtain⟨w2,rfl⟩:∃ w2:World,w2=wr:=⟨_,rfl⟩;obtain⟨i,Mi,hi,rfl,hsi,hco⟩:=hrel;by_cases hin:i<n
       ·have i0:(0:Int)≤(i:Int):=by omega
        have i1:(i:Int)<(n:Int):=by omega
        obtain⟨bi,ci',hri,hput⟩:=hsi.out.mp.at_ hin;have hxi:=hri.hd;have hyi:=(hri.cells c hcm).1;obtain⟨a,ha⟩:∃ a,a=ci (Mi i c):=⟨_,rfl⟩;rw[←ha]at hyi;have hdec:(i=c∨Mi i c=0)∨(i≠c∧Mi i c≠0):=by
         by_cases e1:i=c
         ·exact .inl (.inl e1)
         ·by_cases e2:Mi i c=0
          ·exact .inl (.inr e2)
          ·exact .inr ⟨e1,e2⟩
        rcases hdec with hsk | ⟨hic,hne⟩
        ·have hco2:Hid (CoA c (i+1) Mi):=hco.out.skip hsk;by_cases e1:i=c
         ·have hb1:((i:Int) !=(c:Int))=false:=by rw[bne_eq_false_iff_eq,e1]
          replace e1:=Lib.hid e1;replace ha:=Lib.hid ha;replace hput:=Lib.hid hput;clear hsk hri;go_wp2_with (fail);go_roundw
          case rel=>exact⟨i+1,Mi,by omega,by go_num,hsi,hco2⟩
          case measure=>simp[intOf]; omega
         ·have hb1:((i:Int) !=(c:Int))=true:=by rw[bne_iff_ne]; omega
          have hb2:(a !=0)=false:=by rw[bne_eq_false_iff_eq,ha]; exact ci_eq_zero.2 (hsk.resolve_left e1)
          replace e1:=Lib.hid e1;replace ha:=Lib.hid ha;replace hput:=Lib.hid hput;clear hsk hri;go_wp2_with (fail);go_roundw
          case rel=>exact⟨i+1,Mi,by omega,by go_num,hsi,hco2⟩
          case measure=>simp[intOf]; omega
        ·have hb1:((i:Int) !=(c:Int))=true:=by rw[bne_iff_ne]; omega
         have hb2:(a !=0)=true:=by rw[bne_iff_ne,ha]; exact fun e=>hne (ci_eq_zero.1 e)
         obtain⟨bc,cc,hrc,-⟩:=hsi.out.mp.at_ hlt;have hbb:bc≠bi:=hsi.out.mp.apart hin hlt (fun e=>hic e.symm) hri hrc;have hxc:=hrc.hd;have hbl:=hri.lt;have hbg:=hri.ne;have hlo:=hri.lo;have hgl:=hsi.out.mp.1;have hB2:=hsi.out.below;have hL2:L≤w2.heap.size:=Nat.le_trans hL hB2.size;have hci:Hid (∀ j,j<m→w2.cell? ⟨bi,j,none⟩=some (.int .i64 (ci (Mi i j)))∧w2.frozen? ⟨bi,j,none⟩=false):=hri.cells;have hcc:Hid (∀ j,j<m→w2.cell? ⟨bc,j,none⟩=some (.int .i64 (ci (Mi c j)))):=fun j hj=>(hrc.cells j hj).1
         have heli:Hid (eli F.toDesc a=Mi i c):=by unfold Hid; rw[ha,eli_ci]
         replace ha:=Lib.hid ha;replace hput:=Lib.hid hput;clear hri hrc hne;go_wp2_with (fail);go_loopw [102] (fun jS wr=>∃ j:Nat,j≤m∧jS=.int .i64 j∧Hid (w2.grownBy wr (some bi))∧Hid (∀ t,t<m→wr.cell? ⟨bi,t,none⟩=some (.int .i64 (ci (if t<j then Mi i t - Mi i c*Mi c t else Mi i t)))∧wr.frozen? ⟨bi,t,none⟩=false)) (fun jS _=>m - (intOf jS).toNat)
         case atStart=>exact⟨0,by omega,rfl,World.grownBy.refl _ _,fun t ht=>by rw[if_neg (Nat.not_lt_zero _)]; exact hci.out t ht⟩
         case round =>
          obtain⟨w3,rfl⟩:∃ w3:World,w3=wr:=⟨_,rfl⟩;obtain⟨j,hj,rfl,hgr,hcl⟩:=hrel;by_cases hjm:j<m
          ·have j0:(0:Int)≤(j:Int):=by omega
           have j1:(j:Int)<(m:Int):=by omega
           have hs3:=hgr.out.size;have hbl3:bi<w3.heap.size:=Nat.lt_of_lt_of_le hbl hs3;have hgl3:g<w3.heap.size:=Nat.lt_of_lt_of_le hgl hs3;have hB3:=hB2.trans (grown_below hgr.out hlo hbl);have hL3:L≤w3.heap.size:=Nat.le_trans hL2 hs3;have hxi3:=hgr.out.cell hxi (fun e=>hbg (by injection e with e; exact e.symm));have hxc3:=hgr.out.cell (hcc.out j hjm) (fun e=>hbb (by injection e));obtain⟨hyi3,hfi3⟩:=hcl.out j hjm;rw[if_neg (Nat.lt_irrefl _)]at hyi3;obtain⟨y1,hy1⟩:∃ y,y=ci (Mi i j):=⟨_,rfl⟩;obtain⟨y2,hy2⟩:∃ y,y=ci (Mi c j):=⟨_,rfl⟩;obtain⟨y3,hy3⟩:∃ y,y=ci (Mi i c*Mi c j):=⟨_,rfl⟩;obtain⟨y4,hy4⟩:∃ y,y=ci (Mi i j - Mi i c*Mi c j):=⟨_,rfl⟩;rw[←hy1]at hyi3;rw[←hy2]at hxc3;have hM3:=(hMl a y2 w3.drew ((hg.below hB3).more hL3).drew).out;rw[heli.out,hy2,eli_ci,←hy2,←hy3]at hM3;have hS3:=fun W h=>(hSb y1 y3 W h).out
           rw[hy1,hy3,eli_ci,eli_ci,←hy1,←hy3,←hy4]at hS3;have hg3:=(hg.below hB3).more hL3;replace hM3:=Lib.hid hM3;replace hS3:=fun W h=>Lib.hid (hS3 W h)
           replace hy1:=Lib.hid hy1;replace hy2:=Lib.hid hy2;replace hy3:=Lib.hid hy3;replace hy4:=Lib.hid hy4;have hxi4:=Lib.hid hxi3;go_wp2_with (fail);refine wp_region_held_drew (S:=fun w'=>w'.cell? ⟨g,i,none⟩=some (.slice (some ⟨bi,0,none⟩) m ci')) (by kernel_rfl) (by (try dsimp only); exact hxi4.out) (fun hHeld=>?_);refine tk 0 ?_; try simp only[pS]
           refine tk 1 ?_; try simp only[pS]
           refine tk 2 ?_; try simp only[pS]
           refine tk 3 ?_; try simp only[pS]
           refine tk 4 ?_; try simp only[pS]
           refine tk 5 ?_; try simp only[pS]
           refine tk 6 ?_; try simp only[pS]
           refine tk 7 ?_; try simp only[pS]
           refine tk 8 ?_; try simp only[pS]
           refine tk 9 ?_; try simp only[pS]
           refine tk 10 ?_; try simp only[pS]
           refine tk 11 ?_; try simp only[pS]
           refine tk 13 ?_; try simp only[pS]
           refine tk 14 ?_; try simp only[pS]
           refine tk 15 ?_; try simp only[pS]
           refine wpAnyH_ready (rs:=[12,16]) (by kernel_rfl) (by simp) ?_;refine AllReadyH.cons (o:=⟨_,_,_,_,_,_⟩) rfl (fun K hK=>?_) ?_
           ·go_simp;refine hK.out _ _ (by (try dsimp only); first | exact hxi4.out | exact (hb4.cell (p:=⟨g,i,none⟩) hgl3).trans hxi3) (fun hHeld=>?_);clear hK K;try simp only[pS]
            refine rd 16 fun K hK=>?_
            go_simp;go_at_call 90;(with_reducible refine (hM3).out.mono ?_);rintro e w4 ⟨rfl,hb4⟩;have hyi4:=(hb4.cell (p:=⟨bi,j,none⟩) hbl3).trans hyi3;have hfi4:=(hb4.frozen (p:=⟨bi,j,none⟩) hbl3).trans hfi3;have hs4:w3.heap.size≤w4.heap.size:=hb4.size;have hS4:=Lib.hid (hS3 w4 ((hg3.drew.below hb4).more hb4.size));go_wp2_with (fail);refine hK.out _ _ (by (try dsimp only); exact (hb4.cell (p:=⟨g,i,none⟩) hgl3).trans hxi3) (fun hHeld=>?_);clear hK K;try simp only[pS]
            refine rd 17 fun K hK=>?_
            go_simp;go_at_call 34;(with_reducible refine (hS4.out).out.mono ?_);rintro e w5 ⟨rfl,hb5⟩;have hyi5:=(hb5.cell (p:=⟨bi,j,none⟩) (Nat.lt_of_lt_of_le hbl3 hs4)).trans hyi4;have hfi5:=(hb5.frozen (p:=⟨bi,j,none⟩) (Nat.lt_of_lt_of_le hbl3 hs4)).trans hfi4;go_wp2_with (fail);refine hK.out _ _ (by (try dsimp only); exact (hb5.cell (p:=⟨g,i,none⟩) (Nat.lt_of_lt_of_le hgl3 hs4)).trans ((hb4.cell (p:=⟨g,i,none⟩) hgl3).trans hxi3)) (fun hHeld=>?_);clear hK K;try simp only[pS]
            refine tk 18 ?_; try simp only[pS]
            refine rd 19 fun K hK=>?_
            go_simp;refine hK.out _ _ (by (try dsimp only); exact (World.cell?_setCell_far _ _ _ _ hbg).trans ((hb5.cell (p:=⟨g,i,none⟩) (Nat.lt_of_lt_of_le hgl3 hs4)).trans ((hb4.cell (p:=⟨g,i,none⟩) hgl3).trans hxi3))) (fun hHeld=>?_);clear hK K;try simp only[pS]
            refine wpAnyH_done (by kernel_rfl) ?_ _;have hb35:Below w3.heap.size w3 w5:=((Below.refl w3.heap.size w3).drew.trans hb4).trans (hb5.mono hs4);have hgr6:Hid (w2.grownBy (w5.setCell ⟨bi,j,none⟩ (.int .i64 y4)) (some bi)):=(hgr.out.trans ((below_grown hb35 (Nat.le_refl _)).but _)).trans (grown_set w5 ⟨bi,j,none⟩ _);have hcl6:Hid (∀ t,t<m→(w5.setCell ⟨bi,j,none⟩ (.int .i64 y4)).cell? ⟨bi,t,none⟩=some (.int .i64 (ci (if t<j+1 then Mi i t - Mi i c*Mi c t else Mi i t)))∧(w5.setCell ⟨bi,j,none⟩ (.int .i64 y4)).frozen? ⟨bi,t,none⟩=false):=fun t ht=>by
             obtain⟨h1,h2⟩:=hcl.out t ht;have h1':=(hb35.cell (p:=⟨bi,t,none⟩) hbl3).trans h1;have h2':=(hb35.frozen (p:=⟨bi,t,none⟩) hbl3).trans h2;refine⟨?_,by simp[go_sem,h2']⟩;by_cases e:t=j
             ·subst e;rw[World.cell?_setCell_same _ _ _ h1',if_pos (Nat.lt_succ_self _),hy4.out]
             ·rw[hdr_other e,h1'];by_cases e2:t<j
              ·rw[if_pos e2,if_pos (by omega)]
              ·rw[if_neg e2,if_neg (by omega)]
            clear hyi5 hfi5 hyi4 hfi4 hyi3 hfi3;go_wp2_with (fail);go_roundw
            case rel=>exact⟨j+1,by omega,by go_num,hgr6,hcl6⟩
            case measure=>simp[intOf]; omega
           refine AllReadyH.cons (o:=⟨_,_,_,_,_,_⟩) rfl (fun K hK=>?_) AllReadyH.nil;go_simp;go_at_call 90;(with_reducible refine (hM3).out.mono ?_);rintro e w4 ⟨rfl,hb4⟩;have hyi4:=(hb4.cell (p:=⟨bi,j,none⟩) hbl3).trans hyi3;have hfi4:=(hb4.frozen (p:=⟨bi,j,none⟩) hbl3).trans hfi3;have hs4:w3.heap.size≤w4.heap.size:=hb4.size;have hS4:=Lib.hid (hS3 w4 ((hg3.drew.below hb4).more hb4.size));go_wp2_with (fail);refine hK.out _ _ (by (try dsimp only); exact (hb4.cell (p:=⟨g,i,none⟩) hgl3).trans hxi3) (fun hHeld=>?_);clear hK K;try simp only[pS]
           refine rd 12 fun K hK=>?_
           go_simp;refine hK.out _ _ (by (try dsimp only); first | exact hxi4.out | exact (hb4.cell (p:=⟨g,i,none⟩) hgl3).trans hxi3) (fun hHeld=>?_);clear hK K;try simp only[pS]
           refine rd 17 fun K hK=>?_
           go_simp;go_at_call 34;(with_reducible refine (hS4.out).out.mono ?_);rintro e w5 ⟨rfl,hb5⟩;have hyi5:=(hb5.cell (p:=⟨bi,j,none⟩) (Nat.lt_of_lt_of_le hbl3 hs4)).trans hyi4;have hfi5:=(hb5.frozen (p:=⟨bi,j,none⟩) (Nat.lt_of_lt_of_le hbl3 hs4)).trans hfi4;go_wp2_with (fail);refine hK.out _ _ (by (try dsimp only); exact (hb5.cell (p:=⟨g,i,none⟩) (Nat.lt_of_lt_of_le hgl3 hs4)).trans ((hb4.cell (p:=⟨g,i,none⟩) hgl3).trans hxi3)) (fun hHeld=>?_);clear hK K;try simp only[pS]
           refine tk 18 ?_; try simp only[pS]
           refine rd 19 fun K hK=>?_
           go_simp;refine hK.out _ _ (by (try dsimp only); exact (World.cell?_setCell_far _ _ _ _ hbg).trans ((hb5.cell (p:=⟨g,i,none⟩) (Nat.lt_of_lt_of_le hgl3 hs4)).trans ((hb4.cell (p:=⟨g,i,none⟩) hgl3).trans hxi3))) (fun hHeld=>?_);clear hK K;try simp only[pS]
           refine wpAnyH_done (by kernel_rfl) ?_ _;have hb35:Below w3.heap.size w3 w5:=((Below.refl w3.heap.size w3).drew.trans hb4).trans (hb5.mono hs4);have hgr6:Hid (w2.grownBy (w5.setCell ⟨bi,j,none⟩ (.int .i64 y4)) (some bi)):=(hgr.out.trans ((below_grown hb35 (Nat.le_refl _)).but _)).trans (grown_set w5 ⟨bi,j,none⟩ _);have hcl6:Hid (∀ t,t<m→(w5.setCell ⟨bi,j,none⟩ (.int .i64 y4)).cell? ⟨bi,t,none⟩=some (.int .i64 (ci (if t<j+1 then Mi i t - Mi i c*Mi c t else Mi i t)))∧(w5.setCell ⟨bi,j,none⟩ (.int .i64 y4)).frozen? ⟨bi,t,none⟩=false):=fun t ht=>by
            obtain⟨h1,h2⟩:=hcl.out t ht;have h1':=(hb35.cell (p:=⟨bi,t,none⟩) hbl3).trans h1;have h2':=(hb35.frozen (p:=⟨bi,t,none⟩) hbl3).trans h2;refine⟨?_,by simp[go_sem,h2']⟩;by_cases e:t=j
            ·subst e;rw[World.cell?_setCell_same _ _ _ h1',if_pos (Nat.lt_succ_self _),hy4.out]
            ·rw[hdr_other e,h1'];by_cases e2:t<j
             ·rw[if_pos e2,if_pos (by omega)]
             ·rw[if_neg e2,if_neg (by omega)]
           clear hyi5 hfi5 hyi4 hfi4 hyi3 hfi3;go_wp2_with (fail);go_roundw
           case rel=>exact⟨j+1,by omega,by go_num,hgr6,hcl6⟩
           case measure=>simp[intOf]; omega
          ·obtain rfl:j=m:=by omega
           have hsi2:Hid (SI F n j M L g w c (elA i c (Mi i c) Mi) w3):=by
            have h1:=hput.out w3 (fun t=>Mi i t - Mi i c*Mi c t) hgr.out fun t ht=>by
             have:=hcl.out t ht
             rwa [if_pos ht]at this
            rw[show setR Mi i (fun t=>Mi i t - Mi i c*Mi c t)=elA i c (Mi i c) Mi from funext fun t=>funext fun s=>by
             unfold setR elA; by_cases e:t=i <;> simp[e]]at h1
            exact⟨h1,hsi.out.eqv.trans (elA_eqv hlt hic _ _),hsi.out.un.el hlt,hB2.trans (grown_below hgr.out hlo hbl)⟩
           have hco2:Hid (CoA c (i+1) (elA i c (Mi i c) Mi)):=hco.out.el hic;go_wp2_with (fail);go_roundw
           case rel=>exact⟨i+1,_,by omega,by go_num,hsi2,hco2⟩
           case measure=>simp[intOf]; omega
       ·obtain rfl:i=n:=by omega
        have hsi2:Hid (SI F i m M L g w (c+1) Mi w2):=⟨hsi.out.mp,hsi.out.eqv,hsi.out.un.next hco.out,hsi.out.below⟩;go_wp2_with (fail);go_roundw
        case rel=>exact⟨c+1,_,by omega,by go_num,hsi2⟩
        case measure=>simp[intOf]; omega
    ·obtain rfl:p=n:=by omega
     have hfin:Hid (SolvePost F p M L w (.returned (.tuple #[.slice none 0 0,.bool false])) w1):=⟨hB1,.inl ⟨rfl,by
      obtain⟨x,h1,h2⟩:=no_piv hsi.out.un hlt (fun t h1 h2=>hz.out t h1 h2);exact⟨x,h1,(hsi.out.eqv.2 x).2 h2⟩⟩⟩
     go_wp2_with (fail);go_ret2;exact hfin.out
  ·obtain rfl:c=n:=by omega
   obtain⟨f,hf⟩:∃ f:Nat→Int,f=fun i=>ci (Mc i c):=⟨_,rfl⟩
   obtain⟨gb,hgb⟩:∃ gb,gb=w1.heap.size:=⟨_,rfl⟩;obtain⟨Y,hY⟩:∃ Y,Y=w1.alloc (.cells (Array.replicate c (Value.int .i64 0)) 3):=⟨_,rfl⟩;have hib:IB Y gb (upd c 0 f):=by rw[upd_zero,hY,hgb]; exact IB.newz w1 c
   have hbY:Below w1.heap.size w1 Y:=by rw[hY]; exact (Below.refl _ _).alloc (Nat.le_refl _) _
   have hgw:w1.heap.size≤gb:=Nat.le_of_eq hgb.symm;have hL1:L≤w1.heap.size:=Nat.le_trans hL hB1.size;have hwg:w.heap.size≤gb:=Nat.le_trans hB1.size hgw;replace hY:=Lib.hid hY;go_wp2_with (fail);rw[←hY.out];simp only[←hgb];replace hgb:=Lib.hid hgb;replace hf:=Lib.hid hf;go_loopw [133] (fun iS wr=>∃ i:Nat,i≤c∧iS=.int .i64 i∧Hid (IB wr gb (upd c i f))∧Below w1.heap.size w1 wr) (fun iS _=>c - (intOf iS).toNat)
   case atStart=>exact⟨0,by omega,rfl,hib,hbY⟩
   case round =>
    clear hib hbY hY;obtain⟨w2,rfl⟩:∃ w2:World,w2=wr:=⟨_,rfl⟩;obtain⟨i,hi,rfl,hib,hbw⟩:=hrel;by_cases hic:i<c
    ·have i0:(0:Int)≤(i:Int):=by omega
     have i1:(i:Int)<(c:Int):=by omega
     have cc0:(0:Int)≤(c:Int):=by omega
     obtain⟨bi,ci',hri,-⟩:=(hsi.out.mp.below hbw (Nat.le_refl _)).at_ hic;have hxi:=hri.hd;have hyi:=(hri.cells c hnm).1;obtain⟨y,hy⟩:∃ y,y=f i:=⟨_,rfl⟩;rw[show ci (Mc i c)=f i from by rw[hf.out],←hy]at hyi;have hkk:i<(upd c i f).length:=by rw[upd_length]; exact hic
     have hcW:=hib.out.cell hkk;have hfW:=hib.out.frozen i;have hset:=hib.out.set_ i y;rw[hy,upd_set]at hset;replace hset:=Lib.hid hset;have hb3:Hid (Below w1.heap.size w1 (w2.setCell ⟨gb,i,none⟩ (.int .i64 y))):=hbw.setCell (p:=⟨gb,i,none⟩) hgw _;rw[←hy]at hset;replace hy:=Lib.hid hy;clear hkk hri;go_wp2_with (fail);go_roundw
     case rel=>exact⟨i+1,by omega,by go_num,hset,hb3.out⟩
     case measure=>simp[intOf]; omega
    ·obtain rfl:i=c:=by omega
     rw[upd_full]at hib;have hfin:Hid (SolvePost F i M L w (.returned (.tuple #[.slice (some ⟨gb,0,none⟩) i i,.bool true])) w2) :=
      ⟨hB1.trans (hbw.mono hL1),.inr ⟨gb,fun t=>Mc t i,rfl,hwg,by have:=hib.out; rw[hf.out]at this; exact this,
       fun y=>(hsi.out.eqv.1 y).trans (hsi.out.un.sol y),fun y hk=>hsi.out.un.ker ((hsi.out.eqv.2 y).1 hk)⟩⟩
     go_wp2_with (fail);go_ret2;exact hfin.out
end Go.Proofs.YtogfekjbpcfgmaaGreat

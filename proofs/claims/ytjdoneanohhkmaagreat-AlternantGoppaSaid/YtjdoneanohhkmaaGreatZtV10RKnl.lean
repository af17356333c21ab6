/- Layer 19 of the program: the code of the words whose images meet all checks (kernel). -/
import Derived.Test.YtjdoneanohhkmaaGreatZtV10RSysW
import Derived.Test.YtjdoneanohhkmaaGreatZtV10RNorW
import Derived.Test.YtjdoneanohhkmaaGreatZtV10RGopP
import Derived.Test.YtjdoneanohhkmaaGreatZtV10RGopW
import Derived.Test.YtjdoneanohhkmaaGreatZtV10RKer
import Derived.Test.YtjdoneanohhkmaaGreatZtV10RAlvP
import Derived.Test.YtjdoneanohhkmaaGreatZtV10RMI
import Derived.Test.YtjdoneanohhkmaaGreatZtV10RTk
namespace Go.Proofs.YtjdoneanohhkmaaGreat
open Go.RowKit Cw
attribute [local go_sem] Oper.semAt_some

noncomputable def midG {D:Desc} (Lm:Nat→Nat→R D)(j i:Nat):Nat→Nat→R D:=fun r t=>if t<j∨(t=j∧r<i) then Lm r t else 0
theorem midG_zero {D:Desc} (Lm:Nat→Nat→R D):midG Lm 0 0=fun _ _=>0:=funext fun r=>funext fun t=>if_neg (by omega)
theorem midG_next {D:Desc} (Lm:Nat→Nat→R D){j n r:Nat} (hr:r<n)(t:Nat):midG Lm j n r t=midG Lm (j+1) 0 r t:=by
 unfold midG;exact ite_iff (by omega)
theorem midG_congr {D:Desc} {Lm Lm':Nat→Nat→R D} {j:Nat} (h:∀ r t,t<j→Lm r t=Lm' r t):midG Lm j 0=midG Lm' j 0:=funext fun r=>funext fun t=>by
 unfold midG;by_cases e:t<j∨(t=j∧r<0)
 ·rw[if_pos e,if_pos e,h r t (by omega)]
 ·rw[if_neg e,if_neg e]
theorem midG_set {D:Desc} (Lm:Nat→Nat→R D)(j i:Nat):setR (midG Lm j i) i (fun t=>if t=j then Lm i j else midG Lm j i i t)=midG Lm j (i+1):=funext fun r=>funext fun t=>by
 unfold setR;by_cases e:r=i
 ·rw[if_pos e];by_cases e2:t=j
  ·rw[if_pos e2]; unfold midG; rw[if_pos (.inr ⟨e2,by omega⟩),e,e2]
  ·rw[if_neg e2,e]; unfold midG;exact ite_iff (by omega)
 ·rw[if_neg e];unfold midG;exact ite_iff (by omega)
def CrdOK (S F:FD)(n j:Nat)(b:Nat→R F.toDesc)(c:Nat→Nat→R F.toDesc)(h:Nat→R F.toDesc):Prop:=∀ t,t<j→(∀ i,i<n→InSub S.m (c t i))∧rsum n (fun i=>c t i*b i)=h t
theorem CrdOK.step {S F:FD} {n j:Nat} {b:Nat→R F.toDesc} {c:Nat→Nat→R F.toDesc} {h:Nat→R F.toDesc} (hc:CrdOK S F n j b c h){c':Nat→R F.toDesc} (h1:∀ i,i<n→InSub S.m (c' i))(h2:rsum n (fun i=>c' i*b i)=h j) :
  CrdOK S F n (j+1) b (fun t=>if t=j then c' else c t) h:=fun t ht=>by
 dsimp only;by_cases e:t=j
 ·rw[if_pos e,e]; exact⟨h1,h2⟩
 ·rw[if_neg e]; exact hc t (by omega)
def KnlPost (S F:FD)(r:R F.toDesc)(n N t:Nat)(h:Nat→Nat→R F.toDesc)(w:World)(e:Ending)(w':World):Prop :=
 ∃ (k:Nat) (C:Nat→Nat→R S.toDesc) (A3:Option Addr) (c3:Nat) (Al:Option Addr),e=.returned (.tuple #[.agg #[.int .i64 S.p,.int .i64 S.m,.slice A3 S.mod.length c3,.int .i64 N,.slice Al k k],.int .i64 0]) ∧
  VC S.p S.m N (modL S.toDesc) k (rowsL S.toDesc N C) S N C∧(∀ u,Span k N C u↔Meets S F r N t h u)∧N≤k+t*n∧Rd w' w'.heap.size A3 (modL S.toDesc)∧(∀ b,A3=some b→w.heap.size≤b.block)∧RdMU w' w.heap.size w'.heap.size Al k (rowsL S.toDesc N C)∧Below w.heap.size w w'
set_option maxRecDepth 100000 in
set_option maxHeartbeats 16000000 in
theorem aKernel_any (S F:FD)(rt k0 n L g gb N t:Nat)(h:Nat→Nat→R F.toDesc)(A Ab Ar:Option Addr)(c cb cr:Nat)(w:World)(hpr:PairAt S F rt k0 n L g gb Ab w w.heap.size)(hr:Rd w w.heap.size A (modL S.toDesc))(hS:Good S.p S.m (modL S.toDesc))(hp:S.p=F.p)(hd:divB F.m S.m=true)(hrt:IsRt S F rt)(hk0:IsNrm F S.m n k0)(hn:F.m / S.m=n)
  (hrm:RdM w w.heap.size Ar t (rowsL F.toDesc N h)) (ht:t≤1000) (hN1:1≤N) (hN:N≤64) :
  Calls Tryz.prog 99 #[.agg #[.int .i64 S.p,.int .i64 S.m,.slice A S.mod.length c,.pointer (some ⟨g,0,none⟩),.slice (some ⟨gb,0,none⟩) F.q F.q,.slice Ab n cb,.int .i64 S.m],.slice Ar t cr,.int .i64 N] w (KnlPost S F (rel F.toDesc rt) n N t h w):=by
 obtain⟨d,hdd,hd1,hdm,hdv⟩:=divB_nat hd;obtain rfl:S.m=d:=by omega
 have hq256:=F.toDesc.q256;have h0:=Lib.hid hrt.2.1;have hn8:n≤8:=by rw[←hn]; exact Nat.le_trans (Nat.div_le_self _ _) F.m8
 have hn1:1≤n:=by rw[←hn]; exact Nat.div_pos hdm hd1
 obtain⟨bs,hbs⟩:∃ bs:Nat→R F.toDesc,bs=elL F (frobs S.m (eli F.toDesc k0) n):=⟨_,rfl⟩;have hI:Hid (IndS S.m n bs):=by
  have h9:=hk0.2.1;rw[hbs];exact IndS.congr7 h9 fun i hi=>by unfold elL frobs; rw[lst_get _ hi,eli_ci]
 have hCo:=fun x W a b=>Lib.hid (tCoor_low F (frobs S.m (eli F.toDesc k0) n) S.m n x Ab cb g W a b hd1 hdm hdv hn (frobs_length _ _ _) (by rw[←hbs]; exact hI.out))
 have hCa:=fun k E Al ck W a b e=>Lib.hid (gCanonical_ok S hS k N E A Al c ck W a b e hN1 (by omega))
 have hKe:=fun k E Al ck W a b e=>Lib.hid (gKernel_ok S hS k N E A Al c ck W a b e hN1 (by omega))
 have hNe:=fun k E Al ck W a b e=>Lib.hid (gNewC_ok S hS k N E A Al c ck W a b e hN1 hN)
 have hVC:=fun k E=>Lib.hid (vc_res S hS k N E hN1 hN)
 have hmr:=mk_rows n (by omega);have hmi:=mk_ints N (by omega);obtain⟨s,hs⟩:∃ s,s=w.heap.size:=⟨_,rfl⟩;obtain⟨Z,hZ⟩:∃ Z,Z=((w.alloc (.cells #[.int .i64 S.p,.int .i64 S.m,.slice A S.mod.length c,.pointer (some ⟨g,0,none⟩),.slice (some ⟨gb,0,none⟩) F.q F.q,.slice Ab n cb,.int .i64 S.m] 130)).alloc (.cells #[.int .i64 0,.int .i64 0,.slice none 0 0,.int .i64 0,.slice none 0 0] 27)).alloc (.cells #[.int .i64 N,.slice none 0 0] 48):=⟨_,rfl⟩;have hB:Below w.heap.size w Z:=by rw[hZ]; exact (((Below.refl _ _).alloc (Nat.le_refl _) _).alloc (by simp) _).alloc (by simp; omega) _
 have hbP:Hid (Bxs Z s [.int .i64 S.p,.int .i64 S.m,.slice A S.mod.length c,.pointer (some ⟨g,0,none⟩),.slice (some ⟨gb,0,none⟩) F.q F.q,.slice Ab n cb,.int .i64 S.m]):=by rw[hZ,hs]; exact ((Bxs.new w _ _).keep ((Below.refl _ _).alloc (Nat.le_refl _) _) (by simp)).keep ((Below.refl _ _).alloc (Nat.le_refl _) _) (by simp; omega)
 have hbR:Hid (Bxs Z (s+1) [.int .i64 0,.int .i64 0,.slice none 0 0,.int .i64 0,.slice none 0 0]):=by
  rw[hZ,hs];have h9:=Bxs.new (w.alloc (.cells #[.int .i64 S.p,.int .i64 S.m,.slice A S.mod.length c,.pointer (some ⟨g,0,none⟩),.slice (some ⟨gb,0,none⟩) F.q F.q,.slice Ab n cb,.int .i64 S.m] 130)) [.int .i64 0,.int .i64 0,.slice none 0 0,.int .i64 0,.slice none 0 0] 27;rw[World.size_alloc]at h9;exact h9.keep ((Below.refl _ _).alloc (Nat.le_refl _) _) (by simp)
 have hbM:Hid (Bxs Z (s+1+1) [.int .i64 N,.slice none 0 0]):=by
  rw[hZ,hs];have h9:=Bxs.new ((w.alloc (.cells #[.int .i64 S.p,.int .i64 S.m,.slice A S.mod.length c,.pointer (some ⟨g,0,none⟩),.slice (some ⟨gb,0,none⟩) F.q F.q,.slice Ab n cb,.int .i64 S.m] 130)).alloc (.cells #[.int .i64 0,.int .i64 0,.slice none 0 0,.int .i64 0,.slice none 0 0] 27)) [.int .i64 N,.slice none 0 0] 48;rw[World.size_alloc,World.size_alloc]at h9;exact h9
 have hZs:Z.heap.size=s+1+1+1:=by rw[hZ,hs]; simp
 obtain⟨LB,hLB⟩:∃ LB,LB=Z.heap.size:=⟨_,rfl⟩;have hsL:s+1+1<LB:=by omega
 have hLZ:LB≤Z.heap.size:=Nat.le_of_eq hLB;have hprZ:Hid (PairAt S F rt k0 n L g gb Ab Z w.heap.size):=hpr.below hB;have hrZ:=hr.below hB;have hrmZ:=hrm.below hB;clear hrm hr hpr hS hd hk0 hrt hdd hdm hdv;replace hZs:=Lib.hid hZs;replace hLB:=Lib.hid hLB;replace hZ:=Lib.hid hZ;replace hp:=Lib.hid hp;replace hn:=Lib.hid hn;replace hbs:=Lib.hid hbs;go_enter Tryz.func99,Tryz.ntmps99;obtain⟨m0,m1⟩:=hbM.out.c2;go_wp2_with (fail);rw[←hZ.out];simp only[←hs];have hsw:w.heap.size≤s:=Nat.le_of_eq hs.symm;replace hs:=Lib.hid hs;go_wp2_with (fail);clear m0 m1;have hR0:Hid (RdMU Z LB Z.heap.size none 0 (rowsL S.toDesc N fun _ _=>0)):=RdMU.zero;have hT0:Hid (Tells S F (rel F.toDesc rt) N 0 h 0 fun _ _=>0):=Tells.zero S F _ N h _;have hBZ:Below (s+1+1) Z Z:=Below.refl _ _;have hszZ:LB≤Z.heap.size:=hLZ;go_loopw [28,10,11,12,13,14,15,16,17,18,19,20,21] (fun iS _ _ _ _ _ _ _ _ _ _ _ _ wr=>∃ (i k:Nat) (E:Nat→Nat→R S.toDesc) (Al:Option Addr),i≤t∧iS=.int .i64 i∧k≤N∧Hid (k≤i*n)∧Hid (Bxs wr (s+1+1) [.int .i64 N,.slice Al k k])∧Hid (RdMU wr LB wr.heap.size Al k (rowsL S.toDesc N E))∧Hid (Tells S F (rel F.toDesc rt) N i h k E)∧Below (s+1+1) Z wr∧LB≤wr.heap.size) (fun iS _ _ _ _ _ _ _ _ _ _ _ _ _=>t - (intOf iS).toNat)
 case atStart=>exact⟨0,0,_,none,by omega,rfl,by omega,Nat.zero_le _,hbM,hR0,hT0,hBZ,hszZ⟩
 case round =>
  clear hbM hR0 hT0 hBZ hszZ;obtain⟨w1,rfl⟩:∃ w1:World,w1=wr:=⟨_,rfl⟩;obtain⟨i,k,E,Al,hi,rfl,hkN,hkn,hbM,hRE,hTe,hb1,hL1⟩:=hrel;have hwL:w.heap.size≤s+1+1:=by omega
  have hbw1:Below w.heap.size Z w1:=hb1.mono hwL;have hpr1:Hid (PairAt S F rt k0 n L g gb Ab w1 w.heap.size):=hprZ.out.below hbw1;have hbP1:Hid (Bxs w1 s [.int .i64 S.p,.int .i64 S.m,.slice A S.mod.length c,.pointer (some ⟨g,0,none⟩),.slice (some ⟨gb,0,none⟩) F.q F.q,.slice Ab n cb,.int .i64 S.m]):=hbP.out.keep hb1 (by omega);by_cases hit:i<t
  ·have i0:(0:Int)≤(i:Int):=by omega
   have i1:(i:Int)<(t:Int):=by omega
   have hn0:(0:Int)≤(n:Int):=by omega
   obtain⟨br,orr,Ai,ci',rfl,hbr,hcr,hri,hci1,hci2⟩:=hrmZ.at_ hit;rw[rowsL_length]at hcr hci1;have hcr1:=(hbw1.cell (p:=⟨br,orr+i,none⟩) hbr).trans hcr;have hri1:Rd w1 w.heap.size Ai (lst N fun j=>ci (h i j)):=hri.below hbw1;obtain⟨gl,hgl⟩:∃ gl,gl=w1.heap.size:=⟨_,rfl⟩;obtain⟨Y,hY⟩:∃ Y,Y=w1.alloc (.cells (Array.replicate n (Value.slice none 0 0)) 22):=⟨_,rfl⟩;have hbY:Below w1.heap.size w1 Y:=by rw[hY]; exact (Below.refl _ _).alloc (Nat.le_refl _) _
   have hgY:gl<Y.heap.size:=by rw[hY,hgl]; simp
   have hhd:Hid (∀ x,0≤x→x<n→∃ v,Y.cell? ⟨gl,x,none⟩=some v∧Y.frozen? ⟨gl,x,none⟩=false):=fun x _ hx=>by
    rw[hY,hgl];exact⟨.slice none 0 0,by simp[go_sem,hx],by simp[go_sem]⟩
   have hLg:LB≤gl:=by omega
   have hm0:Hid (MP Y gl gl 0 N none (midG (D:=S.toDesc) (fun _ _=>0) 0 0)):=⟨hgY,fun _=>0,fun _=>0,fun x hx=>absurd hx (Nat.not_lt_zero _),fun x y hx=>absurd hx (Nat.not_lt_zero _)⟩;have hbYg:Below gl w1 Y:=by rw[hgl]; exact hbY
   clear hcr hri;replace hY:=Lib.hid hY;obtain⟨p0,p1,p2,p3,p4,p5,p6⟩:=hbP1.out.c7;go_wp2_with (fail);rw[←hY.out];simp only[←hgl];replace hgl:=Lib.hid hgl;clear p0 p1 p2 p3 p4 p5 p6 hcr1;go_loopw [38,12] (fun xS _ wr=>∃ x:Nat,x≤n∧xS=.int .i64 x∧Hid (MP wr gl gl x N none (midG (D:=S.toDesc) (fun _ _=>0) 0 0))∧Hid (∀ y,x≤y→y<n→∃ v,wr.cell? ⟨gl,y,none⟩=some v∧wr.frozen? ⟨gl,y,none⟩=false)∧Below gl w1 wr) (fun xS _ _=>n - (intOf xS).toNat)
   case atStart=>exact⟨0,by omega,rfl,hm0,hhd,hbYg⟩
   case round =>
    clear hm0 hhd hbY hgY hbYg hY;obtain⟨w2,rfl⟩:∃ w2:World,w2=wr:=⟨_,rfl⟩;obtain⟨x,hx,rfl,hmp,hhd,hbw⟩:=hrel;have hg2:=hmp.out.1;by_cases hxn:x<n
    ·have x0:(0:Int)≤(x:Int):=by omega
     have x1:(x:Int)<(n:Int):=by omega
     obtain⟨v,hxv,hfv⟩:=hhd.out x (Nat.le_refl _) hxn;obtain⟨nb,hnb⟩:∃ nb,nb=w2.heap.size:=⟨_,rfl⟩;obtain⟨Y1,hY1⟩:∃ Y1,Y1=w2.alloc (.cells (Array.replicate N (Value.int .i64 0)) 3):=⟨_,rfl⟩;have hbY1:Below w2.heap.size w2 Y1:=by rw[hY1]; exact (Below.refl _ _).alloc (Nat.le_refl _) _
     have hib1:IB Y1 nb (List.replicate N 0):=by rw[hY1,hnb]; exact IB.newz w2 N
     have hxv1:=(hbY1.cell (p:=⟨gl,x,none⟩) hg2).trans hxv;have hfv1:=(hbY1.frozen (p:=⟨gl,x,none⟩) hg2).trans hfv;have hgnb:gl≠nb:=by omega
     obtain⟨W2,hW2⟩:∃ W2,W2=Y1.setCell ⟨gl,x,none⟩ (.slice (some ⟨nb,0,none⟩) N N):=⟨_,rfl⟩;have hx2:W2.cell? ⟨gl,x,none⟩=some (.slice (some ⟨nb,0,none⟩) N N):=by rw[hW2]; exact World.cell?_setCell_same _ _ _ hxv1
     have hib2:IB W2 nb (List.replicate N 0):=by rw[hW2]; exact hib1.far (p:=⟨gl,x,none⟩) (fun e=>hgnb e.symm) _
     have hsz2:W2.heap.size=Y1.heap.size:=by rw[hW2]; simp[World.setCell]
     have hmp2:Hid (MP W2 gl gl (x+1) N none (midG (D:=S.toDesc) (fun _ _=>0) 0 0)):=by
      refine hmp.out.push (b:=nb) (c:=N) (by rw[hsz2]; exact Nat.lt_of_lt_of_le hg2 hbY1.size) (fun y hy b' c' f' hr'=>?_) ?_ (Nat.le_of_eq hnb.symm)
      ·have h1:=hr'.grown hg2 (below_grown hbY1 (Nat.le_refl _)) (q':=none) (by simp) (by simp) (by simp);have h2:=h1.other (i:=x) (v:=.slice (some ⟨nb,0,none⟩) N N) (by omega);rw[←hW2]at h2;exact h2
      ·refine⟨hx2,by rw[hW2]; simp[go_sem,hfv1],hib2.lt,fun e=>hgnb e.symm,by simp,by omega,Nat.le_refl _,by unfold maxLen; omega,fun q hq=>⟨?_,hib2.frozen q⟩⟩;have h4:=hib2.cell (i:=q) (by simp; exact hq);rw[h4]
       congr 2
       rw[midG_zero,List.getElem?_replicate_of_lt hq];exact ci_zero.symm
     have hhd2:Hid (∀ y,x+1≤y→y<n→∃ v,W2.cell? ⟨gl,y,none⟩=some v∧W2.frozen? ⟨gl,y,none⟩=false):=fun y h1 h2=>by
      obtain⟨v',h3,h4⟩:=hhd.out y (by omega) h2;have h3':=(hbY1.cell (p:=⟨gl,y,none⟩) hg2).trans h3;have h4':=(hbY1.frozen (p:=⟨gl,y,none⟩) hg2).trans h4;refine⟨v',?_,by rw[hW2]; simp[go_sem,h4']⟩;rw[hW2];exact (hdr_other (by omega)).trans h3'
     have hb2:Hid (Below gl w1 W2):=by
      rw[hW2];exact (hbw.trans (hbY1.mono (by omega))).setCell (p:=⟨gl,x,none⟩) (Nat.le_refl _) _
     have hxvA:=hxv1;have hfvA:=hfv1;rw[hY1]at hxvA hfvA;clear hxv1 hfv1;replace hY1:=Lib.hid hY1;replace hW2:=Lib.hid hW2;replace hsz2:=Lib.hid hsz2;clear hxv hfv hib1 hib2 hx2 hmp hhd hbY1;go_wp2_with (fail);rw[←World.setCell_alloc_past _ _ _ _ hg2,←hY1.out];simp only[←hnb];rw[←hW2.out];replace hnb:=Lib.hid hnb;clear hxvA hfvA;go_roundw
     case rel=>exact⟨x+1,by omega,by go_num,hmp2,hhd2,hb2.out⟩
     case measure=>simp[intOf]; omega
    ·obtain rfl:n=x:=by omega
     clear hhd;rw[midG_zero,←midG_zero (lineM S F (rel F.toDesc rt) (fun _ _=>0))]at hmp;have hc0:Hid (CrdOK S F n 0 bs (fun _ _=>0) (h i)):=fun q hq=>absurd hq (Nat.not_lt_zero q)
     go_wp2_with (fail);go_loopw [49,13,14,15,16,17,18] (fun jS _ _ _ _ _ _ wr=>∃ (j:Nat) (cm:Nat→Nat→R F.toDesc),j≤N∧jS=.int .i64 j∧Hid (MP wr gl gl n N none (midG (lineM S F (rel F.toDesc rt) cm) j 0))∧Hid (CrdOK S F n j bs cm (h i))∧Below gl w1 wr) (fun jS _ _ _ _ _ _ _=>N - (intOf jS).toNat)
     case atStart=>exact⟨0,_,by omega,rfl,hmp,hc0,hbw⟩
     case round =>
      clear hmp hc0 hbw hg2;obtain⟨w3,rfl⟩:∃ w3:World,w3=wr:=⟨_,rfl⟩;obtain⟨j,cm,hj,rfl,hmp,hcm,hbw⟩:=hrel;have hg3:=hmp.out.1;have hb13:Below (s+1+1) Z w3:=hb1.trans (hbw.mono (by omega));have hbw3:Below w.heap.size Z w3:=hb13.mono hwL;have hbP3:Hid (Bxs w3 s [.int .i64 S.p,.int .i64 S.m,.slice A S.mod.length c,.pointer (some ⟨g,0,none⟩),.slice (some ⟨gb,0,none⟩) F.q F.q,.slice Ab n cb,.int .i64 S.m]):=hbP.out.keep hb13 (by omega);by_cases hjN:j<N
      ·have j0:(0:Int)≤(j:Int):=by omega
       have j1:(j:Int)<(N:Int):=by omega
       obtain⟨ba,oa,rfl,hba,hca⟩:=hri1.at_ (k:=j) (by rw[lst_length]; exact hjN);rw[lst_get _ hjN]at hca;have hca3:=(hbw.cell (p:=⟨ba,oa+j,none⟩) (show ba<gl by omega)).trans hca;have hpr3:PairAt S F rt k0 n L g gb Ab w3 w.heap.size:=hprZ.out.below hbw3;have hsz3:w.heap.size≤w3.heap.size:=by omega
       have hq:=hCo (ci (h i j)) w3 (hpr3.gf.more hsz3) (RdU.rd hpr3.2.2.2.2 |>.more hsz3);obtain⟨y,hy⟩:∃ y,y=ci (h i j):=⟨_,rfl⟩;rw[←hy]at hca3 hq;replace hy:=Lib.hid hy;clear hca hpr3;obtain⟨p0,p1,p2,p3,p4,p5,p6⟩:=hbP3.out.c7;go_wp2_with (fail);(with_reducible refine hq.out.mono ?_);rintro e w4 ⟨hb4,bb,cc,rfl,hlo,hib,hin,hsum⟩;clear p0 p1 p2 p3 p4 p5 p6 hq hca3;rw[hy.out,eli_ci,←hbs.out]at hsum;have hc2:Hid (CrdOK S F n (j+1) bs (fun q=>if q=j then cc else cm q) (h i)):=hcm.out.step hin hsum;obtain⟨cm2,hcm2⟩:∃ cm2:Nat→Nat→R F.toDesc,cm2=fun q=>if q=j then cc else cm q:=⟨_,rfl⟩
       rw[←hcm2]at hc2;have hcj:∀ q,q<n→lineM S F (rel F.toDesc rt) cm2 q j=bk S F (rel F.toDesc rt) (cc q):=fun q _=>by unfold lineM; rw[hcm2]; dsimp only; rw[if_pos rfl]
       have hmpA:MP w3 gl gl n N none (midG (lineM S F (rel F.toDesc rt) cm2) j 0):=by
        have e1:midG (lineM S F (rel F.toDesc rt) cm2) j 0=midG (lineM S F (rel F.toDesc rt) cm) j 0:=midG_congr fun q u hu=>by unfold lineM; rw[hcm2]; dsimp only; rw[if_neg (by omega)]
        rw[e1]; exact hmp.out
       have hmp4:Hid (MP w4 gl gl n N (some bb) (midG (lineM S F (rel F.toDesc rt) cm2) j 0)):=hmpA.grown (below_grown hb4 (Nat.le_refl _)) (by simp) (.inr fun q e=>by injection e with e; omega);have hbw4:=hbw.trans (hb4.mono (by omega));have hgbb:gl≠bb:=by omega
       have hcc:Hid (∀ q,q<n→InSub S.m (cc q)):=hin;replace hcj:=Lib.hid hcj;replace hcm2:=Lib.hid hcm2;clear hmp hmpA hcm hin hsum hbw hb13 hbw3 hbP3;have hLbb:w.heap.size≤bb:=by omega
       go_wp2_with (fail);go_loopw [67,17,18] (fun xS _ _ wr=>∃ q:Nat,q≤n∧xS=.int .i64 q∧Hid (MP wr gl gl n N (some bb) (midG (lineM S F (rel F.toDesc rt) cm2) j q))∧Hid (IB wr bb (rowL F.toDesc n cc))∧Below gl w1 wr) (fun xS _ _ _=>n - (intOf xS).toNat)
       case atStart=>exact⟨0,by omega,rfl,hmp4,hib,hbw4⟩
       case round =>
        clear hmp4 hib hbw4;obtain⟨w5,rfl⟩:∃ w5:World,w5=wr:=⟨_,rfl⟩;obtain⟨q,hq,rfl,hmp,hib,hbw⟩:=hrel;by_cases hqn:q<n
        ·have q0:(0:Int)≤(q:Int):=by omega
         have q1:(q:Int)<(n:Int):=by omega
         obtain⟨br,cr',hrow,hput⟩:=hmp.out.at_ hqn;have hxr:=hrow.hd;obtain⟨hcr,hfr⟩:=hrow.cells j hjN;have hyr:=hib.out.cell (i:=q) (by rw[rowL_length]; exact hqn);rw[rowL_get _ _ hqn]at hyr;obtain⟨yn,hyn⟩:∃ yn:Nat,yn=rcode (cc q):=⟨_,rfl⟩;have hyl:yn<F.q:=by rw[hyn]; exact rcode_lt _
         rw[show ci (cc q)=(yn:Int) from by rw[hyn]; rfl]at hyr;have hb15:Below (s+1+1) Z w5:=hb1.trans (hbw.mono (by omega));have hpr5:PairAt S F rt k0 n L g gb Ab w5 w.heap.size:=hprZ.out.below (hb15.mono hwL);have hbP5:Bxs w5 s [.int .i64 S.p,.int .i64 S.m,.slice A S.mod.length c,.pointer (some ⟨g,0,none⟩),.slice (some ⟨gb,0,none⟩) F.q F.q,.slice Ab n cb,.int .i64 S.m]:=hbP.out.keep hb15 (by omega);have hbk:=hpr5.2.2.2.1.cell (i:=yn) (by unfold backL; rw[lst_length]; exact hyl);rw[show (backL S F (rel F.toDesc rt))[yn]?.getD 0=ci (bk S F (rel F.toDesc rt) (cc q)) from by unfold backL; rw[lst_get _ hyl,hyn,rel_rcode]]at hbk;obtain⟨z,hz⟩:∃ z,z=ci (bk S F (rel F.toDesc rt) (cc q)):=⟨_,rfl⟩;rw[←hz]at hbk;have hbbr:bb≠br:=fun e=>hrow.nq (by rw[e])
         have hlo2:=hrow.lo;have hglbr:gl≠br:=fun e=>hrow.ne e.symm
         have y0:(0:Int)≤(yn:Int):=by omega
         have y1:(yn:Int)<(F.q:Int):=by omega
         have hib6:Hid (IB (w5.setCell ⟨br,j,none⟩ (.int .i64 z)) bb (rowL F.toDesc n cc)):=hib.out.far (p:=⟨br,j,none⟩) hbbr _;have hgl5:=hmp.out.1;have hmp6:Hid (MP (w5.setCell ⟨br,j,none⟩ (.int .i64 z)) gl gl n N (some bb) (midG (lineM S F (rel F.toDesc rt) cm2) j (q+1))):=by
          have h1:=hput (w5.setCell ⟨br,j,none⟩ (.int .i64 z)) (fun u=>if u=j then lineM S F (rel F.toDesc rt) cm2 q j else midG (lineM S F (rel F.toDesc rt) cm2) j q q u) (grown_set _ _ _) fun u hu=>by
           obtain⟨h2,h3⟩:=hrow.cells u hu;refine⟨?_,by simp[go_sem,h3]⟩;by_cases e:u=j
           ·subst e; rw[World.cell?_setCell_same _ _ _ h2,if_pos rfl,hcj.out q hqn,hz]
           ·rw[hdr_other e,h2,if_neg e]
          rw[midG_set]at h1;exact h1
         have hbw6:Hid (Below gl w1 (w5.setCell ⟨br,j,none⟩ (.int .i64 z))):=hbw.setCell (p:=⟨br,j,none⟩) hlo2 _;have hS5:=Lib.hid (show w5.cell? ⟨gl,q,none⟩=some (.slice (some ⟨br,0,none⟩) N cr')∧w5.cell? ⟨s,4,none⟩=some (.slice (some ⟨gb,0,none⟩) F.q F.q)∧w5.cell? ⟨gb,yn,none⟩=some (.int .i64 z) from ⟨hxr,hbP5.c7.2.2.2.2.1,hbk⟩);have hgbl:gb<w.heap.size:=hpr5.2.2.1;have hS6:Hid ((w5.setCell ⟨br,j,none⟩ (.int .i64 z)).cell? ⟨gl,q,none⟩=some (.slice (some ⟨br,0,none⟩) N cr')∧(w5.setCell ⟨br,j,none⟩ (.int .i64 z)).cell? ⟨s,4,none⟩=some (.slice (some ⟨gb,0,none⟩) F.q F.q)∧(w5.setCell ⟨br,j,none⟩ (.int .i64 z)).cell? ⟨gb,yn,none⟩=some (.int .i64 z)) :=
          ⟨(World.cell?_setCell_far _ _ _ _ (fun e=>hglbr e.symm)).trans hS5.out.1,(World.cell?_setCell_far _ _ _ _ (show br≠s by omega)).trans hS5.out.2.1,(World.cell?_setCell_far _ _ _ _ (show br≠gb by omega)).trans hS5.out.2.2⟩
         replace hz:=Lib.hid hz;replace hyn:=Lib.hid hyn;replace hput:=Lib.hid hput;clear hrow hmp hib hbw hxr hpr5 hbP5 hbk hb15;go_wp2_with (fail);refine wp_region_held_drew (S:=fun w'=>w'.cell? ⟨gl,q,none⟩=some (.slice (some ⟨br,0,none⟩) N cr')∧w'.cell? ⟨s,4,none⟩=some (.slice (some ⟨gb,0,none⟩) F.q F.q)∧w'.cell? ⟨gb,yn,none⟩=some (.int .i64 z)) (by kernel_rfl) (by (try dsimp only); exact hS5.out) (fun hHeld=>?_);refine tk 0 ?_; try simp only[pS]
         refine tk 1 ?_; try simp only[pS]
         refine tk 2 ?_; try simp only[pS]
         refine tk 3 ?_; try simp only[pS]
         refine tk 4 ?_; try simp only[pS]
         refine tk 5 ?_; try simp only[pS]
         refine tk 6 ?_; try simp only[pS]
         refine tk 7 ?_; try simp only[pS]
         refine tk 8 ?_; try simp only[pS]
         refine tk 9 ?_; try simp only[pS]
         refine tk 10 ?_; try simp only[pS]
         refine rd 11 fun K hK=>?_
         go_simp;refine hK.out _ _ (by (try dsimp only); exact hS6.out) (fun hHeld=>?_);clear hK K;try simp only[pS]
         refine wpAnyH_done (by kernel_rfl) ?_ _;go_wp2_with (fail);go_roundw
         case rel=>exact⟨q+1,by omega,by go_num,hmp6.out.drew,hib6,hbw6.out.drew⟩
         case measure=>simp[intOf]; omega
        ·obtain rfl:n=q:=by omega
         have hmp6:Hid (MP w5 gl gl n N none (midG (lineM S F (rel F.toDesc rt) cm2) (j+1) 0)):=hmp.out.free.congr fun u t' hu _=>midG_next _ hu t'
         clear hmp hib;go_wp2_with (fail);go_roundw
         case rel=>exact⟨j+1,cm2,by omega,by go_num,hmp6,hc2,hbw⟩
         case measure=>simp[intOf]; omega
      ·obtain rfl:N=j:=by omega
       have hmpF:Hid (MP w3 gl gl n N none (lineM S F (rel F.toDesc rt) cm)):=hmp.out.congr fun q u _ hu=>if_pos (.inl hu)
       have hrl:=Lib.hid (hmpF.out.rdmU (Nat.le_refl _));have hsz13:w1.heap.size≤w3.heap.size:=by have:=hgl.out; omega
       have hRE3:Hid (RdMU w3 LB w3.heap.size Al k (rowsL S.toDesc N E)):=by
        refine (hRE.out.keepU fun p hp1 hp2=>hbw.cell (by have:=hgl.out; omega)).more hsz13
       have hbM3:Hid (Bxs w3 (s+1+1) [.int .i64 N,.slice Al k k]):=hbM.out.keep hbw (by omega);have hT2:=Lib.hid (hTe.out.step hp.out h0.out hI.out hcm.out);have hkn2:k+n≤(i+1)*n:=by have:=hkn.out; rw[Nat.add_mul]; omega
       have hCa3:=fun Ar' ck W a b=>hCa (k+n) (stackR k E (lineM S F (rel F.toDesc rt) cm)) Ar' ck W a b (by omega)
       obtain⟨m0,m1⟩:=hbM3.out.c2;obtain⟨f0,f1⟩:=hbM3.out.f2;have hbw3:Below w.heap.size Z w3:=(hb1.trans (hbw.mono (by omega))).mono hwL;have hbP3:Hid (Bxs w3 s [.int .i64 S.p,.int .i64 S.m,.slice A S.mod.length c,.pointer (some ⟨g,0,none⟩),.slice (some ⟨gb,0,none⟩) F.q F.q,.slice Ab n cb,.int .i64 S.m]):=hbP.out.keep (hb1.trans (hbw.mono (by omega))) (by omega);have hL3:LB≤w3.heap.size:=by omega
       have hb13:Below (s+1+1) Z w3:=hb1.trans (hbw.mono (by omega));have hrl3:Hid (RdMU w3 LB w3.heap.size (some ⟨gl,0,none⟩) n (rowsL S.toDesc N (lineM S F (rel F.toDesc rt) cm))):=hrl.out.low hLg;have hst:Hid (stackR k (rowsL S.toDesc N E) (rowsL S.toDesc N (lineM S F (rel F.toDesc rt) cm))=rowsL S.toDesc N (stackR k E (lineM S F (rel F.toDesc rt) cm))):=funext fun q=>by
        by_cases e:q<k
        ·simp only[stackR,rowsL,if_pos e]
        ·simp only[stackR,rowsL,if_neg e]
       have hrkN:rkS S (k+n) N (stackR k E (lineM S F (rel F.toDesc rt) cm))≤N:=(elS_le (k+n) _ N).2;have hrkn:Hid (rkS S (k+n) N (stackR k E (lineM S F (rel F.toDesc rt) cm))≤(i+1)*n):=Nat.le_trans (elS_le (k+n) _ N).1 hkn2;obtain⟨rk,hrk⟩:∃ rk,rk=rkS S (k+n) N (stackR k E (lineM S F (rel F.toDesc rt) cm)):=⟨_,rfl⟩;rw[←hrk]at hrkN hrkn hT2;unfold CanPost at hCa3;rw[←hrk]at hCa3;obtain⟨E2,hE2⟩:∃ E2,E2=(elS (k+n) (stackR k E (lineM S F (rel F.toDesc rt) cm)) N).1:=⟨_,rfl⟩;rw[←hE2]at hCa3 hT2;replace hrk:=Lib.hid hrk;replace hE2:=Lib.hid hE2;clear hmp hmpF hcm hbw hrl hRE hTe hkn2 hri1;have hkn3:k+n≤1000000:=by omega
       go_wp2_with (at_builtin; refine wpList_appRows rfl (.tmp 86) (.tmp 87) rfl hL3 hRE3.out hrl3.out hn1 hkn3 rfl rfl ?_; intro g3 c3 w4 hR4 hg4 hb4 hc4 hc4'; have hbM4:=hbM3.out.keep hb4 (show s+1+1<w3.heap.size by omega); have hbM5:=hbM4.set_ (j:=1) (by simp) (.slice (some ⟨g3,0,none⟩) (k+n) c3); have hbP5:=(hbP3.out.keep hb4 (show s<w3.heap.size by omega)).far (g:=s+1+1) (by omega) 1 (.slice (some ⟨g3,0,none⟩) (k+n) c3); obtain⟨m0',m1'⟩:=hbM4.c2; obtain⟨f0',f1'⟩:=hbM4.f2; obtain⟨q0,q1⟩:=Bxs.c2 hbM5; obtain⟨p0,p1,p2,p3,p4,p5,p6⟩:=hbP5.c7);obtain⟨W5,hW5⟩:∃ W5,W5=w4.setCell ⟨s+1+1,1,none⟩ (.slice (some ⟨g3,0,none⟩) (k+n) c3):=⟨_,rfl⟩;rw[←hW5];have hsz5:W5.heap.size=w4.heap.size:=by rw[hW5]; simp[World.setCell]
       have hb5:Below (s+1+1) Z W5:=by rw[hW5]; exact (hb13.trans (hb4.mono (by omega))).setCell (p:=⟨s+1+1,1,none⟩) (Nat.le_refl _) _
       have hbM5':Hid (Bxs W5 (s+1+1) [.int .i64 N,.slice (some ⟨g3,0,none⟩) (k+n) c3]):=by rw[hW5]; exact hbM5
       have hR5:RdM W5 W5.heap.size (some ⟨g3,0,none⟩) (k+n) (rowsL S.toDesc N (stackR k E (lineM S F (rel F.toDesc rt) cm))):=by
        rw[←hst.out,hsz5,hW5];exact (hR4.keepU fun p hp1 _=>World.cell?_setCell_far _ _ _ _ (show s+1+1≠p.block by omega)).rdm
       have hL5:LB≤W5.heap.size:=by have:=hb4.size; omega
       have hq:=hCa3 (some ⟨g3,0,none⟩) c3 W5 ((hrZ.below (hb5.mono hwL)).more (by omega)) hR5;clear m0' m1' f0' f1' q0 q1 p0 p1 p2 p3 p4 p5 p6 hR4 hR5 hbM5 hbM4 hbP5 m0 m1 f0 f1 hb13 hbM3 hRE3 hrl3 hbP3;replace hW5:=Lib.hid hW5;(with_reducible refine hq.out.mono ?_);rintro e w6 ⟨Al2,vp,rfl,hru,-,hb6⟩;have hb16:Below (s+1+1) Z w6:=hb5.trans (hb6.mono (by omega));have hbM6:=hbM5'.out.keep hb6 (by omega);have hbM7:=hbM6.keep ((Below.refl w6.heap.size w6).alloc (Nat.le_refl _) (.cells #[.int .i64 N,.slice Al2 rk rk] 48)) (by have:=hb6.size; omega);obtain⟨m0,m1⟩:=Bxs.c2 hbM7;obtain⟨f0,f1⟩:=Bxs.f2 hbM7;clear hq;have hbM9:=Lib.hid ((hbM7.set_ (j:=0) (by simp) (.int .i64 N)).set_ (j:=1) (by simp) (.slice Al2 rk rk));have hbA:Below w6.heap.size w6 (w6.alloc (.cells #[.int .i64 N,.slice Al2 rk rk] 48)):=(Below.refl _ _).alloc (Nat.le_refl _) _;have hR9:Hid (RdMU (((w6.alloc (.cells #[.int .i64 N,.slice Al2 rk rk] 48)).setCell ⟨s+1+1,0,none⟩ (.int .i64 N)).setCell ⟨s+1+1,1,none⟩ (.slice Al2 rk rk)) LB (((w6.alloc (.cells #[.int .i64 N,.slice Al2 rk rk] 48)).setCell ⟨s+1+1,0,none⟩ (.int .i64 N)).setCell ⟨s+1+1,1,none⟩ (.slice Al2 rk rk)).heap.size Al2 rk (rowsL S.toDesc N E2)):=by
        refine ((hru.keepU (w':=((w6.alloc (.cells #[.int .i64 N,.slice Al2 rk rk] 48)).setCell ⟨s+1+1,0,none⟩ (.int .i64 N)).setCell ⟨s+1+1,1,none⟩ (.slice Al2 rk rk)) fun p hp1 hp2=>?_).low hL5).more (by simp[World.setCell]);exact (set2_above (b:=s+1+1) (L:=W5.heap.size) (by omega) _ _ p hp1).trans (hbA.cell hp2)
       have hb9:Hid (Below (s+1+1) Z (((w6.alloc (.cells #[.int .i64 N,.slice Al2 rk rk] 48)).setCell ⟨s+1+1,0,none⟩ (.int .i64 N)).setCell ⟨s+1+1,1,none⟩ (.slice Al2 rk rk))):=((hb16.trans (hbA.mono (by have:=hb6.size; omega))).setCell (p:=⟨s+1+1,0,none⟩) (Nat.le_refl _) _).setCell (p:=⟨s+1+1,1,none⟩) (Nat.le_refl _) _;have hL9:Hid (LB≤(((w6.alloc (.cells #[.int .i64 N,.slice Al2 rk rk] 48)).setCell ⟨s+1+1,0,none⟩ (.int .i64 N)).setCell ⟨s+1+1,1,none⟩ (.slice Al2 rk rk)).heap.size):=by unfold Hid; simp[World.setCell]; have:=hb6.size; omega
       clear hru;go_wp2_with (fail);go_roundw
       case rel=>exact⟨i+1,rk,E2,Al2,by omega,by go_num,hrkN,hrkn,hbM9,hR9,hT2,hb9.out,hL9.out⟩
       case measure=>simp[intOf]; omega
  ·obtain rfl:t=i:=by omega
   have hq:=hKe k E Al k w1 ((hrZ.below hbw1).more (by omega)) hRE.out.rdm (by omega);obtain⟨m0,m1⟩:=hbM.out.c2;obtain⟨p0,p1,p2,p3,p4,p5,p6⟩:=hbP1.out.c7;go_wp2_with (fail);(with_reducible refine hq.out.mono ?_);rintro e w2 ⟨p',rfl,Al2,rfl,hb2,hru⟩;clear hq m0 m1 p0 p1 p2 p3 p4 p5 p6;have hKle:=kerK_le S k N E;have hKM:kerM S k N E=(elS (kerK S k N E) (nulM (rkS S k N E) N (pvF (elS k E N).2) (elS k E N).1) N).1:=rfl;have hKK:(npv (pvF (elS k E N).2) (rkS S k N E) N).length=kerK S k N E:=rfl;rw[hKK]at hru ⊢;rw[←hKM]at hru;have hcode:=fun u=>Lib.hid (Tells.code hTe.out u)
   have hdim:=Lib.hid (ker_dim (S:=S) (N:=N) (E:=E) hkn.out);clear hKK hKM;obtain⟨KK,hKK⟩:∃ KK,KK=kerK S k N E:=⟨_,rfl⟩;obtain⟨KM,hKM⟩:∃ KM,KM=kerM S k N E:=⟨_,rfl⟩;rw[←hKK]at hru hKle ⊢;rw[←hKM]at hru;have hcode2:∀ u,Hid (Span (rkS S KK N KM) N (elS KK KM N).1 u↔Meets S F (rel F.toDesc rt) N t h u):=fun u=>by rw[hKK,hKM]; exact hcode u
   have hdim2:Hid (N≤rkS S KK N KM+t*n):=by rw[hKK,hKM]; exact hdim
   replace hKK:=Lib.hid hKK;replace hKM:=Lib.hid hKM;clear hcode hdim;obtain⟨Y,hY⟩:∃ Y,Y=w2.alloc (.cells #[.int .i64 N,.slice Al2 KK KK] 48):=⟨_,rfl⟩;have hbY:Below w2.heap.size w2 Y:=by rw[hY]; exact (Below.refl _ _).alloc (Nat.le_refl _) _
   have hszY:w2.heap.size≤Y.heap.size:=hbY.size;have hb12:Below (s+1+1) Z w2:=hb1.trans (hb2.mono (by omega));have hb1Y:Below (s+1+1) Z Y:=hb12.trans (hbY.mono (by have:=hb2.size; omega));have hLw2:LB≤w2.heap.size:=by have:=hb2.size; omega
   have hq2:=hNe KK KM Al2 KK Y ((hrZ.below (hb1Y.mono hwL)).more (by omega)) ((hru.rdm.below hbY).more hszY) (by omega);have hbPY:Hid (Bxs Y s [.int .i64 S.p,.int .i64 S.m,.slice A S.mod.length c,.pointer (some ⟨g,0,none⟩),.slice (some ⟨gb,0,none⟩) F.q F.q,.slice Ab n cb,.int .i64 S.m]):=hbP.out.keep hb1Y (by omega);have hbRY:Hid (Bxs Y (s+1) [.int .i64 0,.int .i64 0,.slice none 0 0,.int .i64 0,.slice none 0 0]):=hbR.out.keep hb1Y (by omega);obtain⟨p0,p1,p2,p3,p4,p5,p6⟩:=hbPY.out.c7;rw[hY]at p0 p1 p2;replace hY:=Lib.hid hY;go_wp2_with (fail);rw[←hY.out];(with_reducible refine hq2.out.mono ?_);rintro e w3 ⟨A3,c3,Al3,rfl,hr3,hA3,hru3,hb3⟩;clear hq2 p0 p1 p2 p3 p4 p5 p6;have hLY:LB≤Y.heap.size:=by omega
   have hbR3:=hbRY.out.keep hb3 (by omega);obtain⟨u0,u1,u2,u3,u4⟩:=hbR3.c5;obtain⟨v0,v1,v2,v3,v4⟩:=hbR3.f5;have hBZ3:Below w.heap.size w w3:=hB.trans ((hb1Y.mono hwL).trans (hb3.mono (by omega)));obtain⟨kk,hkk⟩:∃ kk,kk=rkS S KK N KM:=⟨_,rfl⟩;rw[←hkk]at hru3 hdim2 ⊢;have hvc:=hVC KK KM;rw[←hkk]at hvc hcode2;replace hkk:=Lib.hid hkk;have hfin:Hid (KnlPost S F (rel F.toDesc rt) n N t h w (.returned (.tuple #[.agg #[.int .i64 S.p,.int .i64 S.m,.slice A3 S.mod.length c3,.int .i64 N,.slice Al3 kk kk],.int .i64 0])) (stAll w3 (s+1) 0 [.int .i64 S.p,.int .i64 S.m,.slice A3 S.mod.length c3,.int .i64 N,.slice Al3 kk kk])):=by
    refine⟨kk,(elS KK KM N).1,A3,c3,Al3,rfl,hvc.out,fun u=>(hcode2 u).out,hdim2.out,?_,fun b hb=>?_,?_,stAll_below (by omega) _ _ _ hBZ3⟩
    ·rw[stAll_size];exact hr3.farS (fun a ha=>by have:=hA3 a ha; omega) _ 0
    ·have:=hA3 b hb; omega
    ·rw[stAll_size];exact (hru3.keepU fun p hp1 _=>stAll_cell (by omega) _ 0 w3).low (by omega)
   clear hr3 hru3 hru hbR3;go_wp2_with (fail);exact bodyPost_ret (v:=.tuple #[.agg #[.int .i64 S.p,.int .i64 S.m,.slice A3 S.mod.length c3,.int .i64 N,.slice Al3 kk kk],.int .i64 0]) (by simp[results,Tryz.results99,go_sem,u0,u1,u2,u3,u4]) rfl hfin.out
end Go.Proofs.YtjdoneanohhkmaaGreat

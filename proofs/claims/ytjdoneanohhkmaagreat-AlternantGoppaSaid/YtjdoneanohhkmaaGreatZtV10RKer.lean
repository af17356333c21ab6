/- The program's kernel of a matrix. -/
import Derived.Test.YtjdoneanohhkmaaGreatZtV10RMatX
import Derived.Test.YtjdoneanohhkmaaGreatZtV10RGrsA
import Derived.Test.YtjdoneanohhkmaaGreatZtV10RNul
import Derived.Test.YtjdoneanohhkmaaGreatZtV10RMI
namespace Go.Proofs.YtjdoneanohhkmaaGreat
open Go.RowKit Cw
attribute [local go_sem] Oper.semAt_some

def KerPost (F:FD)(n m:Nat)(M:Nat→Nat→R F.toDesc)(w:World)(e:Ending)(w':World):Prop :=
 ∃ p:Nat→Nat,p=pvF (elS n M m).2∧∃ Al,e=.returned (.tuple #[.agg #[.int .i64 m,.slice Al (npv p (rkS F n m M) m).length (npv p (rkS F n m M) m).length],.int .i64 0])∧Below w.heap.size w w'∧RdMU w' w.heap.size w'.heap.size Al (npv p (rkS F n m M) m).length (rowsL F.toDesc m (elS (npv p (rkS F n m M) m).length (nulM (rkS F n m M) m p (elS n M m).1) m).1)
theorem conB_natL {pl:List Nat} {r:Nat} {p:Nat→Nat} (hl:pl.length=r)(hp:p=pvF pl)(c:Nat):conB (natL pl) (c:Int)=decide (∃ i,i<r∧p i=c):=by
 unfold conB;refine decide_eq_decide.2 ⟨fun h=>?_,fun⟨i,hi,e⟩=>?_⟩
 ·obtain⟨k,hk,e⟩:=List.getElem_of_mem h;have hk2:k<pl.length:=by rw[←natL_len]; exact hk
  refine⟨k,by omega,?_⟩;have h1:=natL_pv pl hk2;rw[List.getElem?_eq_getElem hk]at h1;have h2:((pvF pl k:Nat):Int)=(c:Int):=h1.symm.trans e;rw[hp]; omega
 ·have hk:i<(natL pl).length:=by rw[natL_len]; omega
  have h1:=natL_pv pl (show i<pl.length by omega);rw[List.getElem?_eq_getElem hk,←hp,e]at h1;have h2:(natL pl)[i]=(c:Int):=h1;rw[←h2]; exact List.getElem_mem hk
theorem kerPost_two (F0 F1:FD)(h:F1.toDesc=F0.toDesc)(n m:Nat)(M:Nat→Nat→R F0.toDesc):∃ M1:Nat→Nat→R F1.toDesc,rowsL F1.toDesc m M1=rowsL F0.toDesc m M∧∀ w e w',KerPost F1 n m M1 w e w'→KerPost F0 n m M w e w':=by
 obtain⟨D0,g0,a0,b0,c0⟩:=F0;obtain⟨D1,g1,a1,b1,c1⟩:=F1;dsimp only at h;subst h;exact⟨M,rfl,fun _ _ _ hp=>hp⟩
set_option maxRecDepth 100000 in
set_option maxHeartbeats 16000000 in
theorem gKernel_ok (F:FD)(hgood:Good F.p F.m (modL F.toDesc))(n m:Nat)(M:Nat→Nat→R F.toDesc)(A Ar:Option Addr)(c cr:Nat)(w:World)(hr:Rd w w.heap.size A (modL F.toDesc))(hrm:RdM w w.heap.size Ar n (rowsL F.toDesc m M))(hn:n≤256)(hm1:1≤m)(hm:m≤256) :
    Calls Tryz.prog 174 #[.agg #[.int .i64 F.p,.int .i64 F.m,.slice A F.mod.length c],.agg #[.int .i64 m,.slice Ar n cr]] w (KerPost F n m M w):=by
  have hO:=fun X W h1 h2 h3 h4 h5=>Lib.hid (gOpenM_ok F hgood n m M A Ar c cr X W h1 h2 hn hm h3 h4 h5)
  obtain⟨Z,hZ⟩:∃ Z,Z=((w.alloc (.cells #[.int .i64 F.p,.int .i64 F.m,.slice A F.mod.length c] 24)).alloc (.cells #[.int .i64 m,.slice Ar n cr] 48)).alloc (.cells #[.int .i64 0,.slice none 0 0] 48):=⟨_,rfl⟩;have hB:Below w.heap.size w Z:=by rw[hZ]; exact (((Below.refl _ _).alloc (Nat.le_refl _) _).alloc (by simp) _).alloc (by simp; omega) _
  have hZs:Z.heap.size=w.heap.size+1+1+1:=by rw[hZ]; simp
  have kz:(Z.cell? ⟨w.heap.size,0,none⟩=some (.int .i64 F.p)∧Z.cell? ⟨w.heap.size,1,none⟩=some (.int .i64 F.m)∧Z.cell? ⟨w.heap.size,2,none⟩=some (.slice A F.mod.length c)) ∧
      (Z.cell? ⟨w.heap.size+1,0,none⟩=some (.int .i64 m)∧Z.cell? ⟨w.heap.size+1,1,none⟩=some (.slice Ar n cr))∧Z.cell? ⟨w.heap.size+1+1,0,none⟩=some (.int .i64 0)∧Z.cell? ⟨w.heap.size+1+1,1,none⟩=some (.slice none 0 0) ∧
      Z.frozen? ⟨w.heap.size+1+1,0,none⟩=false∧Z.frozen? ⟨w.heap.size+1+1,1,none⟩=false:=by rw[hZ]; simp[go_sem]
  obtain⟨s,hs⟩:∃ s,s=w.heap.size:=⟨_,rfl⟩;rw[←hs]at kz hZs;obtain⟨⟨z0,z1,z2⟩,⟨y0,y1⟩,kx⟩:=kz;have ky:=Lib.hid (show Z.cell? ⟨s+1,0,none⟩=some (.int .i64 m)∧Z.cell? ⟨s+1,1,none⟩=some (.slice Ar n cr) from ⟨y0,y1⟩);replace kx:=Lib.hid kx;have hb2:Below Z.heap.size Z (Z.alloc (.cells #[.int .i64 m,.slice Ar n cr] 48)):=(Below.refl _ _).alloc (Nat.le_refl _) _;have hB2:=hB.trans (hb2.mono hB.size);have hO2:=hO (s+1+1+1) _ ((hr.below hB2).more hB2.size) ((hrm.below hB2).more hB2.size) (by rw[World.size_alloc]; omega) (by rw[←hZs]; simp[go_sem]) (by rw[←hZs]; simp[go_sem]);have hsZ:s+1+1<Z.heap.size:=by omega
  replace hZs:=Lib.hid hZs;replace hZ:=Lib.hid hZ;clear hO;go_enter Tryz.func174,Tryz.ntmps174;go_wp2_with (fail);rw[←hZ.out];simp only[←hs];have hsw:w.heap.size≤s:=Nat.le_of_eq hs.symm;replace hs:=Lib.hid hs;(with_reducible refine hO2.out.mono ?_);rintro e w1 ⟨g,F1,h1,rfl,hgf,hb1⟩;have hB1:=hB2.trans (hb1.mono hB2.size);have hbz:=hb2.trans (hb1.mono hb2.size);obtain⟨M1,hM1,hpost⟩:=kerPost_two F F1 h1 n m M;have hp9:=Lib.hid (hpost w);have hrm1:=(hrm.below hB1).more hB1.size;rw[←hM1]at hrm1;have hB0:=Lib.hid hB1;clear hM1 hpost hO2 hB2 hb2 hrm hr h1 hgood;have hC:=Lib.hid (gCanon_any F1 n m M1 Ar cr g w1 hgf hrm1 (by omega) hm1 (by omega));clear hrm1;have k1:=Lib.hid (show w1.cell? ⟨s+1,0,none⟩=some (.int .i64 m)∧w1.cell? ⟨s+1,1,none⟩=some (.slice Ar n cr) from ⟨(hbz.cell (p:=⟨s+1,0,none⟩) (show s+1<Z.heap.size by omega)).trans ky.out.1,(hbz.cell (p:=⟨s+1,1,none⟩) (show s+1<Z.heap.size by omega)).trans ky.out.2⟩);have hs1:=hbz.size;obtain⟨y0,y1⟩:=k1.out;go_wp2_with (fail);(with_reducible refine hC.out.mono ?_);rintro e w3 ⟨g3,vp,rfl,hown,hmp,hg3,hb3⟩;clear y0 y1 hC;have hbz3:=hbz.trans (hb3.mono hbz.size);have hB3:=hB0.out.trans (hb3.mono hB0.out.size);have kx3:Hid (w3.cell? ⟨s+1+1,0,none⟩=some (.int .i64 0)∧w3.cell? ⟨s+1+1,1,none⟩=some (.slice none 0 0)∧w3.frozen? ⟨s+1+1,0,none⟩=false∧w3.frozen? ⟨s+1+1,1,none⟩=false) :=
    ⟨(hbz3.cell (p:=⟨s+1+1,0,none⟩) (show s+1+1<Z.heap.size by omega)).trans kx.out.1,(hbz3.cell (p:=⟨s+1+1,1,none⟩) (show s+1+1<Z.heap.size by omega)).trans kx.out.2.1,(hbz3.frozen (p:=⟨s+1+1,0,none⟩) (show s+1+1<Z.heap.size by omega)).trans kx.out.2.2.1,(hbz3.frozen (p:=⟨s+1+1,1,none⟩) (show s+1+1<Z.heap.size by omega)).trans kx.out.2.2.2⟩
  have k3:=Lib.hid (show w3.cell? ⟨s+1,0,none⟩=some (.int .i64 m)∧w3.cell? ⟨s+1,1,none⟩=some (.slice Ar n cr) from ⟨(hbz3.cell (p:=⟨s+1,0,none⟩) (show s+1<Z.heap.size by omega)).trans ky.out.1,(hbz3.cell (p:=⟨s+1,1,none⟩) (show s+1<Z.heap.size by omega)).trans ky.out.2⟩);have hs3:s+1+1<w3.heap.size:=Nat.lt_of_lt_of_le hsZ hbz3.size;have hgf3:=(hgf.below hb3).more hb3.size;obtain⟨r,hrk⟩:∃ r,r=rkS F1 n m M1:=⟨_,rfl⟩;obtain⟨E,hE⟩:∃ E,E=(elS n M1 m).1:=⟨_,rfl⟩;obtain⟨pl,hpl⟩:∃ pl,pl=(elS n M1 m).2:=⟨_,rfl⟩;obtain⟨p,hp⟩:∃ p,p=pvF pl:=⟨_,rfl⟩;have hplr:Hid (pl.length=r):=by rw[hpl,hrk]; rfl
  have hcon:=fun c=>Lib.hid (conB_natL hplr.out hp c)
  have hRR:RR m r p E:=by rw[hrk,hp,hpl,hE]; exact elS_RR n m M1
  have hrm64:r≤m:=by rw[hrk]; exact (elS_le n M1 m).2
  have hTm:(npv p r m).length≤m:=by
    have h:=List.length_filter_le (fun c=>!decide (∃ i,i<r∧p i=c)) (List.range m);rw[List.length_range]at h; exact h
  have hpv:Hid (∀ i,i<r→(natL pl)[i]?.getD 0=(p i:Int)):=fun i hi=>by rw[hp]; exact natL_pv pl (by rw[hplr.out]; exact hi)
  have hnl:Hid ((natL pl).length=r):=(natL_len pl).trans hplr.out;have hin:Hid (rkS F1 (npv p r m).length m (nulM r m p E)=(npv p r m).length):=elS_rank nul_indep;rw[←hrk,←hE]at hmp;rw[←hrk];rw[←hpl]at hown;unfold KerPost at hp9;rw[←hrk,←hE,←hpl]at hp9;have hC2:=fun Ar' cr' W a b d=>Lib.hid (gCanon_any F1 (npv p r m).length m (nulM r m p E) Ar' cr' g W a b d hm1 (by omega))
  rw[hin.out]at hC2;obtain⟨T,hT⟩:∃ T,T=(npv p r m).length:=⟨_,rfl⟩;replace hrk:=Lib.hid hrk;replace hE:=Lib.hid hE;replace hpl:=Lib.hid hpl;replace hp:=Lib.hid hp;replace hT:=Lib.hid hT;obtain⟨Ap,cp,rfl,hcp1,hrp0,-⟩:=hown.form;have hrl0:=(hmp.rdmU hg3).rdm;rw[hnl.out]at hcp1 ⊢;clear hin hown hmp hbz hbz3 hb3 k1 ky kx hb1;obtain⟨y0,y1⟩:=k3.out;go_wp2_with (fail);clear y0 y1;obtain⟨V,hVe⟩:∃ V,V=w3.heap.size:=⟨_,rfl⟩;have hVl:V≤w3.heap.size:=Nat.le_of_eq hVe;have hwV:w.heap.size≤V:=by rw[hVe]; exact hB3.size
  have hsV:s+1+1<V:=by rw[hVe]; exact hs3
  have hgV:GF w3 V g F1:=by rw[hVe]; exact hgf3
  have hrp:Rd w3 V Ap (natL pl):=by rw[hVe]; exact hrp0
  have hrl:RdM w3 V (some ⟨g3,0,none⟩) r (rowsL F1.toDesc m E):=by rw[hVe]; exact hrl0
  replace hVe:=Lib.hid hVe;obtain⟨rows,hrows⟩:∃ rows,rows=rowsL F1.toDesc m (nulM r m p E):=⟨_,rfl⟩;have hrowl:Hid (∀ t,(rows t).length=m):=fun t=>by rw[hrows,rowsL_length]
  replace hrows:=Lib.hid hrows;clear hrp0 hrl0 hgf3 hgf;go_loopw [37,10,11,12,13,14] (fun i v _ _ _ _ wr=>∃ cc:Nat,cc≤m∧i=.int .i64 cc∧Hid (OwnM wr V v (npv p r cc).length rows)∧Below V w3 wr) (fun i _ _ _ _ _ _=>m - (intOf i).toNat)
  case atStart=>exact⟨0,by omega,rfl,Lib.hid (OwnM.nil _ _ _),Below.refl _ _⟩
  case round =>
    obtain⟨wc,rfl⟩:∃ wc:World,wc=wr:=⟨_,rfl⟩;obtain⟨cc,hcc,rfl,hown,hbc⟩:=hrel;have hVc:V≤wc.heap.size:=Nat.le_trans hVl hbc.size;obtain⟨Av,cv,rfl⟩:=hown.out.size;have y0:=(hbc.cell (p:=⟨s+1,0,none⟩) (show s+1<V by omega)).trans k3.out.1;by_cases hcm:cc<m
    · have c0:(0:Int)≤(cc:Int):=by omega
      have c1:(cc:Int)<(m:Int):=by omega
      have hCo:=Contains_any (natL pl) (cc:Int) Ap cp wc ((hrp.below hbc).more hVc) (by rw[hnl.out]; unfold maxLen; omega);rw[hnl.out,(hcon cc).out]at hCo;by_cases hpc:∃ i,i<r∧p i=cc
      · rw[decide_eq_true hpc]at hCo;replace hCo:=Lib.hid hCo;have hown2:Hid (OwnM wc V (.slice Av (npv p r cc).length cv) (npv p r (cc+1)).length rows):=by rw[npv_skip hpc]; exact hown
        replace hpc:=Lib.hid hpc;generalize (npv p r cc).length=t at *;go_wp2_with (fail);(with_reducible refine hCo.out.mono ?_);rintro e w5 ⟨rfl,rfl⟩;go_wp2_with (fail);go_roundw
        case rel=>exact⟨cc+1,by omega,by go_num,hown2,hbc⟩
        case measure=>simp[intOf]; omega
      · rw[decide_eq_false hpc]at hCo;replace hCo:=Lib.hid hCo;have hmk:=mk_ints m (by omega);obtain⟨e1,e2⟩:=npv_at (m:=m) hcm hpc;have hne:Hid (∀ i,i<r→p i≠cc):=fun i hi e=>hpc ⟨i,hi,e⟩
        have hfull:Hid (nulL F1 m p E cc r=rows (npv p r cc).length):=by rw[hrows.out]; exact nulL_full F1 e1
        obtain⟨t,ht⟩:∃ t,t=(npv p r cc).length:=⟨_,rfl⟩;rw[←ht]at hown hfull e2 ⊢;obtain⟨t2,ht2⟩:∃ t2,t2=(npv p r (cc+1)).length:=⟨_,rfl⟩
        have htm : t < m + 1 := by have : (npv p r cc).length ≤ cc := by { have h := List.length_filter_le (fun c => !decide (∃ i,i < r ∧ p i = c)) (List.range cc); rw [List.length_range] at h; exact h }
                                   omega
        replace e1:=Lib.hid e1;replace e2:=Lib.hid e2;replace ht:=Lib.hid ht;replace ht2:=Lib.hid ht2;replace hpc:=Lib.hid hpc;obtain⟨gx,hgx⟩:∃ g,g=wc.heap.size:=⟨_,rfl⟩;have hib0:=IB.newz wc m;have hcW:=hib0.cell (i:=cc) (by rw[List.length_replicate]; exact hcm);have hfW:=hib0.frozen cc;obtain⟨Y,hY⟩:∃ Y,Y=wc.alloc (.cells ((Array.replicate m (Value.int .i64 0)).setIfInBounds cc (Value.int .i64 1)) 3):=⟨_,rfl⟩;have hibY:Hid (IB Y gx (nulL F1 m p E cc 0)):=by rw[hY,hgx,←nulL_zero,set_arr]; exact Lib.hid (IB.new wc _)
        have hbY:Below gx wc Y:=by rw[hY,hgx]; exact (Below.refl _ _).alloc (Nat.le_refl _) _
        have hgV2:V≤gx:=by rw[hgx]; exact hVc
        have hbVY:Below V w3 Y:=hbc.trans (hbY.mono hgV2);replace hY:=Lib.hid hY;clear hib0;go_wp2_with (fail);(with_reducible refine hCo.out.mono ?_);rintro e w5 ⟨rfl,rfl⟩;go_wp2_with (fail);rw[←hY.out];simp only[←hgx];replace hgx:=Lib.hid hgx;clear hmk hcW hfW hCo y0;go_loopw [51,13,14] (fun i _ _ wr=>∃ k:Nat,k≤r∧i=.int .i64 k∧Hid (IB wr gx (nulL F1 m p E cc k))∧Below gx Y wr) (fun i _ _ _=>r - (intOf i).toNat)
        case atStart=>exact⟨0,by omega,rfl,hibY,Below.refl _ _⟩
        case round =>
          clear hibY;obtain⟨wd,rfl⟩:∃ wd:World,wd=wr:=⟨_,rfl⟩;obtain⟨k,hk,rfl,hibd,hbd⟩:=hrel;have hgl2:=hibd.out.lt;by_cases hkr:k<r
          · have j0:(0:Int)≤(k:Int):=by omega
            have j1:(k:Int)<(r:Int):=by omega
            have hbVd:=hbVY.trans (hbd.mono hgV2);obtain⟨bp,op,rfl,hbp,hcp⟩:=hrp.at_ (k:=k) (by rw[hnl.out]; exact hkr);rw[hpv.out k hkr]at hcp;replace hcp:=(hbVd.cell (p:=⟨bp,op+k,none⟩) hbp).trans hcp;obtain⟨br,orr,Ai,ci',er,hbr,hcr,hri,-,-⟩:=hrl.at_ hkr
            injection er with er
            injection er with e4 e5 e6
            subst e4 e5;rw[rowsL_length]at hcr;replace hcr:=(hbVd.cell (p:=⟨g3,0+k,none⟩) hbr).trans hcr;rw[Nat.zero_add]at hcr;have hri2:Rd w3 V Ai (lst m fun c=>ci (E k c)):=hri;obtain⟨be,oe,rfl,hbe,hce⟩:=hri2.at_ (k:=cc) (by rw[lst_length]; exact hcm);rw[lst_get _ hcm]at hce;replace hce:=(hbVd.cell (p:=⟨be,oe+cc,none⟩) hbe).trans hce;have hpm:=hRR.lt k hkr;have hset:=fun W (h:IB W gx _)=>(nulL_set F1 hRR hkr (hne.out k hkr)) ▸ h.set_ (p k) (ci (-(E k cc)))
            have hN:=gNeg_any F1 (ci (E k cc)) g wd ((hgV.below hbVd).more (Nat.le_trans hVl hbVd.size));rw[eli_ci]at hN;obtain⟨y,hy⟩:∃ y,y=ci (-(E k cc)):=⟨_,rfl⟩;obtain⟨x,hx⟩:∃ x,x=ci (E k cc):=⟨_,rfl⟩;rw[←hy]at hset hN;rw[←hx]at hce hN;obtain⟨pk,hpk⟩:∃ pk,pk=p k:=⟨_,rfl⟩;rw[←hpk]at hcp hset hpm;have p0:(0:Int)≤(pk:Int):=by omega
            have p1:(pk:Int)<(m:Int):=by omega
            replace hN:=Lib.hid hN;replace hy:=Lib.hid hy;replace hx:=Lib.hid hx;replace hpk:=Lib.hid hpk;clear hri hri2;go_wp2_with (fail);(with_reducible refine hN.out.mono ?_);rintro e we ⟨rfl,hb⟩;have hibe:=hibd.out.below hb hgl2;have hcW:=hibe.cell (i:=pk) (by rw[nulL,lst_length]; exact hpm);have hfW:=hibe.frozen pk;have hstep:=Lib.hid (hset _ hibe);have hbs:Below gx Y (we.setCell ⟨gx,pk,none⟩ (.int .i64 y)):=(hbd.trans (hb.mono (by omega))).setCell (p:=⟨gx,pk,none⟩) (Nat.le_refl _) _;clear hN hcp hcr hce hset;go_wp2_with (fail);clear hcW hfW;go_roundw
            case rel=>exact⟨k+1,by omega,by go_num,hstep,hbs⟩
            case measure=>simp[intOf]; omega
          · have hkr2:k=r:=by omega
            rw[hkr2,hfull.out]at hibd;have hbvd:Below gx wc wd:=hbY.trans hbd;have hown2:OwnM wd V (.slice Av t cv) t rows:=hown.out.below (W:=gx) hbvd (Nat.le_of_eq hgx.out.symm);have hlt0:=hown.out.lt0;rw[←hgx.out]at hlt0;have hVd:V≤wd.heap.size:=by omega
            replace hlt0:=Lib.hid hlt0;go_wp2_with (at_builtin; refine wpList_appRow rfl (.tmp 69) (.tmp 71) rfl V _ t rows hown2 (some ⟨gx,0,none⟩) m m hibd.out.rd (hrowl.out t) (Nat.le_refl _) (by unfold maxLen; omega) gx hlt0.out (fun a e=>by cases e; exact Nat.le_refl _) hgV2 rfl rfl rfl (by omega) hVd ?_; intro v' w' ho' hb');rw[←e2.out]at ho';replace ho':=Lib.hid ho';go_roundw
            case rel=>exact⟨cc+1,by omega,by go_num,ho',(hbVY.trans (hbd.mono hgV2)).trans hb'⟩
            case measure=>simp[intOf]; omega
    · have hcm2:cc=m:=by omega
      rw[hcm2,←hT.out]at hown ⊢;obtain⟨A9,c9,e9,hrm9⟩:=OwnM.rdm hown.out;have e9':A9=Av∧c9=cv:=by injection e9 with g1 g2 g3; exact⟨g1.symm,g3.symm⟩
      obtain⟨rfl,rfl⟩:=e9';clear e9;have hBc:=hB3.trans (hbc.mono hwV);have hq2:=hC2 A9 c9 wc ((hgV.below hbc).more hVc) (by rw[←hT.out,←hrows.out]; exact hrm9) (by omega);rw[←hT.out]at hq2;replace hcm2:=Lib.hid hcm2;go_wp2_with (fail);(with_reducible refine hq2.out.mono ?_);rintro e wz ⟨gz,vz,rfl,-,hmz,hgz,hbz⟩;clear hq2 y0;have hbV:=hbc.trans (hbz.mono hVc);have y0:=(hbV.cell (p:=⟨s+1,0,none⟩) (show s+1<V by omega)).trans k3.out.1;have v0:=(hbV.cell (p:=⟨s+1+1,0,none⟩) hsV).trans kx3.out.1;have v1:=(hbV.cell (p:=⟨s+1+1,1,none⟩) hsV).trans kx3.out.2.1;have e0:=(hbV.frozen (p:=⟨s+1+1,0,none⟩) hsV).trans kx3.out.2.2.1;have e1:=(hbV.frozen (p:=⟨s+1+1,1,none⟩) hsV).trans kx3.out.2.2.2;have hru:=hmz.rdmU hgz;have hfin:Hid (RdMU ((wz.setCell ⟨s+1+1,0,none⟩ (.int .i64 m)).setCell ⟨s+1+1,1,none⟩ (.slice (some ⟨gz,0,none⟩) T T)) wc.heap.size wz.heap.size (some ⟨gz,0,none⟩) T (rowsL F1.toDesc m (elS T (nulM r m p E) m).1)) :=
        hru.keepU fun p hp _=>set2_above (b:=s+1+1) (L:=wc.heap.size) (by omega) _ _ p hp
      have hsz:Hid (wz.heap.size≤((wz.setCell ⟨s+1+1,0,none⟩ (.int .i64 m)).setCell ⟨s+1+1,1,none⟩ (.slice (some ⟨gz,0,none⟩) T T)).heap.size):=by unfold Hid; simp[World.setCell]
      have hBf:=Lib.hid ((hBc.trans (hbz.mono hBc.size)).trans ((set2 (w3:=wz) (b:=s+1+1) (.int .i64 m) (.slice (some ⟨gz,0,none⟩) T T)).mono (by omega)));have hend:=hp9.out (.returned (.tuple #[.agg #[.int .i64 m,.slice (some ⟨gz,0,none⟩) T T],.int .i64 0])) ((wz.setCell ⟨s+1+1,0,none⟩ (.int .i64 m)).setCell ⟨s+1+1,1,none⟩ (.slice (some ⟨gz,0,none⟩) T T)) ⟨p,hp.out,some ⟨gz,0,none⟩,by rw[←hT.out],hBf.out,by rw[←hT.out]; exact (hfin.out.low hBc.size).more hsz.out⟩;replace hend:=Lib.hid hend;clear hfin hsz hBf hru hmz;go_wp2_with (fail);exact bodyPost_ret (v:=.tuple #[.agg #[.int .i64 m,.slice (some ⟨gz,0,none⟩) T T],.int .i64 0]) (by simp[results,Tryz.results174,go_sem,v0,v1]) rfl hend.out
end Go.Proofs.YtjdoneanohhkmaaGreat

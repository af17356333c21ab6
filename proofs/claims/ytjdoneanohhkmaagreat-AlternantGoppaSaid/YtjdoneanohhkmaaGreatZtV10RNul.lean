/- Layer 09 of the reference: Null. -/
import Derived.Test.YtjdoneanohhkmaaGreatZtV10RMH
import Derived.Test.YtjdoneanohhkmaaGreatZtV10RGrsA
import Derived.Test.YtjdoneanohhkmaaGreatZtV10RMI
import Derived.Test.YtjdoneanohhkmaaGreatZtV10RTk
namespace Go.Proofs.YtjdoneanohhkmaaGreat
open Go.RowKit Cw
attribute [local go_sem] Oper.semAt_some

theorem natL_len (l:List Nat):(natL l).length=l.length:=List.length_map ..
theorem natL_pv (l:List Nat){i:Nat} (h:i<l.length):(natL l)[i]?.getD 0=(pvF l i:Int):=by
 unfold natL pvF;rw[List.getElem?_map,List.getElem?_eq_getElem h];rfl
theorem rsum0 {F:Type} [CField F] (f:Nat→F):rsum 0 f=0:=rfl
theorem set_arr (m c:Nat):(Array.replicate m (Value.int .i64 0)).setIfInBounds c (Value.int .i64 1)=(((List.replicate m (0:Int)).set c 1).map (Value.int .i64)).toArray:=by
 apply Array.ext';simp[List.map_set]
noncomputable def nulL (F:FD)(m:Nat)(p:Nat→Nat)(E:Nat→Nat→R F.toDesc)(c k:Nat):List Int:=lst m fun j=>ci (nulK p E c k j)
theorem nulL_zero (F:FD){m:Nat} (p:Nat→Nat)(E:Nat→Nat→R F.toDesc){c:Nat}:(List.replicate m (0:Int)).set c 1=nulL F m p E c 0:=by
 apply List.ext_getElem
 ·rw[List.length_set,List.length_replicate,nulL,lst_length]
 ·intro j h1 h2;rw[List.getElem_set];simp only[nulL,lst,List.getElem_map,List.getElem_range,List.getElem_replicate,nulK,rsum0,sub_zero];by_cases e:c=j
  ·rw[if_pos e,if_pos e.symm]; exact (ci_one).symm
  ·rw[if_neg e,if_neg (fun h=>e h.symm)]; exact (ci_zero).symm
theorem nulL_set (F:FD){m r:Nat} {p:Nat→Nat} {E:Nat→Nat→R F.toDesc} (h:RR m r p E){c k:Nat} (hk:k<r)(hc:p k≠c):(nulL F m p E c k).set (p k) (ci (-(E k c)))=nulL F m p E c (k+1):=by
 apply List.ext_getElem
 ·rw[List.length_set,nulL,lst_length,nulL,lst_length]
 ·intro j h1 h2;rw[List.getElem_set];simp only[nulL,lst,List.getElem_map,List.getElem_range];rw[nulK_step h hk hc];by_cases e:p k=j
  ·rw[if_pos e,if_pos e.symm]
  ·rw[if_neg e,if_neg (fun g=>e g.symm)]
theorem nulL_full (F:FD){m r:Nat} {p:Nat→Nat} {E:Nat→Nat→R F.toDesc} {c t:Nat} (e:(npv p r m)[t]?.getD 0=c):nulL F m p E c r=rowsL F.toDesc m (nulM r m p E) t:=by
 show nulL F m p E c r=rowL F.toDesc m (nulR r p E ((npv p r m)[t]?.getD 0))
 rw[e];rfl

def NullPost (F:FD)(n m:Nat)(M:Nat→Nat→R F.toDesc)(w:World)(e:Ending)(w':World):Prop :=
 ∃ p:Nat→Nat,p=pvF (elS n M m).2∧∃ Al cl,e=.returned (.slice Al (npv p (rkS F n m M) m).length cl)∧Below w.heap.size w w'∧RdMU w' w.heap.size w'.heap.size Al (npv p (rkS F n m M) m).length (rowsL F.toDesc m (elS (npv p (rkS F n m M) m).length (nulM (rkS F n m M) m p (elS n M m).1) m).1)

set_option maxRecDepth 100000 in
set_option maxHeartbeats 16000000 in
theorem Null9_any (F:FD)(n m:Nat)(M:Nat→Nat→R F.toDesc)(A Ar:Option Addr)(c cr:Nat)(w:World)(hr:Rd w w.heap.size A (modL F.toDesc))(hrm:RdM w w.heap.size Ar n (rowsL F.toDesc m M))(hn:n≤1000000)(hm:m≤4096) :
    Calls Tryz.prog 128 #[.agg #[.int .i64 F.p,.int .i64 F.m,.slice A F.mod.length c],.slice Ar n cr,.int .i64 m] w (NullPost F n m M w):=by
  have hCn:=fun n' M' Ar' cr' W a b h=>Lib.hid (Canon9_any F n' m m M' A Ar' c cr' W a b h (by omega) (Nat.le_refl _))
  have hNg:=fun x W=>Lib.hid (Neg_any F.toDesc x A F.mod.length c W)
  obtain⟨r,hrk⟩:∃ r,r=rkS F n m M:=⟨_,rfl⟩;obtain⟨E,hE⟩:∃ E,E=(elS n M m).1:=⟨_,rfl⟩;obtain⟨pl,hpl⟩:∃ pl,pl=(elS n M m).2:=⟨_,rfl⟩;obtain⟨p,hp⟩:∃ p,p=pvF pl:=⟨_,rfl⟩;have hplr:Hid (pl.length=r):=by rw[hpl,hrk]; rfl
  have hRR:RR m r p E:=by rw[hrk,hp,hpl,hE]; exact elS_RR n m M
  have hrm64:r≤m:=by rw[hrk]; exact (elS_le n M m).2
  have hTm:(npv p r m).length≤m:=by
    have h:=List.length_filter_le (fun c=>!decide (∃ i,i<r∧p i=c)) (List.range m);rw[List.length_range]at h; exact h
  have hpv:Hid (∀ i,i<r→(natL pl)[i]?.getD 0=(p i:Int)):=fun i hi=>by rw[hp]; exact natL_pv pl (by rw[hplr.out]; exact hi)
  have hnl:Hid ((natL pl).length=r):=(natL_len pl).trans hplr.out;have hin:Hid (rkS F (npv p r m).length m (nulM r m p E)=(npv p r m).length):=elS_rank nul_indep;unfold NullPost;rw[←hrk,←hE];have hC1:=hCn n M Ar cr;unfold CanonPost at hC1;rw[←hrk,←hE,←hpl]at hC1;have hC2:=fun Ar' cr'=>hCn (npv p r m).length (nulM r m p E) Ar' cr'
  unfold CanonPost at hC2;rw[hin.out]at hC2;obtain⟨T,hT⟩:∃ T,T=(npv p r m).length:=⟨_,rfl⟩;obtain⟨s,hs⟩:∃ s,s=w.heap.size:=⟨_,rfl⟩;obtain⟨Z,hZ⟩:∃ Z,Z=w.alloc (.cells #[.int .i64 F.p,.int .i64 F.m,.slice A F.mod.length c] 24):=⟨_,rfl⟩;have hB:Below w.heap.size w Z:=by rw[hZ]; exact (Below.refl _ _).alloc (Nat.le_refl _) _
  have hbx:Hid (Bx Z s F.toDesc A F.mod.length c):=by rw[hZ,hs]; exact Lib.hid (Bx.new w F.toDesc A F.mod.length c _)
  have hsZ:s<Z.heap.size:=by rw[hZ,hs]; simp
  have hq1:=hC1 Z ((hr.below hB).more hB.size) ((hrm.below hB).more hB.size) hn;replace hrk:=Lib.hid hrk;replace hE:=Lib.hid hE;replace hpl:=Lib.hid hpl;replace hp:=Lib.hid hp;replace hZ:=Lib.hid hZ;replace hT:=Lib.hid hT;clear hC1 hCn hin;go_enter Tryz.func128,Tryz.ntmps128;obtain⟨q0,q1,q2⟩:=hbx.out.cells;go_wp2_with (fail);rw[←hZ.out];simp only[←hs];replace hs:=Lib.hid hs;go_wp2_with (fail);(with_reducible refine hq1.out.mono ?_);rintro e w1 ⟨Al,cl,Ap,cp,rfl,hb1,hrl,hrp,-,-,-⟩;clear hq1 q0 q1 q2;have hB1:=hB.trans (hb1.mono hB.size);have hbx1:=Lib.hid (hbx.out.below hb1 hsZ);have hs1:s<w1.heap.size:=Nat.lt_of_lt_of_le hsZ hb1.size;have hrl1:=hrl.rdm;clear hbx hrl hb1 hB;have hmk:=mk_ints m (by omega);obtain⟨X,hX⟩:∃ X,X=w1.alloc (.cells (Array.replicate m (Value.int .i64 0)) 3):=⟨_,rfl⟩;obtain⟨gL,hgL⟩:∃ g,g=w1.heap.size:=⟨_,rfl⟩;have hib:Hid (IB X gL (upd m 0 fun _=>-1)):=by rw[upd_zero,hX,hgL]; exact Lib.hid (IB.newz w1 m)
  have hbX:Below gL w1 X:=by rw[hX,hgL]; exact (Below.refl _ _).alloc (Nat.le_refl _) _
  have hg1:gL≤w1.heap.size:=Nat.le_of_eq hgL;have hg2:w1.heap.size≤gL:=Nat.le_of_eq hgL.symm;have hsL:s<gL:=by omega
  replace hX:=Lib.hid hX;go_wp2_with (fail);rw[←hX.out];simp only[←hgL];replace hgL:=Lib.hid hgL;clear hmk;go_loopw [10] (fun i wr=>∃ k:Nat,k≤m∧i=.int .i64 k∧Hid (IB wr gL (upd m k fun _=>-1))∧Below gL w1 wr) (fun i _=>m - (intOf i).toNat)
  case atStart=>exact⟨0,by omega,rfl,hib,hbX⟩
  case round =>
    clear hib hbX;obtain⟨wa,rfl⟩:∃ wa:World,wa=wr:=⟨_,rfl⟩;obtain⟨k,hk,rfl,hib,hba⟩:=hrel;have hgl:=hib.out.lt;by_cases hkm:k<m
    · have k0:(0:Int)≤(k:Int):=by omega
      have k1:(k:Int)<(m:Int):=by omega
      have hcW:=hib.out.cell (i:=k) (by rw[upd_length]; exact hkm);have hfW:=hib.out.frozen k;have hset:=hib.out.set_ k (-1);rw[show ((upd m k fun _=>(-1:Int)).set k (-1))=upd m (k+1) (fun _=>-1) from upd_set m k (fun _=>-1)]at hset;replace hset:=Lib.hid hset;have hbs:Below gL w1 (wa.setCell ⟨gL,k,none⟩ (.int .i64 (-1))):=hba.setCell (p:=⟨gL,k,none⟩) (Nat.le_refl _) _;go_wp2_with (fail);go_roundw
      case rel=>exact⟨k+1,by omega,by go_num,hset,hbs⟩
      case measure=>simp[intOf]; omega
    · have hkm2:k=m:=by omega
      rw[hkm2,upd_full]at hib;replace hib:Hid (IB wa gL (lst m (lead p 0))):=hib;go_wp2_with (fail);clear hkm hkm2;go_loopw [11] (fun i wr=>∃ k:Nat,k≤r∧i=.int .i64 k∧Hid (IB wr gL (lst m (lead p k)))∧Below gL w1 wr) (fun i _=>r - (intOf i).toNat)
      case atStart=>exact⟨0,by omega,rfl,hib,hba⟩
      case round =>
        clear hib hba hgl;obtain⟨wb,rfl⟩:∃ wb:World,wb=wr:=⟨_,rfl⟩;obtain⟨k2,hk2,rfl,hib,hbb⟩:=hrel;have hgl:=hib.out.lt;by_cases hkr:k2<r
        · have k0:(0:Int)≤(k2:Int):=by omega
          have k1:(k2:Int)<(r:Int):=by omega
          obtain⟨bp,op,rfl,hbp,hcp⟩:=hrp.at_ (k:=k2) (by rw[hnl.out]; exact hkr);rw[hpv.out k2 hkr]at hcp;have hpm:=hRR.lt k2 hkr;have hset:=hib.out.set_ (p k2) (k2:Int);rw[lead_set]at hset;have hcW:=hib.out.cell (i:=p k2) (by rw[lst_length]; exact hpm);have hfW:=hib.out.frozen (p k2);obtain⟨pk,hpk⟩:∃ pk,pk=p k2:=⟨_,rfl⟩;rw[←hpk]at hcp hset hcW hfW hpm;have hdp:=(hbb.cell (p:=⟨bp,op+k2,none⟩) (Nat.lt_of_lt_of_le hbp hg2)).trans hcp;have j0:(0:Int)≤(pk:Int):=by omega
          have j1:(pk:Int)<(m:Int):=by omega
          replace hset:=Lib.hid hset;replace hpk:=Lib.hid hpk;have hbs:Below gL w1 (wb.setCell ⟨gL,pk,none⟩ (.int .i64 k2)):=hbb.setCell (p:=⟨gL,pk,none⟩) (Nat.le_refl _) _;clear hcp;go_wp2_with (fail);go_roundw
          case rel=>exact⟨k2+1,by omega,by go_num,hset,hbs⟩
          case measure=>simp[intOf]; omega
        · have hkr2:k2=r:=by omega
          rw[hkr2]at hib;go_wp2_with (fail);clear hkr hkr2;have hVs:gL<wb.heap.size:=hgl;obtain⟨V,hVe⟩:∃ V,V=wb.heap.size:=⟨_,rfl⟩;have hVl:V≤wb.heap.size:=Nat.le_of_eq hVe;have hVg:gL<V:=by rw[hVe]; exact hVs
          have hbxV:=Lib.hid (hbx1.out.below hbb hsL);have hBV:=hB1.trans (hbb.mono (Nat.le_trans hB1.size hg2));have hwV:w.heap.size≤V:=by rw[hVe]; exact hBV.size
          have hbb2:Below w1.heap.size w1 wb:=hbb.mono hg2;have hrpV:Rd wb V Ap (natL pl):=(hrp.below hbb2).more (by omega);have hrlV:RdM wb V Al r (rowsL F.toDesc m E):=(hrl1.below hbb2).more (by omega);replace hVe:=Lib.hid hVe;obtain⟨rows,hrows⟩:∃ rows,rows=rowsL F.toDesc m (nulM r m p E):=⟨_,rfl⟩;have hrowl:Hid (∀ t,(rows t).length=m):=fun t=>by rw[hrows,rowsL_length]
          replace hrows:=Lib.hid hrows;clear hrp hrl1 hbx1 hB1 hbb2;go_loopw [13,12,14,15] (fun i v _ _ wr=>∃ cc:Nat,cc≤m∧i=.int .i64 cc∧Hid (OwnM wr V v (npv p r cc).length rows)∧Below V wb wr) (fun i _ _ _ _=>m - (intOf i).toNat)
          case atStart=>exact⟨0,by omega,rfl,Lib.hid (OwnM.nil _ _ _),Below.refl _ _⟩
          case round =>
            obtain⟨wc,rfl⟩:∃ wc:World,wc=wr:=⟨_,rfl⟩;obtain⟨cc,hcc,rfl,hown,hbc⟩:=hrel;have hVc:V≤wc.heap.size:=Nat.le_trans hVl hbc.size;obtain⟨Av,cv,rfl⟩:=hown.out.size;by_cases hcm:cc<m
            · have k0:(0:Int)≤(cc:Int):=by omega
              have k1:(cc:Int)<(m:Int):=by omega
              have hlc:=(hib.out.below hbc hVg).cell (i:=cc) (by rw[lst_length]; exact hcm);rw[lst_get _ hcm]at hlc;obtain⟨ld,hld⟩:∃ ld,ld=lead p r cc:=⟨_,rfl⟩;have hiff:=lead_iff p cc r;rw[←hld]at hlc hiff;replace hld:=Lib.hid hld;by_cases hpc:∃ i,i<r∧p i=cc
              · have hl0:(0:Int)≤ld:=hiff.2 hpc;replace hiff:=Lib.hid hiff;have hown2:Hid (OwnM wc V (.slice Av (npv p r cc).length cv) (npv p r (cc+1)).length rows):=by rw[npv_skip hpc]; exact hown
                replace hpc:=Lib.hid hpc;generalize (npv p r cc).length=t at *;go_wp2_with (fail);go_roundw
                case rel=>exact⟨cc+1,by omega,by go_num,hown2,hbc⟩
                case measure=>simp[intOf]; omega
              · have hl0:¬ (0:Int)≤ld:=fun h=>hpc (hiff.1 h)
                replace hiff:=Lib.hid hiff;have hmk:=mk_ints m (by omega);obtain⟨e1,e2⟩:=npv_at (m:=m) hcm hpc;have hne:Hid (∀ i,i<r→p i≠cc):=fun i hi e=>hpc ⟨i,hi,e⟩
                have hfull:Hid (nulL F m p E cc r=rows (npv p r cc).length):=by rw[hrows.out]; exact nulL_full F e1
                obtain⟨t,ht⟩:∃ t,t=(npv p r cc).length:=⟨_,rfl⟩;rw[←ht]at hown hfull e2 ⊢;obtain⟨t2,ht2⟩:∃ t2,t2=(npv p r (cc+1)).length:=⟨_,rfl⟩
                have htm : t < m + 1 := by have : (npv p r cc).length ≤ cc := by { have h := List.length_filter_le (fun c => !decide (∃ i,i < r ∧ p i = c)) (List.range cc); rw [List.length_range] at h; exact h }
                                           omega
                replace e1:=Lib.hid e1;replace e2:=Lib.hid e2;replace ht:=Lib.hid ht;replace ht2:=Lib.hid ht2;replace hpc:=Lib.hid hpc;obtain⟨gx,hgx⟩:∃ g,g=wc.heap.size:=⟨_,rfl⟩;have hib0:=IB.newz wc m;have hcW:=hib0.cell (i:=cc) (by rw[List.length_replicate]; exact hcm);have hfW:=hib0.frozen cc;obtain⟨Y,hY⟩:∃ Y,Y=wc.alloc (.cells ((Array.replicate m (Value.int .i64 0)).setIfInBounds cc (Value.int .i64 1)) 3):=⟨_,rfl⟩;have hibY:Hid (IB Y gx (nulL F m p E cc 0)):=by rw[hY,hgx,←nulL_zero,set_arr]; exact Lib.hid (IB.new wc _)
                have hbY:Below gx wc Y:=by rw[hY,hgx]; exact (Below.refl _ _).alloc (Nat.le_refl _) _
                have hgV:V≤gx:=by rw[hgx]; exact hVc
                have hbVY:Below V wb Y:=hbc.trans (hbY.mono hgV);replace hY:=Lib.hid hY;clear hib0;go_wp2_with (fail);rw[←hY.out];simp only[←hgx];replace hgx:=Lib.hid hgx;clear hmk hcW hfW hlc;go_loopw [15] (fun i wr=>∃ k:Nat,k≤r∧i=.int .i64 k∧Hid (IB wr gx (nulL F m p E cc k))∧Below gx Y wr) (fun i _=>r - (intOf i).toNat)
                case atStart=>exact⟨0,by omega,rfl,hibY,Below.refl _ _⟩
                case round =>
                  clear hibY;obtain⟨wd,rfl⟩:∃ wd:World,wd=wr:=⟨_,rfl⟩;obtain⟨k,hk,rfl,hibd,hbd⟩:=hrel;have hgl2:=hibd.out.lt;by_cases hkr:k<r
                  · have j0:(0:Int)≤(k:Int):=by omega
                    have j1:(k:Int)<(r:Int):=by omega
                    obtain⟨bp,op,rfl,hbp,hcp⟩:=hrpV.at_ (k:=k) (by rw[hnl.out]; exact hkr);rw[hpv.out k hkr]at hcp;obtain⟨br,orr,Ai,ci',rfl,hbr,hcr,hri,-,-⟩:=hrlV.at_ hkr;rw[rowsL_length]at hcr;have hri2:Rd wb V Ai (lst m fun c=>ci (E k c)):=hri;obtain⟨be,oe,rfl,hbe,hce⟩:=hri2.at_ (k:=cc) (by rw[lst_length]; exact hcm);rw[lst_get _ hcm]at hce;have hpm:=hRR.lt k hkr;have hset:=fun W (h:IB W gx _)=>(nulL_set F hRR hkr (hne.out k hkr)) ▸ h.set_ (p k) (ci (-(E k cc)))
                    have hN:=fun W=>(hNg (ci (E k cc)) W).out
                    rw[eli_ci]at hN;obtain⟨y,hy⟩:∃ y,y=ci (-(E k cc)):=⟨_,rfl⟩;obtain⟨x,hx⟩:∃ x,x=ci (E k cc):=⟨_,rfl⟩;rw[←hy]at hset hN;rw[←hx]at hce hN;obtain⟨pk,hpk⟩:∃ pk,pk=p k:=⟨_,rfl⟩;rw[←hpk]at hcp hset hpm;have p0:(0:Int)≤(pk:Int):=by omega
                    have p1:(pk:Int)<(m:Int):=by omega
                    replace hN:=fun W=>Lib.hid (hN W)
                    replace hy:=Lib.hid hy;replace hx:=Lib.hid hx;replace hpk:=Lib.hid hpk;have vL:=fun W (h:Below V wb W)=>Lib.hid (show (W.cell? ⟨s,0,none⟩=some (.int .i64 F.p)∧W.cell? ⟨s,1,none⟩=some (.int .i64 F.m)∧W.cell? ⟨s,2,none⟩=some (.slice A F.mod.length c))∧W.cell? ⟨bp,op+k,none⟩=some (.int .i64 pk)∧W.cell? ⟨br,orr+k,none⟩=some (.slice (some ⟨be,oe,none⟩) m ci')∧W.cell? ⟨be,oe+cc,none⟩=some (.int .i64 x) from ⟨(hbxV.out.below h (by omega)).cells,(h.cell (p:=⟨bp,op+k,none⟩) hbp).trans hcp,(h.cell (p:=⟨br,orr+k,none⟩) hbr).trans hcr,(h.cell (p:=⟨be,oe+cc,none⟩) hbe).trans hce⟩)
                    have hbVd:=hbVY.trans (hbd.mono hgV);obtain⟨⟨c0,c1',c2⟩,c3,c4,c5⟩:=(vL _ hbVd).out;have hbdd:Below wd.heap.size wd wd.drew:=(Below.refl _ wd).drew;clear hcp hcr hri hri2 hce;go_wp2_with (fail);clear c0 c1' c2 c3 c4 c5;refine wp_region_held_drew (S:=fun w'=>(w'.cell? ⟨s,0,none⟩=some (.int .i64 F.p)∧w'.cell? ⟨s,1,none⟩=some (.int .i64 F.m)∧w'.cell? ⟨s,2,none⟩=some (.slice A F.mod.length c))∧w'.cell? ⟨bp,op+k,none⟩=some (.int .i64 pk)∧w'.cell? ⟨br,orr+k,none⟩=some (.slice (some ⟨be,oe,none⟩) m ci')∧w'.cell? ⟨be,oe+cc,none⟩=some (.int .i64 x)) (by kernel_rfl) (by (try dsimp only); exact (vL _ (hbVd.trans (hbdd.mono (by omega)))).out) (fun hHeld=>?_);refine tk 0 ?_; try simp only[pS]
                    refine tk 1 ?_; try simp only[pS]
                    refine tk 2 ?_; try simp only[pS]
                    refine tk 3 ?_; try simp only[pS]
                    refine tk 4 ?_; try simp only[pS]
                    refine tk 5 ?_; try simp only[pS]
                    refine tk 6 ?_; try simp only[pS]
                    refine tk 7 ?_; try simp only[pS]
                    refine tk 8 ?_; try simp only[pS]
                    refine tk 9 ?_; try simp only[pS]
                    refine tk 10 ?_; try simp only[pS]
                    refine tk 11 ?_; try simp only[pS]
                    refine tk 12 ?_; try simp only[pS]
                    refine rd 13 fun K hK=>?_
                    go_simp;go_at_call 150;(with_reducible refine (hN wd.drew).out.mono ?_);rintro e we ⟨rfl,hb⟩;have hbde:=hbdd.trans hb;have hbVe:=hbVd.trans (hbde.mono (by omega));have hibe:=hibd.out.below hbde hgl2;have hcW:=hibe.cell (i:=pk) (by rw[nulL,lst_length]; exact hpm);have hfW:=hibe.frozen pk;have hstep:=Lib.hid (hset _ hibe);have hbs:Below gx Y (we.setCell ⟨gx,pk,none⟩ (.int .i64 y)):=(hbd.trans (hbde.mono (by omega))).setCell (p:=⟨gx,pk,none⟩) (Nat.le_refl _) _;have hbVs:=hbVY.trans (hbs.mono hgV);go_wp2_with (fail);refine hK.out _ _ (by (try dsimp only); exact (vL _ hbVe).out) (fun hHeld=>?_);clear hK K;try simp only[pS]
                    refine tk 14 ?_; try simp only[pS]
                    refine rd 15 fun K hK=>?_
                    go_simp;refine hK.out _ _ (by (try dsimp only); exact (vL _ hbVs).out) (fun hHeld=>?_);clear hK K;try simp only[pS]
                    refine wpAnyH_done (by kernel_rfl) ?_ _;clear hcW hfW;go_wp2_with (fail);go_roundw
                    case rel=>exact⟨k+1,by omega,by go_num,hstep,hbs⟩
                    case measure=>simp[intOf]; omega
                  · have hkr2:k=r:=by omega
                    rw[hkr2,hfull.out]at hibd;have hbvd:Below gx wc wd:=hbY.trans hbd;have hown2:OwnM wd V (.slice Av t cv) t rows:=hown.out.below (W:=gx) hbvd (Nat.le_of_eq hgx.out.symm);have hlt0:=hown.out.lt0;rw[←hgx.out]at hlt0;have hVd:V≤wd.heap.size:=by omega
                    replace hlt0:=Lib.hid hlt0;go_wp2_with (at_builtin; refine wpList_appRow rfl (.tmp 82) (.tmp 84) rfl V _ t rows hown2 (some ⟨gx,0,none⟩) m m hibd.out.rd (hrowl.out t) (Nat.le_refl _) (by unfold maxLen; omega) gx hlt0.out (fun a e=>by cases e; exact Nat.le_refl _) hgV rfl rfl rfl (by omega) hVd ?_; intro v' w' ho' hb');rw[←e2.out]at ho';replace ho':=Lib.hid ho';go_roundw
                    case rel=>exact⟨cc+1,by omega,by go_num,ho',(hbVY.trans (hbd.mono hgV)).trans hb'⟩
                    case measure=>simp[intOf]; omega
            · have hcm2:cc=m:=by omega
              rw[hcm2,←hT.out]at hown ⊢;obtain⟨A9,c9,e9,hrm9⟩:=OwnM.rdm hown.out;have e9':A9=Av∧c9=cv:=by injection e9 with g1 g2 g3; exact⟨g1.symm,g3.symm⟩
              obtain⟨rfl,rfl⟩:=e9';clear e9;have hBc:=hBV.trans (hbc.mono hwV);have hq2:=hC2 A9 c9 wc ((hr.below hBc).more hBc.size) (by rw[←hT.out,←hrows.out]; exact hrm9) (by omega);rw[←hT.out]at hq2;obtain⟨c0,c1',c2⟩:=(hbxV.out.below hbc (by omega)).cells;replace hcm2:=Lib.hid hcm2;go_wp2_with (fail);(with_reducible refine hq2.out.mono ?_);rintro e wz ⟨Az,cz,Ap2,cp2,rfl,hbz,hrz,-,-,-,-⟩;clear hq2 c0 c1' c2;go_wp2_with (fail);go_ret;exact⟨p,by rw[hp.out,hpl.out],Az,cz,(show Ending.returned (Value.slice Az T cz)=Ending.returned (Value.slice Az (npv p r m).length cz) from by rw[←hT.out]),hBc.trans (hbz.mono hBc.size),by rw[←hT.out]; exact hrz.low hBc.size⟩
end Go.Proofs.YtjdoneanohhkmaaGreat

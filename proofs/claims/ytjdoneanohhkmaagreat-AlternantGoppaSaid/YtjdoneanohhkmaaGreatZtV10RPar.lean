/- Layer 19 of the program: the parity checks of a Goppa code. -/
import Derived.Test.YtjdoneanohhkmaaGreatZtV10RKnl
import Derived.Test.YtjdoneanohhkmaaGreatZtV10RAlvP
import Derived.Test.YtjdoneanohhkmaaGreatZtV10RMI
import Derived.Test.YtjdoneanohhkmaaGreatZtV10RTk
namespace Go.Proofs.YtjdoneanohhkmaaGreat
open Go.RowKit Cw
open Cw.CField (inv)
attribute [local go_sem] Oper.semAt_some

noncomputable def gopR (F:FD)(poly pts:List Int)(i:Nat):List Int:=rowL F.toDesc pts.length (gopM F poly pts i)
theorem gopM_succ (F:FD)(poly pts:List Int)(i j:Nat):gopM F poly pts (i+1) j=gopM F poly pts i j*eli F.toDesc (pts[j]?.getD 0):=by
 unfold gopM;rw[pw_succ]
 ac_rfl
def ParPost (F:FD)(poly pts:List Int)(w:World)(e:Ending)(w':World):Prop :=
 ∃ Al cl,e=.returned (.agg #[.int .i64 pts.length,.slice Al (poly.length - 1) cl])∧RdMU w' w.heap.size w'.heap.size Al (poly.length - 1) (gopR F poly pts)∧Below w.heap.size w w'
set_option maxRecDepth 100000 in
set_option maxHeartbeats 16000000 in
theorem aParity_any (S F:FD)(n g gb:Nat)(poly pts:List Int)(A B A1 A2 Ab:Option Addr)(c b c1 c2 cb gv:Nat)(w:World)(hg:GF w w.heap.size g F)(hr2:Rd w w.heap.size A2 pts)(hrv:Rd w w.heap.size (some ⟨gv,0,none⟩) (valL F.toDesc poly pts))(hl1:2≤poly.length)(hl1':poly.length≤65)(hl2:pts.length≤64) :
  Calls Tryz.prog 90 #[.agg #[.int .i64 S.p,.int .i64 S.m,.slice A S.mod.length c,.pointer (some ⟨g,0,none⟩),.slice (some ⟨gb,0,none⟩) F.q F.q,.slice Ab n cb,.int .i64 S.m],.slice (some ⟨gv,0,none⟩) pts.length pts.length,.agg #[.int .i64 S.p,.int .i64 S.m,.slice A S.mod.length c,.int .i64 F.p,.int .i64 F.m,.slice B F.mod.length b,.slice A1 poly.length c1,.slice A2 pts.length c2]] w (ParPost F poly pts w):=by
 obtain⟨N,hN⟩:∃ N,N=pts.length:=⟨_,rfl⟩;obtain⟨T,hT⟩:∃ T,T=poly.length - 1:=⟨_,rfl⟩;have hw1:IntKind.i64.wrap ((poly.length:Int) - 1)=(T:Int):=by rw[IntWalk.i64_in _ (by omega)]; omega
 have hmk:=mk_ints N (by omega);have hIn:=fun x W h=>Lib.hid (gInv_any F x g W h)
 have hMu:=fun x y W h=>Lib.hid (gMul_any F x y g W h)
 unfold ParPost;rw[←hT,←hN];have hT64:T≤64:=by omega
 have hN64:N≤64:=by omega
 have hgopR:Hid (∀ k,(gopR F poly pts k).length=N):=fun k=>by rw[hN]; exact rowL_length _ _ _
 obtain⟨f,hf⟩:∃ f:Nat→Nat→Int,f=fun k j=>ci (gopM F poly pts k j):=⟨_,rfl⟩
 have hfR:Hid (∀ k,lst N (f k)=gopR F poly pts k):=fun k=>by rw[hf,hN]; rfl
 have hf0:Hid (∀ j,j<N→ci (inv (eli F.toDesc ((valL F.toDesc poly pts)[j]?.getD 0)))=f 0 j):=fun j hj=>by
  rw[show (valL F.toDesc poly pts)[j]?.getD 0=ci (pevI F.toDesc poly (eli F.toDesc (pts[j]?.getD 0))) from lst_get _ (by omega),eli_ci,hf];dsimp only;unfold gopM;rw[pw_zero,one_mul]
 have hfs:Hid (∀ k j,ci (eli F.toDesc (f k j)*eli F.toDesc (pts[j]?.getD 0))=f (k+1) j):=fun k j=>by
  rw[hf];dsimp only;rw[eli_ci,gopM_succ]
 have hvl:Hid ((valL F.toDesc poly pts).length=N):=by rw[hN]; exact lst_length _ _
 have hpl:Hid (pts.length=N):=hN.symm;replace hf:=Lib.hid hf;replace hN:=Lib.hid hN;replace hT:=Lib.hid hT;obtain⟨s,hs⟩:∃ s,s=w.heap.size:=⟨_,rfl⟩;obtain⟨Z,hZ⟩:∃ Z,Z=(((w.alloc (.cells #[.int .i64 S.p,.int .i64 S.m,.slice A S.mod.length c,.pointer (some ⟨g,0,none⟩),.slice (some ⟨gb,0,none⟩) F.q F.q,.slice Ab n cb,.int .i64 S.m] 130)).alloc (.cells #[.int .i64 S.p,.int .i64 S.m,.slice A S.mod.length c,.int .i64 F.p,.int .i64 F.m,.slice B F.mod.length b,.slice A1 poly.length c1,.slice A2 N c2] 44)).alloc (.cells #[.int .i64 0,.slice none 0 0] 48)).alloc (.cells #[.int .i64 N,.slice none 0 0] 48):=⟨_,rfl⟩;have hB:Below w.heap.size w Z:=by rw[hZ]; exact ((((Below.refl _ _).alloc (Nat.le_refl _) _).alloc (by simp) _).alloc (by simp; omega) _).alloc (by simp; omega) _
 have hZs:Z.heap.size=s+1+1+1+1:=by rw[hZ,hs]; simp
 have hbx:Hid (Bxs Z s [.int .i64 S.p,.int .i64 S.m,.slice A S.mod.length c,.pointer (some ⟨g,0,none⟩),.slice (some ⟨gb,0,none⟩) F.q F.q,.slice Ab n cb,.int .i64 S.m]∧Bxs Z (s+1) [.int .i64 S.p,.int .i64 S.m,.slice A S.mod.length c,.int .i64 F.p,.int .i64 F.m,.slice B F.mod.length b,.slice A1 poly.length c1,.slice A2 N c2]∧Bxs Z (s+1+1) [.int .i64 0,.slice none 0 0]∧Bxs Z (s+1+1+1) [.int .i64 N,.slice none 0 0]):=by
  have k1:=Bxs.new w [.int .i64 S.p,.int .i64 S.m,.slice A S.mod.length c,.pointer (some ⟨g,0,none⟩),.slice (some ⟨gb,0,none⟩) F.q F.q,.slice Ab n cb,.int .i64 S.m] 130;obtain⟨W1,hW1⟩:∃ W1,W1=w.alloc (.cells #[.int .i64 S.p,.int .i64 S.m,.slice A S.mod.length c,.pointer (some ⟨g,0,none⟩),.slice (some ⟨gb,0,none⟩) F.q F.q,.slice Ab n cb,.int .i64 S.m] 130):=⟨_,rfl⟩;rw[←hW1]at hZ;have s1:W1.heap.size=s+1:=by rw[hW1,hs]; simp
  have k2:=Bxs.new W1 [.int .i64 S.p,.int .i64 S.m,.slice A S.mod.length c,.int .i64 F.p,.int .i64 F.m,.slice B F.mod.length b,.slice A1 poly.length c1,.slice A2 N c2] 44;obtain⟨W2,hW2⟩:∃ W2,W2=W1.alloc (.cells #[.int .i64 S.p,.int .i64 S.m,.slice A S.mod.length c,.int .i64 F.p,.int .i64 F.m,.slice B F.mod.length b,.slice A1 poly.length c1,.slice A2 N c2] 44):=⟨_,rfl⟩;rw[←hW2]at hZ;have s2:W2.heap.size=s+1+1:=by rw[hW2]; simp[s1]
  have k3:=Bxs.new W2 [.int .i64 0,.slice none 0 0] 48;obtain⟨W3,hW3⟩:∃ W3,W3=W2.alloc (.cells #[.int .i64 0,.slice none 0 0] 48):=⟨_,rfl⟩;rw[←hW3]at hZ;have s3:W3.heap.size=s+1+1+1:=by rw[hW3]; simp[s2]
  have k4:=Bxs.new W3 [.int .i64 N,.slice none 0 0] 48;have b2:Below (s+1) W1 W2:=by rw[hW2]; exact (Below.refl _ _).alloc (Nat.le_of_eq s1.symm) _
  have b3:Below (s+1+1) W2 W3:=by rw[hW3]; exact (Below.refl _ _).alloc (Nat.le_of_eq s2.symm) _
  have b4:Below (s+1+1+1) W3 Z:=by rw[hZ]; exact (Below.refl _ _).alloc (Nat.le_of_eq s3.symm) _
  have b34:=b3.trans (b4.mono (by omega));have b24:=b2.trans (b34.mono (by omega));rw[←hs]at k1;rw[s1]at k2;rw[s2]at k3;rw[s3]at k4;refine⟨?_,?_,?_,?_⟩
  ·rw[←hW1]at k1; exact k1.keep b24 (by omega)
  ·rw[←hW2]at k2; exact k2.keep b34 (by omega)
  ·rw[←hW3]at k3; exact k3.keep b4 (by omega)
  ·rw[hZ]; exact k4
 obtain⟨gr,hgr⟩:∃ gr,gr=Z.heap.size:=⟨_,rfl⟩;obtain⟨Y,hY⟩:∃ Y,Y=Z.alloc (.cells (Array.replicate N (Value.int .i64 0)) 3):=⟨_,rfl⟩;have hbY:Below Z.heap.size Z Y:=by rw[hY]; exact (Below.refl _ _).alloc (Nat.le_refl _) _
 have hib0:Hid (IB Y gr (mix N 0 (f 0) fun _=>0)):=by
  rw[mix_zero,←lst_zero,hY,hgr];exact Lib.hid (IB.newz Z N)
 have hgrs:s+1+1+1<gr:=by omega
 have hYs:Y.heap.size=gr+1:=by rw[hY,hgr]; simp
 have hbYg:Below gr Z Y:=by rw[hgr]; exact hbY
 have hgZ:Hid (GF Z w.heap.size g F):=hg.below hB;have hr2Z:=hr2.below hB;have hrvZ:=hrv.below hB;clear hg hr2 hrv hbY;rw[hZ]at hY;replace hZs:=Lib.hid hZs;replace hY:=Lib.hid hY;replace hYs:=Lib.hid hYs;go_enter Tryz.func90,Tryz.ntmps90;go_wp2_with (fail);rw[←hY.out];have hgr2:gr=s+1+1+1+1:=by rw[hgr]; exact hZs.out
 simp only[←hs,←hgr2];have hsw:w.heap.size≤s:=Nat.le_of_eq hs.symm;have hsw2:s≤w.heap.size:=Nat.le_of_eq hs;replace hs:=Lib.hid hs;replace hgr:=Lib.hid hgr;replace hgr2:=Lib.hid hgr2;go_loopw [22,9,10] (fun iS _ _ wr=>∃ k:Nat,k≤N∧iS=.int .i64 k∧Hid (IB wr gr (mix N k (f 0) fun _=>0))∧Below gr Z wr) (fun iS _ _ _=>N - (intOf iS).toNat)
 case atStart=>exact⟨0,by omega,rfl,hib0,hbYg⟩
 case round =>
  clear hib0 hbYg hmk hY hYs;obtain⟨w1,rfl⟩:∃ w1:World,w1=wr:=⟨_,rfl⟩;obtain⟨k,hk,rfl,hib,hbw⟩:=hrel;have hgl:=hib.out.lt;have hwg:w.heap.size≤gr:=by omega
  have hg1:Hid (GF w1 w1.heap.size g F):=(hgZ.out.below (hbw.mono hwg)).more (by omega);by_cases hkN:k<N
  ·have k0:(0:Int)≤(k:Int):=by omega
   have k1:(k:Int)<(N:Int):=by omega
   obtain⟨bv,ov,ev,hbv,hcv⟩:=hrvZ.at_ (k:=k) (by rw[hvl.out]; exact hkN)
   injection ev with ev
   injection ev with ev1 ev2
   subst ev1 ev2;rw[Nat.zero_add]at hcv;have hcv1:=(hbw.cell (p:=⟨gv,k,none⟩) (show gv<gr by omega)).trans hcv;have hq:=hIn ((valL F.toDesc poly pts)[k]?.getD 0) w1 hg1.out;rw[hf0.out k hkN]at hq;obtain⟨x,hx⟩:∃ x,x=(valL F.toDesc poly pts)[k]?.getD 0:=⟨_,rfl⟩;rw[←hx]at hcv1 hq;replace hx:=Lib.hid hx;clear hcv;obtain⟨y,hy⟩:∃ y,y=f 0 k:=⟨_,rfl⟩;rw[←hy]at hq;replace hy:=Lib.hid hy;obtain⟨p0,p1,p2,p3,p4,p5,p6⟩:=(hbx.out.1.keep hbw (show s<gr by omega)).c7;go_wp2_with (fail);(with_reducible refine hq.out.mono ?_);rintro e w2 ⟨⟨t,rfl⟩,hb2⟩;clear p0 p1 p2 p3 p4 p5 p6 hq hcv1;have hib2:=hib.out.below hb2 hgl;have hcW:=hib2.cell (i:=k) (by rw[mix_length]; exact hkN);have hfW:=hib2.frozen k;have hset:=hib2.set_ k y;rw[hy.out,mix_set,←hy.out]at hset;replace hset:=Lib.hid hset;have hbw2:=Lib.hid ((hbw.trans (hb2.mono (Nat.le_of_lt hgl))).setCell (p:=⟨gr,k,none⟩) (Nat.le_refl _) (.int .i64 y));clear hib2;go_wp2_with (fail);go_roundw
   case rel=>exact⟨k+1,by omega,by go_num,hset,hbw2.out⟩
   case measure=>simp[intOf]; omega
  ·obtain rfl:N=k:=by omega
   rw[mix_full]at hib;have hbM0:Hid (Bxs w1 (s+1+1+1) [.int .i64 N,.slice none 0 0]):=hbx.out.2.2.2.keep hbw hgrs;have hbw0:Below (s+1+1+1) Z w1:=hbw.mono (Nat.le_of_lt hgrs);have hown0:Hid (OwnM w1 (gr+1) (.slice none 0 0) 0 (gopR F poly pts)):=OwnM.nil _ _ _;obtain⟨p0,p1,p2,p3,p4,p5,p6,p7⟩:=(hbx.out.2.1.keep hbw (show s+1<gr by omega)).c8;go_wp2_with (fail);clear p0 p1 p2 p3 p4 p5 p6 p7 hg1 hbw;go_loopw [42,11,12] (fun iS _ _ wr=>∃ (i:Nat) (v:Value),i≤T∧iS=.int .i64 i∧Hid (IB wr gr (lst N (f i)))∧Hid (OwnM wr (gr+1) v i (gopR F poly pts))∧Hid (Bxs wr (s+1+1+1) [.int .i64 N,v])∧Below (s+1+1+1) Z wr) (fun iS _ _ _=>T - (intOf iS).toNat)
   case atStart=>exact⟨0,_,by omega,rfl,hib,hown0,hbM0,hbw0⟩
   case round =>
    clear hib hown0 hbM0 hbw0 hgl;obtain⟨w2,rfl⟩:∃ w2:World,w2=wr:=⟨_,rfl⟩;obtain⟨i,v,hi,rfl,hib,hown,hbM,hbw⟩:=hrel;have hgl:=hib.out.lt;by_cases hiT:i<T
    ·have i0:(0:Int)≤(i:Int):=by omega
     have i1:(i:Int)<(T:Int):=by omega
     obtain⟨Av,cv,rfl⟩:=hown.out.size;obtain⟨m0,m1⟩:=hbM.out.c2;obtain⟨f0',f1'⟩:=hbM.out.f2;have hg12:gr+1≤w2.heap.size:=hgl;have hX3:s+1+1+1<w2.heap.size:=by omega
     have hbW1:Below w2.heap.size w2 (w2.alloc (.cells #[] 3)).drew:=((Below.refl _ _).alloc (Nat.le_refl _) _).drew;have o1:Own (w2.alloc (.cells #[] 3)).drew w2.heap.size (.slice (some ⟨w2.heap.size,0,none⟩) 0 0) []:=(own_empty (heap_alloc_new w2 (.cells #[] 3)) (Nat.le_refl _)).drew;have r1:Rd (w2.alloc (.cells #[] 3)).drew w2.heap.size (some ⟨gr,0,none⟩) (gopR F poly pts i):=by
      rw[←hfR.out i];exact hib.out.rd.below hbW1
     have hle:([]:List Int).length+(gopR F poly pts i).length≤1000000000:=by rw[hgopR.out i]; simp; omega
     have hlk:Hid (N=(gopR F poly pts i).length):=(hgopR.out i).symm;have hsz:w2.heap.size≤(w2.alloc (.cells #[] 3)).drew.heap.size:=by simp
     have hxv1:(w2.alloc (.cells #[] 3)).drew.cell? ⟨s+1+1+1,1,none⟩=some (.slice Av i cv):=(hbW1.cell (p:=⟨s+1+1+1,1,none⟩) hX3).trans m1;go_upto_region 10 with (fail)
     go_cut [] from 43 to 72 (fun wx=>∃ v':Value,Hid (IB wx gr (lst N (f i)))∧Hid (OwnM wx (gr+1) v' (i+1) (gopR F poly pts))∧Hid (Bxs wx (s+1+1+1) [.int .i64 N,v'])∧Below (s+1+1+1) Z wx)
     case first =>
      refine wp_region_held_drew (S:=fun w'=>True) (by kernel_rfl) (by (try dsimp only); all_goals trivial) (fun hHeld=>?_);refine tk 0 ?_; try simp only[pS]
      refine tk 3 ?_; try simp only[pS]
      refine wpAnyH_ready (rs:=[1,2]) (by kernel_rfl) (by simp) ?_;refine AllReadyH.cons (o:=⟨_,_,_,_,_,_⟩) rfl (fun K hK=>?_) ?_
      ·go_simp;refine hK.out _ _ (by (try dsimp only); all_goals trivial) (fun hHeld=>?_);clear hK K;try simp only[pS]
       refine rd 2 fun K hK=>?_
       go_simp;refine hK.out _ _ (by (try dsimp only); all_goals trivial) (fun hHeld=>?_);clear hK K;try simp only[pS]
       refine rd 4 fun K hK=>?_
       refine step_appN (n2:=N) rfl (.tmp 46) (.tmp 47) rfl w2.heap.size _ [] w2.heap.size (some ⟨gr,0,none⟩) N (gopR F poly pts i) o1 r1 (by rfl) (by rfl) hlk.out hle hsz ?_;intro v4 w4 ho4 hb4 _ _;rw[List.nil_append]at ho4;obtain⟨A4,c4,rfl,hc4,hr4,hA4⟩:=ho4.form;rw[hgopR.out i]at hc4 ho4;rw[hgopR.out i];have hcm:=Own.capM ho4;have hb34:=hbW1.trans hb4;have hown4:=hown.out.below hb34 (Nat.le_refl _);have hxv4:=(hb34.cell (p:=⟨s+1+1+1,1,none⟩) hX3).trans m1;have hs34:=hb34.size;have hX4:s+1+1+1<w4.heap.size:=Nat.lt_of_lt_of_le hX3 hs34;obtain⟨hds,q1,q2,q3⟩:=hown4;refine hK.out _ _ (by (try dsimp only); all_goals trivial) (fun hHeld=>?_);clear hK K;try simp only[pS]
       refine rd 5 fun K hK=>?_
       go_simp;refine hK.out _ _ (by (try dsimp only); all_goals trivial) (fun hHeld=>?_);clear hK K;try simp only[pS]
       refine rd 6 fun K hK=>?_
       refine step_app1V rfl (.tmp 45) (.tmp 49) rfl (gr+1) _ hds _ rfl q2 (by rfl) (by rfl) rfl (by rw[q1]; omega) (Nat.le_trans hg12 hs34) ?_;intro v6 w6 ho6 hb6 hg6 hv6;have hsn:=OwnM.snoc (rows:=gopR F poly pts) q1 q3 hr4 (by rw[hgopR.out i]; exact hc4) hcm (fun _ a e=>⟨fun e2=>by have h1:=(hA4 a e).1; have h2:=(World.ownsRow.lt (hown.out.choose_spec.2.1) _ e2).2; omega,by have h1:=(hA4 a e).1; omega⟩) (by rw[hgopR.out i]; exact ho6) hg6 hv6;obtain⟨A6,c6,rfl⟩:=hsn.size;have hxv6:=(hb6.cell (p:=⟨s+1+1+1,1,none⟩) (show s+1+1+1<gr+1 by omega)).trans hxv4;have hf6:=(hb6.frozen (p:=⟨s+1+1+1,1,none⟩) (show s+1+1+1<gr+1 by omega)).trans ((hb34.frozen (p:=⟨s+1+1+1,1,none⟩) hX3).trans f1');refine hK.out _ _ (by (try dsimp only); all_goals trivial) (fun hHeld=>?_);clear hK K;try simp only[pS]
       refine tk 7 ?_; try simp only[pS]
       refine rd 8 fun K hK=>?_
       go_simp;refine hK.out _ _ (by (try dsimp only); all_goals trivial) (fun hHeld=>?_);clear hK K;try simp only[pS]
       refine wpAnyH_done (by kernel_rfl) ?_ _;have hb36:Below (gr+1) w2 w6:=(hb34.mono hg12).trans hb6;have hibF:=Lib.hid ((hib.out.below hb36 (Nat.lt_succ_self gr)).far (p:=⟨s+1+1+1,1,none⟩) (show gr≠s+1+1+1 by omega) (.slice A6 (i+1) c6));have hoF:=Lib.hid (hsn.kept (grown_set w6 ⟨s+1+1+1,1,none⟩ (.slice A6 (i+1) c6)) (show s+1+1+1<gr+1 by omega));have hbMF:=Lib.hid ((hbM.out.keep hb36 (show s+1+1+1<gr+1 by omega)).set_ (j:=1) (by simp) (.slice A6 (i+1) c6));have hBF:=Lib.hid ((hbw.trans (hb36.mono (show s+1+1+1≤gr+1 by omega))).setCell (p:=⟨s+1+1+1,1,none⟩) (Nat.le_refl _) (.slice A6 (i+1) c6));go_wp2_with (fail);go_meet;exact⟨_,hibF,hoF,hbMF,hBF.out⟩
      refine AllReadyH.cons (o:=⟨_,_,_,_,_,_⟩) rfl (fun K hK=>?_) AllReadyH.nil;go_simp;refine hK.out _ _ (by (try dsimp only); all_goals trivial) (fun hHeld=>?_);clear hK K;try simp only[pS]
      refine wpAnyH_ready (rs:=[1,4]) (by kernel_rfl) (by simp) ?_;refine AllReadyH.cons (o:=⟨_,_,_,_,_,_⟩) rfl (fun K hK=>?_) ?_
      ·go_simp;refine hK.out _ _ (by (try dsimp only); all_goals trivial) (fun hHeld=>?_);clear hK K;try simp only[pS]
       refine rd 4 fun K hK=>?_
       refine step_appN (n2:=N) rfl (.tmp 46) (.tmp 47) rfl w2.heap.size _ [] w2.heap.size (some ⟨gr,0,none⟩) N (gopR F poly pts i) o1 r1 (by rfl) (by rfl) hlk.out hle hsz ?_;intro v4 w4 ho4 hb4 _ _;rw[List.nil_append]at ho4;obtain⟨A4,c4,rfl,hc4,hr4,hA4⟩:=ho4.form;rw[hgopR.out i]at hc4 ho4;rw[hgopR.out i];have hcm:=Own.capM ho4;have hb34:=hbW1.trans hb4;have hown4:=hown.out.below hb34 (Nat.le_refl _);have hxv4:=(hb34.cell (p:=⟨s+1+1+1,1,none⟩) hX3).trans m1;have hs34:=hb34.size;have hX4:s+1+1+1<w4.heap.size:=Nat.lt_of_lt_of_le hX3 hs34;obtain⟨hds,q1,q2,q3⟩:=hown4;refine hK.out _ _ (by (try dsimp only); all_goals trivial) (fun hHeld=>?_);clear hK K;try simp only[pS]
       refine rd 5 fun K hK=>?_
       go_simp;refine hK.out _ _ (by (try dsimp only); all_goals trivial) (fun hHeld=>?_);clear hK K;try simp only[pS]
       refine rd 6 fun K hK=>?_
       refine step_app1V rfl (.tmp 45) (.tmp 49) rfl (gr+1) _ hds _ rfl q2 (by rfl) (by rfl) rfl (by rw[q1]; omega) (Nat.le_trans hg12 hs34) ?_;intro v6 w6 ho6 hb6 hg6 hv6;have hsn:=OwnM.snoc (rows:=gopR F poly pts) q1 q3 hr4 (by rw[hgopR.out i]; exact hc4) hcm (fun _ a e=>⟨fun e2=>by have h1:=(hA4 a e).1; have h2:=(World.ownsRow.lt (hown.out.choose_spec.2.1) _ e2).2; omega,by have h1:=(hA4 a e).1; omega⟩) (by rw[hgopR.out i]; exact ho6) hg6 hv6;obtain⟨A6,c6,rfl⟩:=hsn.size;have hxv6:=(hb6.cell (p:=⟨s+1+1+1,1,none⟩) (show s+1+1+1<gr+1 by omega)).trans hxv4;have hf6:=(hb6.frozen (p:=⟨s+1+1+1,1,none⟩) (show s+1+1+1<gr+1 by omega)).trans ((hb34.frozen (p:=⟨s+1+1+1,1,none⟩) hX3).trans f1');refine hK.out _ _ (by (try dsimp only); all_goals trivial) (fun hHeld=>?_);clear hK K;try simp only[pS]
       refine tk 7 ?_; try simp only[pS]
       refine rd 8 fun K hK=>?_
       go_simp;refine hK.out _ _ (by (try dsimp only); all_goals trivial) (fun hHeld=>?_);clear hK K;try simp only[pS]
       refine wpAnyH_done (by kernel_rfl) ?_ _;have hb36:Below (gr+1) w2 w6:=(hb34.mono hg12).trans hb6;have hibF:=Lib.hid ((hib.out.below hb36 (Nat.lt_succ_self gr)).far (p:=⟨s+1+1+1,1,none⟩) (show gr≠s+1+1+1 by omega) (.slice A6 (i+1) c6));have hoF:=Lib.hid (hsn.kept (grown_set w6 ⟨s+1+1+1,1,none⟩ (.slice A6 (i+1) c6)) (show s+1+1+1<gr+1 by omega));have hbMF:=Lib.hid ((hbM.out.keep hb36 (show s+1+1+1<gr+1 by omega)).set_ (j:=1) (by simp) (.slice A6 (i+1) c6));have hBF:=Lib.hid ((hbw.trans (hb36.mono (show s+1+1+1≤gr+1 by omega))).setCell (p:=⟨s+1+1+1,1,none⟩) (Nat.le_refl _) (.slice A6 (i+1) c6));go_wp2_with (fail);go_meet;exact⟨_,hibF,hoF,hbMF,hBF.out⟩
      refine AllReadyH.cons (o:=⟨_,_,_,_,_,_⟩) rfl (fun K hK=>?_) AllReadyH.nil;refine step_appN (n2:=N) rfl (.tmp 46) (.tmp 47) rfl w2.heap.size _ [] w2.heap.size (some ⟨gr,0,none⟩) N (gopR F poly pts i) o1 r1 (by rfl) (by rfl) hlk.out hle hsz ?_;intro v4 w4 ho4 hb4 _ _;rw[List.nil_append]at ho4;obtain⟨A4,c4,rfl,hc4,hr4,hA4⟩:=ho4.form;rw[hgopR.out i]at hc4 ho4;rw[hgopR.out i];have hcm:=Own.capM ho4;have hb34:=hbW1.trans hb4;have hown4:=hown.out.below hb34 (Nat.le_refl _);have hxv4:=(hb34.cell (p:=⟨s+1+1+1,1,none⟩) hX3).trans m1;have hs34:=hb34.size;have hX4:s+1+1+1<w4.heap.size:=Nat.lt_of_lt_of_le hX3 hs34;obtain⟨hds,q1,q2,q3⟩:=hown4;refine hK.out _ _ (by (try dsimp only); all_goals trivial) (fun hHeld=>?_);clear hK K;try simp only[pS]
      refine wpAnyH_ready (rs:=[1,5]) (by kernel_rfl) (by simp) ?_;refine AllReadyH.cons (o:=⟨_,_,_,_,_,_⟩) rfl (fun K hK=>?_) ?_
      ·go_simp;refine hK.out _ _ (by (try dsimp only); all_goals trivial) (fun hHeld=>?_);clear hK K;try simp only[pS]
       refine rd 5 fun K hK=>?_
       go_simp;refine hK.out _ _ (by (try dsimp only); all_goals trivial) (fun hHeld=>?_);clear hK K;try simp only[pS]
       refine rd 6 fun K hK=>?_
       refine step_app1V rfl (.tmp 45) (.tmp 49) rfl (gr+1) _ hds _ rfl q2 (by rfl) (by rfl) rfl (by rw[q1]; omega) (Nat.le_trans hg12 hs34) ?_;intro v6 w6 ho6 hb6 hg6 hv6;have hsn:=OwnM.snoc (rows:=gopR F poly pts) q1 q3 hr4 (by rw[hgopR.out i]; exact hc4) hcm (fun _ a e=>⟨fun e2=>by have h1:=(hA4 a e).1; have h2:=(World.ownsRow.lt (hown.out.choose_spec.2.1) _ e2).2; omega,by have h1:=(hA4 a e).1; omega⟩) (by rw[hgopR.out i]; exact ho6) hg6 hv6;obtain⟨A6,c6,rfl⟩:=hsn.size;have hxv6:=(hb6.cell (p:=⟨s+1+1+1,1,none⟩) (show s+1+1+1<gr+1 by omega)).trans hxv4;have hf6:=(hb6.frozen (p:=⟨s+1+1+1,1,none⟩) (show s+1+1+1<gr+1 by omega)).trans ((hb34.frozen (p:=⟨s+1+1+1,1,none⟩) hX3).trans f1');refine hK.out _ _ (by (try dsimp only); all_goals trivial) (fun hHeld=>?_);clear hK K;try simp only[pS]
       refine tk 7 ?_; try simp only[pS]
       refine rd 8 fun K hK=>?_
       go_simp;refine hK.out _ _ (by (try dsimp only); all_goals trivial) (fun hHeld=>?_);clear hK K;try simp only[pS]
       refine wpAnyH_done (by kernel_rfl) ?_ _;have hb36:Below (gr+1) w2 w6:=(hb34.mono hg12).trans hb6;have hibF:=Lib.hid ((hib.out.below hb36 (Nat.lt_succ_self gr)).far (p:=⟨s+1+1+1,1,none⟩) (show gr≠s+1+1+1 by omega) (.slice A6 (i+1) c6));have hoF:=Lib.hid (hsn.kept (grown_set w6 ⟨s+1+1+1,1,none⟩ (.slice A6 (i+1) c6)) (show s+1+1+1<gr+1 by omega));have hbMF:=Lib.hid ((hbM.out.keep hb36 (show s+1+1+1<gr+1 by omega)).set_ (j:=1) (by simp) (.slice A6 (i+1) c6));have hBF:=Lib.hid ((hbw.trans (hb36.mono (show s+1+1+1≤gr+1 by omega))).setCell (p:=⟨s+1+1+1,1,none⟩) (Nat.le_refl _) (.slice A6 (i+1) c6));go_wp2_with (fail);go_meet;exact⟨_,hibF,hoF,hbMF,hBF.out⟩
      refine AllReadyH.cons (o:=⟨_,_,_,_,_,_⟩) rfl (fun K hK=>?_) AllReadyH.nil;go_simp;refine hK.out _ _ (by (try dsimp only); all_goals trivial) (fun hHeld=>?_);clear hK K;try simp only[pS]
      refine rd 1 fun K hK=>?_
      go_simp;refine hK.out _ _ (by (try dsimp only); all_goals trivial) (fun hHeld=>?_);clear hK K;try simp only[pS]
      refine rd 6 fun K hK=>?_
      refine step_app1V rfl (.tmp 45) (.tmp 49) rfl (gr+1) _ hds _ rfl q2 (by rfl) (by rfl) rfl (by rw[q1]; omega) (Nat.le_trans hg12 hs34) ?_;intro v6 w6 ho6 hb6 hg6 hv6;have hsn:=OwnM.snoc (rows:=gopR F poly pts) q1 q3 hr4 (by rw[hgopR.out i]; exact hc4) hcm (fun _ a e=>⟨fun e2=>by have h1:=(hA4 a e).1; have h2:=(World.ownsRow.lt (hown.out.choose_spec.2.1) _ e2).2; omega,by have h1:=(hA4 a e).1; omega⟩) (by rw[hgopR.out i]; exact ho6) hg6 hv6;obtain⟨A6,c6,rfl⟩:=hsn.size;have hxv6:=(hb6.cell (p:=⟨s+1+1+1,1,none⟩) (show s+1+1+1<gr+1 by omega)).trans hxv4;have hf6:=(hb6.frozen (p:=⟨s+1+1+1,1,none⟩) (show s+1+1+1<gr+1 by omega)).trans ((hb34.frozen (p:=⟨s+1+1+1,1,none⟩) hX3).trans f1');refine hK.out _ _ (by (try dsimp only); all_goals trivial) (fun hHeld=>?_);clear hK K;try simp only[pS]
      refine tk 7 ?_; try simp only[pS]
      refine rd 8 fun K hK=>?_
      go_simp;refine hK.out _ _ (by (try dsimp only); all_goals trivial) (fun hHeld=>?_);clear hK K;try simp only[pS]
      refine wpAnyH_done (by kernel_rfl) ?_ _;have hb36:Below (gr+1) w2 w6:=(hb34.mono hg12).trans hb6;have hibF:=Lib.hid ((hib.out.below hb36 (Nat.lt_succ_self gr)).far (p:=⟨s+1+1+1,1,none⟩) (show gr≠s+1+1+1 by omega) (.slice A6 (i+1) c6));have hoF:=Lib.hid (hsn.kept (grown_set w6 ⟨s+1+1+1,1,none⟩ (.slice A6 (i+1) c6)) (show s+1+1+1<gr+1 by omega));have hbMF:=Lib.hid ((hbM.out.keep hb36 (show s+1+1+1<gr+1 by omega)).set_ (j:=1) (by simp) (.slice A6 (i+1) c6));have hBF:=Lib.hid ((hbw.trans (hb36.mono (show s+1+1+1≤gr+1 by omega))).setCell (p:=⟨s+1+1+1,1,none⟩) (Nat.le_refl _) (.slice A6 (i+1) c6));go_wp2_with (fail);go_meet;exact⟨_,hibF,hoF,hbMF,hBF.out⟩
     case rest =>
      obtain⟨v',hib5,hown5,hbM5,hB5⟩:=hcut;obtain⟨w5,rfl⟩:∃ w5:World,w5=wc:=⟨_,rfl⟩;clear hib hown hbM hbw hgl hg12 hX3 hbW1 o1 r1 hle hlk hsz hxv1 m0 m1 f0' f1';have hib6:Hid (IB w5 gr (mix N 0 (f (i+1)) (f i))):=by rw[mix_zero]; exact hib5
      obtain⟨p0,p1,p2,p3,p4,p5,p6,p7⟩:=(hbx.out.2.1.keep hB5 (show s+1<s+1+1+1 by omega)).c8;go_wp2_with (fail);clear p0 p1 p2 p3 p4 p5 p6 p7;go_loopw [55,11,12] (fun jS _ _ wr=>∃ j:Nat,j≤N∧jS=.int .i64 j∧Hid (IB wr gr (mix N j (f (i+1)) (f i)))∧Hid (OwnM wr (gr+1) v' (i+1) (gopR F poly pts))∧Hid (Bxs wr (s+1+1+1) [.int .i64 N,v'])∧Below (s+1+1+1) Z wr) (fun jS _ _ _=>N - (intOf jS).toNat)
      case atStart=>exact⟨0,by omega,rfl,hib6,hown5,hbM5,hB5⟩
      case round =>
       clear hib5 hib6 hown5 hbM5 hB5;obtain⟨w6,rfl⟩:∃ w6:World,w6=wr:=⟨_,rfl⟩;obtain⟨j,hj,rfl,hib,hown,hbM,hbw⟩:=hrel;have hgl:=hib.out.lt;by_cases hjN:j<N
       ·have j0:(0:Int)≤(j:Int):=by omega
        have j1:(j:Int)<(N:Int):=by omega
        obtain⟨bp,op,rfl,hbp,hcp⟩:=hr2Z.at_ (k:=j) (by rw[hpl.out]; exact hjN);have hpx:=(hbw.cell (p:=⟨bp,op+j,none⟩) (show bp<s+1+1+1 by omega)).trans hcp;have hwg6:w.heap.size≤s+1+1+1:=by omega
        have hg6:=((hgZ.out.below (hbw.mono hwg6)).more (show w.heap.size≤w6.heap.size by omega));have hbd:Below w6.heap.size w6 w6.drew:=(Below.refl _ w6).drew;have hq:=(hMu (f i j) (pts[j]?.getD 0) w6.drew (hg6.below hbd)).out;rw[hfs.out i j]at hq;have hcj:=hib.out.cell (i:=j) (by rw[mix_length]; exact hjN);rw[mix_get_at _ _ hjN]at hcj;obtain⟨xj,hxj⟩:∃ x,x=pts[j]?.getD 0:=⟨_,rfl⟩;obtain⟨y0,hy0⟩:∃ y,y=f i j:=⟨_,rfl⟩;obtain⟨y1,hy1⟩:∃ y,y=f (i+1) j:=⟨_,rfl⟩;rw[←hxj]at hpx hq;rw[←hy0]at hq hcj;rw[←hy1]at hq;have hcjd:w6.drew.cell? ⟨gr,j,none⟩=some (.int .i64 y0):=hcj;replace hq:=Lib.hid hq;replace hy0:=Lib.hid hy0;replace hy1:=Lib.hid hy1;replace hxj:=Lib.hid hxj;have hbP6:=hbx.out.1.keep hbw (show s<s+1+1+1 by omega);have hp3:=Lib.hid hbP6.c7.2.2.2.1;clear hcp hbP6;have hne:gr≠s:=by omega
        have hsl:s<w6.heap.size:=by omega
        go_wp2_with (fail);refine wp_region_held_drew (S:=fun w'=>w'.cell? ⟨s,3,none⟩=some (.pointer (some ⟨g,0,none⟩))) (by kernel_rfl) (by (try dsimp only); exact hp3.out) (fun hHeld=>?_);refine tk 0 ?_; try simp only[pS]
        refine tk 1 ?_; try simp only[pS]
        refine tk 2 ?_; try simp only[pS]
        refine tk 3 ?_; try simp only[pS]
        refine tk 4 ?_; try simp only[pS]
        refine tk 5 ?_; try simp only[pS]
        refine tk 6 ?_; try simp only[pS]
        refine tk 8 ?_; try simp only[pS]
        refine rd 7 fun K hK=>?_
        go_simp;refine hK.out _ _ (by (try dsimp only); exact hp3.out) (fun hHeld=>?_);clear hK K;try simp only[pS]
        refine rd 9 fun K hK=>?_
        go_simp;go_at_call 140;(with_reducible refine (hq).out.mono ?_);rintro e w7 ⟨rfl,hb7⟩;have hib7:=(show IB w6.drew gr _ from hib.out).below hb7 hgl;have hcW:=hib7.cell (i:=j) (by rw[mix_length]; exact hjN);have hfW:=hib7.frozen j;have hset:=hib7.set_ j y1;rw[hy1.out,mix_set,←hy1.out]at hset;have hset2:=Lib.hid hset;have hb67:=hbd.trans hb7;have hown7:=Lib.hid ((hown.out.below hb67 (Nat.le_refl _)).kept (grown_set w7 ⟨gr,j,none⟩ (.int .i64 y1)) (Nat.lt_succ_self gr));have hbM7:=Lib.hid ((hbM.out.keep hb67 (show s+1+1+1<w6.heap.size by omega)).far (g:=gr) (by omega) j (.int .i64 y1));have hbw7:=Lib.hid ((hbw.trans (hb67.mono (by omega))).setCell (p:=⟨gr,j,none⟩) (show s+1+1+1≤gr by omega) (.int .i64 y1));go_wp2_with (fail);refine hK.out _ _ (by (try dsimp only); exact (hb7.cell (p:=⟨s,3,none⟩) hsl).trans hp3.out) (fun hHeld=>?_);clear hK K;try simp only[pS]
        refine tk 10 ?_; try simp only[pS]
        refine rd 11 fun K hK=>?_
        go_simp;refine hK.out _ _ (by (try dsimp only); exact (World.cell?_setCell_far _ _ _ _ hne).trans ((hb7.cell (p:=⟨s,3,none⟩) hsl).trans hp3.out)) (fun hHeld=>?_);clear hK K;try simp only[pS]
        refine wpAnyH_done (by kernel_rfl) ?_ _;go_wp2_with (fail);go_roundw
        case rel=>exact⟨j+1,by omega,by go_num,hset2,hown7,hbM7,hbw7.out⟩
        case measure=>simp[intOf]; omega
       ·obtain rfl:N=j:=by omega
        rw[mix_full]at hib;go_wp2_with (fail);go_roundw
        case rel=>exact⟨i+1,v',by omega,by go_num,hib,hown,hbM,hbw⟩
        case measure=>simp[intOf]; omega
    ·obtain rfl:T=i:=by omega
     have hT1:0<T:=by have:=hT.out; omega
     obtain⟨ga,ca,rfl,hga,hca1,hca2,hmb⟩:=hown.out.mb hT1;obtain⟨m0,m1⟩:=hbM.out.c2;have hbR:=hbx.out.2.2.1.keep hbw (show s+1+1<s+1+1+1 by omega);obtain⟨u0,u1⟩:=hbR.c2;obtain⟨v0,v1⟩:=hbR.f2;have hBw:Below w.heap.size w w2:=hB.trans (hbw.mono (by omega));have hfin:Hid (RdMU (stAll w2 (s+1+1) 0 [.int .i64 N,.slice (some ⟨ga,0,none⟩) T ca]) w.heap.size (stAll w2 (s+1+1) 0 [.int .i64 N,.slice (some ⟨ga,0,none⟩) T ca]).heap.size (some ⟨ga,0,none⟩) T (gopR F poly pts)∧Below w.heap.size w (stAll w2 (s+1+1) 0 [.int .i64 N,.slice (some ⟨ga,0,none⟩) T ca])):=by
      refine⟨?_,stAll_below (by omega) _ _ _ hBw⟩;rw[stAll_size];exact ((hmb.rdmU hga).keepU fun p hp1 _=>stAll_cell (by omega) _ 0 w2).low (by omega)
     clear hmb hbR hown hbM;go_wp2_with (fail);exact bodyPost_ret (v:=.agg #[.int .i64 N,.slice (some ⟨ga,0,none⟩) T ca]) (by simp[results,Tryz.results90,go_sem,u0,u1]) rfl ⟨some ⟨ga,0,none⟩,ca,rfl,hfin.out.1,hfin.out.2⟩
end Go.Proofs.YtjdoneanohhkmaaGreat

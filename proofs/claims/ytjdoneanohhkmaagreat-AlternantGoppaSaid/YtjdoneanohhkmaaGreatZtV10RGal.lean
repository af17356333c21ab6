/- Layer 19 of the program: Alternant. -/
import Derived.Lib.MinMax
import Derived.Test.YtjdoneanohhkmaaGreatZtV10RGrsH
import Derived.Test.YtjdoneanohhkmaaGreatZtV10RGpaP
import Derived.Test.YtjdoneanohhkmaaGreatZtV10RTk
namespace Go.Proofs.YtjdoneanohhkmaaGreat
open Go.RowKit Cw
open Cw.CField (inv)
attribute [local go_sem] Oper.semAt_some
attribute [local go_sem high] Go.Lib.run_min_ints

set_option maxRecDepth 100000 in
set_option maxHeartbeats 4000000 in
theorem aAlt_bad (P M Q N:Int)(ml nl poly pts:List Int)(A B A1 A2:Option Addr)(c b c1 c2:Nat)(w:World)(E:Int)(hE:E≠0)(hG:∀ W,Below w.heap.size w W→Calls Tryz.prog 89 #[.agg #[.int .i64 P,.int .i64 M,.slice A ml.length c,.int .i64 Q,.int .i64 N,.slice B nl.length b,.slice A1 poly.length c1,.slice A2 pts.length c2]] W fun e w'=>e=.returned (.tuple #[.agg #[.int .i64 0,.int .i64 0,.slice none 0 0,.pointer none,.slice none 0 0,.slice none 0 0,.int .i64 0],.slice none 0 0,.int .i64 E])∧Below W.heap.size W w') :
  Calls Tryz.prog 42 #[.agg #[.int .i64 P,.int .i64 M,.slice A ml.length c,.int .i64 Q,.int .i64 N,.slice B nl.length b,.slice A1 poly.length c1,.slice A2 pts.length c2]] w fun e w'=>e=.returned (.tuple #[.agg #[.int .i64 0,.int .i64 0,.slice none 0 0,.int .i64 0,.slice none 0 0,.slice none 0 0],.int .i64 E])∧Below w.heap.size w w':=by
 obtain⟨s,hs⟩:∃ s,s=w.heap.size:=⟨_,rfl⟩;obtain⟨Z,hZ⟩:∃ Z,Z=(w.alloc (.cells #[.int .i64 P,.int .i64 M,.slice A ml.length c,.int .i64 Q,.int .i64 N,.slice B nl.length b,.slice A1 poly.length c1,.slice A2 pts.length c2] 44)).alloc (.cells #[.int .i64 0,.int .i64 0,.slice none 0 0,.int .i64 0,.slice none 0 0,.slice none 0 0] 72):=⟨_,rfl⟩;have hB:Below w.heap.size w Z:=by rw[hZ]; exact ((Below.refl _ _).alloc (Nat.le_refl _) _).alloc (by simp) _
 have hbG:Hid (Bxs Z s [.int .i64 P,.int .i64 M,.slice A ml.length c,.int .i64 Q,.int .i64 N,.slice B nl.length b,.slice A1 poly.length c1,.slice A2 pts.length c2]):=by rw[hZ,hs]; exact (Bxs.new w _ _).keep ((Below.refl _ _).alloc (Nat.le_refl _) _) (by simp)
 have hbR:Hid (Bxs Z (s+1) [.int .i64 0,.int .i64 0,.slice none 0 0,.int .i64 0,.slice none 0 0,.slice none 0 0]):=by rw[hZ,hs]; have:=Bxs.new (w.alloc (.cells #[.int .i64 P,.int .i64 M,.slice A ml.length c,.int .i64 Q,.int .i64 N,.slice B nl.length b,.slice A1 poly.length c1,.slice A2 pts.length c2] 44)) [.int .i64 0,.int .i64 0,.slice none 0 0,.int .i64 0,.slice none 0 0,.slice none 0 0] 72; rw[World.size_alloc]at this; exact this
 have hZs:s+1<Z.heap.size:=by rw[hZ,hs]; simp
 have hq:=Lib.hid (hG Z hB);have hEb:(E !=0)=true:=by rw[bne_iff_ne]; exact hE
 replace hZ:=Lib.hid hZ;replace hE:=Lib.hid hE;clear hG;go_enter Tryz.func42,Tryz.ntmps42;obtain⟨a0,a1,a2,a3,a4,a5,a6,a7⟩:=hbG.out.c8;go_wp2_with (fail);rw[←hZ.out];simp only[←hs];have hsw:w.heap.size≤s:=Nat.le_of_eq hs.symm;replace hs:=Lib.hid hs;go_wp2_with (fail);(with_reducible refine hq.out.mono ?_);rintro e w1 ⟨rfl,hb1⟩;clear hq a0 a1 a2 a3 a4 a5 a6 a7;have hB1:=hB.trans (hb1.mono hB.size);obtain⟨Y,hY⟩:∃ Y,Y=w1.alloc (.cells #[.int .i64 0,.int .i64 0,.slice none 0 0,.pointer none,.slice none 0 0,.slice none 0 0,.int .i64 0] 130):=⟨_,rfl⟩;have hbY:Below w1.heap.size w1 Y:=by rw[hY]; exact (Below.refl _ w1).alloc (Nat.le_refl _) _
 have hbZY:=hb1.trans (hbY.mono hb1.size);have hBY:=hB.trans (hbZY.mono hB.size);have hbRY:=hbR.out.keep hbZY hZs;obtain⟨u0,u1,u2,u3,u4,u5⟩:=hbRY.c6;obtain⟨v0,v1,v2,v3,v4,v5⟩:=hbRY.f6;have hfin:Hid (Below w.heap.size w (stAll Y (s+1) 0 [.int .i64 0,.int .i64 0,.slice none 0 0,.int .i64 0,.slice none 0 0,.slice none 0 0])):=stAll_below (by omega) _ _ _ hBY;rw[hY]at u0 u1 u2 u3 u4 u5 v0 v1 v2 v3 v4 v5 hfin;clear hbRY;go_wp2_with (fail);exact bodyPost_ret (v:=.tuple #[.agg #[.int .i64 0,.int .i64 0,.slice none 0 0,.int .i64 0,.slice none 0 0,.slice none 0 0],.int .i64 E]) (by simp[results,Tryz.results42,go_sem,u0,u1,u2,u3,u4,u5]) rfl ⟨rfl,hfin.out⟩
def GalPost (D:Desc)(poly pts:List Int)(w:World)(e:Ending)(w':World):Prop :=
 ∃ (F:FD) (A3 A4 A5:Option Addr) (c3 c4 c5:Nat),F.toDesc=D∧e=.returned (.tuple #[.agg #[.int .i64 D.p,.int .i64 D.m,.slice A3 D.mod.length c3,.int .i64 ((pts.length - min (poly.length - 1) pts.length:Nat):Int),.slice A4 pts.length c4,.slice A5 pts.length c5],.int .i64 0]) ∧
  Rd w' w'.heap.size A3 (modL D)∧Rd w' w'.heap.size A4 pts∧Rd w' w'.heap.size A5 (dualL F pts (invL F poly pts))∧pts.length≤c4∧c4≤maxLen∧Below w.heap.size w w'
set_option maxRecDepth 100000 in
set_option maxHeartbeats 8000000 in
theorem aAlt_ok (S:FD)(D:Desc)(poly pts:List Int)(A B A1 A2:Option Addr)(c b c1 c2:Nat)(w:World)(hr:Rd w w.heap.size A (modL S.toDesc))(hrB:Rd w w.heap.size B (modL D))(hS:Good S.p S.m (modL S.toDesc))(hD:Good D.p D.m (modL D))(hr1:Rd w w.heap.size A1 poly)(hr2:Rd w w.heap.size A2 pts)(hc2:pts.length≤c2)(hc2':c2≤maxLen)(hz:gopD S.toDesc D poly pts=0) :
  Calls Tryz.prog 42 #[.agg #[.int .i64 S.p,.int .i64 S.m,.slice A S.mod.length c,.int .i64 D.p,.int .i64 D.m,.slice B D.mod.length b,.slice A1 poly.length c1,.slice A2 pts.length c2]] w (GalPost D poly pts w):=by
 obtain⟨hfit,⟨hn1,hn64⟩,hp1,hp2,htw,hl2,hl65,htop,hroot⟩:=gopD_zero hz;have hGo:=fun W x1 x2 x3 x4=>Lib.hid (goppa_D S D poly pts A B A1 A2 c b c1 c2 W x1 x2 hS hD x3 x4 (by unfold maxLen; omega) (by unfold maxLen; omega))
 obtain⟨T,hT⟩:∃ T,T=poly.length - 1:=⟨_,rfl⟩;obtain⟨kK,hkK⟩:∃ kK,kK=min T pts.length:=⟨_,rfl⟩;have hKle:kK≤pts.length:=by omega
 have hw1:IntKind.i64.wrap ((poly.length:Int) - 1)=(T:Int):=by rw[IntWalk.i64_in _ (by omega)]; omega
 have hmin:min (T:Int) (pts.length:Int)=(kK:Int):=by omega
 have hKi:(pts.length:Int) - (kK:Int)=((pts.length - kK:Nat):Int):=by omega
 have hmk:=mk_ints pts.length (by omega);obtain⟨s,hs⟩:∃ s,s=w.heap.size:=⟨_,rfl⟩;obtain⟨Z,hZ⟩:∃ Z,Z=(w.alloc (.cells #[.int .i64 S.p,.int .i64 S.m,.slice A S.mod.length c,.int .i64 D.p,.int .i64 D.m,.slice B D.mod.length b,.slice A1 poly.length c1,.slice A2 pts.length c2] 44)).alloc (.cells #[.int .i64 0,.int .i64 0,.slice none 0 0,.int .i64 0,.slice none 0 0,.slice none 0 0] 72):=⟨_,rfl⟩;have hB:Below w.heap.size w Z:=by rw[hZ]; exact ((Below.refl _ _).alloc (Nat.le_refl _) _).alloc (by simp) _
 have hbG:Hid (Bxs Z s [.int .i64 S.p,.int .i64 S.m,.slice A S.mod.length c,.int .i64 D.p,.int .i64 D.m,.slice B D.mod.length b,.slice A1 poly.length c1,.slice A2 pts.length c2]):=by rw[hZ,hs]; exact (Bxs.new w _ _).keep ((Below.refl _ _).alloc (Nat.le_refl _) _) (by simp)
 have hbR:Hid (Bxs Z (s+1) [.int .i64 0,.int .i64 0,.slice none 0 0,.int .i64 0,.slice none 0 0,.slice none 0 0]):=by rw[hZ,hs]; have:=Bxs.new (w.alloc (.cells #[.int .i64 S.p,.int .i64 S.m,.slice A S.mod.length c,.int .i64 D.p,.int .i64 D.m,.slice B D.mod.length b,.slice A1 poly.length c1,.slice A2 pts.length c2] 44)) [.int .i64 0,.int .i64 0,.slice none 0 0,.int .i64 0,.slice none 0 0,.slice none 0 0] 72; rw[World.size_alloc]at this; exact this
 have hZs:s+1<Z.heap.size:=by rw[hZ,hs]; simp
 have hq:=hGo Z ((hr.below hB).more hB.size) ((hrB.below hB).more hB.size) ((hr1.below hB).more hB.size) ((hr2.below hB).more hB.size);have hzH:=Lib.hid hz;have hDH:=Lib.hid hD;replace hZ:=Lib.hid hZ;unfold GalPost;rw[←hT,←hkK];replace hkK:=Lib.hid hkK;replace hT:=Lib.hid hT;clear hGo hz hfit hp1 hp2 htw htop hroot hr hr1 hD;go_enter Tryz.func42,Tryz.ntmps42;obtain⟨a0,a1,a2,a3,a4,a5,a6,a7⟩:=hbG.out.c8;go_wp2_with (fail);rw[←hZ.out];simp only[←hs];have hsw:w.heap.size≤s:=Nat.le_of_eq hs.symm;replace hs:=Lib.hid hs;go_wp2_with (fail);(with_reducible refine hq.out.mono ?_);rintro e w1 ⟨hb1,⟨hne,-⟩ | ⟨-,F,rt,k0,n,g,gb,Ab,cb,gv,rfl,-,-,-,rfl,hpr,hrv⟩⟩
 ·exact absurd hzH.out hne
 clear a0 a1 a2 a3 a4 a5 a6 a7 hq;obtain⟨pb,hpb⟩:∃ pb,pb=w1.heap.size:=⟨_,rfl⟩;obtain⟨Y,hY⟩:∃ Y,Y=w1.alloc (.cells #[.int .i64 S.p,.int .i64 S.m,.slice A S.mod.length c,.pointer (some ⟨g,0,none⟩),.slice (some ⟨gb,0,none⟩) F.q F.q,.slice Ab n cb,.int .i64 S.m] 130):=⟨_,rfl⟩;have hbY:Below w1.heap.size w1 Y:=by rw[hY]; exact (Below.refl _ _).alloc (Nat.le_refl _) _
 have hYs:pb<Y.heap.size:=by rw[hY,hpb]; simp
 have hbP:Hid (Bxs Y pb [.int .i64 S.p,.int .i64 S.m,.slice A S.mod.length c,.pointer (some ⟨g,0,none⟩),.slice (some ⟨gb,0,none⟩) F.q F.q,.slice Ab n cb,.int .i64 S.m]):=by rw[hY,hpb]; exact Bxs.new w1 _ _
 have hbZY:=hb1.trans (hbY.mono hb1.size);have hBY:=hB.trans (hbZY.mono hB.size);have hgY:GF Y Y.heap.size g F:=((hpr.below hbY).more hbY.size).gf;have hrvY:=(hrv.below hbY).more hbY.size;have hrBY:=(hrB.below hBY).more hBY.size;have hr2Y:=(hr2.below hBY).more hBY.size;have hYsR:s+1<Y.heap.size:=Nat.lt_of_lt_of_le hZs hbZY.size;have hbGY:=Lib.hid (hbG.out.keep hbZY (show s<Z.heap.size by omega));have hbRY:=Lib.hid (hbR.out.keep hbZY hZs);have hV0:Hid (Y.cell? ⟨s,3,none⟩=some (.int .i64 F.p)∧Y.cell? ⟨s,4,none⟩=some (.int .i64 F.m)∧Y.cell? ⟨s,5,none⟩=some (.slice B F.mod.length b)∧Y.cell? ⟨s,6,none⟩=some (.slice A1 poly.length c1)∧Y.cell? ⟨s,7,none⟩=some (.slice A2 pts.length c2)):=⟨hbGY.out.c8.2.2.2.1,hbGY.out.c8.2.2.2.2.1,hbGY.out.c8.2.2.2.2.2.1,hbGY.out.c8.2.2.2.2.2.2.1,hbGY.out.c8.2.2.2.2.2.2.2⟩;have hYs0:s<Y.heap.size:=by omega
 have hvl:Hid ((valL F.toDesc poly pts).length=pts.length):=lst_length _ _;obtain⟨f,hf⟩:∃ f:Nat→Int,f=fun i=>ci (inv (pevI F.toDesc poly (eli F.toDesc (pts[i]?.getD 0)))):=⟨_,rfl⟩
 have hfv:Hid (∀ j,j<pts.length→ci (inv (eli F.toDesc ((valL F.toDesc poly pts)[j]?.getD 0)))=f j):=fun j hj=>by
  rw[show (valL F.toDesc poly pts)[j]?.getD 0=ci (pevI F.toDesc poly (eli F.toDesc (pts[j]?.getD 0))) from lst_get _ hj,eli_ci,hf]
 have hfL:Hid (lst pts.length f=invL F poly pts):=by rw[hf]; exact Lib.hid rfl
 replace hf:=Lib.hid hf;replace hY:=Lib.hid hY;replace hpb:=Lib.hid hpb;clear hpr hrv hbG hbR hr2 hrB;go_wp2_with (fail);rw[←hY.out];try simp only[←hpb.out]
 go_cut [7] from 10 (fun a wx=>∃ gm pg,a=.pointer (some ⟨pg,0,none⟩)∧Hid (Bxs wx pg [.int .i64 F.p,.int .i64 F.m,.slice B F.mod.length b,.int .i64 (kK:Int),.slice A2 pts.length c2,.slice (some ⟨gm,0,none⟩) pts.length pts.length])∧Hid (IB wx gm (List.replicate pts.length 0))∧Y.heap.size≤gm∧Y.heap.size≤pg∧gm≠pg∧gm<wx.heap.size∧pg<wx.heap.size∧Below Y.heap.size Y wx)
 case first =>
  have vF:∀ W,Below Y.heap.size Y W→W.cell? ⟨s,3,none⟩=some (.int .i64 F.p)∧W.cell? ⟨s,4,none⟩=some (.int .i64 F.m)∧W.cell? ⟨s,5,none⟩=some (.slice B F.mod.length b)∧W.cell? ⟨s,6,none⟩=some (.slice A1 poly.length c1)∧W.cell? ⟨s,7,none⟩=some (.slice A2 pts.length c2):=fun W h=>⟨(h.cell (p:=⟨s,3,none⟩) hYs0).trans hV0.out.1,(h.cell (p:=⟨s,4,none⟩) hYs0).trans hV0.out.2.1,(h.cell (p:=⟨s,5,none⟩) hYs0).trans hV0.out.2.2.1,(h.cell (p:=⟨s,6,none⟩) hYs0).trans hV0.out.2.2.2.1,(h.cell (p:=⟨s,7,none⟩) hYs0).trans hV0.out.2.2.2.2⟩
  refine wp_region_held_drew (S:=fun w'=>w'.cell? ⟨s,3,none⟩=some (.int .i64 F.p)∧w'.cell? ⟨s,4,none⟩=some (.int .i64 F.m)∧w'.cell? ⟨s,5,none⟩=some (.slice B F.mod.length b)∧w'.cell? ⟨s,6,none⟩=some (.slice A1 poly.length c1)∧w'.cell? ⟨s,7,none⟩=some (.slice A2 pts.length c2)) (by kernel_rfl) (by (try dsimp only); exact hV0.out) (fun hHeld=>?_);refine tk 0 ?_; try simp only[pS]
  refine tk 1 ?_; try simp only[pS]
  refine tk 2 ?_; try simp only[pS]
  refine tk 3 ?_; try simp only[pS]
  refine tk 4 ?_; try simp only[pS]
  refine tk 5 ?_; try simp only[pS]
  refine tk 6 ?_; try simp only[pS]
  refine tk 7 ?_; try simp only[pS]
  refine tk 8 ?_; try simp only[pS]
  refine tk 10 ?_; try simp only[pS]
  refine tk 11 ?_; try simp only[pS]
  refine tk 12 ?_; try simp only[pS]
  refine tk 13 ?_; try simp only[pS]
  refine wpAnyH_ready (rs:=[9,14,16]) (by kernel_rfl) (by simp) ?_;refine AllReadyH.cons (o:=⟨_,_,_,_,_,_⟩) rfl (fun K hK=>?_) ?_
  ·go_simp;refine hK.out _ _ (by (try dsimp only); exact hHeld) (fun hHeld=>?_);clear hK K;try simp only[pS]
   refine wpAnyH_ready (rs:=[14,16]) (by kernel_rfl) (by simp) ?_;refine AllReadyH.cons (o:=⟨_,_,_,_,_,_⟩) rfl (fun K hK=>?_) ?_
   ·go_simp;refine hK.out _ _ (by (try dsimp only); exact⟨cell_al hHeld.1 _,cell_al hHeld.2.1 _,cell_al hHeld.2.2.1 _,cell_al hHeld.2.2.2.1 _,cell_al hHeld.2.2.2.2 _⟩) (fun hHeld=>?_);clear hK K;try simp only[pS]
    refine tk 15 ?_; try simp only[pS]
    refine rd 16 fun K hK=>?_
    go_simp;refine hK.out _ _ (by (try dsimp only); exact⟨cell_al hHeld.1 _,cell_al hHeld.2.1 _,cell_al hHeld.2.2.1 _,cell_al hHeld.2.2.2.1 _,cell_al hHeld.2.2.2.2 _⟩) (fun hHeld=>?_);clear hK K;try simp only[pS]
    refine rd 17 fun K hK=>?_
    go_simp;refine hK.out _ _ (by (try dsimp only); (first | exact vF _ (boxesA Y pts.length _ _).2.2.2.drew | exact vF _ (boxesB Y pts.length _ _).2.2.2.drew)) (fun hHeld=>?_);clear hK K;try simp only[pS]
    refine wpAnyH_done (by kernel_rfl) ?_ _;go_wp2_with (fail);go_meet
    first
     | exact⟨Y.heap.size,Y.heap.size+1,rfl,Lib.hid (boxesA Y pts.length _ _).1.drew,Lib.hid (boxesA Y pts.length _ _).2.1.drew,Nat.le_refl _,Nat.le_succ _,by omega,Nat.lt_trans (Nat.lt_succ_self _) (boxesA Y pts.length _ _).2.2.1,(boxesA Y pts.length _ _).2.2.1,(boxesA Y pts.length _ _).2.2.2.drew⟩
     | exact⟨Y.heap.size+1,Y.heap.size,rfl,Lib.hid (boxesB Y pts.length _ _).1.drew,Lib.hid (boxesB Y pts.length _ _).2.1.drew,Nat.le_succ _,Nat.le_refl _,by omega,(boxesB Y pts.length _ _).2.2.1,Nat.lt_trans (Nat.lt_succ_self _) (boxesB Y pts.length _ _).2.2.1,(boxesB Y pts.length _ _).2.2.2.drew⟩
   refine AllReadyH.cons (o:=⟨_,_,_,_,_,_⟩) rfl (fun K hK=>?_) AllReadyH.nil;go_simp;refine hK.out _ _ (by (try dsimp only); exact⟨cell_al hHeld.1 _,cell_al hHeld.2.1 _,cell_al hHeld.2.2.1 _,cell_al hHeld.2.2.2.1 _,cell_al hHeld.2.2.2.2 _⟩) (fun hHeld=>?_);clear hK K;try simp only[pS]
   refine rd 14 fun K hK=>?_
   go_simp;refine hK.out _ _ (by (try dsimp only); exact⟨cell_al hHeld.1 _,cell_al hHeld.2.1 _,cell_al hHeld.2.2.1 _,cell_al hHeld.2.2.2.1 _,cell_al hHeld.2.2.2.2 _⟩) (fun hHeld=>?_);clear hK K;try simp only[pS]
   refine tk 15 ?_; try simp only[pS]
   refine rd 17 fun K hK=>?_
   go_simp;refine hK.out _ _ (by (try dsimp only); (first | exact vF _ (boxesA Y pts.length _ _).2.2.2.drew | exact vF _ (boxesB Y pts.length _ _).2.2.2.drew)) (fun hHeld=>?_);clear hK K;try simp only[pS]
   refine wpAnyH_done (by kernel_rfl) ?_ _;go_wp2_with (fail);go_meet
   first
    | exact⟨Y.heap.size,Y.heap.size+1,rfl,Lib.hid (boxesA Y pts.length _ _).1.drew,Lib.hid (boxesA Y pts.length _ _).2.1.drew,Nat.le_refl _,Nat.le_succ _,by omega,Nat.lt_trans (Nat.lt_succ_self _) (boxesA Y pts.length _ _).2.2.1,(boxesA Y pts.length _ _).2.2.1,(boxesA Y pts.length _ _).2.2.2.drew⟩
    | exact⟨Y.heap.size+1,Y.heap.size,rfl,Lib.hid (boxesB Y pts.length _ _).1.drew,Lib.hid (boxesB Y pts.length _ _).2.1.drew,Nat.le_succ _,Nat.le_refl _,by omega,(boxesB Y pts.length _ _).2.2.1,Nat.lt_trans (Nat.lt_succ_self _) (boxesB Y pts.length _ _).2.2.1,(boxesB Y pts.length _ _).2.2.2.drew⟩
  refine AllReadyH.cons (o:=⟨_,_,_,_,_,_⟩) rfl (fun K hK=>?_) ?_
  ·go_simp;refine hK.out _ _ (by (try dsimp only); exact⟨cell_al hHeld.1 _,cell_al hHeld.2.1 _,cell_al hHeld.2.2.1 _,cell_al hHeld.2.2.2.1 _,cell_al hHeld.2.2.2.2 _⟩) (fun hHeld=>?_);clear hK K;try simp only[pS]
   refine wpAnyH_ready (rs:=[9,16]) (by kernel_rfl) (by simp) ?_;refine AllReadyH.cons (o:=⟨_,_,_,_,_,_⟩) rfl (fun K hK=>?_) ?_
   ·go_simp;refine hK.out _ _ (by (try dsimp only); exact hHeld) (fun hHeld=>?_);clear hK K;try simp only[pS]
    refine tk 15 ?_; try simp only[pS]
    refine rd 16 fun K hK=>?_
    go_simp;refine hK.out _ _ (by (try dsimp only); exact⟨cell_al hHeld.1 _,cell_al hHeld.2.1 _,cell_al hHeld.2.2.1 _,cell_al hHeld.2.2.2.1 _,cell_al hHeld.2.2.2.2 _⟩) (fun hHeld=>?_);clear hK K;try simp only[pS]
    refine rd 17 fun K hK=>?_
    go_simp;refine hK.out _ _ (by (try dsimp only); (first | exact vF _ (boxesA Y pts.length _ _).2.2.2.drew | exact vF _ (boxesB Y pts.length _ _).2.2.2.drew)) (fun hHeld=>?_);clear hK K;try simp only[pS]
    refine wpAnyH_done (by kernel_rfl) ?_ _;go_wp2_with (fail);go_meet
    first
     | exact⟨Y.heap.size,Y.heap.size+1,rfl,Lib.hid (boxesA Y pts.length _ _).1.drew,Lib.hid (boxesA Y pts.length _ _).2.1.drew,Nat.le_refl _,Nat.le_succ _,by omega,Nat.lt_trans (Nat.lt_succ_self _) (boxesA Y pts.length _ _).2.2.1,(boxesA Y pts.length _ _).2.2.1,(boxesA Y pts.length _ _).2.2.2.drew⟩
     | exact⟨Y.heap.size+1,Y.heap.size,rfl,Lib.hid (boxesB Y pts.length _ _).1.drew,Lib.hid (boxesB Y pts.length _ _).2.1.drew,Nat.le_succ _,Nat.le_refl _,by omega,(boxesB Y pts.length _ _).2.2.1,Nat.lt_trans (Nat.lt_succ_self _) (boxesB Y pts.length _ _).2.2.1,(boxesB Y pts.length _ _).2.2.2.drew⟩
   refine AllReadyH.cons (o:=⟨_,_,_,_,_,_⟩) rfl (fun K hK=>?_) AllReadyH.nil;go_simp;refine hK.out _ _ (by (try dsimp only); exact⟨cell_al hHeld.1 _,cell_al hHeld.2.1 _,cell_al hHeld.2.2.1 _,cell_al hHeld.2.2.2.1 _,cell_al hHeld.2.2.2.2 _⟩) (fun hHeld=>?_);clear hK K;try simp only[pS]
   refine rd 9 fun K hK=>?_
   go_simp;refine hK.out _ _ (by (try dsimp only); exact hHeld) (fun hHeld=>?_);clear hK K;try simp only[pS]
   refine tk 15 ?_; try simp only[pS]
   refine rd 17 fun K hK=>?_
   go_simp;refine hK.out _ _ (by (try dsimp only); (first | exact vF _ (boxesA Y pts.length _ _).2.2.2.drew | exact vF _ (boxesB Y pts.length _ _).2.2.2.drew)) (fun hHeld=>?_);clear hK K;try simp only[pS]
   refine wpAnyH_done (by kernel_rfl) ?_ _;go_wp2_with (fail);go_meet
   first
    | exact⟨Y.heap.size,Y.heap.size+1,rfl,Lib.hid (boxesA Y pts.length _ _).1.drew,Lib.hid (boxesA Y pts.length _ _).2.1.drew,Nat.le_refl _,Nat.le_succ _,by omega,Nat.lt_trans (Nat.lt_succ_self _) (boxesA Y pts.length _ _).2.2.1,(boxesA Y pts.length _ _).2.2.1,(boxesA Y pts.length _ _).2.2.2.drew⟩
    | exact⟨Y.heap.size+1,Y.heap.size,rfl,Lib.hid (boxesB Y pts.length _ _).1.drew,Lib.hid (boxesB Y pts.length _ _).2.1.drew,Nat.le_succ _,Nat.le_refl _,by omega,(boxesB Y pts.length _ _).2.2.1,Nat.lt_trans (Nat.lt_succ_self _) (boxesB Y pts.length _ _).2.2.1,(boxesB Y pts.length _ _).2.2.2.drew⟩
  refine AllReadyH.cons (o:=⟨_,_,_,_,_,_⟩) rfl (fun K hK=>?_) AllReadyH.nil;go_simp;refine hK.out _ _ (by (try dsimp only); exact⟨cell_al hHeld.1 _,cell_al hHeld.2.1 _,cell_al hHeld.2.2.1 _,cell_al hHeld.2.2.2.1 _,cell_al hHeld.2.2.2.2 _⟩) (fun hHeld=>?_);clear hK K;try simp only[pS]
  refine wpAnyH_ready (rs:=[9,14]) (by kernel_rfl) (by simp) ?_;refine AllReadyH.cons (o:=⟨_,_,_,_,_,_⟩) rfl (fun K hK=>?_) ?_
  ·go_simp;refine hK.out _ _ (by (try dsimp only); exact hHeld) (fun hHeld=>?_);clear hK K;try simp only[pS]
   refine rd 14 fun K hK=>?_
   go_simp;refine hK.out _ _ (by (try dsimp only); exact⟨cell_al hHeld.1 _,cell_al hHeld.2.1 _,cell_al hHeld.2.2.1 _,cell_al hHeld.2.2.2.1 _,cell_al hHeld.2.2.2.2 _⟩) (fun hHeld=>?_);clear hK K;try simp only[pS]
   refine tk 15 ?_; try simp only[pS]
   refine rd 17 fun K hK=>?_
   go_simp;refine hK.out _ _ (by (try dsimp only); (first | exact vF _ (boxesA Y pts.length _ _).2.2.2.drew | exact vF _ (boxesB Y pts.length _ _).2.2.2.drew)) (fun hHeld=>?_);clear hK K;try simp only[pS]
   refine wpAnyH_done (by kernel_rfl) ?_ _;go_wp2_with (fail);go_meet
   first
    | exact⟨Y.heap.size,Y.heap.size+1,rfl,Lib.hid (boxesA Y pts.length _ _).1.drew,Lib.hid (boxesA Y pts.length _ _).2.1.drew,Nat.le_refl _,Nat.le_succ _,by omega,Nat.lt_trans (Nat.lt_succ_self _) (boxesA Y pts.length _ _).2.2.1,(boxesA Y pts.length _ _).2.2.1,(boxesA Y pts.length _ _).2.2.2.drew⟩
    | exact⟨Y.heap.size+1,Y.heap.size,rfl,Lib.hid (boxesB Y pts.length _ _).1.drew,Lib.hid (boxesB Y pts.length _ _).2.1.drew,Nat.le_succ _,Nat.le_refl _,by omega,(boxesB Y pts.length _ _).2.2.1,Nat.lt_trans (Nat.lt_succ_self _) (boxesB Y pts.length _ _).2.2.1,(boxesB Y pts.length _ _).2.2.2.drew⟩
  refine AllReadyH.cons (o:=⟨_,_,_,_,_,_⟩) rfl (fun K hK=>?_) AllReadyH.nil;go_simp;refine hK.out _ _ (by (try dsimp only); exact⟨cell_al hHeld.1 _,cell_al hHeld.2.1 _,cell_al hHeld.2.2.1 _,cell_al hHeld.2.2.2.1 _,cell_al hHeld.2.2.2.2 _⟩) (fun hHeld=>?_);clear hK K;try simp only[pS]
  refine rd 9 fun K hK=>?_
  go_simp;refine hK.out _ _ (by (try dsimp only); exact hHeld) (fun hHeld=>?_);clear hK K;try simp only[pS]
  refine tk 15 ?_; try simp only[pS]
  refine rd 17 fun K hK=>?_
  go_simp;refine hK.out _ _ (by (try dsimp only); (first | exact vF _ (boxesA Y pts.length _ _).2.2.2.drew | exact vF _ (boxesB Y pts.length _ _).2.2.2.drew)) (fun hHeld=>?_);clear hK K;try simp only[pS]
  refine wpAnyH_done (by kernel_rfl) ?_ _;go_wp2_with (fail);go_meet
  first
   | exact⟨Y.heap.size,Y.heap.size+1,rfl,Lib.hid (boxesA Y pts.length _ _).1.drew,Lib.hid (boxesA Y pts.length _ _).2.1.drew,Nat.le_refl _,Nat.le_succ _,by omega,Nat.lt_trans (Nat.lt_succ_self _) (boxesA Y pts.length _ _).2.2.1,(boxesA Y pts.length _ _).2.2.1,(boxesA Y pts.length _ _).2.2.2.drew⟩
   | exact⟨Y.heap.size+1,Y.heap.size,rfl,Lib.hid (boxesB Y pts.length _ _).1.drew,Lib.hid (boxesB Y pts.length _ _).2.1.drew,Nat.le_succ _,Nat.le_refl _,by omega,(boxesB Y pts.length _ _).2.2.1,Nat.lt_trans (Nat.lt_succ_self _) (boxesB Y pts.length _ _).2.2.1,(boxesB Y pts.length _ _).2.2.2.drew⟩
 case rest =>
  obtain⟨gm,pg,rfl,hbM,hib,hgm,hpg,hne,hgl,hpl,hb2⟩:=hcut;obtain⟨w2,rfl⟩:∃ w2:World,w2=wc:=⟨_,rfl⟩;have hib0:Hid (IB w2 gm (upd pts.length 0 f)):=by rw[upd_zero]; exact hib
  clear hmk hib;go_wp2_with (fail);go_loopw [38,8,9] (fun iS _ _ wr=>∃ k:Nat,k≤pts.length∧iS=.int .i64 k∧Hid (IB wr gm (upd pts.length k f))∧Hid (Bxs wr pg [.int .i64 F.p,.int .i64 F.m,.slice B F.mod.length b,.int .i64 (kK:Int),.slice A2 pts.length c2,.slice (some ⟨gm,0,none⟩) pts.length pts.length])∧Below Y.heap.size Y wr∧pg<wr.heap.size) (fun iS _ _ _=>pts.length - (intOf iS).toNat)
  case atStart=>exact⟨0,by omega,rfl,hib0,hbM,hb2,hpl⟩
  case round =>
   clear hib0 hbM hb2 hgl hpl;obtain⟨w3,rfl⟩:∃ w3:World,w3=wr:=⟨_,rfl⟩;obtain⟨k,hk,rfl,hib,hbM,hb3,hpl⟩:=hrel;have hgl:=hib.out.lt;by_cases hkN:k<pts.length
   ·have k0:(0:Int)≤(k:Int):=by omega
    have k1:(k:Int)<(pts.length:Int):=by omega
    obtain⟨bv,ov,ev,hbv,hcv⟩:=hrvY.at_ (k:=k) (by rw[hvl.out]; exact hkN)
    injection ev with ev
    injection ev with ev1 ev2
    subst ev1 ev2;rw[Nat.zero_add]at hcv;have hcv1:=(hb3.cell (p:=⟨gv,k,none⟩) hbv).trans hcv;have hgf3:=(hgY.below hb3).more hb3.size;have hq:=gInv_any F ((valL F.toDesc poly pts)[k]?.getD 0) g w3.drew hgf3.drew;rw[hfv.out k hkN]at hq;obtain⟨x,hx⟩:∃ x,x=(valL F.toDesc poly pts)[k]?.getD 0:=⟨_,rfl⟩;obtain⟨y,hy⟩:∃ y,y=f k:=⟨_,rfl⟩;rw[←hx]at hcv1 hq;rw[←hy]at hq;replace hx:=Lib.hid hx;replace hy:=Lib.hid hy;replace hq:=Lib.hid hq;have hV3:Hid (w3.cell? ⟨pg,5,none⟩=some (.slice (some ⟨gm,0,none⟩) pts.length pts.length)∧w3.cell? ⟨pb,3,none⟩=some (.pointer (some ⟨g,0,none⟩))):=⟨hbM.out.c6.2.2.2.2.2,(hb3.cell (p:=⟨pb,3,none⟩) hYs).trans hbP.out.c7.2.2.2.1⟩;have hpb3:pb<w3.heap.size:=Nat.lt_of_lt_of_le hYs hb3.size;have hgmP:gm≠pb:=by omega
    clear hcv;go_wp2_with (fail);clear hcv1;refine wp_region_held_drew (S:=fun w'=>w'.cell? ⟨pg,5,none⟩=some (.slice (some ⟨gm,0,none⟩) pts.length pts.length)∧w'.cell? ⟨pb,3,none⟩=some (.pointer (some ⟨g,0,none⟩))) (by kernel_rfl) (by (try dsimp only); exact hV3.out) (fun hHeld=>?_);refine tk 0 ?_; try simp only[pS]
    refine tk 1 ?_; try simp only[pS]
    refine tk 2 ?_; try simp only[pS]
    refine tk 3 ?_; try simp only[pS]
    refine tk 4 ?_; try simp only[pS]
    refine tk 5 ?_; try simp only[pS]
    refine rd 6 fun K hK=>?_
    go_simp;go_at_call 108;(with_reducible refine (hq).out.mono ?_);rintro e w4 ⟨⟨t,rfl⟩,hb4⟩;have hb34:Below w3.heap.size w3 w4:=(Below.refl _ w3).drew.trans hb4;have hV4:Hid (w4.cell? ⟨pg,5,none⟩=some (.slice (some ⟨gm,0,none⟩) pts.length pts.length)∧w4.cell? ⟨pb,3,none⟩=some (.pointer (some ⟨g,0,none⟩))):=⟨(hb34.cell (p:=⟨pg,5,none⟩) hpl).trans hV3.out.1,(hb34.cell (p:=⟨pb,3,none⟩) hpb3).trans hV3.out.2⟩;have hib4:=hib.out.below hb34 hgl;have hcW:=hib4.cell (i:=k) (by rw[upd_length]; exact hkN);have hfW:=hib4.frozen k;have hset:=hib4.set_ k y;rw[hy.out,upd_set,←hy.out]at hset;replace hset:=Lib.hid hset;have hbM4:=Lib.hid ((hbM.out.keep hb34 hpl).far hne k (.int .i64 y));have hb5:=Lib.hid ((hb3.trans (hb34.mono hb3.size)).setCell (p:=⟨gm,k,none⟩) hgm (.int .i64 y));have hpl5:Hid (pg<(w4.setCell ⟨gm,k,none⟩ (.int .i64 y)).heap.size):=(by unfold Hid; simp only[World.setCell,Array.size_modify]; exact Nat.lt_of_lt_of_le hpl hb34.size);obtain⟨W9,hW9⟩:∃ W9,W9=w4.setCell ⟨gm,k,none⟩ (.int .i64 y):=⟨_,rfl⟩;have hV5:Hid (W9.cell? ⟨pg,5,none⟩=some (.slice (some ⟨gm,0,none⟩) pts.length pts.length)∧W9.cell? ⟨pb,3,none⟩=some (.pointer (some ⟨g,0,none⟩))):=(by rw[hW9]; exact⟨(World.cell?_setCell_far _ _ _ _ hne).trans hV4.out.1,(World.cell?_setCell_far _ _ _ _ hgmP).trans hV4.out.2⟩);rw[hW9]at hV5;clear hib4;go_wp2_with (fail);refine hK.out _ _ (by (try dsimp only); exact hV4.out) (fun hHeld=>?_);clear hK K;try simp only[pS]
    refine tk 7 ?_; try simp only[pS]
    refine tk 8 ?_; try simp only[pS]
    refine tk 9 ?_; try simp only[pS]
    refine tk 10 ?_; try simp only[pS]
    refine rd 11 fun K hK=>?_
    go_simp;refine hK.out _ _ (by (try dsimp only); exact hV5.out) (fun hHeld=>?_);clear hK K;try simp only[pS]
    refine wpAnyH_done (by kernel_rfl) ?_ _;go_wp2_with (fail);go_roundw
    case rel=>exact⟨k+1,by omega,by go_num,hset,hbM4,hb5.out,hpl5.out⟩
    case measure=>simp[intOf]; omega
   ·obtain rfl:pts.length=k:=by omega
    rw[upd_full,hfL.out]at hib;have hB3:=hBY.trans (hb3.mono hBY.size);have hq:=gDual_D2 F.toDesc (kK:Int) pts (invL F poly pts) B A2 (some ⟨gm,0,none⟩) b c2 pts.length w3 ((hrBY.below hb3).more hb3.size) hDH.out ((hr2Y.below hb3).more hb3.size) hib.out.rd hc2 hc2' (by rw[invL_length]; unfold maxLen; omega);unfold DualPost2 at hq;rw[invL_length,gop_chk hzH.out hKle,hKi]at hq;replace hq:=Lib.hid hq;obtain⟨d0,d1,d2,d3,d4,d5⟩:=hbM.out.c6;go_wp2_with (fail);(with_reducible refine hq.out.mono ?_);rintro e w4 ⟨hb4,⟨hne0,-⟩ | ⟨-,F2,hF2,A3,c3,A4,c4,A5,c5,rfl,hr3,hr4,hr5,hc4,hc4',hA3,hA4,hA5⟩⟩
    ·exact absurd rfl hne0
    clear hq d0 d1 d2 d3 d4 d5;have hbY4:=hb3.trans (hb4.mono hb3.size);have hB4:=hBY.trans (hbY4.mono hBY.size);have hbR4:=hbRY.out.keep hbY4 hYsR;obtain⟨u0,u1,u2,u3,u4,u5⟩:=hbR4.c6;obtain⟨v0,v1,v2,v3,v4,v5⟩:=hbR4.f6;have hs3:s+1<w3.heap.size:=Nat.lt_of_lt_of_le hYsR hb3.size;rw[dualL_eq hF2]at hr5;obtain⟨V,hV⟩:∃ V:List Value,V=[.int .i64 F.p,.int .i64 F.m,.slice A3 F.mod.length c3,.int .i64 ((pts.length - kK:Nat):Int),.slice A4 pts.length c4,.slice A5 pts.length c5]:=⟨_,rfl⟩;have hr3f:Rd (stAll w4 (s+1) 0 V) (stAll w4 (s+1) 0 V).heap.size A3 (modL F.toDesc):=by rw[stAll_size]; exact hr3.farS (fun a ha=>by have:=hA3 a ha; omega) _ 0
    have hr4f:Rd (stAll w4 (s+1) 0 V) (stAll w4 (s+1) 0 V).heap.size A4 pts:=by rw[stAll_size]; exact hr4.farS (fun a ha=>by have:=hA4 a ha; omega) _ 0
    have hr5f:Rd (stAll w4 (s+1) 0 V) (stAll w4 (s+1) 0 V).heap.size A5 (dualL F pts (invL F poly pts)):=by rw[stAll_size]; exact hr5.farS (fun a ha=>by have:=hA5 a ha; omega) _ 0
    have hfin:=Lib.hid (And.intro hr3f (And.intro hr4f (And.intro hr5f (And.intro hc4 (And.intro hc4' (stAll_below (b:=s+1) (by omega) V 0 _ hB4))))));rw[hV]at hfin;clear hr3 hr4 hr5 hr3f hr4f hr5f hbR4 hV;go_wp2_with (fail);exact bodyPost_ret (v:=.tuple #[.agg #[.int .i64 F.p,.int .i64 F.m,.slice A3 F.mod.length c3,.int .i64 ((pts.length - kK:Nat):Int),.slice A4 pts.length c4,.slice A5 pts.length c5],.int .i64 0]) (by simp[results,Tryz.results42,go_sem,u0,u1,u2,u3,u4,u5]) rfl ⟨F,A3,A4,A5,c3,c4,c5,rfl,rfl,hfin.out⟩
end Go.Proofs.YtjdoneanohhkmaaGreat

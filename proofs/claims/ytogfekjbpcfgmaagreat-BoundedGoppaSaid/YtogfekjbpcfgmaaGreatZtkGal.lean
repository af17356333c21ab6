/- Layer 19 of the program: Alternant. -/
import Derived.Test.YtogfekjbpcfgmaaGreatZtkBgoP
set_option maxRecDepth 100000
set_option maxHeartbeats 16000000
set_option linter.unusedVariables false
namespace Go.Proofs
open Go.RowKit Cw
open Cw.CField (inv)
attribute [local go_sem high] Go.Lib.run_min_ints
def QjL (D:Desc)(poly pts:List Int)(w:World)(e:Ending)(w':World):Prop :=
 ∃ (F:FD) (J O T:Option Addr) (U I V:Nat),F.z=D∧e=.returned (.tuple #[.agg #[.int .i64 D.p,.int .i64 D.m,.slice J D.mod.length U,.int .i64 ((pts.length - min (poly.length - 1) pts.length:Nat):Int),.slice O pts.length I,.slice T pts.length V],.int .i64 0]) ∧
  Rd w' w'.heap.size J (Qan D)∧Rd w' w'.heap.size O pts∧Rd w' w'.heap.size T (Qck F pts (Qh5 F poly pts))∧pts.length≤I∧I≤maxLen∧Below w.heap.size w w'
theorem QqG (S:FD)(D:Desc)(poly pts:List Int)(A B A1 A2:Option Addr)(c b c1 c2:Nat)(w:World)(hr:Rd w w.heap.size A (Qan S.z))(aH:Rd w w.heap.size B (Qan D))(hS:Qcq S.p S.m (Qan S.z))(hD:Qcq D.p D.m (Qan D))(bc:Rd w w.heap.size A1 poly)(aJ:Rd w w.heap.size A2 pts)(bE:pts.length≤c2)(bF:c2≤maxLen)(hz:QcP S.z D poly pts=0) :
  Calls Tryz.prog 66 #[.agg #[.int .i64 S.p,.int .i64 S.m,.slice A S.mod.length c,.int .i64 D.p,.int .i64 D.m,.slice B D.mod.length b,.slice A1 poly.length c1,.slice A2 pts.length c2]] w (QjL D poly pts w):=by
 obtain⟨b0,⟨cO,cP⟩,b1,b2,b3,cQ,cR,b4,b5⟩:=QbW hz;have be:=fun W x1 x2 x3 x4=>η (QjG S D poly pts A B A1 A2 c b c1 c2 W x1 x2 hS hD x3 x4 (by unfold maxLen;omega) (by unfold maxLen;omega))
 obtain⟨T,hT⟩:=ε (poly.length - 1);obtain⟨kK,aL⟩:=ε (min T pts.length);have bG:kK≤pts.length:=by omega
 have cG:IntKind.i64.wrap ((poly.length:Int) - 1)=(T:Int):=by rw[IntWalk.i64_in _ (by omega)];omega
 have cH:min (T:Int) (pts.length:Int)=(kK:Int):=by omega
 have bH:(pts.length:Int) - (kK:Int)=((pts.length - kK:Nat):Int):=by omega
 have bI:=QaC pts.length (by omega);obtain⟨s,hs⟩:=ε (w.heap.size);obtain⟨Z,hZ⟩:=ε ((w.alloc (.cells #[.int .i64 S.p,.int .i64 S.m,.slice A S.mod.length c,.int .i64 D.p,.int .i64 D.m,.slice B D.mod.length b,.slice A1 poly.length c1,.slice A2 pts.length c2] 44)).alloc (.cells #[.int .i64 0,.int .i64 0,.slice none 0 0,.int .i64 0,.slice none 0 0,.slice none 0 0] 94));have hB:Below w.heap.size w Z:=by rw[hZ];exact (β).alloc (by simp) _
 have aK:Hid (Bxs Z s [.int .i64 S.p,.int .i64 S.m,.slice A S.mod.length c,.int .i64 D.p,.int .i64 D.m,.slice B D.mod.length b,.slice A1 poly.length c1,.slice A2 pts.length c2]):=by rw[hZ,hs];exact (Bxs.new w _ _).keep (β) (by simp)
 have bf:Hid (Bxs Z (s+1) [.int .i64 0,.int .i64 0,.slice none 0 0,.int .i64 0,.slice none 0 0,.slice none 0 0]):=by rw[hZ,hs];have:=Bxs.new (w.alloc (.cells #[.int .i64 S.p,.int .i64 S.m,.slice A S.mod.length c,.int .i64 D.p,.int .i64 D.m,.slice B D.mod.length b,.slice A1 poly.length c1,.slice A2 pts.length c2] 44)) [.int .i64 0,.int .i64 0,.slice none 0 0,.int .i64 0,.slice none 0 0,.slice none 0 0] 94;rw[World.size_alloc]at this;exact this
 have bg:s+1<Z.heap.size:=by rw[hZ,hs];simp
 have O:=be Z (hr.bm hB) (aH.bm hB) (bc.bm hB) (aJ.bm hB);have bh:=η hz;have bJ:=η hD;replace hZ:=η hZ;unfold QjL;rw[←hT,←aL];replace aL:=η aL;replace hT:=η hT;clear be hz b0 b1 b2 b3 b4 b5 hr bc hD;go_enter Tryz.func66,Tryz.ntmps66;obtain⟨a0,a1,a2,a3,a4,a5,a6,a7⟩:=aK.out.c8;go_wp2_with fail;rw[←hZ.out];simp only[←hs];have cI:w.heap.size≤s:=Nat.le_of_eq hs.symm;replace hs:=η hs;go_wp2_with fail;(with_reducible refine O.out.mono ?_);rintro e w1 ⟨bx,⟨aC,-⟩ |⟨-,F,rt,k0,n,g,gb,Ab,cb,gv,rfl,-,-,-,rfl,bz,bA⟩⟩
 ·exact absurd bh.out aC
 clear a0 a1 a2 a3 a4 a5 a6 a7 O;obtain⟨pb,au⟩:=ε (w1.heap.size);obtain⟨Y,hY⟩:=ε (w1.alloc (.cells #[.int .i64 S.p,.int .i64 S.m,.slice A S.mod.length c,.pointer (some ⟨g,0,none⟩),.slice (some ⟨gb,0,none⟩) F.q F.q,.slice Ab n cb,.int .i64 S.m] 154));have ap:Below w1.heap.size w1 Y:=by rw[hY];exact β
 have bi:pb<Y.heap.size:=by rw[hY,au];simp
 have bK:Hid (Bxs Y pb [.int .i64 S.p,.int .i64 S.m,.slice A S.mod.length c,.pointer (some ⟨g,0,none⟩),.slice (some ⟨gb,0,none⟩) F.q F.q,.slice Ab n cb,.int .i64 S.m]):=by rw[hY,au];exact Bxs.new w1 _ _
 have ay:=ζ bx ap;have af:=ζ hB ay;have bL:GF Y Y.heap.size g F:=(bz.bm ap).gf;have bM:=bA.bm ap;have bN:=aH.bm af;have bO:=aJ.bm af;have bj:s+1<Y.heap.size:=θ bg ay.size;have aq:=η (aK.out.keep ay (show s<Z.heap.size by omega));have bP:=η (bf.out.keep ay bg);have aj:Hid (Y.cell? ⟨s,3,none⟩=some (.int .i64 F.p)∧Y.cell? ⟨s,4,none⟩=some (.int .i64 F.m)∧Y.cell? ⟨s,5,none⟩=some (.slice B F.mod.length b)∧Y.cell? ⟨s,6,none⟩=some (.slice A1 poly.length c1)∧Y.cell? ⟨s,7,none⟩=some (.slice A2 pts.length c2)):=⟨aq.out.c8.2.2.2.1,aq.out.c8.2.2.2.2.1,aq.out.c8.2.2.2.2.2.1,aq.out.c8.2.2.2.2.2.2.1,aq.out.c8.2.2.2.2.2.2.2⟩;have ar:s<Y.heap.size:=by omega
 have bQ:Hid ((QfW F.z poly pts).length=pts.length):=Qab _ _;obtain⟨f,hf⟩:=ε (fun i=>ci (inv (QaW F.z poly (eli F.z (pts[i]?.getD 0)))):Nat→Int)
 have bR:Hid (∀j,j<pts.length→ci (inv (eli F.z ((QfW F.z poly pts)[j]?.getD 0)))=f j):=fun j hj=>by
  rw[show (QfW F.z poly pts)[j]?.getD 0=ci (QaW F.z poly (eli F.z (pts[j]?.getD 0))) from Qas _ hj,Qam,hf]
 have bS:Hid (lst pts.length f=Qh5 F poly pts):=by rw[hf];exact η rfl
 replace hf:=η hf;replace hY:=η hY;replace au:=η au;clear bz bA aK bf aJ aH;go_wp2_with fail;rw[←hY.out];try simp only[←au.out]
 go_cut [7] from 10 (fun a wx=>∃J X,a=.pointer (some ⟨X,0,none⟩)∧Hid (Bxs wx X [.int .i64 F.p,.int .i64 F.m,.slice B F.mod.length b,.int .i64 (kK:Int),.slice A2 pts.length c2,.slice (some ⟨J,0,none⟩) pts.length pts.length])∧Hid (IB wx J (List.replicate pts.length 0))∧Y.heap.size≤J∧Y.heap.size≤X∧J≠X∧J<wx.heap.size∧X<wx.heap.size∧Below Y.heap.size Y wx)
 case first =>
  have vF:∀W,Below Y.heap.size Y W→W.cell? ⟨s,3,none⟩=some (.int .i64 F.p)∧W.cell? ⟨s,4,none⟩=some (.int .i64 F.m)∧W.cell? ⟨s,5,none⟩=some (.slice B F.mod.length b)∧W.cell? ⟨s,6,none⟩=some (.slice A1 poly.length c1)∧W.cell? ⟨s,7,none⟩=some (.slice A2 pts.length c2):=fun W h=>⟨(h.cell (p:=⟨s,3,none⟩) ar).trans aj.out.1,(h.cell (p:=⟨s,4,none⟩) ar).trans aj.out.2.1,(h.cell (p:=⟨s,5,none⟩) ar).trans aj.out.2.2.1,(h.cell (p:=⟨s,6,none⟩) ar).trans aj.out.2.2.2.1,(h.cell (p:=⟨s,7,none⟩) ar).trans aj.out.2.2.2.2⟩
  refine wp_region_held_drew (S:=fun w'=>w'.cell? ⟨s,3,none⟩=some (.int .i64 F.p)∧w'.cell? ⟨s,4,none⟩=some (.int .i64 F.m)∧w'.cell? ⟨s,5,none⟩=some (.slice B F.mod.length b)∧w'.cell? ⟨s,6,none⟩=some (.slice A1 poly.length c1)∧w'.cell? ⟨s,7,none⟩=some (.slice A2 pts.length c2)) (by kernel_rfl) (by (try dsimp only);exact aj.out) (fun hHeld=>?_);refine tk 0 ?_;simp only[pS]
  refine tk 1 ?_;simp only[pS]
  refine tk 2 ?_;simp only[pS]
  refine tk 3 ?_;simp only[pS]
  refine tk 4 ?_;simp only[pS]
  refine tk 5 ?_;simp only[pS]
  refine tk 6 ?_;simp only[pS]
  refine tk 7 ?_;simp only[pS]
  refine tk 8 ?_;simp only[pS]
  refine tk 10 ?_;simp only[pS]
  refine tk 11 ?_;simp only[pS]
  refine tk 12 ?_;simp only[pS]
  refine tk 13 ?_;simp only[pS]
  refine wpAnyH_ready (rs:=[9,14,16]) (by kernel_rfl) (by simp) ?_;refine AllReadyH.cons (o:=⟨_,_,_,_,_,_⟩) rfl (fun K I=>?_) ?_
  ·go_simp;refine I.out _ _ hHeld fun hHeld=>?_;clear I K;try simp only[pS]
   refine wpAnyH_ready (rs:=[14,16]) (by kernel_rfl) (by simp) ?_;refine AllReadyH.cons (o:=⟨_,_,_,_,_,_⟩) rfl (fun K I=>?_) ?_
   all_goals first
    |(go_simp
      refine I.out _ _ (by (try dsimp only);exact⟨Qap hHeld.1 _,Qap hHeld.2.1 _,Qap hHeld.2.2.1 _,Qap hHeld.2.2.2.1 _,Qap hHeld.2.2.2.2 _⟩) (fun hHeld=>?_);clear I K;try simp only[pS]
      refine tk 15 ?_;simp only[pS]
      refine rd 16 fun K I=>?_
      go_simp;refine I.out _ _ (by (try dsimp only);exact⟨Qap hHeld.1 _,Qap hHeld.2.1 _,Qap hHeld.2.2.1 _,Qap hHeld.2.2.2.1 _,Qap hHeld.2.2.2.2 _⟩) (fun hHeld=>?_);clear I K)
    |(refine AllReadyH.cons (o:=⟨_,_,_,_,_,_⟩) rfl (fun K I=>?_) AllReadyH.nil
      go_simp;refine I.out _ _ (by (try dsimp only);exact⟨Qap hHeld.1 _,Qap hHeld.2.1 _,Qap hHeld.2.2.1 _,Qap hHeld.2.2.2.1 _,Qap hHeld.2.2.2.2 _⟩) (fun hHeld=>?_);clear I K;try simp only[pS]
      refine rd 14 fun K I=>?_
      go_simp;refine I.out _ _ (by (try dsimp only);exact⟨Qap hHeld.1 _,Qap hHeld.2.1 _,Qap hHeld.2.2.1 _,Qap hHeld.2.2.2.1 _,Qap hHeld.2.2.2.2 _⟩) (fun hHeld=>?_);clear I K;try simp only[pS]
      refine wpAnyH_take (i:=15) (oi:=⟨_,_,_,_,_,_⟩) (v:=?_) rfl (by kernel_rfl) (by kernel_rfl) (by kernel_rfl) (fun _ _ _ h=>h) (Or.inl ⟨by rfl,?_⟩) (by assumption) ?_;rotate_left
      ·intro w a8;(try dsimp only at a8);go_simp;try with_reducible rfl)
   all_goals
    try simp only[pS]
    refine rd 17 fun K I=>?_
    go_simp;refine I.out _ _ (by (try dsimp only);(first |exact vF _ (QbF Y pts.length _ _).2.2.2.drew |exact vF _ (QbG Y pts.length _ _).2.2.2.drew)) (fun hHeld=>?_);clear I K;try simp only[pS]
    refine δ ?_;go_wp2_with fail;go_meet
    first
     |exact⟨Y.heap.size,Y.heap.size+1,rfl,η (QbF Y pts.length _ _).1.drew,η (QbF Y pts.length _ _).2.1.drew,Nat.le_refl _,Nat.le_succ _,by omega,Nat.lt_trans (Nat.lt_succ_self _) (QbF Y pts.length _ _).2.2.1,(QbF Y pts.length _ _).2.2.1,(QbF Y pts.length _ _).2.2.2.drew⟩
     |exact⟨Y.heap.size+1,Y.heap.size,rfl,η (QbG Y pts.length _ _).1.drew,η (QbG Y pts.length _ _).2.1.drew,Nat.le_succ _,Nat.le_refl _,by omega,(QbG Y pts.length _ _).2.2.1,Nat.lt_trans (Nat.lt_succ_self _) (QbG Y pts.length _ _).2.2.1,(QbG Y pts.length _ _).2.2.2.drew⟩
  refine AllReadyH.cons (o:=⟨_,_,_,_,_,_⟩) rfl (fun K I=>?_) ?_
  ·go_simp;refine I.out _ _ (by (try dsimp only);exact⟨Qap hHeld.1 _,Qap hHeld.2.1 _,Qap hHeld.2.2.1 _,Qap hHeld.2.2.2.1 _,Qap hHeld.2.2.2.2 _⟩) (fun hHeld=>?_);clear I K;try simp only[pS]
   refine wpAnyH_ready (rs:=[9,16]) (by kernel_rfl) (by simp) ?_;refine AllReadyH.cons (o:=⟨_,_,_,_,_,_⟩) rfl (fun K I=>?_) ?_
   all_goals first
    |(go_simp
      refine I.out _ _ hHeld fun hHeld=>?_;clear I K;try simp only[pS]
      refine tk 15 ?_;simp only[pS]
      refine rd 16 fun K I=>?_
      go_simp;refine I.out _ _ (by (try dsimp only);exact⟨Qap hHeld.1 _,Qap hHeld.2.1 _,Qap hHeld.2.2.1 _,Qap hHeld.2.2.2.1 _,Qap hHeld.2.2.2.2 _⟩) (fun hHeld=>?_);clear I K)
    |(refine AllReadyH.cons (o:=⟨_,_,_,_,_,_⟩) rfl (fun K I=>?_) AllReadyH.nil
      go_simp;refine I.out _ _ (by (try dsimp only);exact⟨Qap hHeld.1 _,Qap hHeld.2.1 _,Qap hHeld.2.2.1 _,Qap hHeld.2.2.2.1 _,Qap hHeld.2.2.2.2 _⟩) (fun hHeld=>?_);clear I K;try simp only[pS]
      refine rd 9 fun K I=>?_
      go_simp;refine I.out _ _ hHeld fun hHeld=>?_;clear I K;try simp only[pS]
      refine wpAnyH_take (i:=15) (oi:=⟨_,_,_,_,_,_⟩) (v:=?_) rfl (by kernel_rfl) (by kernel_rfl) (by kernel_rfl) (fun _ _ _ h=>h) (Or.inl ⟨by rfl,?_⟩) (by assumption) ?_;rotate_left
      ·intro w a8;(try dsimp only at a8);go_simp;try with_reducible rfl)
   all_goals
    try simp only[pS]
    refine rd 17 fun K I=>?_
    go_simp;refine I.out _ _ (by (try dsimp only);(first |exact vF _ (QbF Y pts.length _ _).2.2.2.drew |exact vF _ (QbG Y pts.length _ _).2.2.2.drew)) (fun hHeld=>?_);clear I K;try simp only[pS]
    refine δ ?_;go_wp2_with fail;go_meet
    first
     |exact⟨Y.heap.size,Y.heap.size+1,rfl,η (QbF Y pts.length _ _).1.drew,η (QbF Y pts.length _ _).2.1.drew,Nat.le_refl _,Nat.le_succ _,by omega,Nat.lt_trans (Nat.lt_succ_self _) (QbF Y pts.length _ _).2.2.1,(QbF Y pts.length _ _).2.2.1,(QbF Y pts.length _ _).2.2.2.drew⟩
     |exact⟨Y.heap.size+1,Y.heap.size,rfl,η (QbG Y pts.length _ _).1.drew,η (QbG Y pts.length _ _).2.1.drew,Nat.le_succ _,Nat.le_refl _,by omega,(QbG Y pts.length _ _).2.2.1,Nat.lt_trans (Nat.lt_succ_self _) (QbG Y pts.length _ _).2.2.1,(QbG Y pts.length _ _).2.2.2.drew⟩
  refine AllReadyH.cons (o:=⟨_,_,_,_,_,_⟩) rfl (fun K I=>?_) AllReadyH.nil;go_simp;refine I.out _ _ (by (try dsimp only);exact⟨Qap hHeld.1 _,Qap hHeld.2.1 _,Qap hHeld.2.2.1 _,Qap hHeld.2.2.2.1 _,Qap hHeld.2.2.2.2 _⟩) (fun hHeld=>?_);clear I K;try simp only[pS]
  refine wpAnyH_ready (rs:=[9,14]) (by kernel_rfl) (by simp) ?_;refine AllReadyH.cons (o:=⟨_,_,_,_,_,_⟩) rfl (fun K I=>?_) ?_
  all_goals first
   |(go_simp
     refine I.out _ _ hHeld fun hHeld=>?_;clear I K;try simp only[pS]
     refine rd 14 fun K I=>?_
     go_simp;refine I.out _ _ (by (try dsimp only);exact⟨Qap hHeld.1 _,Qap hHeld.2.1 _,Qap hHeld.2.2.1 _,Qap hHeld.2.2.2.1 _,Qap hHeld.2.2.2.2 _⟩) (fun hHeld=>?_))
   |(refine AllReadyH.cons (o:=⟨_,_,_,_,_,_⟩) rfl (fun K I=>?_) AllReadyH.nil
     go_simp;refine I.out _ _ (by (try dsimp only);exact⟨Qap hHeld.1 _,Qap hHeld.2.1 _,Qap hHeld.2.2.1 _,Qap hHeld.2.2.2.1 _,Qap hHeld.2.2.2.2 _⟩) (fun hHeld=>?_);clear I K;try simp only[pS]
     refine rd 9 fun K I=>?_
     go_simp;refine I.out _ _ (by (try dsimp only);exact hHeld) (fun hHeld=>?_))
  all_goals
   clear I K;try simp only[pS]
   refine tk 15 ?_;simp only[pS]
   refine rd 17 fun K I=>?_
   go_simp;refine I.out _ _ (by (try dsimp only);(first |exact vF _ (QbF Y pts.length _ _).2.2.2.drew |exact vF _ (QbG Y pts.length _ _).2.2.2.drew)) (fun hHeld=>?_);clear I K;try simp only[pS]
   refine δ ?_;go_wp2_with fail;go_meet
   first
    |exact⟨Y.heap.size,Y.heap.size+1,rfl,η (QbF Y pts.length _ _).1.drew,η (QbF Y pts.length _ _).2.1.drew,Nat.le_refl _,Nat.le_succ _,by omega,Nat.lt_trans (Nat.lt_succ_self _) (QbF Y pts.length _ _).2.2.1,(QbF Y pts.length _ _).2.2.1,(QbF Y pts.length _ _).2.2.2.drew⟩
    |exact⟨Y.heap.size+1,Y.heap.size,rfl,η (QbG Y pts.length _ _).1.drew,η (QbG Y pts.length _ _).2.1.drew,Nat.le_succ _,Nat.le_refl _,by omega,(QbG Y pts.length _ _).2.2.1,Nat.lt_trans (Nat.lt_succ_self _) (QbG Y pts.length _ _).2.2.1,(QbG Y pts.length _ _).2.2.2.drew⟩
 case rest =>
  obtain⟨J,X,rfl,an,ai,cg,cS,aC,aN,ao,bt⟩:=hcut;obtain⟨w2,rfl⟩:=ε (wc:World);have bk:Hid (IB w2 J (upd pts.length 0 f)):=by rw[QaP];exact ai
  clear bI ai;go_wp2_with fail;go_loopw [38,8,9] (fun iS _ _ wr=>∃k:Nat,k≤pts.length∧iS=.int .i64 k∧Hid (IB wr J (upd pts.length k f))∧Hid (Bxs wr X [.int .i64 F.p,.int .i64 F.m,.slice B F.mod.length b,.int .i64 (kK:Int),.slice A2 pts.length c2,.slice (some ⟨J,0,none⟩) pts.length pts.length])∧Below Y.heap.size Y wr∧X<wr.heap.size) (fun iS _ _ _=>pts.length - (intOf iS).toNat)
  case atStart=>exact⟨0,by omega,rfl,bk,an,bt,ao⟩
  case round =>
   clear bk an bt aN ao;obtain⟨w3,rfl⟩:=ε (wr:World);obtain⟨k,hk,rfl,ai,an,U,ao⟩:=hrel;have aN:=ai.out.lt;by_cases ba:k<pts.length
   ·have k0:(0:Int)≤(k:Int):=by omega
    have k1:(k:Int)<(pts.length:Int):=by omega
    obtain⟨bv,ov,ev,ch,aU⟩:=bM.at_ (k:=k) (by rw[bQ.out];exact ba)
    injection ev with ev
    injection ev with ev1 ev2
    subst ev1 ev2;rw[Nat.zero_add]at aU;have bl:=(U.cell (p:=⟨gv,k,none⟩) ch).trans aU;have bT:=bL.bm U;have O:=QgL F ((QfW F.z poly pts)[k]?.getD 0) g w3.drew bT.drew;rw[bR.out k ba]at O;obtain⟨x,hx⟩:=ε ((QfW F.z poly pts)[k]?.getD 0);obtain⟨y,hy⟩:=ε (f k);rw[←hx]at bl O;rw[←hy]at O;replace hx:=η hx;replace hy:=η hy;replace O:=η O;have aP:Hid (w3.cell? ⟨X,5,none⟩=some (.slice (some ⟨J,0,none⟩) pts.length pts.length)∧w3.cell? ⟨pb,3,none⟩=some (.pointer (some ⟨g,0,none⟩))):=⟨an.out.c6.2.2.2.2.2,(U.cell (p:=⟨pb,3,none⟩) bi).trans bK.out.c7.2.2.2.1⟩;have bU:pb<w3.heap.size:=θ bi U.size;have bV:J≠pb:=by omega
    clear aU;go_wp2_with fail;clear bl;refine wp_region_held_drew (S:=fun w'=>w'.cell? ⟨X,5,none⟩=some (.slice (some ⟨J,0,none⟩) pts.length pts.length)∧w'.cell? ⟨pb,3,none⟩=some (.pointer (some ⟨g,0,none⟩))) (by kernel_rfl) (by (try dsimp only);exact aP.out) (fun hHeld=>?_);refine tk 0 ?_;simp only[pS]
    refine tk 1 ?_;simp only[pS]
    refine tk 2 ?_;simp only[pS]
    refine tk 3 ?_;simp only[pS]
    refine tk 4 ?_;simp only[pS]
    refine tk 5 ?_;simp only[pS]
    refine rd 6 fun K I=>?_
    go_simp;go_at_call 130;(with_reducible refine (O).out.mono ?_);rintro e w4 ⟨⟨t,rfl⟩,aV⟩;have am:Below w3.heap.size w3 w4:=(Below.refl _ w3).drew.trans aV;have aQ:Hid (w4.cell? ⟨X,5,none⟩=some (.slice (some ⟨J,0,none⟩) pts.length pts.length)∧w4.cell? ⟨pb,3,none⟩=some (.pointer (some ⟨g,0,none⟩))):=⟨(am.cell (p:=⟨X,5,none⟩) ao).trans aP.out.1,(am.cell (p:=⟨pb,3,none⟩) bU).trans aP.out.2⟩;have aA:=ai.out.below am aN;have cK:=aA.cell (i:=k) (by rw[Qaz];exact ba);have cL:=aA.frozen k;have aB:=aA.set_ k y;rw[hy.out,QaY,←hy.out]at aB;replace aB:=η aB;have bW:=η ((an.out.keep am ao).far aC k (.int .i64 y));have bX:=η ((ζ U am).setCell (p:=⟨J,k,none⟩) cg (.int .i64 y));have bY:Hid (X<(w4.setCell ⟨J,k,none⟩ (.int .i64 y)).heap.size):=(by unfold Hid;simp only[World.setCell,Array.size_modify];exact θ ao am.size);obtain⟨W9,bu⟩:=ε (w4.setCell ⟨J,k,none⟩ (.int .i64 y));have bm:Hid (W9.cell? ⟨X,5,none⟩=some (.slice (some ⟨J,0,none⟩) pts.length pts.length)∧W9.cell? ⟨pb,3,none⟩=some (.pointer (some ⟨g,0,none⟩))):=(by rw[bu];exact⟨(World.cell?_setCell_far _ _ _ _ aC).trans aQ.out.1,(World.cell?_setCell_far _ _ _ _ bV).trans aQ.out.2⟩);rw[bu]at bm;clear aA;go_wp2_with fail;refine I.out _ _ aQ.out fun hHeld=>?_;clear I K;try simp only[pS]
    refine tk 7 ?_;simp only[pS]
    refine tk 8 ?_;simp only[pS]
    refine tk 9 ?_;simp only[pS]
    refine tk 10 ?_;simp only[pS]
    refine rd 11 fun K I=>?_
    go_simp;refine I.out _ _ bm.out fun hHeld=>?_;clear I K;try simp only[pS]
    refine δ ?_;go_wp2_with fail;go_roundw
    case rel=>exact⟨k+1,by omega,by go_num,aB,bW,bX.out,bY.out⟩
    case measure=>simp[intOf];omega
   ·obtain rfl:pts.length=k:=by omega
    rw[QaR,bS.out]at ai;have cM:=ζ af U;have O:=QrR F.z (kK:Int) pts (Qh5 F poly pts) B A2 (some ⟨J,0,none⟩) b c2 pts.length w3 (bN.bm U) bJ.out (bO.bm U) ai.out.rd bE bF (by rw[Qcn];unfold maxLen;omega);unfold QkC at O;rw[Qcn,Qh0 bh.out bG,bH]at O;replace O:=η O;obtain⟨d0,d1,d2,d3,d4,d5⟩:=an.out.c6;go_wp2_with fail;(with_reducible refine O.out.mono ?_);rintro e w4 ⟨aV,⟨cu,-⟩ |⟨-,F2,cv,A3,c3,A4,c4,A5,c5,rfl,bB,bC,aZ,cw,cx,cy,cz,cA⟩⟩
    ·exact absurd rfl cu
    clear O d0 d1 d2 d3 d4 d5;have bo:=ζ U aV;have bZ:=ζ af bo;have aR:=bP.out.keep bo bj;obtain⟨u0,u1,u2,u3,u4,u5⟩:=aR.c6;obtain⟨v0,v1,v2,v3,v4,v5⟩:=aR.f6;have cN:s+1<w3.heap.size:=θ bj U.size;rw[QrU cv]at aZ;obtain⟨V,hV⟩:=ε ([.int .i64 F.p,.int .i64 F.m,.slice A3 F.mod.length c3,.int .i64 ((pts.length - kK:Nat):Int),.slice A4 pts.length c4,.slice A5 pts.length c5]:List Value);have bp:Rd (Qbh w4 (s+1) 0 V) (Qbh w4 (s+1) 0 V).heap.size A3 (Qan F.z):=by rw[Qbv];exact bB.farS (fun a ha=>by have:=cy a ha;omega) _ 0
    have bq:Rd (Qbh w4 (s+1) 0 V) (Qbh w4 (s+1) 0 V).heap.size A4 pts:=by rw[Qbv];exact bC.farS (fun a ha=>by have:=cz a ha;omega) _ 0
    have br:Rd (Qbh w4 (s+1) 0 V) (Qbh w4 (s+1) 0 V).heap.size A5 (Qck F pts (Qh5 F poly pts)):=by rw[Qbv];exact aZ.farS (fun a ha=>by have:=cA a ha;omega) _ 0
    have bs:=η (And.intro bp (And.intro bq (And.intro br (And.intro cw (And.intro cx (stAll_below (b:=s+1) (by omega) V 0 _ bZ))))));rw[hV]at bs;clear bB bC aZ bp bq br aR hV;go_wp2_with fail;exact bodyPost_ret (v:=.tuple #[.agg #[.int .i64 F.p,.int .i64 F.m,.slice A3 F.mod.length c3,.int .i64 ((pts.length - kK:Nat):Int),.slice A4 pts.length c4,.slice A5 pts.length c5],.int .i64 0]) (by simp[results,Tryz.results66,go_sem,u0,u1,u2,u3,u4,u5]) rfl ⟨F,A3,A4,A5,c3,c4,c5,rfl,rfl,bs.out⟩
end Go.Proofs

/- Layer 19 of the reference: Alternant. -/
import Derived.Test.YtogfekjbpcfgmaaGreatZtkBgoP
set_option maxRecDepth 100000
set_option maxHeartbeats 16000000
set_option linter.unusedVariables false
namespace Go.Proofs
open Go.RowKit Cw
open Cw.CField (inv)
attribute [local go_sem high] Go.Lib.run_min_ints
theorem Qb0 {F:FD} {poly pts:List Int} {B U:Option Addr} {s b c1 c2 I O k:Nat} {x:Int} {W W':World} {H:Nat} (J:Below H W W')(T:s<H)(V:I<H)(h:(W.cell? ⟨s,3,none⟩=some (.int .i64 F.p)∧W.cell? ⟨s,4,none⟩=some (.int .i64 F.m)∧W.cell? ⟨s,5,none⟩=some (.slice B F.mod.length b))∧W.cell? ⟨s,6,none⟩=some (.slice U poly.length c1)∧W.cell? ⟨s,7,none⟩=some (.slice (some ⟨I,O,none⟩) pts.length c2)∧W.cell? ⟨I,O+k,none⟩=some (.int .i64 x)):(W'.cell? ⟨s,3,none⟩=some (.int .i64 F.p)∧W'.cell? ⟨s,4,none⟩=some (.int .i64 F.m)∧W'.cell? ⟨s,5,none⟩=some (.slice B F.mod.length b))∧W'.cell? ⟨s,6,none⟩=some (.slice U poly.length c1)∧W'.cell? ⟨s,7,none⟩=some (.slice (some ⟨I,O,none⟩) pts.length c2)∧W'.cell? ⟨I,O+k,none⟩=some (.int .i64 x) :=
 ⟨⟨(J.cell (p:=⟨s,3,none⟩) T).trans h.1.1,(J.cell (p:=⟨s,4,none⟩) T).trans h.1.2.1,(J.cell (p:=⟨s,5,none⟩) T).trans h.1.2.2⟩,(J.cell (p:=⟨s,6,none⟩) T).trans h.2.1,(J.cell (p:=⟨s,7,none⟩) T).trans h.2.2.1,(J.cell (p:=⟨I,O+k,none⟩) V).trans h.2.2.2⟩
theorem Qh2 (W:World)(y:Int):Rd (W.alloc (.cells #[.int .i64 y] 3)) (W.heap.size+1) (some ⟨W.heap.size,0,none⟩) [y]:=fun _=>⟨W.heap.size,0,rfl,Nat.lt_succ_self _,fun j I=>by
 have h0:j=0:=by simp at I;omega
 subst h0;simp[go_sem]⟩
def Ql2 (F:FD)(B I:Option Addr)(b c2:Nat)(poly pts:List Int)(w:World)(e:Ending)(w':World):Prop :=
 ∃g,e=.returned (.agg #[.int .i64 F.p,.int .i64 F.m,.slice B F.mod.length b,.int .i64 ((pts.length - min (poly.length - 1) pts.length:Nat):Int),.slice I pts.length c2,.slice (some ⟨g,0,none⟩) pts.length pts.length]) ∧
  Rd w' w'.heap.size (some ⟨g,0,none⟩) (Qck F pts (Qh5 F poly pts))∧Below w.heap.size w w'
theorem QqH (F:FD)(P M:Int)(ml:Nat)(poly pts:List Int)(A B A1 A2:Option Addr)(c b c1 c2:Nat)(w:World)(bj:Rd w w.heap.size B (Qan F.z))(bk:Rd w w.heap.size A1 poly)(bl:Rd w w.heap.size A2 pts)(cf:1≤poly.length)(cg:poly.length≤1000)(ch:1≤pts.length)(bP:pts.length≤64) :
  Calls Tryz.prog 80 #[.agg #[.int .i64 P,.int .i64 M,.slice A ml c,.int .i64 F.p,.int .i64 F.m,.slice B F.mod.length b,.slice A1 poly.length c1,.slice A2 pts.length c2]] w (Ql2 F B A2 b c2 poly pts w):=by
 obtain⟨T,hT⟩:=ε (poly.length - 1);obtain⟨kK,a3⟩:=ε (min T pts.length);have cj:kK≤pts.length:=by omega
 have cm:IntKind.i64.wrap ((poly.length:Int) - 1)=(T:Int):=by rw[IntWalk.i64_in _ (by omega)];omega
 have cn:min (T:Int) (pts.length:Int)=(kK:Int):=by omega
 have bQ:(pts.length:Int) - (kK:Int)=((pts.length - kK:Nat):Int):=by omega
 have bR:poly.length≤maxLen:=by unfold maxLen;omega
 obtain⟨s,hs⟩:=ε (w.heap.size);obtain⟨Z,hZ⟩:=ε (((w.alloc (.cells #[.int .i64 P,.int .i64 M,.slice A ml c,.int .i64 F.p,.int .i64 F.m,.slice B F.mod.length b,.slice A1 poly.length c1,.slice A2 pts.length c2] 44)).alloc (.cells #[.int .i64 0,.int .i64 0,.slice none 0 0,.int .i64 0,.slice none 0 0,.slice none 0 0] 94)).alloc (.cells #[.int .i64 F.p,.int .i64 F.m,.slice B F.mod.length b,.int .i64 (kK:Int),.slice A2 pts.length c2,.slice none 0 0] 94));have hB:Below w.heap.size w Z:=by rw[hZ];exact ((β).alloc (by simp) _).alloc (by simp;omega) _
 have bm:Z.heap.size=s+1+1+1:=by rw[hZ,hs];simp
 have bS:Hid (Bxs Z s [.int .i64 P,.int .i64 M,.slice A ml c,.int .i64 F.p,.int .i64 F.m,.slice B F.mod.length b,.slice A1 poly.length c1,.slice A2 pts.length c2]):=by rw[hZ,hs];exact ((Bxs.new w _ _).keep (β) (by simp)).keep (β) (by simp;omega)
 have bT:Hid (Bxs Z (s+1) [.int .i64 0,.int .i64 0,.slice none 0 0,.int .i64 0,.slice none 0 0,.slice none 0 0]):=by
  rw[hZ,hs];have h9:=Bxs.new (w.alloc (.cells #[.int .i64 P,.int .i64 M,.slice A ml c,.int .i64 F.p,.int .i64 F.m,.slice B F.mod.length b,.slice A1 poly.length c1,.slice A2 pts.length c2] 44)) [.int .i64 0,.int .i64 0,.slice none 0 0,.int .i64 0,.slice none 0 0,.slice none 0 0] 94;rw[World.size_alloc]at h9;exact h9.keep (β) (by simp)
 have av:Hid (Bxs Z (s+1+1) [.int .i64 F.p,.int .i64 F.m,.slice B F.mod.length b,.int .i64 (kK:Int),.slice A2 pts.length c2,.slice none 0 0]):=by
  rw[hZ,hs];have h9:=Bxs.new ((w.alloc (.cells #[.int .i64 P,.int .i64 M,.slice A ml c,.int .i64 F.p,.int .i64 F.m,.slice B F.mod.length b,.slice A1 poly.length c1,.slice A2 pts.length c2] 44)).alloc (.cells #[.int .i64 0,.int .i64 0,.slice none 0 0,.int .i64 0,.slice none 0 0,.slice none 0 0] 94)) [.int .i64 F.p,.int .i64 F.m,.slice B F.mod.length b,.int .i64 (kK:Int),.slice A2 pts.length c2,.slice none 0 0] 94;rw[World.size_alloc,World.size_alloc]at h9;exact h9
 obtain⟨f,hf⟩:=ε (fun i=>ci (inv (QaW F.z poly (eli F.z (pts[i]?.getD 0)))):Nat→Int)
 have bU:Hid (lst pts.length f=Qh5 F poly pts):=by rw[hf];exact η rfl
 have bV:=fun x W a d=>QdN F.z poly x B A1 b c1 W a d bR
 have bW:=fun y W a=>Qe7 F y B b W a
 have co:w.heap.size≤s:=by omega
 obtain⟨L,hL⟩:=ε (s+1+1+1);have bo:Hid (Own Z L (.slice none 0 0) (lst 0 f)):=Own.nil Z L;have bX:L≤Z.heap.size:=by omega
 have aX:=bj.below hB;have bq:=bk.below hB;have a1:=bl.below hB;rw[←hs]at aX bq a1;unfold Ql2;rw[←hT,←a3];replace hT:=η hT;replace a3:=η a3;replace hZ:=η hZ;replace bm:=η bm;clear bj bk bl;go_enter Tryz.func80,Tryz.ntmps80;go_wp2_with fail;rw[←hZ.out];simp only[←hs];have bY:w.heap.size≤s:=Nat.le_of_eq hs.symm;replace hs:=η hs;go_loopw [4] (fun iS wr=>∃ (k:Nat) (v:Value),k≤pts.length∧iS=.int .i64 k∧Hid (Own wr L v (lst k f))∧Hid (Bxs wr (s+1+1) [.int .i64 F.p,.int .i64 F.m,.slice B F.mod.length b,.int .i64 (kK:Int),.slice A2 pts.length c2,v])∧Below (s+1+1) Z wr) (fun iS _=>pts.length - (intOf iS).toNat)
 case atStart=>exact⟨0,_,by omega,rfl,bo,av,κ⟩
 case round =>
  clear bo av;obtain⟨w3,rfl⟩:=ε (wr:World);obtain⟨k,v,hk,rfl,aH,av,am⟩:=hrel;have aG:L≤w3.heap.size:=τ bX am.size;have aE:=η (bS.out.keep am (show s<s+1+1 by omega));by_cases ce:k<pts.length
  ·have k0:(0:Int)≤(k:Int):=by omega
   have k1:(k:Int)<(pts.length:Int):=by omega
   obtain⟨O,U,rfl,cs,bz⟩:=a1.at_ ce;have a4:=(am.cell (p:=⟨O,U+k,none⟩) (show O<s+1+1 by omega)).trans bz;obtain⟨x,hx⟩:=ε (pts[k]?.getD 0);rw[←hx]at a4;obtain⟨y,hy⟩:=ε (ci (QaW F.z poly (eli F.z x)));obtain⟨z,hz⟩:=ε (f k);have br:ci (inv (eli F.z y))=z:=by rw[hz,hf,hy,Qam,hx]
   have aJ:=bV x w3.drew ((aX.below (am.mono (by omega))).more (show s≤w3.drew.heap.size by show s≤w3.heap.size;omega)).drew ((bq.below (am.mono (by omega))).more (show s≤w3.drew.heap.size by show s≤w3.heap.size;omega)).drew;rw[←hy]at aJ;have a5:=bW y;rw[br]at a5;obtain⟨Av,cv,e9,-,-,-⟩:=aH.out.form;rw[Qab]at e9;subst e9;have a6:Hid (lst (k+1) f=lst k f ++ [z]):=by rw[hz];exact Qdo _ _
   have ag:Hid ((w3.cell? ⟨s,3,none⟩=some (.int .i64 F.p)∧w3.cell? ⟨s,4,none⟩=some (.int .i64 F.m)∧w3.cell? ⟨s,5,none⟩=some (.slice B F.mod.length b))∧w3.cell? ⟨s,6,none⟩=some (.slice A1 poly.length c1)∧w3.cell? ⟨s,7,none⟩=some (.slice (some ⟨O,U,none⟩) pts.length c2)∧w3.cell? ⟨O,U+k,none⟩=some (.int .i64 x)):=⟨⟨aE.out.c8.2.2.2.1,aE.out.c8.2.2.2.2.1,aE.out.c8.2.2.2.2.2.1⟩,aE.out.c8.2.2.2.2.2.2.1,aE.out.c8.2.2.2.2.2.2.2,a4⟩;have a7:(lst k f).length+[z].length≤1000000000:=by rw[Qab];simp;omega
   have ax:=av.out.c6.2.2.2.2.2;have bs:=fun W (h:Below w3.heap.size w3 W)=>η (a5 W ((aX.below ((am.mono (by omega)).trans (h.mono (show s≤w3.heap.size by omega)))).more (show s≤W.heap.size by have:=h.size;omega)))
   have ay:s<w3.heap.size:=by omega
   have az:s+1+1<w3.heap.size:=by omega
   have aA:O<w3.heap.size:=by omega
   replace aJ:=η aJ;replace hx:=η hx;replace hy:=η hy;replace hz:=η hz;clear bz a4 br a5;obtain⟨e0,e1,e2,e3,e4,e5,e6,e7⟩:=aE.out.c8;go_wp2_with fail;clear e0 e1 e2 e3 e4 e5 e6 e7;refine wp_region_held_drew (S:=fun w'=>(w'.cell? ⟨s,3,none⟩=some (.int .i64 F.p)∧w'.cell? ⟨s,4,none⟩=some (.int .i64 F.m)∧w'.cell? ⟨s,5,none⟩=some (.slice B F.mod.length b))∧w'.cell? ⟨s,6,none⟩=some (.slice A1 poly.length c1)∧w'.cell? ⟨s,7,none⟩=some (.slice (some ⟨O,U,none⟩) pts.length c2)∧w'.cell? ⟨O,U+k,none⟩=some (.int .i64 x)) (by kernel_rfl) (by (try dsimp only);exact ag.out) (fun hHeld=>?_);refine tk 0 ?_;simp only[pS]
   refine tk 2 ?_;simp only[pS]
   refine tk 3 ?_;simp only[pS]
   refine tk 4 ?_;simp only[pS]
   refine tk 5 ?_;simp only[pS]
   refine tk 6 ?_;simp only[pS]
   refine tk 7 ?_;simp only[pS]
   refine tk 8 ?_;simp only[pS]
   refine tk 9 ?_;simp only[pS]
   refine tk 10 ?_;simp only[pS]
   refine tk 11 ?_;simp only[pS]
   refine tk 12 ?_;simp only[pS]
   refine wpAnyH_ready (rs:=[1,13]) (by kernel_rfl) (by simp) ?_;refine AllReadyH.cons (o:=⟨_,_,_,_,_,_⟩) rfl (fun K I=>?_) ?_
   ·go_simp;refine I.out _ _ (by (try dsimp only);first |exact ar.out |exact aq.out |exact aF.out |exact ag.out) (fun hHeld=>?_);clear I K;try simp only[pS]
    refine rd 13 fun K I=>?_
    go_simp;go_at_call 72;(with_reducible refine (aJ).out.mono ?_);rintro e w4 ⟨rfl,aT⟩;have al:Below w3.heap.size w3 w4:=(Below.refl _ w3).drew.trans aT;have aF:Hid ((w4.cell? ⟨s,3,none⟩=some (.int .i64 F.p)∧w4.cell? ⟨s,4,none⟩=some (.int .i64 F.m)∧w4.cell? ⟨s,5,none⟩=some (.slice B F.mod.length b))∧w4.cell? ⟨s,6,none⟩=some (.slice A1 poly.length c1)∧w4.cell? ⟨s,7,none⟩=some (.slice (some ⟨O,U,none⟩) pts.length c2)∧w4.cell? ⟨O,U+k,none⟩=some (.int .i64 x)):=Qb0 al ay aA ag.out;have bZ:=(al.cell (p:=⟨s+1+1,5,none⟩) az).trans ax;have a0:=bs w4 al;go_wp2_with fail;refine I.out _ _ aF.out fun hHeld=>?_;clear I K;try simp only[pS]
    refine rd 14 fun K I=>?_
    go_simp;go_at_call 142;(with_reducible refine (a0).out.mono ?_);rintro e J ⟨rfl,aU⟩;have ai:=ζ al aU;have aq:Hid ((J.cell? ⟨s,3,none⟩=some (.int .i64 F.p)∧J.cell? ⟨s,4,none⟩=some (.int .i64 F.m)∧J.cell? ⟨s,5,none⟩=some (.slice B F.mod.length b))∧J.cell? ⟨s,6,none⟩=some (.slice A1 poly.length c1)∧J.cell? ⟨s,7,none⟩=some (.slice (some ⟨O,U,none⟩) pts.length c2)∧J.cell? ⟨O,U+k,none⟩=some (.int .i64 x)):=Qb0 ai ay aA ag.out;have bt:=(ai.cell (p:=⟨s+1+1,5,none⟩) az).trans ax;obtain⟨Y,hY⟩:=ε (J.alloc (.cells #[.int .i64 z] 3));have aK:Below J.heap.size J Y:=(by rw[hY];exact β);have ae:=ζ ai aK;have ar:Hid ((Y.cell? ⟨s,3,none⟩=some (.int .i64 F.p)∧Y.cell? ⟨s,4,none⟩=some (.int .i64 F.m)∧Y.cell? ⟨s,5,none⟩=some (.slice B F.mod.length b))∧Y.cell? ⟨s,6,none⟩=some (.slice A1 poly.length c1)∧Y.cell? ⟨s,7,none⟩=some (.slice (some ⟨O,U,none⟩) pts.length c2)∧Y.cell? ⟨O,U+k,none⟩=some (.int .i64 x)):=Qb0 ae ay aA ag.out;have bu:=(ae.cell (p:=⟨s+1+1,5,none⟩) az).trans ax;have aL:=aH.out.below ae ρ;have aM:Hid (Rd Y (J.heap.size+1) (some ⟨J.heap.size,0,none⟩) [z]):=(by rw[hY];exact Qh2 J z);have aN:L≤Y.heap.size:=τ aG ae.size;have au:=ar;rw[hY]at au;go_wp2_with fail;refine I.out _ _ aq.out fun hHeld=>?_;clear I K;try simp only[pS]
    refine rd 15 fun K I=>?_
    go_simp;refine I.out _ _ au.out fun hHeld=>?_;clear I K;try simp only[pS]
    rw[←hY];replace hY:=η hY;refine rd 16 fun K I=>?_
    refine QaL (n2:=1) rfl (.tmp 26) (.tmp 40) rfl L _ (lst k f) (J.heap.size+1) (some ⟨J.heap.size,0,none⟩) 1 [z] aL aM.out (by rfl) (by rfl) (by rfl) a7 aN ?_;intro V1 V ao aV bN bO;obtain⟨D1,cD,eD,-,-,-⟩:=ao.form;rw[List.length_append,List.length_singleton,Qab]at eD;subst eD;have an:Below L w3 V:=(ae.mono aG).trans aV;have aB:Hid ((V.cell? ⟨s,3,none⟩=some (.int .i64 F.p)∧V.cell? ⟨s,4,none⟩=some (.int .i64 F.m)∧V.cell? ⟨s,5,none⟩=some (.slice B F.mod.length b))∧V.cell? ⟨s,6,none⟩=some (.slice A1 poly.length c1)∧V.cell? ⟨s,7,none⟩=some (.slice (some ⟨O,U,none⟩) pts.length c2)∧V.cell? ⟨O,U+k,none⟩=some (.int .i64 x)):=Qb0 an (show s<L by omega) (show O<L by omega) ag.out;have aj:=av.out.keep an (show s+1+1<L by omega);obtain⟨m0,m1,m2,m3,m4,m5⟩:=aj.c6;obtain⟨f0,f1,f2,f3,f4,f5⟩:=aj.f6;have aO:=η (aj.set_ (j:=5) (by simp) (.slice D1 (k+1) cD));have aP:=η (ao.far (p:=⟨s+1+1,5,none⟩) (fun e=>by have:=(ao.lt _ e).1;simp at this;omega) (.slice D1 (k+1) cD));have aQ:Hid (Below (s+1+1) Z (V.setCell ⟨s+1+1,5,none⟩ (.slice D1 (k+1) cD))):=(am.trans (an.mono (show s+1+1≤L by omega))).setCell (p:=⟨s+1+1,5,none⟩) ρ (.slice D1 (k+1) cD);obtain⟨X,ak⟩:=ε (V.setCell ⟨s+1+1,5,none⟩ (.slice D1 (k+1) cD));have aC:Hid ((X.cell? ⟨s,3,none⟩=some (.int .i64 F.p)∧X.cell? ⟨s,4,none⟩=some (.int .i64 F.m)∧X.cell? ⟨s,5,none⟩=some (.slice B F.mod.length b))∧X.cell? ⟨s,6,none⟩=some (.slice A1 poly.length c1)∧X.cell? ⟨s,7,none⟩=some (.slice (some ⟨O,U,none⟩) pts.length c2)∧X.cell? ⟨O,U+k,none⟩=some (.int .i64 x)):=(by rw[ak];exact Qb0 ((Below.refl (s+1+1) V).setCell (p:=⟨s+1+1,5,none⟩) ρ (.slice D1 (k+1) cD)) (show s<s+1+1 by omega) (show O<s+1+1 by omega) aB.out);rw[ak]at aC;replace ak:=η ak;clear aj;refine I.out _ _ aB.out fun hHeld=>?_;clear I K;try simp only[pS]
    refine tk 17 ?_;simp only[pS]
    refine rd 18 fun K I=>?_
    go_simp;refine I.out _ _ aC.out fun hHeld=>?_;clear I K;try simp only[pS]
    refine δ ?_;go_wp2_with fail;go_roundw
    case rel=>exact⟨k+1,.slice D1 (k+1) cD,by omega,by go_num,by rw[a6.out];exact aP,aO,aQ.out⟩
    case measure=>simp[intOf];omega
   refine AllReadyH.cons (o:=⟨_,_,_,_,_,_⟩) rfl (fun K I=>?_) AllReadyH.nil;go_simp;go_at_call 72;(with_reducible refine (aJ).out.mono ?_);rintro e w4 ⟨rfl,aT⟩;have al:Below w3.heap.size w3 w4:=(Below.refl _ w3).drew.trans aT;have aF:Hid ((w4.cell? ⟨s,3,none⟩=some (.int .i64 F.p)∧w4.cell? ⟨s,4,none⟩=some (.int .i64 F.m)∧w4.cell? ⟨s,5,none⟩=some (.slice B F.mod.length b))∧w4.cell? ⟨s,6,none⟩=some (.slice A1 poly.length c1)∧w4.cell? ⟨s,7,none⟩=some (.slice (some ⟨O,U,none⟩) pts.length c2)∧w4.cell? ⟨O,U+k,none⟩=some (.int .i64 x)):=Qb0 al ay aA ag.out;have bZ:=(al.cell (p:=⟨s+1+1,5,none⟩) az).trans ax;have a0:=bs w4 al;go_wp2_with fail;refine I.out _ _ aF.out fun hHeld=>?_;clear I K;try simp only[pS]
   refine wpAnyH_ready (rs:=[1,14]) (by kernel_rfl) (by simp) ?_;refine AllReadyH.cons (o:=⟨_,_,_,_,_,_⟩) rfl (fun K I=>?_) ?_
   ·go_simp;refine I.out _ _ (by (try dsimp only);first |exact ar.out |exact aq.out |exact aF.out |exact ag.out) (fun hHeld=>?_);clear I K;try simp only[pS]
    refine rd 14 fun K I=>?_
    go_simp;go_at_call 142;(with_reducible refine (a0).out.mono ?_);rintro e J ⟨rfl,aU⟩;have ai:=ζ al aU;have aq:Hid ((J.cell? ⟨s,3,none⟩=some (.int .i64 F.p)∧J.cell? ⟨s,4,none⟩=some (.int .i64 F.m)∧J.cell? ⟨s,5,none⟩=some (.slice B F.mod.length b))∧J.cell? ⟨s,6,none⟩=some (.slice A1 poly.length c1)∧J.cell? ⟨s,7,none⟩=some (.slice (some ⟨O,U,none⟩) pts.length c2)∧J.cell? ⟨O,U+k,none⟩=some (.int .i64 x)):=Qb0 ai ay aA ag.out;have bt:=(ai.cell (p:=⟨s+1+1,5,none⟩) az).trans ax;obtain⟨Y,hY⟩:=ε (J.alloc (.cells #[.int .i64 z] 3));have aK:Below J.heap.size J Y:=(by rw[hY];exact β);have ae:=ζ ai aK;have ar:Hid ((Y.cell? ⟨s,3,none⟩=some (.int .i64 F.p)∧Y.cell? ⟨s,4,none⟩=some (.int .i64 F.m)∧Y.cell? ⟨s,5,none⟩=some (.slice B F.mod.length b))∧Y.cell? ⟨s,6,none⟩=some (.slice A1 poly.length c1)∧Y.cell? ⟨s,7,none⟩=some (.slice (some ⟨O,U,none⟩) pts.length c2)∧Y.cell? ⟨O,U+k,none⟩=some (.int .i64 x)):=Qb0 ae ay aA ag.out;have bu:=(ae.cell (p:=⟨s+1+1,5,none⟩) az).trans ax;have aL:=aH.out.below ae ρ;have aM:Hid (Rd Y (J.heap.size+1) (some ⟨J.heap.size,0,none⟩) [z]):=(by rw[hY];exact Qh2 J z);have aN:L≤Y.heap.size:=τ aG ae.size;have au:=ar;rw[hY]at au;go_wp2_with fail;refine I.out _ _ aq.out fun hHeld=>?_;clear I K;try simp only[pS]
    refine rd 15 fun K I=>?_
    go_simp;refine I.out _ _ au.out fun hHeld=>?_;clear I K;try simp only[pS]
    rw[←hY];replace hY:=η hY;refine rd 16 fun K I=>?_
    refine QaL (n2:=1) rfl (.tmp 26) (.tmp 40) rfl L _ (lst k f) (J.heap.size+1) (some ⟨J.heap.size,0,none⟩) 1 [z] aL aM.out (by rfl) (by rfl) (by rfl) a7 aN ?_;intro V1 V ao aV bN bO;obtain⟨D1,cD,eD,-,-,-⟩:=ao.form;rw[List.length_append,List.length_singleton,Qab]at eD;subst eD;have an:Below L w3 V:=(ae.mono aG).trans aV;have aB:Hid ((V.cell? ⟨s,3,none⟩=some (.int .i64 F.p)∧V.cell? ⟨s,4,none⟩=some (.int .i64 F.m)∧V.cell? ⟨s,5,none⟩=some (.slice B F.mod.length b))∧V.cell? ⟨s,6,none⟩=some (.slice A1 poly.length c1)∧V.cell? ⟨s,7,none⟩=some (.slice (some ⟨O,U,none⟩) pts.length c2)∧V.cell? ⟨O,U+k,none⟩=some (.int .i64 x)):=Qb0 an (show s<L by omega) (show O<L by omega) ag.out;have aj:=av.out.keep an (show s+1+1<L by omega);obtain⟨m0,m1,m2,m3,m4,m5⟩:=aj.c6;obtain⟨f0,f1,f2,f3,f4,f5⟩:=aj.f6;have aO:=η (aj.set_ (j:=5) (by simp) (.slice D1 (k+1) cD));have aP:=η (ao.far (p:=⟨s+1+1,5,none⟩) (fun e=>by have:=(ao.lt _ e).1;simp at this;omega) (.slice D1 (k+1) cD));have aQ:Hid (Below (s+1+1) Z (V.setCell ⟨s+1+1,5,none⟩ (.slice D1 (k+1) cD))):=(am.trans (an.mono (show s+1+1≤L by omega))).setCell (p:=⟨s+1+1,5,none⟩) ρ (.slice D1 (k+1) cD);obtain⟨X,ak⟩:=ε (V.setCell ⟨s+1+1,5,none⟩ (.slice D1 (k+1) cD));have aC:Hid ((X.cell? ⟨s,3,none⟩=some (.int .i64 F.p)∧X.cell? ⟨s,4,none⟩=some (.int .i64 F.m)∧X.cell? ⟨s,5,none⟩=some (.slice B F.mod.length b))∧X.cell? ⟨s,6,none⟩=some (.slice A1 poly.length c1)∧X.cell? ⟨s,7,none⟩=some (.slice (some ⟨O,U,none⟩) pts.length c2)∧X.cell? ⟨O,U+k,none⟩=some (.int .i64 x)):=(by rw[ak];exact Qb0 ((Below.refl (s+1+1) V).setCell (p:=⟨s+1+1,5,none⟩) ρ (.slice D1 (k+1) cD)) (show s<s+1+1 by omega) (show O<s+1+1 by omega) aB.out);rw[ak]at aC;replace ak:=η ak;clear aj;refine I.out _ _ aB.out fun hHeld=>?_;clear I K;try simp only[pS]
    refine tk 17 ?_;simp only[pS]
    refine rd 18 fun K I=>?_
    go_simp;refine I.out _ _ aC.out fun hHeld=>?_;clear I K;try simp only[pS]
    refine δ ?_;go_wp2_with fail;go_roundw
    case rel=>exact⟨k+1,.slice D1 (k+1) cD,by omega,by go_num,by rw[a6.out];exact aP,aO,aQ.out⟩
    case measure=>simp[intOf];omega
   refine AllReadyH.cons (o:=⟨_,_,_,_,_,_⟩) rfl (fun K I=>?_) AllReadyH.nil;go_simp;go_at_call 142;(with_reducible refine (a0).out.mono ?_);rintro e J ⟨rfl,aU⟩;have ai:=ζ al aU;have aq:Hid ((J.cell? ⟨s,3,none⟩=some (.int .i64 F.p)∧J.cell? ⟨s,4,none⟩=some (.int .i64 F.m)∧J.cell? ⟨s,5,none⟩=some (.slice B F.mod.length b))∧J.cell? ⟨s,6,none⟩=some (.slice A1 poly.length c1)∧J.cell? ⟨s,7,none⟩=some (.slice (some ⟨O,U,none⟩) pts.length c2)∧J.cell? ⟨O,U+k,none⟩=some (.int .i64 x)):=Qb0 ai ay aA ag.out;have bt:=(ai.cell (p:=⟨s+1+1,5,none⟩) az).trans ax;obtain⟨Y,hY⟩:=ε (J.alloc (.cells #[.int .i64 z] 3));have aK:Below J.heap.size J Y:=(by rw[hY];exact β);have ae:=ζ ai aK;have ar:Hid ((Y.cell? ⟨s,3,none⟩=some (.int .i64 F.p)∧Y.cell? ⟨s,4,none⟩=some (.int .i64 F.m)∧Y.cell? ⟨s,5,none⟩=some (.slice B F.mod.length b))∧Y.cell? ⟨s,6,none⟩=some (.slice A1 poly.length c1)∧Y.cell? ⟨s,7,none⟩=some (.slice (some ⟨O,U,none⟩) pts.length c2)∧Y.cell? ⟨O,U+k,none⟩=some (.int .i64 x)):=Qb0 ae ay aA ag.out;have bu:=(ae.cell (p:=⟨s+1+1,5,none⟩) az).trans ax;have aL:=aH.out.below ae ρ;have aM:Hid (Rd Y (J.heap.size+1) (some ⟨J.heap.size,0,none⟩) [z]):=(by rw[hY];exact Qh2 J z);have aN:L≤Y.heap.size:=τ aG ae.size;have au:=ar;rw[hY]at au;go_wp2_with fail;refine I.out _ _ aq.out fun hHeld=>?_;clear I K;try simp only[pS]
   refine wpAnyH_ready (rs:=[1,15]) (by kernel_rfl) (by simp) ?_;refine AllReadyH.cons (o:=⟨_,_,_,_,_,_⟩) rfl (fun K I=>?_) ?_
   all_goals first
    |(go_simp
      refine I.out _ _ (by (try dsimp only);first |exact ar.out |exact aq.out |exact aF.out |exact ag.out) (fun hHeld=>?_);clear I K;try simp only[pS]
      refine rd 15 fun K I=>?_
      go_simp;refine I.out _ _ au.out fun hHeld=>?_;clear I K;try simp only[pS]
      rw[←hY];replace hY:=η hY)
    |(refine AllReadyH.cons (o:=⟨_,_,_,_,_,_⟩) rfl (fun K I=>?_) AllReadyH.nil
      go_simp;refine I.out _ _ au.out fun hHeld=>?_;clear I K;try simp only[pS]
      rw[←hY];replace hY:=η hY;refine rd 1 fun K I=>?_
      go_simp;refine I.out _ _ (by (try dsimp only);first |exact ar.out |exact aq.out |exact aF.out |exact ag.out) (fun hHeld=>?_);clear I K;try simp only[pS])
   all_goals
    refine rd 16 fun K I=>?_
    refine QaL (n2:=1) rfl (.tmp 26) (.tmp 40) rfl L _ (lst k f) (J.heap.size+1) (some ⟨J.heap.size,0,none⟩) 1 [z] aL aM.out (by rfl) (by rfl) (by rfl) a7 aN ?_;intro V1 V ao aV bN bO;obtain⟨D1,cD,eD,-,-,-⟩:=ao.form;rw[List.length_append,List.length_singleton,Qab]at eD;subst eD;have an:Below L w3 V:=(ae.mono aG).trans aV;have aB:Hid ((V.cell? ⟨s,3,none⟩=some (.int .i64 F.p)∧V.cell? ⟨s,4,none⟩=some (.int .i64 F.m)∧V.cell? ⟨s,5,none⟩=some (.slice B F.mod.length b))∧V.cell? ⟨s,6,none⟩=some (.slice A1 poly.length c1)∧V.cell? ⟨s,7,none⟩=some (.slice (some ⟨O,U,none⟩) pts.length c2)∧V.cell? ⟨O,U+k,none⟩=some (.int .i64 x)):=Qb0 an (show s<L by omega) (show O<L by omega) ag.out;have aj:=av.out.keep an (show s+1+1<L by omega);obtain⟨m0,m1,m2,m3,m4,m5⟩:=aj.c6;obtain⟨f0,f1,f2,f3,f4,f5⟩:=aj.f6;have aO:=η (aj.set_ (j:=5) (by simp) (.slice D1 (k+1) cD));have aP:=η (ao.far (p:=⟨s+1+1,5,none⟩) (fun e=>by have:=(ao.lt _ e).1;simp at this;omega) (.slice D1 (k+1) cD));have aQ:Hid (Below (s+1+1) Z (V.setCell ⟨s+1+1,5,none⟩ (.slice D1 (k+1) cD))):=(am.trans (an.mono (show s+1+1≤L by omega))).setCell (p:=⟨s+1+1,5,none⟩) ρ (.slice D1 (k+1) cD);obtain⟨X,ak⟩:=ε (V.setCell ⟨s+1+1,5,none⟩ (.slice D1 (k+1) cD));have aC:Hid ((X.cell? ⟨s,3,none⟩=some (.int .i64 F.p)∧X.cell? ⟨s,4,none⟩=some (.int .i64 F.m)∧X.cell? ⟨s,5,none⟩=some (.slice B F.mod.length b))∧X.cell? ⟨s,6,none⟩=some (.slice A1 poly.length c1)∧X.cell? ⟨s,7,none⟩=some (.slice (some ⟨O,U,none⟩) pts.length c2)∧X.cell? ⟨O,U+k,none⟩=some (.int .i64 x)):=(by rw[ak];exact Qb0 ((Below.refl (s+1+1) V).setCell (p:=⟨s+1+1,5,none⟩) ρ (.slice D1 (k+1) cD)) (show s<s+1+1 by omega) (show O<s+1+1 by omega) aB.out);rw[ak]at aC;replace ak:=η ak;clear aj;refine I.out _ _ aB.out fun hHeld=>?_;clear I K;try simp only[pS]
    refine tk 17 ?_;simp only[pS]
    refine rd 18 fun K I=>?_
    go_simp;refine I.out _ _ aC.out fun hHeld=>?_;clear I K;try simp only[pS]
    refine δ ?_;go_wp2_with fail;go_roundw
    case rel=>exact⟨k+1,.slice D1 (k+1) cD,by omega,by go_num,by rw[a6.out];exact aP,aO,aQ.out⟩
    case measure=>simp[intOf];omega
  ·obtain rfl:pts.length=k:=by omega
   rw[bU.out]at aH;obtain⟨Av,cv,e9,-,b2,-⟩:=aH.out.form;rw[Qcn]at e9;subst e9;have hq:=Qiz F (kK:Int) pts (Qh5 F poly pts) B A2 Av b c2 cv w3 ((aX.below (am.mono (by omega))).more (by omega)) ((a1.below (am.mono (by omega))).more (by omega)) b2 (Qcn F poly pts) bP (by omega) (by omega);rw[Qcn,bQ]at hq;replace hq:=η hq;obtain⟨d0,d1,d2,d3,d4,d5⟩:=av.out.c6;obtain⟨e0,e1,e2,e3,e4,e5,e6,e7⟩:=aE.out.c8;go_wp2_with fail;(with_reducible refine hq.out.mono ?_);rintro e w4 ⟨g,rfl,bL,cy,aT⟩;clear hq d0 d1 d2 d3 d4 d5 e0 e1 e2 e3 e4 e5 e6 e7;have bv:Below (s+1+1) Z w4:=am.trans (aT.mono (by omega));have a8:=bT.out.keep bv (by omega);obtain⟨u0,u1,u2,u3,u4,u5⟩:=a8.c6;obtain⟨v0,v1,v2,v3,v4,v5⟩:=a8.f6;have b0:Below w.heap.size w w4:=hB.trans (bv.mono (by omega));have bw:Rd (Qbh w4 (s+1) 0 [.int .i64 F.p,.int .i64 F.m,.slice B F.mod.length b,.int .i64 ((pts.length - kK:Nat):Int),.slice A2 pts.length c2,.slice (some ⟨g,0,none⟩) pts.length pts.length]) (Qbh w4 (s+1) 0 [.int .i64 F.p,.int .i64 F.m,.slice B F.mod.length b,.int .i64 ((pts.length - kK:Nat):Int),.slice A2 pts.length c2,.slice (some ⟨g,0,none⟩) pts.length pts.length]).heap.size (some ⟨g,0,none⟩) (Qck F pts (Qh5 F poly pts)):=by rw[Qbv];exact bL.farS (fun a ha=>by cases ha;show g≠s+1;omega) _ 0
   have b1:=η (And.intro bw (stAll_below (b:=s+1) bY.step [.int .i64 F.p,.int .i64 F.m,.slice B F.mod.length b,.int .i64 ((pts.length - kK:Nat):Int),.slice A2 pts.length c2,.slice (some ⟨g,0,none⟩) pts.length pts.length] 0 _ b0));clear bL bw a8;go_wp2_with fail;exact bodyPost_ret (v:=.agg #[.int .i64 F.p,.int .i64 F.m,.slice B F.mod.length b,.int .i64 ((pts.length - kK:Nat):Int),.slice A2 pts.length c2,.slice (some ⟨g,0,none⟩) pts.length pts.length]) (by simp[results,Tryz.results80,go_sem,u0,u1,u2,u3,u4,u5]) rfl ⟨g,rfl,b1.out⟩
end Go.Proofs

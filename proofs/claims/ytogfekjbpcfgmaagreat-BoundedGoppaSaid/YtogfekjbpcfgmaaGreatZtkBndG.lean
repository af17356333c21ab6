/- Layer 39 of the program: GRS. -/
import Derived.Test.YtogfekjbpcfgmaaGreatZtkBndC
set_option maxRecDepth 100000
set_option maxHeartbeats 16000000
set_option linter.unusedVariables false
namespace Go.Proofs
open Go.RowKit Cw
open Cw.CField (inv)
def QcO (D:Desc)(K:Int)(pts mul wl er:List Int):Int:=if gchkD D K pts mul≠0 then gchkD D K pts mul else Qbo D wl pts.length er
def QcC (D:Desc)(K:Int)(pts mul wl er:List Int)(w:World)(e:Ending)(w':World):Prop :=
 Below w.heap.size w w'∧((QcO D K pts mul wl er≠0∧e=.returned (.tuple #[.agg #[.slice none 0 0,.slice none 0 0],.int .i64 (QcO D K pts mul wl er)])) ∨
  (QcO D K pts mul wl er=0∧QgF D K.toNat pts mul wl er∧e=.returned (.tuple #[.agg #[.slice none 0 0,.slice none 0 0],.int .i64 12])) ∨
  (QcO D K pts mul wl er=0∧∃I J T O U,QfU D K.toNat pts mul wl er I∧e=.returned (.tuple #[.agg #[.slice J pts.length T,.slice O (Qbu (Qa5 D pts mul I) wl er pts.length).length U],.int .i64 0])∧Rd w' w'.heap.size J (Qa5 D pts mul I)∧Rd w' w'.heap.size O (Qbu (Qa5 D pts mul I) wl er pts.length)∧(∀a,J=some a→w.heap.size≤a.block)∧(∀a,O=some a→w.heap.size≤a.block)))
section
variable {D:Desc} {K:Int} {pts mul wl er:List Int} {w w':World}
theorem QcC.err (I:Below w.heap.size w w'){E:Int} (h:QcO D K pts mul wl er=E)(h0:E≠0):QcC D K pts mul wl er w (.returned (.tuple #[.agg #[.slice none 0 0,.slice none 0 0],.int .i64 E])) w':=⟨I,.inl ⟨by rw[h];exact h0,by rw[h]⟩⟩
theorem QcC.no (I:Below w.heap.size w w')(h:QcO D K pts mul wl er=0)(J:QgF D K.toNat pts mul wl er):QcC D K pts mul wl er w (.returned (.tuple #[.agg #[.slice none 0 0,.slice none 0 0],.int .i64 12])) w':=⟨I,.inr (.inl ⟨h,J,rfl⟩)⟩
theorem QcC.ok (V:Below w.heap.size w w')(h:QcO D K pts mul wl er=0){I:List Int} (X:QfU D K.toNat pts mul wl er I)(J:Option Addr)(T:Nat)(O:Option Addr)(U:Nat)(Y:Rd w' w'.heap.size J (Qa5 D pts mul I))(h2:Rd w' w'.heap.size O (Qbu (Qa5 D pts mul I) wl er pts.length))(h3:∀a,J=some a→w.heap.size≤a.block)(h4:∀a,O=some a→w.heap.size≤a.block) :
  QcC D K pts mul wl er w (.returned (.tuple #[.agg #[.slice J pts.length T,.slice O (Qbu (Qa5 D pts mul I) wl er pts.length).length U],.int .i64 0])) w':=⟨V,.inr (.inr ⟨h,I,J,T,O,U,X,rfl,Y,h2,h3,h4⟩)⟩
end
theorem ResPost.in {n:Nat} {c wl er:List Int} {J:Int} {T:Option Addr} {U:Nat} {w:World} {e:Ending} {w':World} (h:(¬ J<((Qbu c wl er n).length:Int)∧∃I O,e=.returned (.tuple #[.agg #[.slice T n U,.slice I (Qbu c wl er n).length O],.int .i64 0])∧Rd w' w'.heap.size I (Qbu c wl er n)∧∀a,I=some a→w.heap.size≤a.block) ∨
  (J<((Qbu c wl er n).length:Int)∧e=.returned (.tuple #[.agg #[.slice none 0 0,.slice none 0 0],.int .i64 12]))) (V:¬ J<((Qbu c wl er n).length:Int)):∃I O,e=.returned (.tuple #[.agg #[.slice T n U,.slice I (Qbu c wl er n).length O],.int .i64 0])∧Rd w' w'.heap.size I (Qbu c wl er n)∧∀a,I=some a→w.heap.size≤a.block:=by
 rcases h with ⟨-,h⟩ |⟨h,-⟩
 ·exact h
 ·exact absurd h V
theorem Qek.form {F:FD} {kn:Nat} {pts mul wl er:List Int} {w:World} {e:Ending} {w':World} (h:Qek F kn pts mul wl er w e w'):Below w.heap.size w w'∧∃v ec,e=.returned (.tuple #[v,.int .i64 ec]) ∧
  ((ec=0∧∃I A c,v=.slice A pts.length c∧QfU F.z kn pts mul wl er I∧Rd w' w'.heap.size A (Qa5 F.z pts mul I)∧∀a,A=some a→w.heap.size≤a.block)∨(ec=12∧QgF F.z kn pts mul wl er)):=by
 obtain⟨O,⟨I,A,c,J,rfl,T,U,-⟩ |⟨J,rfl⟩⟩:=h
 ·exact⟨O,_,_,rfl,.inl ⟨rfl,I,A,c,rfl,J,T,U⟩⟩
 ·exact⟨O,_,_,rfl,.inr ⟨rfl,J⟩⟩
theorem Qwk (D:Desc)(K:Int)(pts mul:List Int)(A T U:Option Addr)(c c1 c2:Nat)(wl er:List Int)(Aw Ae:Option Addr)(cw ce:Nat)(w:World)(hr:Rd w w.heap.size A (Qan D))(hg:Qcq D.p D.m (Qan D))(bm:Rd w w.heap.size T pts)(bo:Rd w w.heap.size U mul)(h1:pts.length≤c1)(bp:c1≤maxLen)(h2:mul.length≤maxLen)(bq:Rd w w.heap.size Aw wl)(br:Rd w w.heap.size Ae er)(bU:wl.length≤maxLen)(bs:er.length≤1000000) :
  Calls Tryz.prog 58 #[.agg #[.int .i64 D.p,.int .i64 D.m,.slice A D.mod.length c,.int .i64 K,.slice T pts.length c1,.slice U mul.length c2],.slice Aw wl.length cw,.slice Ae er.length ce] w (QcC D K pts mul wl er w):=by
 have bt:=fun W a b d=>η (QrM D K pts mul A T U c c1 c2 W a hg b d h1 bp h2)
 have bu:=fun W a=>η (QeP D A c W a hg)
 obtain⟨s,hs⟩:=ε (w.heap.size);obtain⟨Z,hZ⟩:=ε ((w.alloc (.cells #[.int .i64 D.p,.int .i64 D.m,.slice A D.mod.length c,.int .i64 K,.slice T pts.length c1,.slice U mul.length c2] 94)).alloc (.cells #[.slice none 0 0,.slice none 0 0] 52));have hB:Below w.heap.size w Z:=by rw[hZ];exact (β).alloc (by simp) _
 have k0:Z.cell? ⟨s,0,none⟩=some (.int .i64 D.p)∧Z.cell? ⟨s,1,none⟩=some (.int .i64 D.m)∧Z.cell? ⟨s,2,none⟩=some (.slice A D.mod.length c)∧Z.cell? ⟨s,3,none⟩=some (.int .i64 K)∧Z.cell? ⟨s,4,none⟩=some (.slice T pts.length c1)∧Z.cell? ⟨s,5,none⟩=some (.slice U mul.length c2):=by rw[hZ,hs];simp[go_sem]
 have d0:Duo Z (s+1) (.slice none 0 0) (.slice none 0 0):=by
  rw[hZ,hs];have h:=Duo.new (w.alloc (.cells #[.int .i64 D.p,.int .i64 D.m,.slice A D.mod.length c,.int .i64 K,.slice T pts.length c1,.slice U mul.length c2] 94)) (.slice none 0 0) (.slice none 0 0) 52;rw[World.size_alloc]at h;exact h
 have aX:s+1<Z.heap.size:=by rw[hZ,hs];simp
 have aK:w.heap.size≤s+1:=by omega
 have bV:=bt Z (hr.bm hB) (bm.bm hB) (bo.bm hB);have bW:=η hg;replace hZ:=η hZ;replace d0:=η d0;replace k0:=η k0;clear bt hg;go_enter Tryz.func58,Tryz.ntmps58;obtain⟨q0,q1,q2,q3,q4,q5⟩:=k0.out;go_wp2_with fail;rw[←hZ.out];simp only[←hs];replace hs:=η hs;go_wp2_with fail;(with_reducible refine bV.out.mono ?_);rintro e w1 ⟨rfl,aE⟩;have aB:=ζ hB aE;have aY:s+1<w1.heap.size:=θ aX aE.size;have aZ:Hid (w1.cell? ⟨s,0,none⟩=some (.int .i64 D.p)∧w1.cell? ⟨s,1,none⟩=some (.int .i64 D.m)∧w1.cell? ⟨s,2,none⟩=some (.slice A D.mod.length c)∧w1.cell? ⟨s,3,none⟩=some (.int .i64 K)∧w1.cell? ⟨s,4,none⟩=some (.slice T pts.length c1)∧w1.cell? ⟨s,5,none⟩=some (.slice U mul.length c2)):=QbS aE (Nat.lt_of_succ_lt aX) k0.out;have d1:=η (d0.out.keep aE aX);clear q0 q1 q2 q3 q4 q5;by_cases hz:gchkD D K pts mul=0;rotate_left
 ·have bX:(gchkD D K pts mul !=0)=true:=by rw[bne_iff_ne];exact hz
  have hE:Hid (QcO D K pts mul wl er=gchkD D K pts mul):=if_pos hz;obtain⟨a0,a1,f0,f1⟩:=d1.out;have ae:=fun u0 u1=>aB.trans ((QeF (w:=w1) (b:=s+1) u0 u1).mono aK)
  have a3:=η hz;clear hz;go_wp2_with fail;refine bodyPost_ret (v:=.tuple #[.agg #[.slice none 0 0,.slice none 0 0],.int .i64 (gchkD D K pts mul)]) (by simp[results,Tryz.results58,go_sem,a0,a1]) rfl (QcC.err (ae _ _) hE.out a3.out)
 rw[hz];obtain⟨cp,bh,bv,-,-,-,-,cq,cr⟩:=Qbn hz;obtain⟨kn,rfl⟩:∃kn:Nat,K=kn:=⟨K.toNat,by omega⟩;replace bv:=η bv;have a4:Hid (QcO D kn pts mul wl er=Qbo D wl pts.length er):=if_neg (fun h=>h hz);have bY:=bu w1 (hr.bm aB);obtain⟨q0,q1,q2,q3,q4,q5⟩:=aZ.out;replace hz:=η hz;clear bu;go_wp2_with fail;(with_reducible refine bY.out.mono ?_);rintro e w2 ⟨g,F,rfl,rfl,cs,bR,aF⟩;have aw:=ζ aB aF;have a5:s+1<w2.heap.size:=θ aY aF.size;have a6:Hid (w2.cell? ⟨s,0,none⟩=some (.int .i64 F.p)∧w2.cell? ⟨s,1,none⟩=some (.int .i64 F.m)∧w2.cell? ⟨s,2,none⟩=some (.slice A F.mod.length c)∧w2.cell? ⟨s,3,none⟩=some (.int .i64 (kn:Int))∧w2.cell? ⟨s,4,none⟩=some (.slice T pts.length c1)∧w2.cell? ⟨s,5,none⟩=some (.slice U mul.length c2)):=QbS aF (Nat.lt_of_succ_lt aY) aZ.out;have d2:=η (d1.out.keep aF aY);have a7:=QkO F wl er pts.length bh Aw Ae cw ce g w2 bR (bq.bm aw) (br.bm aw) bU bs;clear q0 q1 q2 q3 q4 q5;obtain⟨q0,q1,q2,q3,q4,q5⟩:=a6.out;replace a7:=η a7;go_wp2_with fail;(with_reducible refine a7.out.mono ?_);rintro e w3 ⟨rfl,ao⟩;have O:=ζ aw ao;have aM:s+1<w3.heap.size:=θ a5 ao.size;have af:Hid (w3.cell? ⟨s,0,none⟩=some (.int .i64 F.p)∧w3.cell? ⟨s,1,none⟩=some (.int .i64 F.m)∧w3.cell? ⟨s,2,none⟩=some (.slice A F.mod.length c)∧w3.cell? ⟨s,3,none⟩=some (.int .i64 (kn:Int))∧w3.cell? ⟨s,4,none⟩=some (.slice T pts.length c1)∧w3.cell? ⟨s,5,none⟩=some (.slice U mul.length c2)):=QbS ao (Nat.lt_of_succ_lt a5) a6.out;have d3:=η (d2.out.keep ao a5);clear q0 q1 q2 q3 q4 q5;by_cases ar:Qbo F.z wl pts.length er=0;rotate_left
 ·have bX:(Qbo F.z wl pts.length er !=0)=true:=by rw[bne_iff_ne];exact ar
  obtain⟨a0,a1,f0,f1⟩:=d3.out;have ae:=fun u0 u1=>O.trans ((QeF (w:=w3) (b:=s+1) u0 u1).mono aK)
  have a3:=η ar;clear ar;go_wp2_with fail;refine bodyPost_ret (v:=.tuple #[.agg #[.slice none 0 0,.slice none 0 0],.int .i64 (Qbo F.z wl pts.length er)]) (by simp[results,Tryz.results58,go_sem,a0,a1]) rfl (QcC.err (ae _ _) a4.out a3.out)
 rw[ar];have hE:Hid (QcO F.z kn pts mul wl er=0):=a4.out.trans ar;obtain⟨ay,bM,bi,bN⟩:=Qfl ar;have aN:=fun W a=>Qgo er pts.length bh bi Ae ce W a bs
 have aC:=fun gb W a b d e f h=>(QfV F kn pts mul wl er hz.out bW.out ay bM bi bN A T U Aw c c1 c2 cw gb g W a b d e h1 bp f h).mono fun _ _ hp=>hp.form
 have aO:=fun X Ac cc gb W a b d=>Qfm pts.length (Qa5 F.z pts mul X) wl er (QlN ((pts.length:Int) - (kn:Int)+1) (er.length:Int)) bh (Qcs _ _ _ _) ay Ac Aw cc cw gb W a b d
 have aP:=fun W=>Qfo ((pts.length:Int) - (kn:Int)+1) (er.length:Int) W (by unfold I64;omega) (by unfold I64;omega)
 rw[ay]at aC;rw[ay];have ci:IntKind.i64.wrap ((pts.length:Int) - (kn:Int))=(pts.length:Int) - (kn:Int):=IntWalk.i64_in _ (by omega);have cj:IntKind.i64.wrap ((pts.length:Int) - (kn:Int)+1)=(pts.length:Int) - (kn:Int)+1:=IntWalk.i64_in _ (by omega);have bz:Hid (∀X,QfU F.z kn pts mul wl er X→¬ QlN ((pts.length:Int) - (kn:Int)+1) (er.length:Int)<((Qbu (Qa5 F.z pts mul X) wl er pts.length).length:Int)):=fun X h=>by
  have h3:=h.2.2;rw[QgX (by omega) (by omega) (by omega)];omega
 obtain⟨bO,a9⟩:=ε (QlN ((pts.length:Int) - (kn:Int)+1) (er.length:Int));rw[←a9]at aO aP bz;have bA:=bR.bm ao;have a8:=bq.bm O;have bB:=br.bm O;have bC:=hr.bm O;have bD:=bm.bm O;have bE:=bo.bm O;have aQ:=aN w3.drew bB.drew;have cn:=η ay;replace aQ:=η aQ;replace aN:=fun W a=>η (aN W a)
 replace aC:=fun gb W a b d e f h=>η (aC gb W a b d e f h)
 replace aO:=fun X Ac cc gb W a b d=>η (aO X Ac cc gb W a b d)
 replace aP:=fun W=>η (aP W)
 replace a9:=η a9;have ba:s<w3.heap.size:=Nat.lt_of_succ_lt aM;clear ay bM bi bN ar aE aF ao d0 d1 d2 aZ a6 a4;obtain⟨q0,q1,q2,q3,q4,q5⟩:=af.out;go_wp2_with fail;clear q0 q1 q2 q3 q4 q5;refine wp_region_held_drew (S:=fun w'=>w'.cell? ⟨s,0,none⟩=some (.int .i64 F.p)∧w'.cell? ⟨s,1,none⟩=some (.int .i64 F.m)∧w'.cell? ⟨s,2,none⟩=some (.slice A F.mod.length c)∧w'.cell? ⟨s,3,none⟩=some (.int .i64 (kn:Int))∧w'.cell? ⟨s,4,none⟩=some (.slice T pts.length c1)∧w'.cell? ⟨s,5,none⟩=some (.slice U mul.length c2)) (by kernel_rfl) (by (try dsimp only);exact af.out) (fun hHeld=>?_);refine tk 0 ?_;simp only[pS]
 refine tk 2 ?_;simp only[pS]
 refine tk 3 ?_;simp only[pS]
 refine tk 4 ?_;simp only[pS]
 refine wpAnyH_ready (rs:=[1,5]) (by kernel_rfl) (by simp) ?_;refine AllReadyH.cons (o:=⟨_,_,_,_,_,_⟩) rfl (fun K J=>?_) ?_
 all_goals first
  |(go_simp
    refine J.out _ _ (by (try dsimp only);first |exact af.out |exact ax.out) (fun hHeld=>?_);clear J K;try simp only[pS]
    refine rd 5 fun K J=>?_
    go_simp;go_at_call 64;(with_reducible refine (aQ).out.mono ?_);rintro e w4 ⟨gb,rfl,b6,aT,aU⟩;have I:Below w3.heap.size w3 w4:=(Below.refl _ w3).drew.trans aU;have ax:Hid (w4.cell? ⟨s,0,none⟩=some (.int .i64 F.p)∧w4.cell? ⟨s,1,none⟩=some (.int .i64 F.m)∧w4.cell? ⟨s,2,none⟩=some (.slice A F.mod.length c)∧w4.cell? ⟨s,3,none⟩=some (.int .i64 (kn:Int))∧w4.cell? ⟨s,4,none⟩=some (.slice T pts.length c1)∧w4.cell? ⟨s,5,none⟩=some (.slice U mul.length c2)):=QbS I ba af.out;have bb:=aC gb w4 (bA.bm I) (bC.bm I) (bD.bm I) (bE.bm I) (a8.bm I) aT;go_wp2_with fail;refine J.out _ _ (by (try dsimp only);exact ax.out) (fun hHeld=>?_))
  |(refine AllReadyH.cons (o:=⟨_,_,_,_,_,_⟩) rfl (fun K J=>?_) AllReadyH.nil
    go_simp;go_at_call 64;(with_reducible refine (aQ).out.mono ?_);rintro e w4 ⟨gb,rfl,b6,aT,aU⟩;have I:Below w3.heap.size w3 w4:=(Below.refl _ w3).drew.trans aU;have ax:Hid (w4.cell? ⟨s,0,none⟩=some (.int .i64 F.p)∧w4.cell? ⟨s,1,none⟩=some (.int .i64 F.m)∧w4.cell? ⟨s,2,none⟩=some (.slice A F.mod.length c)∧w4.cell? ⟨s,3,none⟩=some (.int .i64 (kn:Int))∧w4.cell? ⟨s,4,none⟩=some (.slice T pts.length c1)∧w4.cell? ⟨s,5,none⟩=some (.slice U mul.length c2)):=QbS I ba af.out;have bb:=aC gb w4 (bA.bm I) (bC.bm I) (bD.bm I) (bE.bm I) (a8.bm I) aT;go_wp2_with fail;refine J.out _ _ ax.out fun hHeld=>?_;clear J K;try simp only[pS]
    refine rd 1 fun K J=>?_
    go_simp;refine J.out _ _ (by (try dsimp only);first |exact af.out |exact ax.out) (fun hHeld=>?_))
 all_goals
  clear J K;try simp only[pS]
  refine rd 6 fun K J=>?_
  go_simp;go_at_call 123;(with_reducible refine (bb).out.mono ?_);rintro e V ⟨bS,vc,ec,rfl,b7⟩;have ab:=ζ I bS;have bF:Hid (V.cell? ⟨s,0,none⟩=some (.int .i64 F.p)∧V.cell? ⟨s,1,none⟩=some (.int .i64 F.m)∧V.cell? ⟨s,2,none⟩=some (.slice A F.mod.length c)∧V.cell? ⟨s,3,none⟩=some (.int .i64 (kn:Int))∧V.cell? ⟨s,4,none⟩=some (.slice T pts.length c1)∧V.cell? ⟨s,5,none⟩=some (.slice U mul.length c2)):=QbS ab ba af.out;go_wp2_with fail;refine J.out _ _ bF.out fun hHeld=>?_;clear J K;try simp only[pS]
  refine tk 7 ?_;simp only[pS]
  refine tk 8 ?_;simp only[pS]
  refine tk 9 ?_;simp only[pS]
  refine tk 10 ?_;simp only[pS]
  refine tk 11 ?_;simp only[pS]
  refine δ ?_;have aR:=ζ O ab;have bG:s+1<V.heap.size:=θ aM ab.size;have d5:=η (d3.out.keep ab aM);rcases b7 with ⟨rfl,X,Ac,cc,rfl,aS,bT,bl⟩ |⟨rfl,bc⟩;rotate_left
  ·obtain⟨a0,a1,f0,f1⟩:=d5.out;have ae:=fun u0 u1=>aR.trans ((QeF (w:=V) (b:=s+1) u0 u1).mono aK)
   replace bc:=η bc;go_wp2_with fail;refine bodyPost_ret (v:=.tuple #[.agg #[.slice none 0 0,.slice none 0 0],.int .i64 12]) (by simp[results,Tryz.results58,go_sem,a0,a1]) rfl (QcC.no (ae _ _) hE.out bc.out)
  replace aS:=η aS;have co:w.heap.size≤w3.heap.size:=O.size;have bZ:=aN V.drew (bB.bm ab).drew;have be:=η bF.out.2.2.2.1;have b0:=a8.bm ab;have bI:s<V.heap.size:=Nat.lt_of_succ_lt bG;have b1:w.heap.size≤w4.heap.size:=τ O.size I.size;have b2:w.heap.size≤V.heap.size:=aR.size;have bJ:s+1<w4.heap.size:=θ aM I.size;clear bb aT aU bS I ax;go_wp2_with fail;refine wp_region_held_drew (S:=fun w'=>w'.cell? ⟨s,3,none⟩=some (.int .i64 (kn:Int))) (by kernel_rfl) (by (try dsimp only);exact be.out) (fun hHeld=>?_);refine tk 0 ?_;simp only[pS]
  refine tk 1 ?_;simp only[pS]
  refine tk 2 ?_;simp only[pS]
  refine tk 3 ?_;simp only[pS]
  refine tk 5 ?_;simp only[pS]
  refine tk 6 ?_;simp only[pS]
  refine tk 7 ?_;simp only[pS]
  refine tk 8 ?_;simp only[pS]
  refine tk 9 ?_;simp only[pS]
  refine tk 10 ?_;simp only[pS]
  refine tk 11 ?_;simp only[pS]
  refine rd 4 fun K J=>?_
  go_simp;go_at_call 64;(with_reducible refine (bZ).out.mono ?_);rintro e w6 ⟨b8,rfl,cu,b9,cd⟩;have Y:Below V.heap.size V w6:=(Below.refl _ V).drew.trans cd;have bK:=η ((Y.cell (p:=⟨s,3,none⟩) bI).trans be.out);have b3:=aP w6;have b4:=aO X Ac cc b8 w6 (bT.bm Y) (b0.bm Y) b9;go_wp2_with fail;refine J.out _ _ bK.out fun hHeld=>?_;clear J K;try simp only[pS]
  refine rd 12 fun K J=>?_
  go_simp;go_at_call 60;(with_reducible refine (b3).out.mono ?_);rintro e w7 ⟨rfl,rfl⟩;go_wp2_with fail;refine J.out _ _ bK.out fun hHeld=>?_;clear J K;try simp only[pS]
  refine rd 13 fun K J=>?_
  go_simp;go_at_call 63;(with_reducible refine (b4).out.mono ?_);rintro e w8 ⟨cg,ch⟩;have aD:=ζ Y cg;have bL:=η ((aD.cell (p:=⟨s,3,none⟩) bI).trans be.out);obtain⟨bP,bQ,rfl,b5,bj⟩:=ResPost.in ch (Int.not_lt.2 (bz.out X aS.out));obtain⟨a0,a1,f0,f1⟩:=d5.out.keep aD bG;go_wp2_with fail;refine J.out _ _ bL.out fun hHeld=>?_;clear J K;try simp only[pS]
  refine tk 14 ?_;simp only[pS]
  refine tk 15 ?_;simp only[pS]
  refine rd 16 fun K J=>?_
  go_simp;refine J.out _ _ (by (try dsimp only);exact (World.cell?_setCell_far _ _ _ _ (by show s+1≠s;omega)).trans ((World.cell?_setCell_far _ _ _ _ (by show s+1≠s;omega)).trans bL.out)) (fun hHeld=>?_);clear J K;try simp only[pS]
  refine tk 17 ?_;simp only[pS]
  refine δ ?_;have ae:=fun u0 u1=>(ζ aR aD).trans ((QeF (w:=w8) (b:=s+1) u0 u1).mono aK)
  go_wp2_with fail;refine bodyPost_ret (v:=.tuple #[.agg #[.slice Ac pts.length cc,.slice bP (Qbu (Qa5 F.z pts mul X) wl er pts.length).length bQ],.int .i64 0]) (by simp[results,Tryz.results58,go_sem,a0,a1]) rfl (QcC.ok (ae _ _) hE.out aS.out Ac cc bP bQ ?_ ?_ (fun a e=>τ b1 (bl a e)) (fun a e=>τ b2 (τ Y.size (bj a e))))
  ·exact (((bT.bm aD).far (g:=s+1) (fun a e=>by have h1:=bl a e;have h2:=bJ;omega) 0 _).far (g:=s+1) (fun a e=>by have h1:=bl a e;have h2:=bJ;omega) 1 _).more (by simp[World.setCell])
  ·exact ((b5.far (g:=s+1) (fun a e=>by have h1:=bj a e;have h2:=Y.size;omega) 0 _).far (g:=s+1) (fun a e=>by have h1:=bj a e;have h2:=Y.size;omega) 1 _).more (by simp[World.setCell])
end Go.Proofs

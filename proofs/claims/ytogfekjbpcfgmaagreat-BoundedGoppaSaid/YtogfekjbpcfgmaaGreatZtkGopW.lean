/- The program's goppa: the fields, and the values at the points, of a Goppa description. -/
import Derived.Test.YtogfekjbpcfgmaaGreatZtkGopP
set_option maxRecDepth 100000
set_option maxHeartbeats 16000000
set_option linter.unusedVariables false
namespace Go.Proofs
open Go.RowKit Cw
def Qct (S F:FD)(rt k0 n L g gb:Nat)(Ab:Option Addr)(w:World)(B:Nat):Prop:=GFU w L B g F∧L≤gb∧gb<B∧IB w gb (Qqv S F (rel F.z rt))∧RdU w L B Ab (QcG S.m (eli F.z k0) n)
section
variable {S F:FD} {rt k0 n L L' g gb:Nat} {Ab:Option Addr} {w w':World} {B B':Nat}
theorem Qct.below (h:Qct S F rt k0 n L g gb Ab w B)(I:Below B w w'):Qct S F rt k0 n L g gb Ab w' B:=⟨h.1.below I,h.2.1,h.2.2.1,h.2.2.2.1.below I h.2.2.1,h.2.2.2.2.keepU fun _ _ hp=>I.cell hp⟩
theorem Qct.more (h:Qct S F rt k0 n L g gb Ab w B)(I:B≤B'):Qct S F rt k0 n L g gb Ab w B':=⟨h.1.more I,h.2.1,θ h.2.2.1 I,h.2.2.2.1,h.2.2.2.2.more I⟩
theorem Qct.bm {w':World}(h:Qct S F rt k0 n L g gb Ab w w.heap.size)(I:Below w.heap.size w w') : Qct S F rt k0 n L g gb Ab w' w'.heap.size:=(h.below I).more (I.size)
theorem Qct.low (h:Qct S F rt k0 n L g gb Ab w B)(I:L'≤L):Qct S F rt k0 n L' g gb Ab w B:=⟨h.1.low I,τ I h.2.1,h.2.2.1,h.2.2.2.1,h.2.2.2.2.low I⟩
theorem Qct.farS (h:Qct S F rt k0 n L g gb Ab w B){b:Nat} (J:b<L)(us:List Value):Qct S F rt k0 n L g gb Ab (Qbh w b 0 us) B:=by
 have I:∀p:Addr,L≤p.block→p.block<B→(Qbh w b 0 us).cell? p=w.cell? p:=fun p hp _=>Qbp (by omega) us 0 w
 refine⟨h.1.keepU I,h.2.1,h.2.2.1,?_,h.2.2.2.2.keepU I⟩;exact (QjD (by have:=h.2.1;omega) us 0 w).trans h.2.2.2.1
theorem Qct.gf (h:Qct S F rt k0 n L g gb Ab w B):GF w B g F:=h.1.gf
end
structure GP (w:World) (s:Nat) (G:List Value) (B:Nat) (W:World):Prop where
 G:Bxs W s G
 R:Bxs W (s+1) [.int .i64 0,.int .i64 0,.slice none 0 0,.pointer none,.slice none 0 0,.slice none 0 0,.int .i64 0]
 Z:Bxs W (s+1+1) [.int .i64 0,.int .i64 0,.slice none 0 0,.pointer none,.slice none 0 0,.slice none 0 0,.int .i64 0]
 s2:s+1+1<B
 wB:w.heap.size≤B
 bw:Below w.heap.size w W
theorem Qqw (w:World)(G:List Value)(J I:TypeId):GP w w.heap.size G (((w.alloc (.cells G.toArray J)).alloc (.cells #[.int .i64 0,.int .i64 0,.slice none 0 0,.pointer none,.slice none 0 0,.slice none 0 0,.int .i64 0] I)).alloc (.cells #[.int .i64 0,.int .i64 0,.slice none 0 0,.pointer none,.slice none 0 0,.slice none 0 0,.int .i64 0] I)).heap.size (((w.alloc (.cells G.toArray J)).alloc (.cells #[.int .i64 0,.int .i64 0,.slice none 0 0,.pointer none,.slice none 0 0,.slice none 0 0,.int .i64 0] I)).alloc (.cells #[.int .i64 0,.int .i64 0,.slice none 0 0,.pointer none,.slice none 0 0,.slice none 0 0,.int .i64 0] I)) where
 G:=((Bxs.new w G J).keep (β) (by simp)).keep (β) (by simp;omega)
 R:=by
  have h:=Bxs.new (w.alloc (.cells G.toArray J)) [.int .i64 0,.int .i64 0,.slice none 0 0,.pointer none,.slice none 0 0,.slice none 0 0,.int .i64 0] I;rw[World.size_alloc]at h;exact h.keep (β) (by simp)
 Z:=by
  have h:=Bxs.new ((w.alloc (.cells G.toArray J)).alloc (.cells #[.int .i64 0,.int .i64 0,.slice none 0 0,.pointer none,.slice none 0 0,.slice none 0 0,.int .i64 0] I)) [.int .i64 0,.int .i64 0,.slice none 0 0,.pointer none,.slice none 0 0,.slice none 0 0,.int .i64 0] I;rw[World.size_alloc,World.size_alloc]at h;exact h
 s2:=by simp
 wB:=by simp;omega
 bw:=((β).alloc (by simp) _).alloc (by simp;omega) _
theorem GP.below {w:World} {s B:Nat} {G:List Value} {W W':World} (h:GP w s G B W)(I:Below B W W'):GP w s G B W' :=
 ⟨h.G.keep I (by have:=h.s2;omega),h.R.keep I (by have:=h.s2;omega),h.Z.keep I h.s2,h.s2,h.wB,h.bw.trans (I.mono h.wB)⟩
theorem GP.more {w:World} {s B B':Nat} {G:List Value} {W:World} (h:GP w s G B W)(I:B≤B'):GP w s G B' W:=⟨h.G,h.R,h.Z,θ h.s2 I,τ h.wB I,h.bw⟩
theorem GP.bm {w:World} {s:Nat} {G:List Value} {W:World} {W':World}(h:GP w s G W.heap.size W)(I:Below W.heap.size W W') : GP w s G W'.heap.size W':=(h.below I).more (I.size)
structure GQ (S F:FD) (rt k0 n L:Nat) (A:Option Addr) (c g gb:Nat) (Ab:Option Addr) (cb:Nat) (w:World) (s sp:Nat) (G:List Value) (B:Nat) (W:World):Prop extends GP w s G B W where
 P:Bxs W sp [.int .i64 S.p,.int .i64 S.m,.slice A S.mod.length c,.pointer (some ⟨g,0,none⟩),.slice (some ⟨gb,0,none⟩) F.q F.q,.slice Ab n cb,.int .i64 S.m]
 pr:Qct S F rt k0 n L g gb Ab W B
 sp:sp<B
section
variable {S F:FD} {rt k0 n L:Nat} {A:Option Addr} {c g gb:Nat} {Ab:Option Addr} {cb:Nat} {w:World} {s sp:Nat} {G:List Value} {B B':Nat} {W W':World}
theorem GQ.below (h:GQ S F rt k0 n L A c g gb Ab cb w s sp G B W)(I:Below B W W'):GQ S F rt k0 n L A c g gb Ab cb w s sp G B W' :=
 ⟨h.toGP.below I,h.P.keep I h.sp,h.pr.below I,h.sp⟩
theorem GQ.more (h:GQ S F rt k0 n L A c g gb Ab cb w s sp G B W)(I:B≤B'):GQ S F rt k0 n L A c g gb Ab cb w s sp G B' W :=
 ⟨h.toGP.more I,h.P,h.pr.more I,θ h.sp I⟩
theorem GQ.bm {W':World}(h:GQ S F rt k0 n L A c g gb Ab cb w s sp G W.heap.size W)(I:Below W.heap.size W W') : GQ S F rt k0 n L A c g gb Ab cb w s sp G W'.heap.size W':=(h.below I).more (I.size)
end
def Qqx (S:FD)(D:Desc)(A:Option Addr)(c:Nat)(poly pts:List Int)(w:World)(e:Ending)(w':World):Prop :=
 Below w.heap.size w w'∧((QcP S.z D poly pts≠0∧e=.returned (.tuple #[.agg #[.int .i64 0,.int .i64 0,.slice none 0 0,.pointer none,.slice none 0 0,.slice none 0 0,.int .i64 0],.slice none 0 0,.int .i64 (QcP S.z D poly pts)])) ∨
  (QcP S.z D poly pts=0∧∃ (F:FD) (rt k0 n g gb:Nat) (Ab:Option Addr) (cb I:Nat),F.z=D∧Qjl S F rt∧Qhx F S.m n k0∧F.m / S.m=n∧e=.returned (.tuple #[.agg #[.int .i64 S.p,.int .i64 S.m,.slice A S.mod.length c,.pointer (some ⟨g,0,none⟩),.slice (some ⟨gb,0,none⟩) F.q F.q,.slice Ab n cb,.int .i64 S.m],.slice (some ⟨I,0,none⟩) pts.length pts.length,.int .i64 0])∧Qct S F rt k0 n w.heap.size g gb Ab w' w'.heap.size∧Rd w' w'.heap.size (some ⟨I,0,none⟩) (QfW F.z poly pts)))
theorem QjG (S:FD)(D:Desc)(poly pts:List Int)(A B A1 A2:Option Addr)(c b c1 c2:Nat)(w:World)(hr:Rd w w.heap.size A (Qan S.z))(cK:Rd w w.heap.size B (Qan D))(hS:Qcq S.p S.m (Qan S.z))(hD:Qcq D.p D.m (Qan D))(bP:Rd w w.heap.size A1 poly)(bQ:Rd w w.heap.size A2 pts)(cM:poly.length≤maxLen)(cN:pts.length≤maxLen) :
  Calls Tryz.prog 124 #[.agg #[.int .i64 S.p,.int .i64 S.m,.slice A S.mod.length c,.int .i64 D.p,.int .i64 D.m,.slice B D.mod.length b,.slice A1 poly.length c1,.slice A2 pts.length c2]] w (Qqx S D A c poly pts w):=by
 have bj:=Qjr S.z A c;rw[QdB hS]at bj;replace bj:=fun W a=>η (bj W a)
 have cn:=fun W a=>η (Qpn D B b W a hD)
 obtain⟨s,hs⟩:=ε (w.heap.size);obtain⟨Z,hZ⟩:=ε (((w.alloc (.cells #[.int .i64 S.p,.int .i64 S.m,.slice A S.mod.length c,.int .i64 D.p,.int .i64 D.m,.slice B D.mod.length b,.slice A1 poly.length c1,.slice A2 pts.length c2] 44)).alloc (.cells #[.int .i64 0,.int .i64 0,.slice none 0 0,.pointer none,.slice none 0 0,.slice none 0 0,.int .i64 0] 154)).alloc (.cells #[.int .i64 0,.int .i64 0,.slice none 0 0,.pointer none,.slice none 0 0,.slice none 0 0,.int .i64 0] 154));have O:Hid (GP w s [.int .i64 S.p,.int .i64 S.m,.slice A S.mod.length c,.int .i64 D.p,.int .i64 D.m,.slice B D.mod.length b,.slice A1 poly.length c1,.slice A2 pts.length c2] Z.heap.size Z):=by
  rw[hZ,hs];exact η (Qqw w _ _ _)
 have hq:=bj Z ((hr.below O.out.bw).more O.out.wB);replace hZ:=η hZ;clear bj;unfold maxLen at cM cN;go_enter Tryz.func124,Tryz.ntmps124;obtain⟨a0,a1,a2,a3,a4,a5,a6,a7⟩:=O.out.G.c8;go_wp2_with fail;rw[←hZ.out];simp only[←hs];have aw:w.heap.size≤s:=Nat.le_of_eq hs.symm;replace hs:=η hs;go_wp2_with fail;(with_reducible refine hq.out.mono ?_);rintro e w1 ⟨rfl,hb⟩;clear hq a0 a1 a2 a3 a4 a5 a6 a7;replace O:=η (O.out.bm hb);clear hb;have hq:=cn w1 ((cK.below O.out.bw).more O.out.wB);obtain⟨L,hL⟩:=ε (w1.heap.size);have db:s+1+1<L:=by have:=O.out.s2;omega
 rw[←hL]at hq;replace hL:=η hL;obtain⟨a0,a1,a2,a3,a4,a5,a6,a7⟩:=O.out.G.c8;go_wp2_with fail;(with_reducible refine hq.out.mono ?_);rintro e w2 ⟨g,F,rfl,rfl,bx,hb⟩;have hg:=bx.gf;clear hq cn a0 a1 a2 a3 a4 a5 a6 a7;rw[hL.out]at hb;replace O:=η (O.out.bm hb);clear hb;obtain⟨fb,ap⟩:=ε (Qh4 S.z F.z)
 cases fb with
 |false =>
  have I:Hid (QcP S.z F.z poly pts=10):=QjE ap.symm;have hq:=η (Qwo S F A c g w2 hg ((hr.below O.out.bw).more O.out.wB) hS ap.symm);clear ap;obtain⟨a0,a1,a2,a3,a4,a5,a6,a7⟩:=O.out.G.c8;go_wp2_with fail;(with_reducible refine hq.out.mono ?_);rintro e w3 ⟨rfl,hb⟩;clear hq a0 a1 a2 a3 a4 a5 a6 a7;replace O:=η (O.out.bm hb);have bl:=η (O.out.below ((Below.refl _ w3).alloc ρ (.cells #[.int .i64 0,.int .i64 0,.slice none 0 0,.pointer none,.slice none 0 0,.slice none 0 0,.int .i64 0] 154)));clear hb;obtain⟨a0,a1,a2,a3,a4,a5,a6,a7⟩:=bl.out.G.c8;obtain⟨u0,u1,u2,u3,X,Y,u6⟩:=bl.out.R.c7;obtain⟨v0,v1,v2,v3,v4,v5,v6⟩:=bl.out.R.f7;obtain⟨z0,z1,z2,z3,z4,z5,z6⟩:=bl.out.Z.c7;have U:Hid (Below w.heap.size w (Qbh (w3.alloc (.cells #[.int .i64 0,.int .i64 0,.slice none 0 0,.pointer none,.slice none 0 0,.slice none 0 0,.int .i64 0] 154)) (s+1) 0 [.int .i64 0,.int .i64 0,.slice none 0 0,.pointer none,.slice none 0 0,.slice none 0 0,.int .i64 0])):=stAll_below (by have:=aw;omega) _ _ _ bl.out.bw;go_wp2_with fail;exact bodyPost_ret (v:=.tuple #[.agg #[.int .i64 0,.int .i64 0,.slice none 0 0,.pointer none,.slice none 0 0,.slice none 0 0,.int .i64 0],.slice none 0 0,.int .i64 10]) (by simp[results,Tryz.results124,go_sem,u0,u1,u2,u3,X,Y,u6]) rfl ⟨U.out,.inl ⟨(by rw[I.out];decide),by rw[I.out]⟩⟩
 |true =>
  obtain⟨hp,hd⟩:=Qdz.1 ap.symm;have bS:S.m∣F.m:=by
   obtain⟨d,e1,-,-,e2⟩:=QeQ hd;rw[show S.m=d by omega];exact e2
  obtain⟨rt,bC⟩:=Qlv (S:=S) (F:=F) hp bS;obtain⟨k0,aR⟩:=QrE F bS S.m1;obtain⟨n,hn⟩:∃n,F.m / S.m=n:=⟨_,rfl⟩;rw[hn]at aR;have hq:=QuG S F rt k0 n A c g w2 hg ((hr.below O.out.bw).more O.out.wB) hS hp hd bC hn aR;unfold QlQ at hq;replace hq:=η hq;replace ap:=η ap.symm;replace hp:=η hp;replace hd:=η hd;replace hn:=η hn;replace bC:=η bC;replace aR:=η aR;clear bS hS;obtain⟨a0,a1,a2,a3,a4,a5,a6,a7⟩:=O.out.G.c8;go_wp2_with fail;(with_reducible refine hq.out.mono ?_);rintro e w3 ⟨gb,Ab,cb,rfl,cF,aN,cG,cH,hb⟩;clear hq a0 a1 a2 a3 a4 a5 a6 a7;replace O:=η (O.out.bm hb);have bT:L≤w2.heap.size:=τ bx.le (Nat.le_of_lt bx.lt);have co:Qct S F rt k0 n L g gb Ab w3 w3.heap.size:=⟨bx.bm hb,τ bT cF,aN.lt,aN,RdU.of cG fun a e=>τ bT (cH a e)⟩;obtain⟨sp,aT⟩:=ε (w3.heap.size);obtain⟨w4,aS⟩:=ε (w3.alloc (.cells #[.int .i64 S.p,.int .i64 S.m,.slice A S.mod.length c,.pointer (some ⟨g,0,none⟩),.slice (some ⟨gb,0,none⟩) F.q F.q,.slice Ab n cb,.int .i64 S.m] 154));have bo:Below w3.heap.size w3 w4:=by rw[aS];exact β
  have V:Hid (GQ S F rt k0 n L A c g gb Ab cb w s sp [.int .i64 S.p,.int .i64 S.m,.slice A S.mod.length c,.int .i64 F.p,.int .i64 F.m,.slice B F.mod.length b,.slice A1 poly.length c1,.slice A2 pts.length c2] w4.heap.size w4) :=
   ⟨O.out.bm bo,by rw[aS,aT];exact Bxs.new w3 _ _,co.bm bo,by rw[aS,aT];simp⟩
  clear co cF aN cG hb hg bo O bx cH bT;have aq:=V.out;rw[aS]at aq;replace aS:=η aS;replace aq:=η aq;obtain⟨a0,a1,a2,a3,a4,a5,a6,a7⟩:=aq.out.G.c8;by_cases h1:pts.length<1∨64<pts.length
  ·have I:Hid (QcP S.z F.z poly pts=4):=QjF ap.out h1;replace aT:=η aT;rcases h1 with h1 |h1
   ·have bU:decide ((pts.length:Int)<1)=true:=decide_eq_true (by omega);clear h1;obtain⟨u0,u1,u2,u3,X,Y,u6⟩:=aq.out.R.c7;obtain⟨v0,v1,v2,v3,v4,v5,v6⟩:=aq.out.R.f7;obtain⟨z0,z1,z2,z3,z4,z5,z6⟩:=aq.out.Z.c7;have U:Hid (Below w.heap.size w (Qbh (w3.alloc (.cells #[.int .i64 S.p,.int .i64 S.m,.slice A S.mod.length c,.pointer (some ⟨g,0,none⟩),.slice (some ⟨gb,0,none⟩) F.q F.q,.slice Ab n cb,.int .i64 S.m] 154)) (s+1) 0 [.int .i64 0,.int .i64 0,.slice none 0 0,.pointer none,.slice none 0 0,.slice none 0 0,.int .i64 0])):=stAll_below (by have:=aw;omega) _ _ _ aq.out.bw;go_wp2_with fail;exact bodyPost_ret (v:=.tuple #[.agg #[.int .i64 0,.int .i64 0,.slice none 0 0,.pointer none,.slice none 0 0,.slice none 0 0,.int .i64 0],.slice none 0 0,.int .i64 4]) (by simp[results,Tryz.results124,go_sem,u0,u1,u2,u3,X,Y,u6]) rfl ⟨U.out,.inl ⟨(by rw[I.out];decide),by rw[I.out]⟩⟩
   ·have cp:decide ((pts.length:Int)<1)=false:=decide_eq_false (by omega);have bU:decide ((64:Int)<(pts.length:Int))=true:=decide_eq_true (by omega);clear h1;obtain⟨u0,u1,u2,u3,X,Y,u6⟩:=aq.out.R.c7;obtain⟨v0,v1,v2,v3,v4,v5,v6⟩:=aq.out.R.f7;obtain⟨z0,z1,z2,z3,z4,z5,z6⟩:=aq.out.Z.c7;have U:Hid (Below w.heap.size w (Qbh (w3.alloc (.cells #[.int .i64 S.p,.int .i64 S.m,.slice A S.mod.length c,.pointer (some ⟨g,0,none⟩),.slice (some ⟨gb,0,none⟩) F.q F.q,.slice Ab n cb,.int .i64 S.m] 154)) (s+1) 0 [.int .i64 0,.int .i64 0,.slice none 0 0,.pointer none,.slice none 0 0,.slice none 0 0,.int .i64 0])):=stAll_below (by have:=aw;omega) _ _ _ aq.out.bw;go_wp2_with fail;exact bodyPost_ret (v:=.tuple #[.agg #[.int .i64 0,.int .i64 0,.slice none 0 0,.pointer none,.slice none 0 0,.slice none 0 0,.int .i64 0],.slice none 0 0,.int .i64 4]) (by simp[results,Tryz.results124,go_sem,u0,u1,u2,u3,X,Y,u6]) rfl ⟨U.out,.inl ⟨(by rw[I.out];decide),by rw[I.out]⟩⟩
  have cp:decide ((pts.length:Int)<1)=false:=decide_eq_false (by omega);have bU:decide ((64:Int)<(pts.length:Int))=false:=decide_eq_false (by omega);have dc:pts.length≤64:=by omega
  have dd:1≤pts.length:=by omega
  go_wp2_with fail;rw[←aS.out];simp only[←aT];replace aT:=η aT;clear a0 a1 a2 a3 a4 a5 a6 a7 cp bU aq;obtain⟨a0,a1,a2,a3,a4,a5,a6,a7⟩:=V.out.G.c8;replace h1:=η h1;have bD:=(bQ.below V.out.bw).more V.out.wB;have aO:=(bP.below V.out.bw).more V.out.wB;have ax:=QiN F pts A2 c2 g w4 V.out.pr.gf bD (by unfold maxLen;omega);have ay:=QiN F poly A1 c1 g w4 V.out.pr.gf aO (by unfold maxLen;omega)
  cases aQ:elB F.z pts with
  |false =>
   have I:Hid (QcP S.z F.z poly pts=2):=QhU ap.out h1.out (.inl aQ);rw[aQ]at ax;replace ax:=η ax;clear aQ ay bD aO;(with_reducible refine ax.out.mono ?_);rintro e T ⟨rfl,rfl⟩;obtain⟨u0,u1,u2,u3,X,Y,u6⟩:=V.out.R.c7;obtain⟨v0,v1,v2,v3,v4,v5,v6⟩:=V.out.R.f7;obtain⟨z0,z1,z2,z3,z4,z5,z6⟩:=V.out.Z.c7;have U:Hid (Below w.heap.size w (Qbh (w4) (s+1) 0 [.int .i64 0,.int .i64 0,.slice none 0 0,.pointer none,.slice none 0 0,.slice none 0 0,.int .i64 0])):=stAll_below (by have:=aw;omega) _ _ _ V.out.bw;go_wp2_with fail;exact bodyPost_ret (v:=.tuple #[.agg #[.int .i64 0,.int .i64 0,.slice none 0 0,.pointer none,.slice none 0 0,.slice none 0 0,.int .i64 0],.slice none 0 0,.int .i64 2]) (by simp[results,Tryz.results124,go_sem,u0,u1,u2,u3,X,Y,u6]) rfl ⟨U.out,.inl ⟨(by rw[I.out];decide),by rw[I.out]⟩⟩
  |true =>
   rw[aQ]at ax;replace ax:=η ax;have cq:=η (QaJ.1 aQ)
   cases bh:elB F.z poly with
   |false =>
    have I:Hid (QcP S.z F.z poly pts=2):=QhU ap.out h1.out (.inr bh);rw[bh]at ay;replace ay:=η ay;clear bh aQ bD aO;(with_reducible refine ax.out.mono ?_);rintro e T ⟨rfl,rfl⟩;go_wp2_with fail;(with_reducible refine ay.out.mono ?_);rintro e T ⟨rfl,rfl⟩;obtain⟨u0,u1,u2,u3,X,Y,u6⟩:=V.out.R.c7;obtain⟨v0,v1,v2,v3,v4,v5,v6⟩:=V.out.R.f7;obtain⟨z0,z1,z2,z3,z4,z5,z6⟩:=V.out.Z.c7;have U:Hid (Below w.heap.size w (Qbh (w4) (s+1) 0 [.int .i64 0,.int .i64 0,.slice none 0 0,.pointer none,.slice none 0 0,.slice none 0 0,.int .i64 0])):=stAll_below (by have:=aw;omega) _ _ _ V.out.bw;go_wp2_with fail;exact bodyPost_ret (v:=.tuple #[.agg #[.int .i64 0,.int .i64 0,.slice none 0 0,.pointer none,.slice none 0 0,.slice none 0 0,.int .i64 0],.slice none 0 0,.int .i64 2]) (by simp[results,Tryz.results124,go_sem,u0,u1,u2,u3,X,Y,u6]) rfl ⟨U.out,.inl ⟨(by rw[I.out];decide),by rw[I.out]⟩⟩
   |true =>
    rw[bh]at ay;replace ay:=η ay;have h2:Hid (¬ (elB F.z pts=false∨elB F.z poly=false)):=by unfold Hid;rw[bh,aQ];simp
    clear bh aQ;have cr:=η (Qc5 F g w4 V.out.pr.gf);have de:=F.z.q256;have bV:=QfF F.q (by omega);(with_reducible refine ax.out.mono ?_);rintro e T ⟨rfl,rfl⟩;go_wp2_with fail;(with_reducible refine ay.out.mono ?_);rintro e T ⟨rfl,rfl⟩;go_wp2_with fail;(with_reducible refine cr.out.mono ?_);rintro e T ⟨rfl,rfl⟩;clear ay ax cr;obtain⟨gs,bb⟩:=ε (w4.heap.size);have bq:gs≤w4.heap.size:=Nat.le_of_eq bb;have aU:w4.heap.size≤gs:=Nat.le_of_eq bb.symm;have cs:Hid (BB (w4.alloc (.cells (Array.replicate F.q (Value.bool false)) 4)) gs F.q (fun i=>decide ((i:Int)∈pts.take 0))):=by rw[show (fun i:Nat=>decide ((i:Int)∈pts.take 0))=fun _=>false from funext fun i=>by simp,bb];exact η (BB.newz w4 F.q)
    have bW:Below gs w4 (w4.alloc (.cells (Array.replicate F.q (Value.bool false)) 4)):=κ.alloc bq _;have ct:gs<(w4.alloc (.cells (Array.replicate F.q (Value.bool false)) 4)).heap.size:=by rw[World.size_alloc];exact Nat.lt_succ_of_le bq
    have bE:=η (V.out.more aU);have cO:=(bQ.below V.out.bw).more (τ V.out.wB aU);obtain⟨y0,y1,y2,y3,y4,y5,y6,y7⟩:=(bE.out.below bW).G.c8;go_wp2_with fail;simp only[←bb];replace bb:=η bb;clear a0 a1 a2 a3 a4 a5 a6 a7 y0 y1 y2 y3 y4 y5 y6 y7 bD aO;go_loopw [78,13] (fun i _ wr=>∃k:Nat,k≤pts.length∧i=.int .i64 k∧(pts.take k).Nodup∧Hid (BB wr gs F.q (fun i=>decide ((i:Int)∈pts.take k)))∧Below gs w4 wr∧gs<wr.heap.size) (fun i _ _=>pts.length - (intOf i).toNat)
    case atStart=>exact⟨0,by omega,rfl,by simp,cs,bW,ct⟩
    case round =>
     obtain⟨k,hk,rfl,bg,bM,aL,cd⟩:=hrel;obtain⟨T,rfl⟩:=ε (wr:World);clear cs bW ct bV;by_cases av:k<pts.length
     ·obtain⟨ba,oa,rfl,cg,bv⟩:=cO.at_ av;have bF:=(aL.cell (p:=⟨ba,oa+k,none⟩) cg).trans bv;obtain⟨xn,bc⟩:∃xn:Nat,pts[k]?.getD 0=(xn:Int):=⟨(pts[k]?.getD 0).toNat,by have:=cq.out k av;omega⟩;have cP:xn<F.q:=by have:=cq.out k av;omega
      rw[bc]at bF;have cu:=bM.out.cell cP;have hf:=bM.out.frozen xn;have df:(0:Int)≤(xn:Int):=by omega
      have dg:(xn:Int)<(F.q:Int):=by omega
      have aR:(0:Int)≤(k:Int):=by omega
      have cQ:(k:Int)<(pts.length:Int):=by omega
      replace bc:=η bc;clear bv;by_cases hd:(xn:Int)∈pts.take k
      ·rw[decide_eq_true hd]at cu;have be:twB pts=true:=by unfold twB;exact decide_eq_true (QdD av (by rw[bc.out];exact hd))
       have I:Hid (QcP S.z F.z poly pts=18):=QlR ap.out h1.out h2.out be;clear hd bg be;have J:=η (bE.out.below aL);obtain⟨u0,u1,u2,u3,X,Y,u6⟩:=J.out.R.c7;obtain⟨v0,v1,v2,v3,v4,v5,v6⟩:=J.out.R.f7;obtain⟨z0,z1,z2,z3,z4,z5,z6⟩:=J.out.Z.c7;have U:Hid (Below w.heap.size w (Qbh (T) (s+1) 0 [.int .i64 0,.int .i64 0,.slice none 0 0,.pointer none,.slice none 0 0,.slice none 0 0,.int .i64 0])):=stAll_below (by have:=aw;omega) _ _ _ J.out.bw;go_wp2_with fail;exact bodyPost_ret (v:=.tuple #[.agg #[.int .i64 0,.int .i64 0,.slice none 0 0,.pointer none,.slice none 0 0,.slice none 0 0,.int .i64 0],.slice none 0 0,.int .i64 18]) (by simp[results,Tryz.results124,go_sem,u0,u1,u2,u3,X,Y,u6]) rfl ⟨U.out,.inl ⟨(by rw[I.out];decide),by rw[I.out]⟩⟩
      ·rw[decide_eq_false hd]at cu;have cv:=η (bM.out.set_ xn true);rw[QhK av bc.out]at cv;have cR:=η (Qdi av bg (by rw[bc.out];exact hd));have cS:Below gs w4 (T.setCell ⟨gs,xn,none⟩ (.bool true)):=aL.setCell (p:=⟨gs,xn,none⟩) ρ _;have cT:gs<(T.setCell ⟨gs,xn,none⟩ (.bool true)).heap.size:=θ cd (QbB _ _ _).size;clear hd bg;go_wp2_with fail;go_roundw
       case rel=>exact⟨k+1,by omega,by go_num,cR.out,cv,cS,cT⟩
       case measure=>simp[intOf];omega
     ·obtain rfl:k=pts.length:=by omega
      rw[List.take_length]at bg;have be:Hid (twB pts=false):=by unfold Hid twB;exact decide_eq_false (fun h=>h bg)
      have J:=η ((bE.out.below aL).more (Nat.le_of_lt cd));clear bg bM bE aL V bq aU;obtain⟨a0,a1,a2,a3,a4,a5,a6,a7⟩:=J.out.G.c8;by_cases h4:poly.length<2∨65<poly.length∨poly[poly.length - 1]?.getD 0=0
      ·have I:Hid (QcP S.z F.z poly pts=5):=QhV ap.out h1.out h2.out be.out h4;by_cases h5:poly.length<2
       ·have bs:decide ((poly.length:Int) - 1<1)=true:=decide_eq_true (by omega);clear h4 h5;obtain⟨u0,u1,u2,u3,X,Y,u6⟩:=J.out.R.c7;obtain⟨v0,v1,v2,v3,v4,v5,v6⟩:=J.out.R.f7;obtain⟨z0,z1,z2,z3,z4,z5,z6⟩:=J.out.Z.c7;have U:Hid (Below w.heap.size w (Qbh (T) (s+1) 0 [.int .i64 0,.int .i64 0,.slice none 0 0,.pointer none,.slice none 0 0,.slice none 0 0,.int .i64 0])):=stAll_below (by have:=aw;omega) _ _ _ J.out.bw;go_wp2_with fail;exact bodyPost_ret (v:=.tuple #[.agg #[.int .i64 0,.int .i64 0,.slice none 0 0,.pointer none,.slice none 0 0,.slice none 0 0,.int .i64 0],.slice none 0 0,.int .i64 5]) (by simp[results,Tryz.results124,go_sem,u0,u1,u2,u3,X,Y,u6]) rfl ⟨U.out,.inl ⟨(by rw[I.out];decide),by rw[I.out]⟩⟩
       ·have bs:decide ((poly.length:Int) - 1<1)=false:=decide_eq_false (by omega);by_cases h6:65<poly.length
        ·have bt:decide ((64:Int)<(poly.length:Int) - 1)=true:=decide_eq_true (by omega);clear h4 h5 h6;obtain⟨u0,u1,u2,u3,X,Y,u6⟩:=J.out.R.c7;obtain⟨v0,v1,v2,v3,v4,v5,v6⟩:=J.out.R.f7;obtain⟨z0,z1,z2,z3,z4,z5,z6⟩:=J.out.Z.c7;have U:Hid (Below w.heap.size w (Qbh (T) (s+1) 0 [.int .i64 0,.int .i64 0,.slice none 0 0,.pointer none,.slice none 0 0,.slice none 0 0,.int .i64 0])):=stAll_below (by have:=aw;omega) _ _ _ J.out.bw;go_wp2_with fail;exact bodyPost_ret (v:=.tuple #[.agg #[.int .i64 0,.int .i64 0,.slice none 0 0,.pointer none,.slice none 0 0,.slice none 0 0,.int .i64 0],.slice none 0 0,.int .i64 5]) (by simp[results,Tryz.results124,go_sem,u0,u1,u2,u3,X,Y,u6]) rfl ⟨U.out,.inl ⟨(by rw[I.out];decide),by rw[I.out]⟩⟩
        ·have bt:decide ((64:Int)<(poly.length:Int) - 1)=false:=decide_eq_false (by omega);have h7:poly[poly.length - 1]?.getD 0=0:=by omega
         obtain⟨tn,aV⟩:=ε (poly.length - 1:Nat);obtain⟨bp,op,rfl,da,bN⟩:=((bP.below J.out.bw).more J.out.wB).at_ (k:=tn) (by omega);rw[←aV]at h7;rw[h7]at bN;have bG:((poly.length:Int) - 1)=(tn:Int):=by omega
         rw[bG]at bs bt;have cw:(0:Int)≤(tn:Int):=by omega
         have cx:(tn:Int)<(poly.length:Int):=by omega
         replace aV:=η aV;clear h4 h5 h6 h7;obtain⟨u0,u1,u2,u3,X,Y,u6⟩:=J.out.R.c7;obtain⟨v0,v1,v2,v3,v4,v5,v6⟩:=J.out.R.f7;obtain⟨z0,z1,z2,z3,z4,z5,z6⟩:=J.out.Z.c7;have U:Hid (Below w.heap.size w (Qbh (T) (s+1) 0 [.int .i64 0,.int .i64 0,.slice none 0 0,.pointer none,.slice none 0 0,.slice none 0 0,.int .i64 0])):=stAll_below (by have:=aw;omega) _ _ _ J.out.bw;go_wp2_with fail;exact bodyPost_ret (v:=.tuple #[.agg #[.int .i64 0,.int .i64 0,.slice none 0 0,.pointer none,.slice none 0 0,.slice none 0 0,.int .i64 0],.slice none 0 0,.int .i64 5]) (by simp[results,Tryz.results124,go_sem,u0,u1,u2,u3,X,Y,u6]) rfl ⟨U.out,.inl ⟨(by rw[I.out];decide),by rw[I.out]⟩⟩
      ·have bs:decide ((poly.length:Int) - 1<1)=false:=decide_eq_false (by omega);have bt:decide ((64:Int)<(poly.length:Int) - 1)=false:=decide_eq_false (by omega);obtain⟨tn,aV⟩:=ε (poly.length - 1:Nat);have aO:=((bP.below J.out.bw).more J.out.wB);obtain⟨bp,op,rfl,da,bN⟩:=aO.at_ (k:=tn) (by omega);obtain⟨z,hz⟩:=ε (poly[tn]?.getD 0);have cU:(z==0)=false:=by rw[beq_eq_false_iff_ne,hz,aV];exact fun e=>h4 (.inr (.inr e))
       rw[←hz]at bN;have bG:((poly.length:Int) - 1)=(tn:Int):=by omega
       rw[bG]at bs bt;have cw:(0:Int)≤(tn:Int):=by omega
       have cx:(tn:Int)<(poly.length:Int):=by omega
       have dh:poly.length≤65:=by omega
       replace aV:=η aV;replace hz:=η hz;replace h4:=η h4;have bV:=QaC pts.length (by omega);obtain⟨gv,bf⟩:=ε (T.heap.size);have bq:gv≤T.heap.size:=Nat.le_of_eq bf;have aU:T.heap.size≤gv:=Nat.le_of_eq bf.symm;obtain⟨f,hf⟩:=ε (fun i=>ci (QaW F.z poly (eli F.z (pts[i]?.getD 0))):Nat→Int)
       have cy:Hid (IB (T.alloc (.cells (Array.replicate pts.length (Value.int .i64 0)) 3)) gv (upd pts.length 0 f)):=by rw[QaP,bf];exact η (IB.newz T _)
       have bY:Below gv T (T.alloc (.cells (Array.replicate pts.length (Value.int .i64 0)) 3)):=κ.alloc bq _;have bZ:=η (J.out.more aU);have cV:=fun x W h1 h2=>η (QdL F poly x (some ⟨bp,op,none⟩) c1 g W h1 h2 (by unfold maxLen;omega))
       have cW:=(bQ.below J.out.bw).more (τ J.out.wB aU);have cX:=aO.more aU;obtain⟨y0,y1,y2,y3,y4,y5,y6,y7⟩:=(bZ.out.below bY).G.c8;go_wp2_with fail;simp only[←bf];replace bf:=η bf;clear a0 a1 a2 a3 a4 a5 a6 a7 y0 y1 y2 y3 y4 y5 y6 y7 J bN bG cw cx bs bt cU aO cd;go_loopw [117,16,17] (fun i _ _ wr=>∃k:Nat,k≤pts.length∧i=.int .i64 k∧Hid (∀j,j<k→f j≠0)∧Hid (IB wr gv (upd pts.length k f))∧Below gv T wr) (fun i _ _ _=>pts.length - (intOf i).toNat)
       case atStart=>exact⟨0,by omega,rfl,fun j hj=>absurd hj (by omega),cy,bY⟩
       case round =>
        clear cy bY bV;obtain⟨w6,rfl⟩:=ε (wr:World);obtain⟨k,hk,rfl,ch,aN,aL⟩:=hrel;have bu:=aN.out.lt;have aP:=η (bZ.out.below aL);by_cases av:k<pts.length
        ·obtain⟨ba,oa,rfl,cg,bv⟩:=cW.at_ av;have bF:=(aL.cell (p:=⟨ba,oa+k,none⟩) cg).trans bv;have aR:(0:Int)≤(k:Int):=by omega
         have cQ:(k:Int)<(pts.length:Int):=by omega
         obtain⟨x,hx⟩:=ε (pts[k]?.getD 0);rw[←hx]at bF;have hq:=cV x w6 (aP.out.pr.gf.more (Nat.le_of_lt bu)) ((cX.below aL).more (Nat.le_of_lt bu));obtain⟨y,hy⟩:=ε (f k);have b0:ci (QaW F.z poly (eli F.z x))=y:=by rw[hy,hf,hx]
         rw[b0]at hq;clear bv;replace hx:=η hx;replace b0:=η b0;obtain⟨a0,a1,a2,a3,a4,a5,a6,a7⟩:=aP.out.G.c8;go_wp2_with fail;(with_reducible refine hq.out.mono ?_);rintro e w7 ⟨rfl,hb⟩;clear a0 a1 a2 a3 a4 a5 a6 a7 bF hq;have b1:=aN.out.below hb bu;have di:=b1.cell (i:=k) (by rw[Qaz];exact av);have dj:=b1.frozen k;have bI:=b1.set_ k y;rw[hy,QaY,←hy]at bI;replace bI:=η bI;have cY:=aL.trans (hb.mono (Nat.le_of_lt bu));have cz:Below gv T (w7.setCell ⟨gv,k,none⟩ (.int .i64 y)):=cY.setCell (p:=⟨gv,k,none⟩) ρ _;have bJ:=η (bZ.out.below cz);by_cases bi:y=0
         ·have cZ:(y==0)=true:=by rw[beq_iff_eq];exact bi
          have hm:(0:Int)∈QfW F.z poly pts:=by
           have h9:(QfW F.z poly pts)[k]?.getD 0=y:=by rw[hy,hf];exact Qas _ av
           rw[←bi,←h9];exact Qcm (by unfold QfW;rw[Qab];exact av)
          have I:Hid (QcP S.z F.z poly pts=7):=QhW ap.out h1.out h2.out be.out h4.out hm;clear hm hy bi;obtain⟨u0,u1,u2,u3,X,Y,u6⟩:=bJ.out.R.c7;obtain⟨v0,v1,v2,v3,v4,v5,v6⟩:=bJ.out.R.f7;obtain⟨z0,z1,z2,z3,z4,z5,z6⟩:=bJ.out.Z.c7;have U:Hid (Below w.heap.size w (Qbh (w7.setCell ⟨gv,k,none⟩ (.int .i64 y)) (s+1) 0 [.int .i64 0,.int .i64 0,.slice none 0 0,.pointer none,.slice none 0 0,.slice none 0 0,.int .i64 0])):=stAll_below (by have:=aw;omega) _ _ _ bJ.out.bw;go_wp2_with fail;exact bodyPost_ret (v:=.tuple #[.agg #[.int .i64 0,.int .i64 0,.slice none 0 0,.pointer none,.slice none 0 0,.slice none 0 0,.int .i64 0],.slice none 0 0,.int .i64 7]) (by simp[results,Tryz.results124,go_sem,u0,u1,u2,u3,X,Y,u6]) rfl ⟨U.out,.inl ⟨(by rw[I.out];decide),by rw[I.out]⟩⟩
         ·have cZ:(y==0)=false:=by rw[beq_eq_false_iff_ne];exact bi
          have c3:Hid (∀j,j<k+1→f j≠0):=fun j hj=>by
           by_cases e:j=k
           ·subst e;rw[←hy];exact bi
           ·exact ch.out j (by omega)
          clear hy bi;go_wp2_with fail;go_roundw
          case rel=>exact⟨k+1,by omega,by go_num,c3,bI,cz⟩
          case measure=>simp[intOf];omega
        ·obtain rfl:k=pts.length:=by omega
         rw[QaR]at aN;have cA:¬ (0:Int)∈QfW F.z poly pts:=fun hm=>by
          obtain⟨j,hj,e⟩:=List.getElem_of_mem hm;have cB:j<pts.length:=by unfold QfW at hj;rw[Qab]at hj;exact hj
          have h9:(QfW F.z poly pts)[j]?.getD 0=f j:=by rw[hf];exact Qas _ cB
          rw[List.getElem?_eq_getElem hj]at h9;exact ch.out j cB (h9.symm.trans e)
         have I:Hid (QcP S.z F.z poly pts=0):=QlS ap.out h1.out h2.out be.out h4.out cA;have c4:Hid (IB w6 gv (QfW F.z poly pts)):=by
          have:QfW F.z poly pts=lst pts.length f:=by rw[hf];rfl
          rw[this];exact aN
         clear cA aN ch;obtain⟨u0,u1,u2,u3,X,Y,u6⟩:=aP.out.R.c7;obtain⟨v0,v1,v2,v3,v4,v5,v6⟩:=aP.out.R.f7;obtain⟨z0,z1,z2,z3,z4,z5,z6⟩:=aP.out.P.c7;have U:Hid (Qqx S F.z A c poly pts w (.returned (.tuple #[.agg #[.int .i64 S.p,.int .i64 S.m,.slice A S.mod.length c,.pointer (some ⟨g,0,none⟩),.slice (some ⟨gb,0,none⟩) F.q F.q,.slice Ab n cb,.int .i64 S.m],.slice (some ⟨gv,0,none⟩) pts.length pts.length,.int .i64 0])) (Qbh w6 (s+1) 0 [.int .i64 S.p,.int .i64 S.m,.slice A S.mod.length c,.pointer (some ⟨g,0,none⟩),.slice (some ⟨gb,0,none⟩) F.q F.q,.slice Ab n cb,.int .i64 S.m])):=by
          have cC:(Qbh w6 (s+1) 0 [.int .i64 S.p,.int .i64 S.m,.slice A S.mod.length c,.pointer (some ⟨g,0,none⟩),.slice (some ⟨gb,0,none⟩) F.q F.q,.slice Ab n cb,.int .i64 S.m]).heap.size=w6.heap.size:=Qbv _ _ _;have c5:w.heap.size≤L:=by omega
          refine⟨stAll_below (by omega) _ _ _ aP.out.bw,.inr ⟨I.out,F,rt,k0,n,g,gb,Ab,cb,gv,rfl,bC.out,aR.out,hn.out,rfl,?_,?_⟩⟩
          ·rw[cC];exact (((aP.out.pr).farS (by omega) _).low c5).more (Nat.le_of_lt bu)
          ·rw[cC];exact c4.out.rd.farS (fun a e=>by cases e;have:=aP.out.s2;dsimp only;omega) _ 0
         go_wp2_with fail;exact bodyPost_ret (v:=.tuple #[.agg #[.int .i64 S.p,.int .i64 S.m,.slice A S.mod.length c,.pointer (some ⟨g,0,none⟩),.slice (some ⟨gb,0,none⟩) F.q F.q,.slice Ab n cb,.int .i64 S.m],.slice (some ⟨gv,0,none⟩) pts.length pts.length,.int .i64 0]) (by simp[results,Tryz.results124,go_sem,u0,u1,u2,u3,X,Y,u6]) rfl U.out
end Go.Proofs

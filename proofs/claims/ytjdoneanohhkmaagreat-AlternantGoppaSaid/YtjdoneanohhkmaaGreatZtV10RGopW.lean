/- The program's goppa: the fields, and the values at the points, of a Goppa description. -/
import Derived.BigQuiet
import Derived.Test.YtjdoneanohhkmaaGreatZtV10RLA
import Derived.Test.YtjdoneanohhkmaaGreatZtV10RMH
import Derived.Test.YtjdoneanohhkmaaGreatZtV10RGopP
import Derived.Test.YtjdoneanohhkmaaGreatZtV10RGrsH
import Derived.Test.YtjdoneanohhkmaaGreatZtV10RGaoL
import Derived.Test.YtjdoneanohhkmaaGreatZtV10RNewL
import Derived.Test.YtjdoneanohhkmaaGreatZtV10RGrsU
import Derived.Test.YtjdoneanohhkmaaGreatZtV10RMI
namespace Go.Proofs.YtjdoneanohhkmaaGreat
open Go.RowKit Cw
attribute [local go_sem] Oper.semAt_some

def PairAt (S F:FD)(rt k0 n L g gb:Nat)(Ab:Option Addr)(w:World)(B:Nat):Prop:=GFU w L B g F∧L≤gb∧gb<B∧IB w gb (backL S F (rel F.toDesc rt))∧RdU w L B Ab (frobs S.m (eli F.toDesc k0) n)
section
variable {S F:FD} {rt k0 n L L' g gb:Nat} {Ab:Option Addr} {w w':World} {B B':Nat}
theorem PairAt.below (h:PairAt S F rt k0 n L g gb Ab w B)(hb:Below B w w'):PairAt S F rt k0 n L g gb Ab w' B:=⟨h.1.below hb,h.2.1,h.2.2.1,h.2.2.2.1.below hb h.2.2.1,h.2.2.2.2.keepU fun _ _ hp=>hb.cell hp⟩
theorem PairAt.more (h:PairAt S F rt k0 n L g gb Ab w B)(hB:B≤B'):PairAt S F rt k0 n L g gb Ab w B':=⟨h.1.more hB,h.2.1,Nat.lt_of_lt_of_le h.2.2.1 hB,h.2.2.2.1,h.2.2.2.2.more hB⟩
theorem PairAt.low (h:PairAt S F rt k0 n L g gb Ab w B)(hL:L'≤L):PairAt S F rt k0 n L' g gb Ab w B:=⟨h.1.low hL,Nat.le_trans hL h.2.1,h.2.2.1,h.2.2.2.1,h.2.2.2.2.low hL⟩
theorem PairAt.farS (h:PairAt S F rt k0 n L g gb Ab w B){b:Nat} (hb:b<L)(us:List Value):PairAt S F rt k0 n L g gb Ab (stAll w b 0 us) B:=by
 have hk:∀ p:Addr,L≤p.block→p.block<B→(stAll w b 0 us).cell? p=w.cell? p:=fun p hp _=>stAll_cell (by omega) us 0 w
 refine⟨h.1.keepU hk,h.2.1,h.2.2.1,?_,h.2.2.2.2.keepU hk⟩;exact (stAll_IB (by have:=h.2.1; omega) us 0 w).trans h.2.2.2.1
theorem PairAt.gf (h:PairAt S F rt k0 n L g gb Ab w B):GF w B g F:=h.1.gf
end
structure GP (w:World) (s:Nat) (G:List Value) (B:Nat) (W:World):Prop where
 G:Bxs W s G
 R:Bxs W (s+1) [.int .i64 0,.int .i64 0,.slice none 0 0,.pointer none,.slice none 0 0,.slice none 0 0,.int .i64 0]
 Z:Bxs W (s+1+1) [.int .i64 0,.int .i64 0,.slice none 0 0,.pointer none,.slice none 0 0,.slice none 0 0,.int .i64 0]
 s2:s+1+1<B
 wB:w.heap.size≤B
 bw:Below w.heap.size w W
theorem gp_new (w:World)(G:List Value)(t1 t2:TypeId):GP w w.heap.size G (((w.alloc (.cells G.toArray t1)).alloc (.cells #[.int .i64 0,.int .i64 0,.slice none 0 0,.pointer none,.slice none 0 0,.slice none 0 0,.int .i64 0] t2)).alloc (.cells #[.int .i64 0,.int .i64 0,.slice none 0 0,.pointer none,.slice none 0 0,.slice none 0 0,.int .i64 0] t2)).heap.size (((w.alloc (.cells G.toArray t1)).alloc (.cells #[.int .i64 0,.int .i64 0,.slice none 0 0,.pointer none,.slice none 0 0,.slice none 0 0,.int .i64 0] t2)).alloc (.cells #[.int .i64 0,.int .i64 0,.slice none 0 0,.pointer none,.slice none 0 0,.slice none 0 0,.int .i64 0] t2)) where
 G:=((Bxs.new w G t1).keep ((Below.refl _ _).alloc (Nat.le_refl _) _) (by simp)).keep ((Below.refl _ _).alloc (Nat.le_refl _) _) (by simp; omega)
 R:=by
  have h:=Bxs.new (w.alloc (.cells G.toArray t1)) [.int .i64 0,.int .i64 0,.slice none 0 0,.pointer none,.slice none 0 0,.slice none 0 0,.int .i64 0] t2;rw[World.size_alloc]at h;exact h.keep ((Below.refl _ _).alloc (Nat.le_refl _) _) (by simp)
 Z:=by
  have h:=Bxs.new ((w.alloc (.cells G.toArray t1)).alloc (.cells #[.int .i64 0,.int .i64 0,.slice none 0 0,.pointer none,.slice none 0 0,.slice none 0 0,.int .i64 0] t2)) [.int .i64 0,.int .i64 0,.slice none 0 0,.pointer none,.slice none 0 0,.slice none 0 0,.int .i64 0] t2;rw[World.size_alloc,World.size_alloc]at h;exact h
 s2:=by simp
 wB:=by simp; omega
 bw:=(((Below.refl _ _).alloc (Nat.le_refl _) _).alloc (by simp) _).alloc (by simp; omega) _
theorem GP.below {w:World} {s B:Nat} {G:List Value} {W W':World} (h:GP w s G B W)(hb:Below B W W'):GP w s G B W' :=
 ⟨h.G.keep hb (by have:=h.s2; omega),h.R.keep hb (by have:=h.s2; omega),h.Z.keep hb h.s2,h.s2,h.wB,h.bw.trans (hb.mono h.wB)⟩
theorem GP.more {w:World} {s B B':Nat} {G:List Value} {W:World} (h:GP w s G B W)(hB:B≤B'):GP w s G B' W:=⟨h.G,h.R,h.Z,Nat.lt_of_lt_of_le h.s2 hB,Nat.le_trans h.wB hB,h.bw⟩
structure GQ (S F:FD) (rt k0 n L:Nat) (A:Option Addr) (c g gb:Nat) (Ab:Option Addr) (cb:Nat) (w:World) (s sp:Nat) (G:List Value) (B:Nat) (W:World):Prop extends GP w s G B W where
 P:Bxs W sp [.int .i64 S.p,.int .i64 S.m,.slice A S.mod.length c,.pointer (some ⟨g,0,none⟩),.slice (some ⟨gb,0,none⟩) F.q F.q,.slice Ab n cb,.int .i64 S.m]
 pr:PairAt S F rt k0 n L g gb Ab W B
 sp:sp<B
section
variable {S F:FD} {rt k0 n L:Nat} {A:Option Addr} {c g gb:Nat} {Ab:Option Addr} {cb:Nat} {w:World} {s sp:Nat} {G:List Value} {B B':Nat} {W W':World}
theorem GQ.below (h:GQ S F rt k0 n L A c g gb Ab cb w s sp G B W)(hb:Below B W W'):GQ S F rt k0 n L A c g gb Ab cb w s sp G B W' :=
 ⟨h.toGP.below hb,h.P.keep hb h.sp,h.pr.below hb,h.sp⟩
theorem GQ.more (h:GQ S F rt k0 n L A c g gb Ab cb w s sp G B W)(hB:B≤B'):GQ S F rt k0 n L A c g gb Ab cb w s sp G B' W :=
 ⟨h.toGP.more hB,h.P,h.pr.more hB,Nat.lt_of_lt_of_le h.sp hB⟩
end
def GopPost (S:FD)(D:Desc)(A:Option Addr)(c:Nat)(poly pts:List Int)(w:World)(e:Ending)(w':World):Prop :=
 Below w.heap.size w w'∧((gopD S.toDesc D poly pts≠0∧e=.returned (.tuple #[.agg #[.int .i64 0,.int .i64 0,.slice none 0 0,.pointer none,.slice none 0 0,.slice none 0 0,.int .i64 0],.slice none 0 0,.int .i64 (gopD S.toDesc D poly pts)])) ∨
  (gopD S.toDesc D poly pts=0∧∃ (F:FD) (rt k0 n g gb:Nat) (Ab:Option Addr) (cb gv:Nat),F.toDesc=D∧IsRt S F rt∧IsNrm F S.m n k0∧F.m / S.m=n∧e=.returned (.tuple #[.agg #[.int .i64 S.p,.int .i64 S.m,.slice A S.mod.length c,.pointer (some ⟨g,0,none⟩),.slice (some ⟨gb,0,none⟩) F.q F.q,.slice Ab n cb,.int .i64 S.m],.slice (some ⟨gv,0,none⟩) pts.length pts.length,.int .i64 0])∧PairAt S F rt k0 n w.heap.size g gb Ab w' w'.heap.size∧Rd w' w'.heap.size (some ⟨gv,0,none⟩) (valL F.toDesc poly pts)))
set_option maxRecDepth 100000 in
set_option maxHeartbeats 16000000 in
theorem goppa_D (S:FD)(D:Desc)(poly pts:List Int)(A B A1 A2:Option Addr)(c b c1 c2:Nat)(w:World)(hr:Rd w w.heap.size A (modL S.toDesc))(hrB:Rd w w.heap.size B (modL D))(hS:Good S.p S.m (modL S.toDesc))(hD:Good D.p D.m (modL D))(hr1:Rd w w.heap.size A1 poly)(hr2:Rd w w.heap.size A2 pts)(hl1:poly.length≤maxLen)(hl2:pts.length≤maxLen) :
  Calls Tryz.prog 89 #[.agg #[.int .i64 S.p,.int .i64 S.m,.slice A S.mod.length c,.int .i64 D.p,.int .i64 D.m,.slice B D.mod.length b,.slice A1 poly.length c1,.slice A2 pts.length c2]] w (GopPost S D A c poly pts w):=by
 have hCk:=fCheck_D S.toDesc A c;rw[chk_yes hS]at hCk;replace hCk:=fun W a=>Lib.hid (hCk W a)
 have hNw:=fun W a=>Lib.hid (New_low D B b W a hD)
 obtain⟨s,hs⟩:∃ s,s=w.heap.size:=⟨_,rfl⟩;obtain⟨Z,hZ⟩:∃ Z,Z=((w.alloc (.cells #[.int .i64 S.p,.int .i64 S.m,.slice A S.mod.length c,.int .i64 D.p,.int .i64 D.m,.slice B D.mod.length b,.slice A1 poly.length c1,.slice A2 pts.length c2] 44)).alloc (.cells #[.int .i64 0,.int .i64 0,.slice none 0 0,.pointer none,.slice none 0 0,.slice none 0 0,.int .i64 0] 130)).alloc (.cells #[.int .i64 0,.int .i64 0,.slice none 0 0,.pointer none,.slice none 0 0,.slice none 0 0,.int .i64 0] 130):=⟨_,rfl⟩;have hgp:Hid (GP w s [.int .i64 S.p,.int .i64 S.m,.slice A S.mod.length c,.int .i64 D.p,.int .i64 D.m,.slice B D.mod.length b,.slice A1 poly.length c1,.slice A2 pts.length c2] Z.heap.size Z):=by
  rw[hZ,hs];exact Lib.hid (gp_new w _ _ _)
 have hq:=hCk Z ((hr.below hgp.out.bw).more hgp.out.wB);replace hZ:=Lib.hid hZ;clear hCk;unfold maxLen at hl1 hl2;go_enter Tryz.func89,Tryz.ntmps89;obtain⟨a0,a1,a2,a3,a4,a5,a6,a7⟩:=hgp.out.G.c8;go_wp2_with (fail);rw[←hZ.out];simp only[←hs];have hsw:w.heap.size≤s:=Nat.le_of_eq hs.symm;replace hs:=Lib.hid hs;go_wp2_with (fail);(with_reducible refine hq.out.mono ?_);rintro e w1 ⟨rfl,hb⟩;clear hq a0 a1 a2 a3 a4 a5 a6 a7;replace hgp:=Lib.hid ((hgp.out.below hb).more hb.size);clear hb;have hq:=hNw w1 ((hrB.below hgp.out.bw).more hgp.out.wB);obtain⟨L,hL⟩:∃ L,L=w1.heap.size:=⟨_,rfl⟩;have hLs:s+1+1<L:=by have:=hgp.out.s2; omega
 rw[←hL]at hq;replace hL:=Lib.hid hL;obtain⟨a0,a1,a2,a3,a4,a5,a6,a7⟩:=hgp.out.G.c8;go_wp2_with (fail);(with_reducible refine hq.out.mono ?_);rintro e w2 ⟨g,F,rfl,rfl,hgu,hb⟩;have hg:=hgu.gf;clear hq hNw a0 a1 a2 a3 a4 a5 a6 a7;rw[hL.out]at hb;replace hgp:=Lib.hid ((hgp.out.below hb).more hb.size);clear hb;obtain⟨fb,hfb⟩:∃ fb,fb=fitB S.toDesc F.toDesc:=⟨_,rfl⟩
 cases fb with
 | false =>
  have hE:Hid (gopD S.toDesc F.toDesc poly pts=10):=gopD_fit hfb.symm;have hq:=Lib.hid (fit_no S F A c g w2 hg ((hr.below hgp.out.bw).more hgp.out.wB) hS hfb.symm);clear hfb;obtain⟨a0,a1,a2,a3,a4,a5,a6,a7⟩:=hgp.out.G.c8;go_wp2_with (fail);(with_reducible refine hq.out.mono ?_);rintro e w3 ⟨rfl,hb⟩;clear hq a0 a1 a2 a3 a4 a5 a6 a7;replace hgp:=Lib.hid ((hgp.out.below hb).more hb.size);have hgp4:=Lib.hid (hgp.out.below ((Below.refl _ w3).alloc (Nat.le_refl _) (.cells #[.int .i64 0,.int .i64 0,.slice none 0 0,.pointer none,.slice none 0 0,.slice none 0 0,.int .i64 0] 130)));clear hb;obtain⟨a0,a1,a2,a3,a4,a5,a6,a7⟩:=hgp4.out.G.c8;obtain⟨u0,u1,u2,u3,u4,u5,u6⟩:=hgp4.out.R.c7;obtain⟨v0,v1,v2,v3,v4,v5,v6⟩:=hgp4.out.R.f7;obtain⟨z0,z1,z2,z3,z4,z5,z6⟩:=hgp4.out.Z.c7;have hfin:Hid (Below w.heap.size w (stAll (w3.alloc (.cells #[.int .i64 0,.int .i64 0,.slice none 0 0,.pointer none,.slice none 0 0,.slice none 0 0,.int .i64 0] 130)) (s+1) 0 [.int .i64 0,.int .i64 0,.slice none 0 0,.pointer none,.slice none 0 0,.slice none 0 0,.int .i64 0])):=stAll_below (by have:=hsw; omega) _ _ _ hgp4.out.bw;go_wp2_with (fail);exact bodyPost_ret (v:=.tuple #[.agg #[.int .i64 0,.int .i64 0,.slice none 0 0,.pointer none,.slice none 0 0,.slice none 0 0,.int .i64 0],.slice none 0 0,.int .i64 10]) (by simp[results,Tryz.results89,go_sem,u0,u1,u2,u3,u4,u5,u6]) rfl ⟨hfin.out,.inl ⟨(by rw[hE.out]; decide),by rw[hE.out]⟩⟩
 | true =>
  obtain⟨hp,hd⟩:=fitB_iff.1 hfb.symm;have hdv:S.m∣F.m:=by
   obtain⟨d,e1,-,-,e2⟩:=divB_nat hd;rw[show S.m=d by omega]; exact e2
  obtain⟨rt,hrt⟩:=isRt_ex (S:=S) (F:=F) hp hdv;obtain⟨k0,hk0⟩:=isNrm_ex F hdv S.m1;obtain⟨n,hn⟩:∃ n,F.m / S.m=n:=⟨_,rfl⟩;rw[hn]at hk0;have hq:=fit_yes S F rt k0 n A c g w2 hg ((hr.below hgp.out.bw).more hgp.out.wB) hS hp hd hrt hn hk0;unfold FitPost at hq;replace hq:=Lib.hid hq;replace hfb:=Lib.hid hfb.symm;replace hp:=Lib.hid hp;replace hd:=Lib.hid hd;replace hn:=Lib.hid hn;replace hrt:=Lib.hid hrt;replace hk0:=Lib.hid hk0;clear hdv hS;obtain⟨a0,a1,a2,a3,a4,a5,a6,a7⟩:=hgp.out.G.c8;go_wp2_with (fail);(with_reducible refine hq.out.mono ?_);rintro e w3 ⟨gb,Ab,cb,rfl,hgb,hib,hrb,hAb,hb⟩;clear hq a0 a1 a2 a3 a4 a5 a6 a7;replace hgp:=Lib.hid ((hgp.out.below hb).more hb.size);have hL2:L≤w2.heap.size:=Nat.le_trans hgu.le (Nat.le_of_lt hgu.lt);have hpr:PairAt S F rt k0 n L g gb Ab w3 w3.heap.size:=⟨(hgu.below hb).more hb.size,Nat.le_trans hL2 hgb,hib.lt,hib,RdU.of hrb fun a e=>Nat.le_trans hL2 (hAb a e)⟩;obtain⟨sp,hsp⟩:∃ sp,sp=w3.heap.size:=⟨_,rfl⟩;obtain⟨w4,hw4⟩:∃ w4,w4=w3.alloc (.cells #[.int .i64 S.p,.int .i64 S.m,.slice A S.mod.length c,.pointer (some ⟨g,0,none⟩),.slice (some ⟨gb,0,none⟩) F.q F.q,.slice Ab n cb,.int .i64 S.m] 130):=⟨_,rfl⟩;have hb34:Below w3.heap.size w3 w4:=by rw[hw4]; exact (Below.refl _ _).alloc (Nat.le_refl _) _
  have hgq:Hid (GQ S F rt k0 n L A c g gb Ab cb w s sp [.int .i64 S.p,.int .i64 S.m,.slice A S.mod.length c,.int .i64 F.p,.int .i64 F.m,.slice B F.mod.length b,.slice A1 poly.length c1,.slice A2 pts.length c2] w4.heap.size w4) :=
   ⟨(hgp.out.below hb34).more hb34.size,by rw[hw4,hsp]; exact Bxs.new w3 _ _,(hpr.below hb34).more hb34.size,by rw[hw4,hsp]; simp⟩
  clear hpr hgb hib hrb hb hg hb34 hgp hgu hAb hL2;have hgqA:=hgq.out;rw[hw4]at hgqA;replace hw4:=Lib.hid hw4;replace hgqA:=Lib.hid hgqA;obtain⟨a0,a1,a2,a3,a4,a5,a6,a7⟩:=hgqA.out.G.c8;by_cases h1:pts.length<1∨64<pts.length
  ·have hE:Hid (gopD S.toDesc F.toDesc poly pts=4):=gopD_len hfb.out h1;replace hsp:=Lib.hid hsp;rcases h1 with h1 | h1
   ·have h1b:decide ((pts.length:Int)<1)=true:=decide_eq_true (by omega);clear h1;obtain⟨u0,u1,u2,u3,u4,u5,u6⟩:=hgqA.out.R.c7;obtain⟨v0,v1,v2,v3,v4,v5,v6⟩:=hgqA.out.R.f7;obtain⟨z0,z1,z2,z3,z4,z5,z6⟩:=hgqA.out.Z.c7;have hfin:Hid (Below w.heap.size w (stAll (w3.alloc (.cells #[.int .i64 S.p,.int .i64 S.m,.slice A S.mod.length c,.pointer (some ⟨g,0,none⟩),.slice (some ⟨gb,0,none⟩) F.q F.q,.slice Ab n cb,.int .i64 S.m] 130)) (s+1) 0 [.int .i64 0,.int .i64 0,.slice none 0 0,.pointer none,.slice none 0 0,.slice none 0 0,.int .i64 0])):=stAll_below (by have:=hsw; omega) _ _ _ hgqA.out.bw;go_wp2_with (fail);exact bodyPost_ret (v:=.tuple #[.agg #[.int .i64 0,.int .i64 0,.slice none 0 0,.pointer none,.slice none 0 0,.slice none 0 0,.int .i64 0],.slice none 0 0,.int .i64 4]) (by simp[results,Tryz.results89,go_sem,u0,u1,u2,u3,u4,u5,u6]) rfl ⟨hfin.out,.inl ⟨(by rw[hE.out]; decide),by rw[hE.out]⟩⟩
   ·have h1a:decide ((pts.length:Int)<1)=false:=decide_eq_false (by omega);have h1b:decide ((64:Int)<(pts.length:Int))=true:=decide_eq_true (by omega);clear h1;obtain⟨u0,u1,u2,u3,u4,u5,u6⟩:=hgqA.out.R.c7;obtain⟨v0,v1,v2,v3,v4,v5,v6⟩:=hgqA.out.R.f7;obtain⟨z0,z1,z2,z3,z4,z5,z6⟩:=hgqA.out.Z.c7;have hfin:Hid (Below w.heap.size w (stAll (w3.alloc (.cells #[.int .i64 S.p,.int .i64 S.m,.slice A S.mod.length c,.pointer (some ⟨g,0,none⟩),.slice (some ⟨gb,0,none⟩) F.q F.q,.slice Ab n cb,.int .i64 S.m] 130)) (s+1) 0 [.int .i64 0,.int .i64 0,.slice none 0 0,.pointer none,.slice none 0 0,.slice none 0 0,.int .i64 0])):=stAll_below (by have:=hsw; omega) _ _ _ hgqA.out.bw;go_wp2_with (fail);exact bodyPost_ret (v:=.tuple #[.agg #[.int .i64 0,.int .i64 0,.slice none 0 0,.pointer none,.slice none 0 0,.slice none 0 0,.int .i64 0],.slice none 0 0,.int .i64 4]) (by simp[results,Tryz.results89,go_sem,u0,u1,u2,u3,u4,u5,u6]) rfl ⟨hfin.out,.inl ⟨(by rw[hE.out]; decide),by rw[hE.out]⟩⟩
  have h1a:decide ((pts.length:Int)<1)=false:=decide_eq_false (by omega);have h1b:decide ((64:Int)<(pts.length:Int))=false:=decide_eq_false (by omega);have hp64:pts.length≤64:=by omega
  have hp1:1≤pts.length:=by omega
  go_wp2_with (fail);rw[←hw4.out];simp only[←hsp];replace hsp:=Lib.hid hsp;clear a0 a1 a2 a3 a4 a5 a6 a7 h1a h1b hgqA;obtain⟨a0,a1,a2,a3,a4,a5,a6,a7⟩:=hgq.out.G.c8;replace h1:=Lib.hid h1;have hrp:=(hr2.below hgq.out.bw).more hgq.out.wB;have hrq:=(hr1.below hgq.out.bw).more hgq.out.wB;have hI2:=aElems_any F pts A2 c2 g w4 hgq.out.pr.gf hrp (by unfold maxLen; omega);have hI1:=aElems_any F poly A1 c1 g w4 hgq.out.pr.gf hrq (by unfold maxLen; omega)
  cases he2:elB F.toDesc pts with
  | false =>
   have hE:Hid (gopD S.toDesc F.toDesc poly pts=2):=gopD_el hfb.out h1.out (.inl he2);rw[he2]at hI2;replace hI2:=Lib.hid hI2;clear he2 hI1 hrp hrq;(with_reducible refine hI2.out.mono ?_);rintro e w5 ⟨rfl,rfl⟩;obtain⟨u0,u1,u2,u3,u4,u5,u6⟩:=hgq.out.R.c7;obtain⟨v0,v1,v2,v3,v4,v5,v6⟩:=hgq.out.R.f7;obtain⟨z0,z1,z2,z3,z4,z5,z6⟩:=hgq.out.Z.c7;have hfin:Hid (Below w.heap.size w (stAll (w4) (s+1) 0 [.int .i64 0,.int .i64 0,.slice none 0 0,.pointer none,.slice none 0 0,.slice none 0 0,.int .i64 0])):=stAll_below (by have:=hsw; omega) _ _ _ hgq.out.bw;go_wp2_with (fail);exact bodyPost_ret (v:=.tuple #[.agg #[.int .i64 0,.int .i64 0,.slice none 0 0,.pointer none,.slice none 0 0,.slice none 0 0,.int .i64 0],.slice none 0 0,.int .i64 2]) (by simp[results,Tryz.results89,go_sem,u0,u1,u2,u3,u4,u5,u6]) rfl ⟨hfin.out,.inl ⟨(by rw[hE.out]; decide),by rw[hE.out]⟩⟩
  | true =>
   rw[he2]at hI2;replace hI2:=Lib.hid hI2;have hrg:=Lib.hid (elB_iff.1 he2)
   cases he1:elB F.toDesc poly with
   | false =>
    have hE:Hid (gopD S.toDesc F.toDesc poly pts=2):=gopD_el hfb.out h1.out (.inr he1);rw[he1]at hI1;replace hI1:=Lib.hid hI1;clear he1 he2 hrp hrq;(with_reducible refine hI2.out.mono ?_);rintro e w5 ⟨rfl,rfl⟩;go_wp2_with (fail);(with_reducible refine hI1.out.mono ?_);rintro e w5 ⟨rfl,rfl⟩;obtain⟨u0,u1,u2,u3,u4,u5,u6⟩:=hgq.out.R.c7;obtain⟨v0,v1,v2,v3,v4,v5,v6⟩:=hgq.out.R.f7;obtain⟨z0,z1,z2,z3,z4,z5,z6⟩:=hgq.out.Z.c7;have hfin:Hid (Below w.heap.size w (stAll (w4) (s+1) 0 [.int .i64 0,.int .i64 0,.slice none 0 0,.pointer none,.slice none 0 0,.slice none 0 0,.int .i64 0])):=stAll_below (by have:=hsw; omega) _ _ _ hgq.out.bw;go_wp2_with (fail);exact bodyPost_ret (v:=.tuple #[.agg #[.int .i64 0,.int .i64 0,.slice none 0 0,.pointer none,.slice none 0 0,.slice none 0 0,.int .i64 0],.slice none 0 0,.int .i64 2]) (by simp[results,Tryz.results89,go_sem,u0,u1,u2,u3,u4,u5,u6]) rfl ⟨hfin.out,.inl ⟨(by rw[hE.out]; decide),by rw[hE.out]⟩⟩
   | true =>
    rw[he1]at hI1;replace hI1:=Lib.hid hI1;have h2:Hid (¬ (elB F.toDesc pts=false∨elB F.toDesc poly=false)):=by unfold Hid; rw[he1,he2]; simp
    clear he1 he2;have hOr:=Lib.hid (gOrder_any F g w4 hgq.out.pr.gf);have hq256:=F.toDesc.q256;have hmk:=mk_bools F.q (by omega);(with_reducible refine hI2.out.mono ?_);rintro e w5 ⟨rfl,rfl⟩;go_wp2_with (fail);(with_reducible refine hI1.out.mono ?_);rintro e w5 ⟨rfl,rfl⟩;go_wp2_with (fail);(with_reducible refine hOr.out.mono ?_);rintro e w5 ⟨rfl,rfl⟩;clear hI1 hI2 hOr;obtain⟨gs,hgs⟩:∃ gs,gs=w4.heap.size:=⟨_,rfl⟩;have hgl:gs≤w4.heap.size:=Nat.le_of_eq hgs;have hgg:w4.heap.size≤gs:=Nat.le_of_eq hgs.symm;have hbb0:Hid (BB (w4.alloc (.cells (Array.replicate F.q (Value.bool false)) 4)) gs F.q (fun i=>decide ((i:Int)∈pts.take 0))):=by rw[show (fun i:Nat=>decide ((i:Int)∈pts.take 0))=fun _=>false from funext fun i=>by simp,hgs]; exact Lib.hid (BB.newz w4 F.q)
    have hbz:Below gs w4 (w4.alloc (.cells (Array.replicate F.q (Value.bool false)) 4)):=(Below.refl _ _).alloc hgl _;have hlz:gs<(w4.alloc (.cells (Array.replicate F.q (Value.bool false)) 4)).heap.size:=by rw[World.size_alloc]; exact Nat.lt_succ_of_le hgl
    have hgq5:=Lib.hid (hgq.out.more hgg);have hrp5:=(hr2.below hgq.out.bw).more (Nat.le_trans hgq.out.wB hgg);obtain⟨y0,y1,y2,y3,y4,y5,y6,y7⟩:=(hgq5.out.below hbz).G.c8;go_wp2_with (fail);simp only[←hgs];replace hgs:=Lib.hid hgs;clear a0 a1 a2 a3 a4 a5 a6 a7 y0 y1 y2 y3 y4 y5 y6 y7 hrp hrq;go_loopw [78,13] (fun i _ wr=>∃ k:Nat,k≤pts.length∧i=.int .i64 k∧(pts.take k).Nodup∧Hid (BB wr gs F.q (fun i=>decide ((i:Int)∈pts.take k)))∧Below gs w4 wr∧gs<wr.heap.size) (fun i _ _=>pts.length - (intOf i).toNat)
    case atStart=>exact⟨0,by omega,rfl,by simp,hbb0,hbz,hlz⟩
    case round =>
     obtain⟨k,hk,rfl,hnd,hbb,hbw,hlw⟩:=hrel;obtain⟨w5,rfl⟩:∃ w5:World,w5=wr:=⟨_,rfl⟩;clear hbb0 hbz hlz hmk;by_cases hkm:k<pts.length
     ·obtain⟨ba,oa,rfl,hba,hca⟩:=hrp5.at_ hkm;have hcb:=(hbw.cell (p:=⟨ba,oa+k,none⟩) hba).trans hca;obtain⟨xn,hxn⟩:∃ xn:Nat,pts[k]?.getD 0=(xn:Int):=⟨(pts[k]?.getD 0).toNat,by have:=hrg.out k hkm; omega⟩;have hxl:xn<F.q:=by have:=hrg.out k hkm; omega
      rw[hxn]at hcb;have hcs:=hbb.out.cell hxl;have hf:=hbb.out.frozen xn;have hx0:(0:Int)≤(xn:Int):=by omega
      have hx1:(xn:Int)<(F.q:Int):=by omega
      have hk0:(0:Int)≤(k:Int):=by omega
      have hk1:(k:Int)<(pts.length:Int):=by omega
      replace hxn:=Lib.hid hxn;clear hca;by_cases hd:(xn:Int)∈pts.take k
      ·rw[decide_eq_true hd]at hcs;have htw:twB pts=true:=by unfold twB; exact decide_eq_true (not_nodup_take hkm (by rw[hxn.out]; exact hd))
       have hE:Hid (gopD S.toDesc F.toDesc poly pts=18):=gopD_tw hfb.out h1.out h2.out htw;clear hd hnd htw;have hgq6:=Lib.hid (hgq5.out.below hbw);obtain⟨u0,u1,u2,u3,u4,u5,u6⟩:=hgq6.out.R.c7;obtain⟨v0,v1,v2,v3,v4,v5,v6⟩:=hgq6.out.R.f7;obtain⟨z0,z1,z2,z3,z4,z5,z6⟩:=hgq6.out.Z.c7;have hfin:Hid (Below w.heap.size w (stAll (w5) (s+1) 0 [.int .i64 0,.int .i64 0,.slice none 0 0,.pointer none,.slice none 0 0,.slice none 0 0,.int .i64 0])):=stAll_below (by have:=hsw; omega) _ _ _ hgq6.out.bw;go_wp2_with (fail);exact bodyPost_ret (v:=.tuple #[.agg #[.int .i64 0,.int .i64 0,.slice none 0 0,.pointer none,.slice none 0 0,.slice none 0 0,.int .i64 0],.slice none 0 0,.int .i64 18]) (by simp[results,Tryz.results89,go_sem,u0,u1,u2,u3,u4,u5,u6]) rfl ⟨hfin.out,.inl ⟨(by rw[hE.out]; decide),by rw[hE.out]⟩⟩
      ·rw[decide_eq_false hd]at hcs;have hbb2:=Lib.hid (hbb.out.set_ xn true);rw[seen_step hkm hxn.out]at hbb2;have hnd2:=Lib.hid (take_succ_nodup hkm hnd (by rw[hxn.out]; exact hd));have hbw2:Below gs w4 (w5.setCell ⟨gs,xn,none⟩ (.bool true)):=hbw.setCell (p:=⟨gs,xn,none⟩) (Nat.le_refl _) _;have hlw2:gs<(w5.setCell ⟨gs,xn,none⟩ (.bool true)).heap.size:=Nat.lt_of_lt_of_le hlw (grown_set _ _ _).size;clear hd hnd;go_wp2_with (fail);go_roundw
       case rel=>exact⟨k+1,by omega,by go_num,hnd2.out,hbb2,hbw2,hlw2⟩
       case measure=>simp[intOf]; omega
     ·obtain rfl:k=pts.length:=by omega
      rw[List.take_length]at hnd;have htw:Hid (twB pts=false):=by unfold Hid twB; exact decide_eq_false (fun h=>h hnd)
      have hgq6:=Lib.hid ((hgq5.out.below hbw).more (Nat.le_of_lt hlw));clear hnd hbb hgq5 hbw hgq hgl hgg;obtain⟨a0,a1,a2,a3,a4,a5,a6,a7⟩:=hgq6.out.G.c8;by_cases h4:poly.length<2∨65<poly.length∨poly[poly.length - 1]?.getD 0=0
      ·have hE:Hid (gopD S.toDesc F.toDesc poly pts=5):=gopD_form hfb.out h1.out h2.out htw.out h4;by_cases h5:poly.length<2
       ·have h5b:decide ((poly.length:Int) - 1<1)=true:=decide_eq_true (by omega);clear h4 h5;obtain⟨u0,u1,u2,u3,u4,u5,u6⟩:=hgq6.out.R.c7;obtain⟨v0,v1,v2,v3,v4,v5,v6⟩:=hgq6.out.R.f7;obtain⟨z0,z1,z2,z3,z4,z5,z6⟩:=hgq6.out.Z.c7;have hfin:Hid (Below w.heap.size w (stAll (w5) (s+1) 0 [.int .i64 0,.int .i64 0,.slice none 0 0,.pointer none,.slice none 0 0,.slice none 0 0,.int .i64 0])):=stAll_below (by have:=hsw; omega) _ _ _ hgq6.out.bw;go_wp2_with (fail);exact bodyPost_ret (v:=.tuple #[.agg #[.int .i64 0,.int .i64 0,.slice none 0 0,.pointer none,.slice none 0 0,.slice none 0 0,.int .i64 0],.slice none 0 0,.int .i64 5]) (by simp[results,Tryz.results89,go_sem,u0,u1,u2,u3,u4,u5,u6]) rfl ⟨hfin.out,.inl ⟨(by rw[hE.out]; decide),by rw[hE.out]⟩⟩
       ·have h5b:decide ((poly.length:Int) - 1<1)=false:=decide_eq_false (by omega);by_cases h6:65<poly.length
        ·have h6b:decide ((64:Int)<(poly.length:Int) - 1)=true:=decide_eq_true (by omega);clear h4 h5 h6;obtain⟨u0,u1,u2,u3,u4,u5,u6⟩:=hgq6.out.R.c7;obtain⟨v0,v1,v2,v3,v4,v5,v6⟩:=hgq6.out.R.f7;obtain⟨z0,z1,z2,z3,z4,z5,z6⟩:=hgq6.out.Z.c7;have hfin:Hid (Below w.heap.size w (stAll (w5) (s+1) 0 [.int .i64 0,.int .i64 0,.slice none 0 0,.pointer none,.slice none 0 0,.slice none 0 0,.int .i64 0])):=stAll_below (by have:=hsw; omega) _ _ _ hgq6.out.bw;go_wp2_with (fail);exact bodyPost_ret (v:=.tuple #[.agg #[.int .i64 0,.int .i64 0,.slice none 0 0,.pointer none,.slice none 0 0,.slice none 0 0,.int .i64 0],.slice none 0 0,.int .i64 5]) (by simp[results,Tryz.results89,go_sem,u0,u1,u2,u3,u4,u5,u6]) rfl ⟨hfin.out,.inl ⟨(by rw[hE.out]; decide),by rw[hE.out]⟩⟩
        ·have h6b:decide ((64:Int)<(poly.length:Int) - 1)=false:=decide_eq_false (by omega);have h7:poly[poly.length - 1]?.getD 0=0:=by omega
         obtain⟨tn,htn⟩:∃ tn:Nat,tn=poly.length - 1:=⟨_,rfl⟩;obtain⟨bp,op,rfl,hbp,hcp⟩:=((hr1.below hgq6.out.bw).more hgq6.out.wB).at_ (k:=tn) (by omega);rw[←htn]at h7;rw[h7]at hcp;have ht1:((poly.length:Int) - 1)=(tn:Int):=by omega
         rw[ht1]at h5b h6b;have ht2:(0:Int)≤(tn:Int):=by omega
         have ht3:(tn:Int)<(poly.length:Int):=by omega
         replace htn:=Lib.hid htn;clear h4 h5 h6 h7;obtain⟨u0,u1,u2,u3,u4,u5,u6⟩:=hgq6.out.R.c7;obtain⟨v0,v1,v2,v3,v4,v5,v6⟩:=hgq6.out.R.f7;obtain⟨z0,z1,z2,z3,z4,z5,z6⟩:=hgq6.out.Z.c7;have hfin:Hid (Below w.heap.size w (stAll (w5) (s+1) 0 [.int .i64 0,.int .i64 0,.slice none 0 0,.pointer none,.slice none 0 0,.slice none 0 0,.int .i64 0])):=stAll_below (by have:=hsw; omega) _ _ _ hgq6.out.bw;go_wp2_with (fail);exact bodyPost_ret (v:=.tuple #[.agg #[.int .i64 0,.int .i64 0,.slice none 0 0,.pointer none,.slice none 0 0,.slice none 0 0,.int .i64 0],.slice none 0 0,.int .i64 5]) (by simp[results,Tryz.results89,go_sem,u0,u1,u2,u3,u4,u5,u6]) rfl ⟨hfin.out,.inl ⟨(by rw[hE.out]; decide),by rw[hE.out]⟩⟩
      ·have h5b:decide ((poly.length:Int) - 1<1)=false:=decide_eq_false (by omega);have h6b:decide ((64:Int)<(poly.length:Int) - 1)=false:=decide_eq_false (by omega);obtain⟨tn,htn⟩:∃ tn:Nat,tn=poly.length - 1:=⟨_,rfl⟩;have hrq:=((hr1.below hgq6.out.bw).more hgq6.out.wB);obtain⟨bp,op,rfl,hbp,hcp⟩:=hrq.at_ (k:=tn) (by omega);obtain⟨z,hz⟩:∃ z,z=poly[tn]?.getD 0:=⟨_,rfl⟩;have hz0:(z==0)=false:=by rw[beq_eq_false_iff_ne,hz,htn]; exact fun e=>h4 (.inr (.inr e))
       rw[←hz]at hcp;have ht1:((poly.length:Int) - 1)=(tn:Int):=by omega
       rw[ht1]at h5b h6b;have ht2:(0:Int)≤(tn:Int):=by omega
       have ht3:(tn:Int)<(poly.length:Int):=by omega
       have hl65:poly.length≤65:=by omega
       replace htn:=Lib.hid htn;replace hz:=Lib.hid hz;replace h4:=Lib.hid h4;have hmk:=mk_ints pts.length (by omega);obtain⟨gv,hgv⟩:∃ gv,gv=w5.heap.size:=⟨_,rfl⟩;have hgl:gv≤w5.heap.size:=Nat.le_of_eq hgv;have hgg:w5.heap.size≤gv:=Nat.le_of_eq hgv.symm;obtain⟨f,hf⟩:∃ f:Nat→Int,f=fun i=>ci (pevI F.toDesc poly (eli F.toDesc (pts[i]?.getD 0))):=⟨_,rfl⟩
       have hv0:Hid (IB (w5.alloc (.cells (Array.replicate pts.length (Value.int .i64 0)) 3)) gv (upd pts.length 0 f)):=by rw[upd_zero,hgv]; exact Lib.hid (IB.newz w5 _)
       have hbv:Below gv w5 (w5.alloc (.cells (Array.replicate pts.length (Value.int .i64 0)) 3)):=(Below.refl _ _).alloc hgl _;have hgq7:=Lib.hid (hgq6.out.more hgg);have hEv:=fun x W h1 h2=>Lib.hid (pEval_any F poly x (some ⟨bp,op,none⟩) c1 g W h1 h2 (by unfold maxLen; omega))
       have hrp7:=(hr2.below hgq6.out.bw).more (Nat.le_trans hgq6.out.wB hgg);have hrq7:=hrq.more hgg;obtain⟨y0,y1,y2,y3,y4,y5,y6,y7⟩:=(hgq7.out.below hbv).G.c8;go_wp2_with (fail);simp only[←hgv];replace hgv:=Lib.hid hgv;clear a0 a1 a2 a3 a4 a5 a6 a7 y0 y1 y2 y3 y4 y5 y6 y7 hgq6 hcp ht1 ht2 ht3 h5b h6b hz0 hrq hlw;go_loopw [117,16,17] (fun i _ _ wr=>∃ k:Nat,k≤pts.length∧i=.int .i64 k∧Hid (∀ j,j<k→f j≠0)∧Hid (IB wr gv (upd pts.length k f))∧Below gv w5 wr) (fun i _ _ _=>pts.length - (intOf i).toNat)
       case atStart=>exact⟨0,by omega,rfl,fun j hj=>absurd hj (by omega),hv0,hbv⟩
       case round =>
        clear hv0 hbv hmk;obtain⟨w6,rfl⟩:∃ w6:World,w6=wr:=⟨_,rfl⟩;obtain⟨k,hk,rfl,hnz,hib,hbw⟩:=hrel;have hgl6:=hib.out.lt;have hgq8:=Lib.hid (hgq7.out.below hbw);by_cases hkm:k<pts.length
        ·obtain⟨ba,oa,rfl,hba,hca⟩:=hrp7.at_ hkm;have hcb:=(hbw.cell (p:=⟨ba,oa+k,none⟩) hba).trans hca;have hk0:(0:Int)≤(k:Int):=by omega
         have hk1:(k:Int)<(pts.length:Int):=by omega
         obtain⟨x,hx⟩:∃ x,x=pts[k]?.getD 0:=⟨_,rfl⟩;rw[←hx]at hcb;have hq:=hEv x w6 (hgq8.out.pr.gf.more (Nat.le_of_lt hgl6)) ((hrq7.below hbw).more (Nat.le_of_lt hgl6));obtain⟨y,hy⟩:∃ y,y=f k:=⟨_,rfl⟩;have hyx:ci (pevI F.toDesc poly (eli F.toDesc x))=y:=by rw[hy,hf,hx]
         rw[hyx]at hq;clear hca;replace hx:=Lib.hid hx;replace hyx:=Lib.hid hyx;obtain⟨a0,a1,a2,a3,a4,a5,a6,a7⟩:=hgq8.out.G.c8;go_wp2_with (fail);(with_reducible refine hq.out.mono ?_);rintro e w7 ⟨rfl,hb⟩;clear a0 a1 a2 a3 a4 a5 a6 a7 hcb hq;have hib7:=hib.out.below hb hgl6;have hcW:=hib7.cell (i:=k) (by rw[upd_length]; exact hkm);have hfW:=hib7.frozen k;have hset:=hib7.set_ k y;rw[hy,upd_set,←hy]at hset;replace hset:=Lib.hid hset;have hbw7:=hbw.trans (hb.mono (Nat.le_of_lt hgl6));have hbw8:Below gv w5 (w7.setCell ⟨gv,k,none⟩ (.int .i64 y)):=hbw7.setCell (p:=⟨gv,k,none⟩) (Nat.le_refl _) _;have hgq9:=Lib.hid (hgq7.out.below hbw8);by_cases hy0:y=0
         ·have hyb:(y==0)=true:=by rw[beq_iff_eq]; exact hy0
          have hm:(0:Int)∈valL F.toDesc poly pts:=by
           have h9:(valL F.toDesc poly pts)[k]?.getD 0=y:=by rw[hy,hf]; exact lst_get _ hkm
           rw[←hy0,←h9];exact mem_get (by unfold valL; rw[lst_length]; exact hkm)
          have hE:Hid (gopD S.toDesc F.toDesc poly pts=7):=gopD_root hfb.out h1.out h2.out htw.out h4.out hm;clear hm hy hy0;obtain⟨u0,u1,u2,u3,u4,u5,u6⟩:=hgq9.out.R.c7;obtain⟨v0,v1,v2,v3,v4,v5,v6⟩:=hgq9.out.R.f7;obtain⟨z0,z1,z2,z3,z4,z5,z6⟩:=hgq9.out.Z.c7;have hfin:Hid (Below w.heap.size w (stAll (w7.setCell ⟨gv,k,none⟩ (.int .i64 y)) (s+1) 0 [.int .i64 0,.int .i64 0,.slice none 0 0,.pointer none,.slice none 0 0,.slice none 0 0,.int .i64 0])):=stAll_below (by have:=hsw; omega) _ _ _ hgq9.out.bw;go_wp2_with (fail);exact bodyPost_ret (v:=.tuple #[.agg #[.int .i64 0,.int .i64 0,.slice none 0 0,.pointer none,.slice none 0 0,.slice none 0 0,.int .i64 0],.slice none 0 0,.int .i64 7]) (by simp[results,Tryz.results89,go_sem,u0,u1,u2,u3,u4,u5,u6]) rfl ⟨hfin.out,.inl ⟨(by rw[hE.out]; decide),by rw[hE.out]⟩⟩
         ·have hyb:(y==0)=false:=by rw[beq_eq_false_iff_ne]; exact hy0
          have hnz2:Hid (∀ j,j<k+1→f j≠0):=fun j hj=>by
           by_cases e:j=k
           ·subst e; rw[←hy]; exact hy0
           ·exact hnz.out j (by omega)
          clear hy hy0;go_wp2_with (fail);go_roundw
          case rel=>exact⟨k+1,by omega,by go_num,hnz2,hset,hbw8⟩
          case measure=>simp[intOf]; omega
        ·obtain rfl:k=pts.length:=by omega
         rw[upd_full]at hib;have hno:¬ (0:Int)∈valL F.toDesc poly pts:=fun hm=>by
          obtain⟨j,hj,e⟩:=List.getElem_of_mem hm;have hj2:j<pts.length:=by unfold valL at hj; rw[lst_length]at hj; exact hj
          have h9:(valL F.toDesc poly pts)[j]?.getD 0=f j:=by rw[hf]; exact lst_get _ hj2
          rw[List.getElem?_eq_getElem hj]at h9;exact hnz.out j hj2 (h9.symm.trans e)
         have hE:Hid (gopD S.toDesc F.toDesc poly pts=0):=gopD_ok hfb.out h1.out h2.out htw.out h4.out hno;have hval:Hid (IB w6 gv (valL F.toDesc poly pts)):=by
          have:valL F.toDesc poly pts=lst pts.length f:=by rw[hf]; rfl
          rw[this]; exact hib
         clear hno hib hnz;obtain⟨u0,u1,u2,u3,u4,u5,u6⟩:=hgq8.out.R.c7;obtain⟨v0,v1,v2,v3,v4,v5,v6⟩:=hgq8.out.R.f7;obtain⟨z0,z1,z2,z3,z4,z5,z6⟩:=hgq8.out.P.c7;have hfin:Hid (GopPost S F.toDesc A c poly pts w (.returned (.tuple #[.agg #[.int .i64 S.p,.int .i64 S.m,.slice A S.mod.length c,.pointer (some ⟨g,0,none⟩),.slice (some ⟨gb,0,none⟩) F.q F.q,.slice Ab n cb,.int .i64 S.m],.slice (some ⟨gv,0,none⟩) pts.length pts.length,.int .i64 0])) (stAll w6 (s+1) 0 [.int .i64 S.p,.int .i64 S.m,.slice A S.mod.length c,.pointer (some ⟨g,0,none⟩),.slice (some ⟨gb,0,none⟩) F.q F.q,.slice Ab n cb,.int .i64 S.m])):=by
          have hsz:(stAll w6 (s+1) 0 [.int .i64 S.p,.int .i64 S.m,.slice A S.mod.length c,.pointer (some ⟨g,0,none⟩),.slice (some ⟨gb,0,none⟩) F.q F.q,.slice Ab n cb,.int .i64 S.m]).heap.size=w6.heap.size:=stAll_size _ _ _;have hwL:w.heap.size≤L:=by omega
          refine⟨stAll_below (by omega) _ _ _ hgq8.out.bw,.inr ⟨hE.out,F,rt,k0,n,g,gb,Ab,cb,gv,rfl,hrt.out,hk0.out,hn.out,rfl,?_,?_⟩⟩
          ·rw[hsz];exact (((hgq8.out.pr).farS (by omega) _).low hwL).more (Nat.le_of_lt hgl6)
          ·rw[hsz];exact hval.out.rd.farS (fun a e=>by cases e; have:=hgq8.out.s2; dsimp only; omega) _ 0
         go_wp2_with (fail);exact bodyPost_ret (v:=.tuple #[.agg #[.int .i64 S.p,.int .i64 S.m,.slice A S.mod.length c,.pointer (some ⟨g,0,none⟩),.slice (some ⟨gb,0,none⟩) F.q F.q,.slice Ab n cb,.int .i64 S.m],.slice (some ⟨gv,0,none⟩) pts.length pts.length,.int .i64 0]) (by simp[results,Tryz.results89,go_sem,u0,u1,u2,u3,u4,u5,u6]) rfl hfin.out
end Go.Proofs.YtjdoneanohhkmaaGreat

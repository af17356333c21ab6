/- Layer 18 of the program: copied, Dual. -/
import Derived.Test.YtogfekjbpcfgmaaGreatZtkGrsF
set_option maxRecDepth 100000
set_option maxHeartbeats 16000000
set_option linter.unusedVariables false
namespace Go.Proofs
open Go.RowKit Cw
def QcR (A:Option Addr)(l:List Int)(v:Value):Prop:=l≠[]→∀a,A=some a→v.ownBlock≠some a.block
section
variable {A:Option Addr} {l:List Int} {v u:Value} {B:Nat} {W W' Z:World}
theorem QcR.made (I:∀b,A=some b→W.heap.size≤b.block)(h:∀k,v.ownBlock=some k→B≤k∧k<W.heap.size):QcR A l v:=fun _ a e J=>by
 have O:=I a e;have T:=(h _ J).2;omega
theorem Rd.blt (h:Rd W B A l)(I:l≠[]):∀a,A=some a→a.block<B:=fun a e=>by
 obtain⟨b,T,J,O,-⟩:=h (by first |exact I |exact List.length_pos_iff.2 I);rw[J]at e;cases e;exact O
theorem QcR.late (h:Rd W W.heap.size A l):QcR A l (.slice (some ⟨W.heap.size,0,none⟩) 0 0):=fun I a e J=>by
 have O:=h.blt I a e;simp[Value.ownBlock]at J;omega
theorem QcR.step (h:QcR A l v)(T:Rd W W.heap.size A l)(U:u.ownBlock=v.ownBlock∨∀k,u.ownBlock=some k→W.heap.size≤k):QcR A l u:=fun J a e O=>by
 rcases U with I |I
 ·exact h J a e (I ▸ O)
 ·have:=I _ O;have:=T.blt J a e;omega
theorem Rd.grown (h:Rd W B A l)(J:W.grownBy W' v.ownBlock)(O:QcR A l v)(_hB:B≤W.heap.size):Rd W' B A l:=fun I=>by
 obtain⟨b,T,e,U,V⟩:=h I;refine⟨b,T,e,U,fun j X=>J.cell (V j X) fun Y=>?_⟩;exact O (by first |exact I |exact List.length_pos_iff.1 I) _ e Y.symm
theorem Dis.late (h:∀k,v.ownBlock=some k→B≤k∧k<W.heap.size):Dis v (.slice (some ⟨W.heap.size,0,none⟩) 0 0):=fun k I J=>by
 have:=(h k I).2;simp[Value.ownBlock]at J;omega
theorem QcS {n:Nat} (I:Z.heap.size=n)(h:Below B Z W):n≤W.heap.size:=I ▸ h.size
theorem Qow (W:World)(t:TypeId):Below W.heap.size W (W.alloc (.cells #[] t)):=β
theorem cpS {g:Nat} {I v1 v2 J O T:Value} (h:Z.cell? ⟨g,0,none⟩=some I∧Z.cell? ⟨g,1,none⟩=some v1∧Z.cell? ⟨g,2,none⟩=some v2∧Z.cell? ⟨g,3,none⟩=some J∧Z.cell? ⟨g,4,none⟩=some O∧Z.cell? ⟨g,5,none⟩=some T)(V:g<B)(U:Below B Z W) :
  (W.cell? ⟨g,0,none⟩=some I∧W.cell? ⟨g,1,none⟩=some v1∧W.cell? ⟨g,2,none⟩=some v2∧W.cell? ⟨g,3,none⟩=some J∧W.cell? ⟨g,4,none⟩=some O∧W.cell? ⟨g,5,none⟩=some T)∧Below B Z W :=
 ⟨QbS U V h,U⟩
theorem Own.set6 {g:Nat} (h:Own W (g+1) v l)(u0 u1 u2 u3 I J:Value):Own ((((((W.setCell ⟨g,0,none⟩ u0).setCell ⟨g,1,none⟩ u1).setCell ⟨g,2,none⟩ u2).setCell ⟨g,3,none⟩ u3).setCell ⟨g,4,none⟩ I).setCell ⟨g,5,none⟩ J) (g+1) v l :=
 (((((h.farB 0 u0).farB 1 u1).farB 2 u2).farB 3 u3).farB 4 I).farB 5 J
theorem Own.lower {B':Nat} (h:Own W B v l)(I:B'≤B):Own W B' v l:=by
 refine⟨h.1,?_⟩;rcases h.2 with J |⟨g,cap,O,rfl,T,rest⟩
 ·exact .inl J
 ·exact .inr ⟨g,cap,O,rfl,τ I T,rest⟩
end
def QrQ (F:FD)(K:Int)(pts mul:List Int)(w:World)(e:Ending)(w':World):Prop :=
 ∃I V J O T U,e=.returned (.agg #[.int .i64 F.p,.int .i64 F.m,.slice I F.mod.length V,.int .i64 K,.slice J pts.length O,.slice T mul.length U])∧Rd w' w'.heap.size I (Qan F.z) ∧
  Own w' w.heap.size (.slice J pts.length O) pts∧Own w' w.heap.size (.slice T mul.length U) mul∧Dis (.slice J pts.length O) (.slice T mul.length U)∧QcR I (Qan F.z) (.slice J pts.length O)∧QcR I (Qan F.z) (.slice T mul.length U)∧(∀b,I=some b→w.heap.size≤b.block)∧Below w.heap.size w w'
theorem QlC (F:FD)(K:Int)(pts mul:List Int)(A A1 A2:Option Addr)(c c1 c2:Nat)(g:Nat)(w:World)(V:GF w w.heap.size g F)(az:Rd w w.heap.size A1 pts)(aJ:Rd w w.heap.size A2 mul)(h1:pts.length≤64)(h2:mul.length≤64) :
  Calls Tryz.prog 186 #[.pointer (some ⟨g,0,none⟩),.agg #[.int .i64 F.p,.int .i64 F.m,.slice A F.mod.length c,.int .i64 K,.slice A1 pts.length c1,.slice A2 mul.length c2]] w (QrQ F K pts mul w):=by
 have aM:=fun W h=>η (QdJ F g W h)
 obtain⟨Y,hY⟩:=ε ((w.alloc (.cells #[.int .i64 F.p,.int .i64 F.m,.slice A F.mod.length c,.int .i64 K,.slice A1 pts.length c1,.slice A2 mul.length c2] 94)).alloc (.cells #[.int .i64 0,.int .i64 0,.slice none 0 0,.int .i64 0,.slice none 0 0,.slice none 0 0] 94));obtain⟨Z,hZ⟩:=ε (Y.drew);have aH:Hid (Below w.heap.size w Z):=by rw[hZ,hY];exact ((β).alloc (by simp) _).drew
 have aa:Hid (Z.heap.size=w.heap.size+2):=by rw[hZ,hY];simp[Hid]
 have ah:Hid (Z.cell? ⟨w.heap.size,0,none⟩=some (.int .i64 F.p)∧Z.cell? ⟨w.heap.size,1,none⟩=some (.int .i64 F.m)∧Z.cell? ⟨w.heap.size,2,none⟩=some (.slice A F.mod.length c)∧Z.cell? ⟨w.heap.size,3,none⟩=some (.int .i64 K)∧Z.cell? ⟨w.heap.size,4,none⟩=some (.slice A1 pts.length c1)∧Z.cell? ⟨w.heap.size,5,none⟩=some (.slice A2 mul.length c2)):=by rw[hZ,hY];simp[Hid,go_sem]
 have r6:Hid (Six Z (w.heap.size+1) (.int .i64 0) (.int .i64 0) (.slice none 0 0) (.int .i64 0) (.slice none 0 0) (.slice none 0 0)):=by
  rw[hZ,hY];have:=Six.new (w.alloc (.cells #[.int .i64 F.p,.int .i64 F.m,.slice A F.mod.length c,.int .i64 K,.slice A1 pts.length c1,.slice A2 mul.length c2] 94)) (.int .i64 0) (.int .i64 0) (.slice none 0 0) (.int .i64 0) (.slice none 0 0) (.slice none 0 0) 94;rw[World.size_alloc]at this;exact this
 have aO:Hid (GF Z (w.heap.size+2) g F):=(V.below aH.out).more (Nat.le_add_right _ _);replace az:Hid (Rd Z (w.heap.size+2) A1 pts):=(az.below aH.out).more (Nat.le_add_right _ _);replace aJ:Hid (Rd Z (w.heap.size+2) A2 mul):=(aJ.below aH.out).more (Nat.le_add_right _ _);have I:=cpS ah.out (Nat.lt_add_of_pos_right (by decide):w.heap.size<w.heap.size+2) κ;replace hY:=η hY;replace hZ:=η hZ;clear V;go_enter Tryz.func186,Tryz.ntmps186;go_wp2_with fail;rw[←hY.out];refine wp_region_held_drew (S:=fun w'=>w'.cell? ⟨w.heap.size,0,none⟩=some (.int .i64 F.p)∧w'.cell? ⟨w.heap.size,1,none⟩=some (.int .i64 F.m)∧w'.cell? ⟨w.heap.size,2,none⟩=some (.slice A F.mod.length c)∧w'.cell? ⟨w.heap.size,3,none⟩=some (.int .i64 K)∧w'.cell? ⟨w.heap.size,4,none⟩=some (.slice A1 pts.length c1)∧w'.cell? ⟨w.heap.size,5,none⟩=some (.slice A2 mul.length c2)) (by kernel_rfl) (by (try dsimp only);rw[←hZ.out];exact I.1) (fun hHeld=>?_);refine tk 0 ?_;simp only[pS]
 refine tk 2 ?_;simp only[pS]
 refine tk 3 ?_;simp only[pS]
 refine tk 5 ?_;simp only[pS]
 refine tk 6 ?_;simp only[pS]
 refine tk 9 ?_;simp only[pS]
 refine tk 10 ?_;simp only[pS]
 rw[←hZ.out];refine wpAnyH_ready (rs:=[1,4,8]) (by kernel_rfl) (by simp) ?_;refine AllReadyH.cons (o:=⟨_,_,_,_,_,_⟩) rfl (fun K O=>?_) ?_
 ·go_simp;go_at_call 129;(with_reducible refine (aM _ ((aO.out.below I.2).more (QcS aa.out I.2))).out.mono ?_);rintro e W1 ⟨A3,c3,rfl,U,ai,J⟩;replace ai:∀b,A3=some b→w.heap.size+2≤b.block:=fun b e=>τ (QcS aa.out I.2) (ai b e)
  replace I:=cpS ah.out (Nat.lt_add_of_pos_right (by decide)) (I.2.trans (J.mono (QcS aa.out I.2)));clear J;go_wp2_with fail;refine O.out _ _ I.1 fun hHeld=>?_;clear O K hHeld;try simp only[pS]
  refine wpAnyH_ready (rs:=[4,8]) (by kernel_rfl) (by simp) ?_;refine AllReadyH.cons (o:=⟨_,_,_,_,_,_⟩) rfl (fun K O=>?_) ?_
  ·go_simp;have J:=Qow W1 3;have T:Own (W1.alloc (.cells #[] 3)) (w.heap.size+2) (.slice (some ⟨W1.heap.size,0,none⟩) 0 0) []:=Qa9 (heap_alloc_new W1 (.cells #[] 3)) (QcS aa.out I.2);replace I:=cpS ah.out (Nat.lt_add_of_pos_right (by decide)) (I.2.trans (J.mono (QcS aa.out I.2)));have d4:QcR A3 (Qan F.z) (.slice (some ⟨W1.heap.size,0,none⟩) 0 0):=QcR.late U;replace U:=U.bm J;clear J;refine O.out _ _ I.1 fun hHeld=>?_;clear O K hHeld;try simp only[pS]
   generalize W1.alloc (.cells #[] 3)=W2 at *;refine wpAnyH_ready (rs:=[7,8]) (by kernel_rfl) (by simp) ?_;refine AllReadyH.cons (o:=⟨_,_,_,_,_,_⟩) rfl (fun K O=>?_) ?_
   all_goals first
    |(refine QaL rfl (.tmp 9) (.tmp 11) rfl (w.heap.size+2) _ [] (w.heap.size+2) A1 c1 pts T (az.out.below I.2) rfl rfl rfl (by rw[List.length_nil];omega) (QcS aa.out I.2) ?_
      intro v3 W3 ae J V hv;rw[List.nil_append]at ae;obtain⟨B4,k4,rfl,-,-,-⟩:=ae.form;have am:=QcR.step d4 U hv;replace U:=(U.grown V d4 ρ).more V.size;replace I:=cpS ah.out (Nat.lt_add_of_pos_right (by decide)) (I.2.trans J);clear J V hv T d4;have T:=ae;have d4:=am;clear ae am;refine O.out _ _ I.1 fun hHeld=>?_;clear O K hHeld;try simp only[pS]
      refine rd 8 fun K O=>?_
      go_simp;have J:=Qow W3 3;have X:Own (W3.alloc (.cells #[] 3)) (w.heap.size+2) (.slice (some ⟨W3.heap.size,0,none⟩) 0 0) []:=Qa9 (heap_alloc_new W3 (.cells #[] 3)) (QcS aa.out I.2);replace I:=cpS ah.out (Nat.lt_add_of_pos_right (by decide)) (I.2.trans (J.mono (QcS aa.out I.2)));have d8:QcR A3 (Qan F.z) (.slice (some ⟨W3.heap.size,0,none⟩) 0 0):=QcR.late U;replace U:=U.bm J;have dd:=Dis.late T.lt;replace T:=T.below J ρ;clear J;refine O.out _ _ I.1 fun hHeld=>?_;clear O K hHeld;try simp only[pS]
      generalize W3.alloc (.cells #[] 3)=W4 at *)
    |(refine AllReadyH.cons (o:=⟨_,_,_,_,_,_⟩) rfl (fun K O=>?_) AllReadyH.nil
      go_simp;have J:=Qow W2 3;have X:Own (W2.alloc (.cells #[] 3)) (w.heap.size+2) (.slice (some ⟨W2.heap.size,0,none⟩) 0 0) []:=Qa9 (heap_alloc_new W2 (.cells #[] 3)) (QcS aa.out I.2);replace I:=cpS ah.out (Nat.lt_add_of_pos_right (by decide)) (I.2.trans (J.mono (QcS aa.out I.2)));have d8:QcR A3 (Qan F.z) (.slice (some ⟨W2.heap.size,0,none⟩) 0 0):=QcR.late U;replace U:=U.bm J;have dd:=Dis.late T.lt;replace T:=T.below J ρ;clear J;refine O.out _ _ I.1 fun hHeld=>?_;clear O K hHeld;try simp only[pS]
      generalize W2.alloc (.cells #[] 3)=W3 at *;refine rd 7 fun K O=>?_
      refine QaL rfl (.tmp 9) (.tmp 11) rfl (w.heap.size+2) _ [] (w.heap.size+2) A1 c1 pts T (az.out.below I.2) rfl rfl rfl (by rw[List.length_nil];omega) (QcS aa.out I.2) ?_;intro v3 W4 ae J V hv;rw[List.nil_append]at ae;obtain⟨B4,k4,rfl,-,-,-⟩:=ae.form;have am:=QcR.step d4 U hv;replace U:=(U.grown V d4 ρ).more V.size;have aj:=dd.step X.lt hv;replace X:=X.kept V dd.symm.ne;replace dd:=aj;clear aj;replace I:=cpS ah.out (Nat.lt_add_of_pos_right (by decide)) (I.2.trans J);clear J V hv T d4;have T:=ae;have d4:=am;clear ae am;refine O.out _ _ I.1 fun hHeld=>?_;clear O K hHeld;try simp only[pS])
   all_goals
    refine rd 11 fun K O=>?_
    refine QaL rfl (.tmp 13) (.tmp 15) rfl (w.heap.size+2) _ [] (w.heap.size+2) A2 c2 mul X (aJ.out.below I.2) rfl rfl rfl (by rw[List.length_nil];omega) (QcS aa.out I.2) ?_;intro v3 W5 al J V hv;rw[List.nil_append]at al;obtain⟨B8,k8,rfl,-,-,-⟩:=al.form;have ar:=QcR.step d8 U hv;replace U:=(U.grown V d8 ρ).more V.size;have aj:=(dd.symm.step T.lt hv).symm;replace T:=T.kept V dd.ne;replace dd:=aj;clear aj;replace I:=cpS ah.out (Nat.lt_add_of_pos_right (by decide)) (I.2.trans J);clear J V hv X d8;have X:=al;have d8:=ar;clear al ar;refine O.out _ _ I.1 fun hHeld=>?_;clear O K hHeld;try simp only[pS]
    obtain⟨p0,p1,p2,p3,p4,p5,e0,e1,e2,e3,e4,e5⟩:=r6.out.keep I.2 (Nat.lt_succ_self _);refine wpAnyH_take (i:=12) (oi:=⟨_,_,_,_,_,_⟩) (v:=?_) rfl (by kernel_rfl) (by kernel_rfl) (by kernel_rfl) (fun _ _ _ h=>h) (Or.inl ⟨by rfl,?_⟩) (by first |assumption |exact I.1) ?_;rotate_left
    ·intro w aG;(try dsimp only at aG);go_simp;try with_reducible rfl
    try simp only[pS]
    refine rd 13 fun K O=>?_
    go_simp;refine O.out _ _ (QbS (QeS _ _ _ _ _ _) (Nat.lt_succ_self _) I.1) fun hHeld=>?_;clear O K hHeld;refine δ ?_;go_wp2_with fail;refine bodyPost_ret (v:=.agg #[.int .i64 F.p,.int .i64 F.m,.slice A3 F.mod.length c3,.int .i64 K,.slice B4 pts.length k4,.slice B8 mul.length k8]) (by simp[results,Tryz.results186,go_sem,p0,p1,p2,p3,p4,p5]) rfl ⟨A3,c3,B4,k4,B8,k8,rfl,?_,?_,?_,dd,d4,d8,fun b e=>τ (Nat.le_add_right _ 2) (ai b e),(aH.out.trans (I.2.mono (Nat.le_add_right _ _))).trans ((QeS _ _ _ _ _ _).mono (Nat.le_succ _))⟩
    ·exact (U.set6 (fun a e=>Nat.ne_of_gt (ai a e)) _ _ _ _ _ _).more (by simp[World.setCell])
    ·exact (T.set6 _ _ _ _ _ _).lower (by omega)
    ·exact (X.set6 _ _ _ _ _ _).lower (by omega)
  refine AllReadyH.cons (o:=⟨_,_,_,_,_,_⟩) rfl (fun K O=>?_) AllReadyH.nil;go_simp;have J:=Qow W1 3;have X:Own (W1.alloc (.cells #[] 3)) (w.heap.size+2) (.slice (some ⟨W1.heap.size,0,none⟩) 0 0) []:=Qa9 (heap_alloc_new W1 (.cells #[] 3)) (QcS aa.out I.2);replace I:=cpS ah.out (Nat.lt_add_of_pos_right (by decide)) (I.2.trans (J.mono (QcS aa.out I.2)));have d8:QcR A3 (Qan F.z) (.slice (some ⟨W1.heap.size,0,none⟩) 0 0):=QcR.late U;replace U:=U.bm J;clear J;refine O.out _ _ I.1 fun hHeld=>?_;clear O K hHeld;try simp only[pS]
  generalize W1.alloc (.cells #[] 3)=W2 at *;refine rd 4 fun K O=>?_
  go_simp;have J:=Qow W2 3;have T:Own (W2.alloc (.cells #[] 3)) (w.heap.size+2) (.slice (some ⟨W2.heap.size,0,none⟩) 0 0) []:=Qa9 (heap_alloc_new W2 (.cells #[] 3)) (QcS aa.out I.2);replace I:=cpS ah.out (Nat.lt_add_of_pos_right (by decide)) (I.2.trans (J.mono (QcS aa.out I.2)));have d4:QcR A3 (Qan F.z) (.slice (some ⟨W2.heap.size,0,none⟩) 0 0):=QcR.late U;replace U:=U.bm J;have dd:=(Dis.late X.lt).symm;replace X:=X.below J ρ;clear J;refine O.out _ _ I.1 fun hHeld=>?_;clear O K hHeld;try simp only[pS]
  generalize W2.alloc (.cells #[] 3)=W3 at *;refine rd 7 fun K O=>?_
  refine QaL rfl (.tmp 9) (.tmp 11) rfl (w.heap.size+2) _ [] (w.heap.size+2) A1 c1 pts T (az.out.below I.2) rfl rfl rfl (by rw[List.length_nil];omega) (QcS aa.out I.2) ?_;intro v3 W4 ae J V hv;rw[List.nil_append]at ae;obtain⟨B4,k4,rfl,-,-,-⟩:=ae.form;have am:=QcR.step d4 U hv;replace U:=(U.grown V d4 ρ).more V.size;have aj:=dd.step X.lt hv;replace X:=X.kept V dd.symm.ne;replace dd:=aj;clear aj;replace I:=cpS ah.out (Nat.lt_add_of_pos_right (by decide)) (I.2.trans J);clear J V hv T d4;have T:=ae;have d4:=am;clear ae am;refine O.out _ _ I.1 fun hHeld=>?_;clear O K hHeld;try simp only[pS]
  refine rd 11 fun K O=>?_
  refine QaL rfl (.tmp 13) (.tmp 15) rfl (w.heap.size+2) _ [] (w.heap.size+2) A2 c2 mul X (aJ.out.below I.2) rfl rfl rfl (by rw[List.length_nil];omega) (QcS aa.out I.2) ?_;intro v3 W5 al J V hv;rw[List.nil_append]at al;obtain⟨B8,k8,rfl,-,-,-⟩:=al.form;have ar:=QcR.step d8 U hv;replace U:=(U.grown V d8 ρ).more V.size;have aj:=(dd.symm.step T.lt hv).symm;replace T:=T.kept V dd.ne;replace dd:=aj;clear aj;replace I:=cpS ah.out (Nat.lt_add_of_pos_right (by decide)) (I.2.trans J);clear J V hv X d8;have X:=al;have d8:=ar;clear al ar;refine O.out _ _ I.1 fun hHeld=>?_;clear O K hHeld;try simp only[pS]
  obtain⟨p0,p1,p2,p3,p4,p5,e0,e1,e2,e3,e4,e5⟩:=r6.out.keep I.2 (Nat.lt_succ_self _);refine wpAnyH_take (i:=12) (oi:=⟨_,_,_,_,_,_⟩) (v:=?_) rfl (by kernel_rfl) (by kernel_rfl) (by kernel_rfl) (fun _ _ _ h=>h) (Or.inl ⟨by rfl,?_⟩) (by first |assumption |exact I.1) ?_;rotate_left
  ·intro w aG;(try dsimp only at aG);go_simp;try with_reducible rfl
  try simp only[pS]
  refine rd 13 fun K O=>?_
  go_simp;refine O.out _ _ (QbS (QeS _ _ _ _ _ _) (Nat.lt_succ_self _) I.1) fun hHeld=>?_;clear O K hHeld;refine δ ?_;go_wp2_with fail;refine bodyPost_ret (v:=.agg #[.int .i64 F.p,.int .i64 F.m,.slice A3 F.mod.length c3,.int .i64 K,.slice B4 pts.length k4,.slice B8 mul.length k8]) (by simp[results,Tryz.results186,go_sem,p0,p1,p2,p3,p4,p5]) rfl ⟨A3,c3,B4,k4,B8,k8,rfl,?_,?_,?_,dd,d4,d8,fun b e=>τ (Nat.le_add_right _ 2) (ai b e),(aH.out.trans (I.2.mono (Nat.le_add_right _ _))).trans ((QeS _ _ _ _ _ _).mono (Nat.le_succ _))⟩
  ·exact (U.set6 (fun a e=>Nat.ne_of_gt (ai a e)) _ _ _ _ _ _).more (by simp[World.setCell])
  ·exact (T.set6 _ _ _ _ _ _).lower (by omega)
  ·exact (X.set6 _ _ _ _ _ _).lower (by omega)
 refine AllReadyH.cons (o:=⟨_,_,_,_,_,_⟩) rfl (fun K O=>?_) ?_
 ·go_simp;have J:=Qow Z 3;have T:Own (Z.alloc (.cells #[] 3)) (w.heap.size+2) (.slice (some ⟨Z.heap.size,0,none⟩) 0 0) []:=Qa9 (heap_alloc_new Z (.cells #[] 3)) (QcS aa.out I.2);replace I:=cpS ah.out (Nat.lt_add_of_pos_right (by decide)) (I.2.trans (J.mono (QcS aa.out I.2)));clear J;refine O.out _ _ I.1 fun hHeld=>?_;clear O K hHeld;try simp only[pS]
  generalize Z.alloc (.cells #[] 3)=W1 at *;refine wpAnyH_ready (rs:=[1,8]) (by kernel_rfl) (by simp) ?_;refine AllReadyH.cons (o:=⟨_,_,_,_,_,_⟩) rfl (fun K O=>?_) ?_
  ·go_simp;go_at_call 129;(with_reducible refine (aM _ ((aO.out.below I.2).more (QcS aa.out I.2))).out.mono ?_);rintro e W2 ⟨A3,c3,rfl,U,ai,J⟩;have d4:QcR A3 (Qan F.z) _:=QcR.made ai T.lt;replace T:=T.below J ρ;replace ai:∀b,A3=some b→w.heap.size+2≤b.block:=fun b e=>τ (QcS aa.out I.2) (ai b e)
   replace I:=cpS ah.out (Nat.lt_add_of_pos_right (by decide)) (I.2.trans (J.mono (QcS aa.out I.2)));clear J;go_wp2_with fail;refine O.out _ _ I.1 fun hHeld=>?_;clear O K hHeld;try simp only[pS]
   refine wpAnyH_ready (rs:=[7,8]) (by kernel_rfl) (by simp) ?_;refine AllReadyH.cons (o:=⟨_,_,_,_,_,_⟩) rfl (fun K O=>?_) ?_
   all_goals first
    |(refine QaL rfl (.tmp 9) (.tmp 11) rfl (w.heap.size+2) _ [] (w.heap.size+2) A1 c1 pts T (az.out.below I.2) rfl rfl rfl (by rw[List.length_nil];omega) (QcS aa.out I.2) ?_
      intro v3 W3 ae J V hv;rw[List.nil_append]at ae;obtain⟨B4,k4,rfl,-,-,-⟩:=ae.form;have am:=QcR.step d4 U hv;replace U:=(U.grown V d4 ρ).more V.size;replace I:=cpS ah.out (Nat.lt_add_of_pos_right (by decide)) (I.2.trans J);clear J V hv T d4;have T:=ae;have d4:=am;clear ae am;refine O.out _ _ I.1 fun hHeld=>?_;clear O K hHeld;try simp only[pS]
      refine rd 8 fun K O=>?_
      go_simp;have J:=Qow W3 3;have X:Own (W3.alloc (.cells #[] 3)) (w.heap.size+2) (.slice (some ⟨W3.heap.size,0,none⟩) 0 0) []:=Qa9 (heap_alloc_new W3 (.cells #[] 3)) (QcS aa.out I.2);replace I:=cpS ah.out (Nat.lt_add_of_pos_right (by decide)) (I.2.trans (J.mono (QcS aa.out I.2)));have d8:QcR A3 (Qan F.z) (.slice (some ⟨W3.heap.size,0,none⟩) 0 0):=QcR.late U;replace U:=U.bm J;have dd:=Dis.late T.lt;replace T:=T.below J ρ;clear J;refine O.out _ _ I.1 fun hHeld=>?_;clear O K hHeld;try simp only[pS]
      generalize W3.alloc (.cells #[] 3)=W4 at *)
    |(refine AllReadyH.cons (o:=⟨_,_,_,_,_,_⟩) rfl (fun K O=>?_) AllReadyH.nil
      go_simp;have J:=Qow W2 3;have X:Own (W2.alloc (.cells #[] 3)) (w.heap.size+2) (.slice (some ⟨W2.heap.size,0,none⟩) 0 0) []:=Qa9 (heap_alloc_new W2 (.cells #[] 3)) (QcS aa.out I.2);replace I:=cpS ah.out (Nat.lt_add_of_pos_right (by decide)) (I.2.trans (J.mono (QcS aa.out I.2)));have d8:QcR A3 (Qan F.z) (.slice (some ⟨W2.heap.size,0,none⟩) 0 0):=QcR.late U;replace U:=U.bm J;have dd:=Dis.late T.lt;replace T:=T.below J ρ;clear J;refine O.out _ _ I.1 fun hHeld=>?_;clear O K hHeld;try simp only[pS]
      generalize W2.alloc (.cells #[] 3)=W3 at *;refine rd 7 fun K O=>?_
      refine QaL rfl (.tmp 9) (.tmp 11) rfl (w.heap.size+2) _ [] (w.heap.size+2) A1 c1 pts T (az.out.below I.2) rfl rfl rfl (by rw[List.length_nil];omega) (QcS aa.out I.2) ?_;intro v3 W4 ae J V hv;rw[List.nil_append]at ae;obtain⟨B4,k4,rfl,-,-,-⟩:=ae.form;have am:=QcR.step d4 U hv;replace U:=(U.grown V d4 ρ).more V.size;have aj:=dd.step X.lt hv;replace X:=X.kept V dd.symm.ne;replace dd:=aj;clear aj;replace I:=cpS ah.out (Nat.lt_add_of_pos_right (by decide)) (I.2.trans J);clear J V hv T d4;have T:=ae;have d4:=am;clear ae am;refine O.out _ _ I.1 fun hHeld=>?_;clear O K hHeld;try simp only[pS])
   all_goals
    refine rd 11 fun K O=>?_
    refine QaL rfl (.tmp 13) (.tmp 15) rfl (w.heap.size+2) _ [] (w.heap.size+2) A2 c2 mul X (aJ.out.below I.2) rfl rfl rfl (by rw[List.length_nil];omega) (QcS aa.out I.2) ?_;intro v3 W5 al J V hv;rw[List.nil_append]at al;obtain⟨B8,k8,rfl,-,-,-⟩:=al.form;have ar:=QcR.step d8 U hv;replace U:=(U.grown V d8 ρ).more V.size;have aj:=(dd.symm.step T.lt hv).symm;replace T:=T.kept V dd.ne;replace dd:=aj;clear aj;replace I:=cpS ah.out (Nat.lt_add_of_pos_right (by decide)) (I.2.trans J);clear J V hv X d8;have X:=al;have d8:=ar;clear al ar;refine O.out _ _ I.1 fun hHeld=>?_;clear O K hHeld;try simp only[pS]
    obtain⟨p0,p1,p2,p3,p4,p5,e0,e1,e2,e3,e4,e5⟩:=r6.out.keep I.2 (Nat.lt_succ_self _);refine wpAnyH_take (i:=12) (oi:=⟨_,_,_,_,_,_⟩) (v:=?_) rfl (by kernel_rfl) (by kernel_rfl) (by kernel_rfl) (fun _ _ _ h=>h) (Or.inl ⟨by rfl,?_⟩) (by first |assumption |exact I.1) ?_;rotate_left
    ·intro w aG;(try dsimp only at aG);go_simp;try with_reducible rfl
    try simp only[pS]
    refine rd 13 fun K O=>?_
    go_simp;refine O.out _ _ (QbS (QeS _ _ _ _ _ _) (Nat.lt_succ_self _) I.1) fun hHeld=>?_;clear O K hHeld;refine δ ?_;go_wp2_with fail;refine bodyPost_ret (v:=.agg #[.int .i64 F.p,.int .i64 F.m,.slice A3 F.mod.length c3,.int .i64 K,.slice B4 pts.length k4,.slice B8 mul.length k8]) (by simp[results,Tryz.results186,go_sem,p0,p1,p2,p3,p4,p5]) rfl ⟨A3,c3,B4,k4,B8,k8,rfl,?_,?_,?_,dd,d4,d8,fun b e=>τ (Nat.le_add_right _ 2) (ai b e),(aH.out.trans (I.2.mono (Nat.le_add_right _ _))).trans ((QeS _ _ _ _ _ _).mono (Nat.le_succ _))⟩
    ·exact (U.set6 (fun a e=>Nat.ne_of_gt (ai a e)) _ _ _ _ _ _).more (by simp[World.setCell])
    ·exact (T.set6 _ _ _ _ _ _).lower (by omega)
    ·exact (X.set6 _ _ _ _ _ _).lower (by omega)
  refine AllReadyH.cons (o:=⟨_,_,_,_,_,_⟩) rfl (fun K O=>?_) AllReadyH.nil;go_simp;have J:=Qow W1 3;have X:Own (W1.alloc (.cells #[] 3)) (w.heap.size+2) (.slice (some ⟨W1.heap.size,0,none⟩) 0 0) []:=Qa9 (heap_alloc_new W1 (.cells #[] 3)) (QcS aa.out I.2);replace I:=cpS ah.out (Nat.lt_add_of_pos_right (by decide)) (I.2.trans (J.mono (QcS aa.out I.2)));have dd:=Dis.late T.lt;replace T:=T.below J ρ;clear J;refine O.out _ _ I.1 fun hHeld=>?_;clear O K hHeld;try simp only[pS]
  generalize W1.alloc (.cells #[] 3)=W2 at *;refine rd 1 fun K O=>?_
  go_simp;go_at_call 129;(with_reducible refine (aM _ ((aO.out.below I.2).more (QcS aa.out I.2))).out.mono ?_);rintro e W3 ⟨A3,c3,rfl,U,ai,J⟩;have d4:QcR A3 (Qan F.z) _:=QcR.made ai T.lt;replace T:=T.below J ρ;have d8:QcR A3 (Qan F.z) _:=QcR.made ai X.lt;replace X:=X.below J ρ;replace ai:∀b,A3=some b→w.heap.size+2≤b.block:=fun b e=>τ (QcS aa.out I.2) (ai b e)
  replace I:=cpS ah.out (Nat.lt_add_of_pos_right (by decide)) (I.2.trans (J.mono (QcS aa.out I.2)));clear J;go_wp2_with fail;refine O.out _ _ I.1 fun hHeld=>?_;clear O K hHeld;try simp only[pS]
  refine rd 7 fun K O=>?_
  refine QaL rfl (.tmp 9) (.tmp 11) rfl (w.heap.size+2) _ [] (w.heap.size+2) A1 c1 pts T (az.out.below I.2) rfl rfl rfl (by rw[List.length_nil];omega) (QcS aa.out I.2) ?_;intro v3 W4 ae J V hv;rw[List.nil_append]at ae;obtain⟨B4,k4,rfl,-,-,-⟩:=ae.form;have am:=QcR.step d4 U hv;replace U:=(U.grown V d4 ρ).more V.size;have aj:=dd.step X.lt hv;replace X:=X.kept V dd.symm.ne;replace dd:=aj;clear aj;replace I:=cpS ah.out (Nat.lt_add_of_pos_right (by decide)) (I.2.trans J);clear J V hv T d4;have T:=ae;have d4:=am;clear ae am;refine O.out _ _ I.1 fun hHeld=>?_;clear O K hHeld;try simp only[pS]
  refine rd 11 fun K O=>?_
  refine QaL rfl (.tmp 13) (.tmp 15) rfl (w.heap.size+2) _ [] (w.heap.size+2) A2 c2 mul X (aJ.out.below I.2) rfl rfl rfl (by rw[List.length_nil];omega) (QcS aa.out I.2) ?_;intro v3 W5 al J V hv;rw[List.nil_append]at al;obtain⟨B8,k8,rfl,-,-,-⟩:=al.form;have ar:=QcR.step d8 U hv;replace U:=(U.grown V d8 ρ).more V.size;have aj:=(dd.symm.step T.lt hv).symm;replace T:=T.kept V dd.ne;replace dd:=aj;clear aj;replace I:=cpS ah.out (Nat.lt_add_of_pos_right (by decide)) (I.2.trans J);clear J V hv X d8;have X:=al;have d8:=ar;clear al ar;refine O.out _ _ I.1 fun hHeld=>?_;clear O K hHeld;try simp only[pS]
  obtain⟨p0,p1,p2,p3,p4,p5,e0,e1,e2,e3,e4,e5⟩:=r6.out.keep I.2 (Nat.lt_succ_self _);refine wpAnyH_take (i:=12) (oi:=⟨_,_,_,_,_,_⟩) (v:=?_) rfl (by kernel_rfl) (by kernel_rfl) (by kernel_rfl) (fun _ _ _ h=>h) (Or.inl ⟨by rfl,?_⟩) (by first |assumption |exact I.1) ?_;rotate_left
  ·intro w aG;(try dsimp only at aG);go_simp;try with_reducible rfl
  try simp only[pS]
  refine rd 13 fun K O=>?_
  go_simp;refine O.out _ _ (QbS (QeS _ _ _ _ _ _) (Nat.lt_succ_self _) I.1) fun hHeld=>?_;clear O K hHeld;refine δ ?_;go_wp2_with fail;refine bodyPost_ret (v:=.agg #[.int .i64 F.p,.int .i64 F.m,.slice A3 F.mod.length c3,.int .i64 K,.slice B4 pts.length k4,.slice B8 mul.length k8]) (by simp[results,Tryz.results186,go_sem,p0,p1,p2,p3,p4,p5]) rfl ⟨A3,c3,B4,k4,B8,k8,rfl,?_,?_,?_,dd,d4,d8,fun b e=>τ (Nat.le_add_right _ 2) (ai b e),(aH.out.trans (I.2.mono (Nat.le_add_right _ _))).trans ((QeS _ _ _ _ _ _).mono (Nat.le_succ _))⟩
  ·exact (U.set6 (fun a e=>Nat.ne_of_gt (ai a e)) _ _ _ _ _ _).more (by simp[World.setCell])
  ·exact (T.set6 _ _ _ _ _ _).lower (by omega)
  ·exact (X.set6 _ _ _ _ _ _).lower (by omega)
 refine AllReadyH.cons (o:=⟨_,_,_,_,_,_⟩) rfl (fun K O=>?_) AllReadyH.nil;go_simp;have J:=Qow Z 3;have X:Own (Z.alloc (.cells #[] 3)) (w.heap.size+2) (.slice (some ⟨Z.heap.size,0,none⟩) 0 0) []:=Qa9 (heap_alloc_new Z (.cells #[] 3)) (QcS aa.out I.2);replace I:=cpS ah.out (Nat.lt_add_of_pos_right (by decide)) (I.2.trans (J.mono (QcS aa.out I.2)));clear J;refine O.out _ _ I.1 fun hHeld=>?_;clear O K hHeld;try simp only[pS]
 generalize Z.alloc (.cells #[] 3)=W1 at *;refine wpAnyH_ready (rs:=[1,4]) (by kernel_rfl) (by simp) ?_;refine AllReadyH.cons (o:=⟨_,_,_,_,_,_⟩) rfl (fun K O=>?_) ?_
 all_goals first
  |(go_simp
    go_at_call 129;(with_reducible refine (aM _ ((aO.out.below I.2).more (QcS aa.out I.2))).out.mono ?_);rintro e W2 ⟨A3,c3,rfl,U,ai,J⟩;have d8:QcR A3 (Qan F.z) _:=QcR.made ai X.lt;replace X:=X.below J ρ;replace ai:∀b,A3=some b→w.heap.size+2≤b.block:=fun b e=>τ (QcS aa.out I.2) (ai b e)
    replace I:=cpS ah.out (Nat.lt_add_of_pos_right (by decide)) (I.2.trans (J.mono (QcS aa.out I.2)));clear J;go_wp2_with fail;refine O.out _ _ I.1 fun hHeld=>?_;clear O K hHeld;try simp only[pS]
    refine rd 4 fun K O=>?_
    go_simp;have J:=Qow W2 3;have T:Own (W2.alloc (.cells #[] 3)) (w.heap.size+2) (.slice (some ⟨W2.heap.size,0,none⟩) 0 0) []:=Qa9 (heap_alloc_new W2 (.cells #[] 3)) (QcS aa.out I.2);replace I:=cpS ah.out (Nat.lt_add_of_pos_right (by decide)) (I.2.trans (J.mono (QcS aa.out I.2)));have d4:QcR A3 (Qan F.z) (.slice (some ⟨W2.heap.size,0,none⟩) 0 0):=QcR.late U;replace U:=U.bm J;have dd:=(Dis.late X.lt).symm;replace X:=X.below J ρ;clear J;refine O.out _ _ I.1 fun hHeld=>?_;clear O K hHeld;try simp only[pS]
    generalize W2.alloc (.cells #[] 3)=W3 at *)
  |(refine AllReadyH.cons (o:=⟨_,_,_,_,_,_⟩) rfl (fun K O=>?_) AllReadyH.nil
    go_simp;have J:=Qow W1 3;have T:Own (W1.alloc (.cells #[] 3)) (w.heap.size+2) (.slice (some ⟨W1.heap.size,0,none⟩) 0 0) []:=Qa9 (heap_alloc_new W1 (.cells #[] 3)) (QcS aa.out I.2);replace I:=cpS ah.out (Nat.lt_add_of_pos_right (by decide)) (I.2.trans (J.mono (QcS aa.out I.2)));have dd:=(Dis.late X.lt).symm;replace X:=X.below J ρ;clear J;refine O.out _ _ I.1 fun hHeld=>?_;clear O K hHeld;try simp only[pS]
    generalize W1.alloc (.cells #[] 3)=W2 at *;refine rd 1 fun K O=>?_
    go_simp;go_at_call 129;(with_reducible refine (aM _ ((aO.out.below I.2).more (QcS aa.out I.2))).out.mono ?_);rintro e W3 ⟨A3,c3,rfl,U,ai,J⟩;have d4:QcR A3 (Qan F.z) _:=QcR.made ai T.lt;replace T:=T.below J ρ;have d8:QcR A3 (Qan F.z) _:=QcR.made ai X.lt;replace X:=X.below J ρ;replace ai:∀b,A3=some b→w.heap.size+2≤b.block:=fun b e=>τ (QcS aa.out I.2) (ai b e)
    replace I:=cpS ah.out (Nat.lt_add_of_pos_right (by decide)) (I.2.trans (J.mono (QcS aa.out I.2)));clear J;go_wp2_with fail;refine O.out _ _ I.1 fun hHeld=>?_;clear O K hHeld;try simp only[pS])
 all_goals
  refine rd 7 fun K O=>?_
  refine QaL rfl (.tmp 9) (.tmp 11) rfl (w.heap.size+2) _ [] (w.heap.size+2) A1 c1 pts T (az.out.below I.2) rfl rfl rfl (by rw[List.length_nil];omega) (QcS aa.out I.2) ?_;intro v3 W4 ae J V hv;rw[List.nil_append]at ae;obtain⟨B4,k4,rfl,-,-,-⟩:=ae.form;have am:=QcR.step d4 U hv;replace U:=(U.grown V d4 ρ).more V.size;have aj:=dd.step X.lt hv;replace X:=X.kept V dd.symm.ne;replace dd:=aj;clear aj;replace I:=cpS ah.out (Nat.lt_add_of_pos_right (by decide)) (I.2.trans J);clear J V hv T d4;have T:=ae;have d4:=am;clear ae am;refine O.out _ _ I.1 fun hHeld=>?_;clear O K hHeld;try simp only[pS]
  refine rd 11 fun K O=>?_
  refine QaL rfl (.tmp 13) (.tmp 15) rfl (w.heap.size+2) _ [] (w.heap.size+2) A2 c2 mul X (aJ.out.below I.2) rfl rfl rfl (by rw[List.length_nil];omega) (QcS aa.out I.2) ?_;intro v3 W5 al J V hv;rw[List.nil_append]at al;obtain⟨B8,k8,rfl,-,-,-⟩:=al.form;have ar:=QcR.step d8 U hv;replace U:=(U.grown V d8 ρ).more V.size;have aj:=(dd.symm.step T.lt hv).symm;replace T:=T.kept V dd.ne;replace dd:=aj;clear aj;replace I:=cpS ah.out (Nat.lt_add_of_pos_right (by decide)) (I.2.trans J);clear J V hv X d8;have X:=al;have d8:=ar;clear al ar;refine O.out _ _ I.1 fun hHeld=>?_;clear O K hHeld;try simp only[pS]
  obtain⟨p0,p1,p2,p3,p4,p5,e0,e1,e2,e3,e4,e5⟩:=r6.out.keep I.2 (Nat.lt_succ_self _);refine wpAnyH_take (i:=12) (oi:=⟨_,_,_,_,_,_⟩) (v:=?_) rfl (by kernel_rfl) (by kernel_rfl) (by kernel_rfl) (fun _ _ _ h=>h) (Or.inl ⟨by rfl,?_⟩) (by first |assumption |exact I.1) ?_;rotate_left
  ·intro w aG;(try dsimp only at aG);go_simp;try with_reducible rfl
  try simp only[pS]
  refine rd 13 fun K O=>?_
  go_simp;refine O.out _ _ (QbS (QeS _ _ _ _ _ _) (Nat.lt_succ_self _) I.1) fun hHeld=>?_;clear O K hHeld;refine δ ?_;go_wp2_with fail;refine bodyPost_ret (v:=.agg #[.int .i64 F.p,.int .i64 F.m,.slice A3 F.mod.length c3,.int .i64 K,.slice B4 pts.length k4,.slice B8 mul.length k8]) (by simp[results,Tryz.results186,go_sem,p0,p1,p2,p3,p4,p5]) rfl ⟨A3,c3,B4,k4,B8,k8,rfl,?_,?_,?_,dd,d4,d8,fun b e=>τ (Nat.le_add_right _ 2) (ai b e),(aH.out.trans (I.2.mono (Nat.le_add_right _ _))).trans ((QeS _ _ _ _ _ _).mono (Nat.le_succ _))⟩
  ·exact (U.set6 (fun a e=>Nat.ne_of_gt (ai a e)) _ _ _ _ _ _).more (by simp[World.setCell])
  ·exact (T.set6 _ _ _ _ _ _).lower (by omega)
  ·exact (X.set6 _ _ _ _ _ _).lower (by omega)
end Go.Proofs

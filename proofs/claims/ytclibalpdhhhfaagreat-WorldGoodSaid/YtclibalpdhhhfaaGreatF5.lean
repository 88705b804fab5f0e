/- Part 5 of the proofs over this seat: what its theorems say holds for every input that they name. -/
import Derived.Test.YtclibalpdhhhfaaGreatF4
namespace Go.Proofs.YtclibalpdhhhfaaGreat
open Go Go.Eng Go.RowKit
open Go.Eng renaming nf→U, AD→W, Je→Zr, MU→Zk, Pc→Zt, OD→Zb, OU→Zx, Pk→Yi, Pm→Yb, Pi→Ys, Pj→Yp, Ph→Yt, Pg→Yu, PA→Wi, PC→Wb, Py→Ws, Pz→Wp, Px→Wt, Pp→Zf, Pt→Xi, Pv→Xa, Pu→Xb, Ps→Xs, O2→Kt, O3→N, pE→ZT, ov→ZF
open Go.Proofs.Tryz renaming prog→ab
open _root_.List renaming mem_of_getElem?→ah,getElem?_eq_getElem→ai,mem_cons_of_mem→al,mem_singleton→au,replicate→av,mem_append→ax,mem_cons→ay,length_append→az,mem_cons_self→aC,append_assoc→aE,length_take→aI,sublist_cons_self→aW,append_nil→aY,map_append→bo,mem_map→bB,length_map→bI,mem_map_of_mem→bP,length_cons→bS,length_singleton→bU,take_length→bZ,mem_nil_iff→cd,mem_append_right→cm,sublist_append_right→cu,length→cB,perm_append_comm_assoc→fX,length_nil→jj,replicate_succ'→qP,nil_sublist→vn,perm_append_comm→xe,mem_of_mem_take→yz,range→Ba
open _root_.List.Perm renaming cons→aj,swap→am
open _root_.Nat renaming le_refl→ao,le_trans→aS,min_eq_left→bA,zero_le→bK,zero_add→cG
open _root_.List.Sublist renaming refl→ar
open _root_.Option.some renaming inj→bN
set_option maxHeartbeats 4000000
set_option maxRecDepth 20000
set_option linter.unusedSimpArgs false
set_option linter.unusedVariables false
set_option linter.unusedSectionVars false
theorem Oc {w0 w:World} {bb gP:Nat} {b:Bk} {uP:Array Value} {Ls Lo K:List (Nat×Obj)} {F:List cz} {np nr k:Nat} {few wt:Int} {M:Nat->List cQ} {a:Act} (B:Bw w0 w bb b gP uP Ls Lo K F) (hw:WI np nr few wt k M b.a) (hk:k<400) (h1:1<=np) (h4:np<=4) (g:ua np nr a):dg ab uG [.pointer (Qd bb),a.v] w (AU b a w0 bb K F):=by
 refine aF tO Z Z ?_
 have hkd:=g.kind
 have H:=B.H
 show CW _ _ _ _ (args [.pointer (Qd bb),.agg #[J (a.kind),.string (a.name),J (a.part),J (a.n),J (a.m),.string (a.text),J (a.lost)]]) w
 refine W<|Zr<|fW H Z Z fun w1 b3 H=>eI H dp Z fun w2 b4 H=>U<|W<|W<|Zr<|G (Zf mD Z)<|G (Zd ak H 1 Z Z Z)<|U<|Zb<|W<|Zr ?_
 refine cW (bp Z Z) Z Z Z (fun h8=> ?_) (fun h8=> ?_)
 refine G (Wb Z)<|U<|ZT Z<|W<|Zr<|G (Yp Z)<|G (Zw dS H 1 Z Z Z)<|ch td (KK (B.into [(b4,_),(b3,_)] H) hw hk h4 g h1 h8) Z Z ?_
 rintro _ w3 ⟨b2,x2,A9,c9,lo9,hi9,hA9,rfl,hc9,gP9,uP9,Ls9,Lo9,F9,B9,hF9⟩
 replace H:=B9.out (X:=[(b4,_),(b3,_)])
 refine bg H 0 (#[J (x2.code),J (x2.n),.slice A9 x2.texts.length c9]) aP Z Z Z Z Z N N fun w4 H=>U<|Zt ?_
 exact eS (cs0:= #[J (x2.code),J (x2.n),.slice A9 x2.texts.length c9]) Z aM Z (H.ent (i:=0) Z) Z ⟨b2,x2,A9,c9,lo9,hi9,hA9,rfl,hc9,gP9,uP9,Ls9,Lo9,F9,B9.at_ [(b4,_),(b3,_)] H,hF9⟩
 refine G (Wb Z)<|U<|ZF Z<|W<|Zr ?_
 refine cW (bp Z Z) Z Z Z (fun h13=> ?_) (fun h13=> ?_)
 refine G (Wb Z)<|U<|ZT Z<|W<|Zr<|G (Yp Z)<|G (Zw dS H 1 Z Z Z)<|ch sK (Ji (B.into [(b4,_),(b3,_)] H) hw hk h4 g h13) Z Z ?_
 rintro _ w5 ⟨b2,x2,A9,c9,lo9,hi9,hA9,rfl,hc9,gP9,uP9,Ls9,Lo9,F9,B9,hF9⟩
 replace H:=B9.out (X:=[(b4,_),(b3,_)])
 refine bg H 0 (#[J (x2.code),J (x2.n),.slice A9 x2.texts.length c9]) aP Z Z Z Z Z N N fun w6 H=>U<|Zt ?_
 exact eS (cs0:= #[J (x2.code),J (x2.n),.slice A9 x2.texts.length c9]) Z aM Z (H.ent (i:=0) Z) Z ⟨b2,x2,A9,c9,lo9,hi9,hA9,rfl,hc9,gP9,uP9,Ls9,Lo9,F9,B9.at_ [(b4,_),(b3,_)] H,hF9⟩
 refine G (Wb Z)<|U<|ZF Z<|W<|W<|Zr ?_
 refine cW (bp Z Z) Z Z Z (fun h18=> ?_) (fun h18=> ?_)
 refine G (Wb Z)<|U ?_
 refine eG (τ:=Unit) [17,19] (fun _=>[(17,.bool (decide (a.kind=3∨a.kind=4)))]) (fun _ w'=>Hp w0 w' ((b4,.cells #[J (0),J (0),.slice none 0 0] eg (0,0))::(b3,.cells #[J (a.kind),.string (a.name),J (a.part),J (a.n),J (a.m),.string (a.text),J (a.lost)] gd (0,0))::(bb,.cells b.c.toArray bO (0,0))::(gP,.cells uP bM (0,0))::(Ls++(Lo++K))) F) ?_ ?_
 refine ZT Z<|Zk ?_
 exact⟨(),H,dJ (congrArg Value.bool (decide_eq_true I)).symm,Qg⟩
 rintro _ ρ1 w7 H
 show CW _ _ _ _ (dH (gJ _ _ ρ1) [(17,.bool (decide (a.kind=3∨a.kind=4)))]) w7
 refine jo Z (fun hc17=> ?_) (fun hc17=> ?_)
 refine W<|Zr<|G (Yp Z)<|G (Zw dS H 1 Z Z Z)<|G (Zf mD Z)<|G (Zd ak H 1 Z Z Z)<|G (bp Z Z)<|ch m3 (Ew (B.into [(b4,_),(b3,_)] H) hw hk h4 g (of_decide_eq_true hc17)) Z Z ?_
 rintro _ w8 ⟨b2,x2,A9,c9,lo9,hi9,hA9,rfl,hc9,gP9,uP9,Ls9,Lo9,F9,B9,hF9⟩
 replace H:=B9.out (X:=[(b4,_),(b3,_)])
 refine bg H 0 (#[J (x2.code),J (x2.n),.slice A9 x2.texts.length c9]) aP Z Z Z Z Z N N fun w9 H=>U<|Zt ?_
 exact eS (cs0:= #[J (x2.code),J (x2.n),.slice A9 x2.texts.length c9]) Z aM Z (H.ent (i:=0) Z) Z ⟨b2,x2,A9,c9,lo9,hi9,hA9,rfl,hc9,gP9,uP9,Ls9,Lo9,F9,B9.at_ [(b4,_),(b3,_)] H,hF9⟩
 refine W<|Zr ?_
 refine cW (bp Z Z) Z Z Z (fun h27=> ?_) (fun h27=> ?_)
 refine G (Wb Z)<|U<|ZT Z<|W<|Zr<|G (Yp Z)<|G (Zw dS H 1 Z Z Z)<|ch lW (Au (B.into [(b4,_),(b3,_)] H) hw hk h4 g h27) Z Z ?_
 rintro _ w10 ⟨b2,x2,A9,c9,lo9,hi9,hA9,rfl,hc9,gP9,uP9,Ls9,Lo9,F9,B9,hF9⟩
 replace H:=B9.out (X:=[(b4,_),(b3,_)])
 refine bg H 0 (#[J (x2.code),J (x2.n),.slice A9 x2.texts.length c9]) aP Z Z Z Z Z N N fun w11 H=>U<|Zt ?_
 exact eS (cs0:= #[J (x2.code),J (x2.n),.slice A9 x2.texts.length c9]) Z aM Z (H.ent (i:=0) Z) Z ⟨b2,x2,A9,c9,lo9,hi9,hA9,rfl,hc9,gP9,uP9,Ls9,Lo9,F9,B9.at_ [(b4,_),(b3,_)] H,hF9⟩
 refine G (Wb Z)<|U<|ZF Z<|W<|Zr ?_
 refine cW (bp Z Z) Z Z Z (fun h32=> ?_) (fun h32=> ?_)
 refine G (Wb Z)<|U<|ZT Z<|W<|Zr<|G (Yp Z)<|G (Zw dS H 1 Z Z Z)<|ch m4 (EU (B.into [(b4,_),(b3,_)] H) hw hk h4 g h32) Z Z ?_
 rintro _ w12 ⟨b2,x2,A9,c9,lo9,hi9,hA9,rfl,hc9,gP9,uP9,Ls9,Lo9,F9,B9,hF9⟩
 replace H:=B9.out (X:=[(b4,_),(b3,_)])
 refine bg H 0 (#[J (x2.code),J (x2.n),.slice A9 x2.texts.length c9]) aP Z Z Z Z Z N N fun w13 H=>U<|Zt ?_
 exact eS (cs0:= #[J (x2.code),J (x2.n),.slice A9 x2.texts.length c9]) Z aM Z (H.ent (i:=0) Z) Z ⟨b2,x2,A9,c9,lo9,hi9,hA9,rfl,hc9,gP9,uP9,Ls9,Lo9,F9,B9.at_ [(b4,_),(b3,_)] H,hF9⟩
 refine G (Wb Z)<|U<|ZF Z<|W<|Zr ?_
 refine cW (bp Z Z) Z Z Z (fun h37=> ?_) (fun h37=> ?_)
 refine G (Wb Z)<|U<|ZT Z<|W<|Zr<|G (Yp Z)<|G (Zw dS H 1 Z Z Z)<|ch m1 (Eh (B.into [(b4,_),(b3,_)] H) hw hk h4 g h37) Z Z ?_
 rintro _ w14 ⟨b2,x2,A9,c9,lo9,hi9,hA9,rfl,hc9,gP9,uP9,Ls9,Lo9,F9,B9,hF9⟩
 replace H:=B9.out (X:=[(b4,_),(b3,_)])
 refine bg H 0 (#[J (x2.code),J (x2.n),.slice A9 x2.texts.length c9]) aP Z Z Z Z Z N N fun w15 H=>U<|Zt ?_
 exact eS (cs0:= #[J (x2.code),J (x2.n),.slice A9 x2.texts.length c9]) Z aM Z (H.ent (i:=0) Z) Z ⟨b2,x2,A9,c9,lo9,hi9,hA9,rfl,hc9,gP9,uP9,Ls9,Lo9,F9,B9.at_ [(b4,_),(b3,_)] H,hF9⟩
 refine G (Wb Z)<|U<|ZF Z<|W<|W<|Zr ?_
 refine cW (bp Z Z) Z Z Z (fun h42=> ?_) (fun h42=> ?_)
 refine G (Wb Z)<|U ?_
 refine eG (τ:=Unit) [41,43,44,45,46,47,48,49] (fun _=>[(41,.bool (decide (8<=a.kind/\a.kind<=15)))]) (fun _ w'=>Hp w0 w' ((b4,.cells #[J (0),J (0),.slice none 0 0] eg (0,0))::(b3,.cells #[J (a.kind),.string (a.name),J (a.part),J (a.n),J (a.m),.string (a.text),J (a.lost)] gd (0,0))::(bb,.cells b.c.toArray bO (0,0))::(gP,.cells uP bM (0,0))::(Ls++(Lo++K))) F) ?_ ?_
 refine ZT Z<|Zk ?_
 exact⟨(),H,dJ (congrArg Value.bool (decide_eq_true I)).symm,Qg⟩
 rintro _ ρ1 w16 H
 show CW _ _ _ _ (dH (gJ _ _ ρ1) [(41,.bool (decide (8<=a.kind/\a.kind<=15)))]) w16
 refine jo Z (fun hc41=> ?_) (fun hc41=> ?_)
 refine W<|Zr<|G (Yp Z)<|G (Zw dS H 1 Z Z Z)<|ch fY (wg (B.into [(b4,_),(b3,_)] H) hw hk h4 g (of_decide_eq_true hc41)) Z Z ?_
 rintro _ w17 ⟨b2,x2,A9,c9,lo9,hi9,hA9,rfl,hc9,gP9,uP9,Ls9,Lo9,F9,B9,hF9⟩
 replace H:=B9.out (X:=[(b4,_),(b3,_)])
 refine bg H 0 (#[J (x2.code),J (x2.n),.slice A9 x2.texts.length c9]) aP Z Z Z Z Z N N fun w18 H=>U<|Zt ?_
 exact eS (cs0:= #[J (x2.code),J (x2.n),.slice A9 x2.texts.length c9]) Z aM Z (H.ent (i:=0) Z) Z ⟨b2,x2,A9,c9,lo9,hi9,hA9,rfl,hc9,gP9,uP9,Ls9,Lo9,F9,B9.at_ [(b4,_),(b3,_)] H,hF9⟩
 refine W<|W<|Zr ?_
 refine cW (bp Z Z) Z Z Z (fun h54=> ?_) (fun h54=> ?_)
 refine G (Wb Z)<|U ?_
 refine eG (τ:=Unit) [53,55,56,57] (fun _=>[(53,.bool (decide (a.kind=16∨a.kind=18∨a.kind=20)))]) (fun _ w'=>Hp w0 w' ((b4,.cells #[J (0),J (0),.slice none 0 0] eg (0,0))::(b3,.cells #[J (a.kind),.string (a.name),J (a.part),J (a.n),J (a.m),.string (a.text),J (a.lost)] gd (0,0))::(bb,.cells b.c.toArray bO (0,0))::(gP,.cells uP bM (0,0))::(Ls++(Lo++K))) F) ?_ ?_
 refine ZT Z<|Zk ?_
 exact⟨(),H,dJ (congrArg Value.bool (decide_eq_true I)).symm,Qg⟩
 rintro _ ρ1 w19 H
 show CW _ _ _ _ (dH (gJ _ _ ρ1) [(53,.bool (decide (a.kind=16∨a.kind=18∨a.kind=20)))]) w19
 refine jo Z (fun hc53=> ?_) (fun hc53=> ?_)
 refine W<|Zr<|G (Yp Z)<|G (Zw dS H 1 Z Z Z)<|ch dQ (qE (B.into [(b4,_),(b3,_)] H) hw hk h4 g (of_decide_eq_true hc53)) Z Z ?_
 rintro _ w20 ⟨b2,x2,A9,c9,lo9,hi9,hA9,rfl,hc9,gP9,uP9,Ls9,Lo9,F9,B9,hF9⟩
 replace H:=B9.out (X:=[(b4,_),(b3,_)])
 refine bg H 0 (#[J (x2.code),J (x2.n),.slice A9 x2.texts.length c9]) aP Z Z Z Z Z N N fun w21 H=>U<|Zt ?_
 exact eS (cs0:= #[J (x2.code),J (x2.n),.slice A9 x2.texts.length c9]) Z aM Z (H.ent (i:=0) Z) Z ⟨b2,x2,A9,c9,lo9,hi9,hA9,rfl,hc9,gP9,uP9,Ls9,Lo9,F9,B9.at_ [(b4,_),(b3,_)] H,hF9⟩
 refine W<|Zr ?_
 refine cW (bp Z Z) Z Z Z (fun h62=> ?_) (fun h62=> ?_)
 refine G (Wb Z)<|U<|ZT Z<|W<|Zr<|G (Yp Z)<|G (Zw dS H 1 Z Z Z)<|ch ej (nY (B.into [(b4,_),(b3,_)] H) hw hk h4 g h62) Z Z ?_
 rintro _ w22 ⟨b2,x2,A9,c9,lo9,hi9,hA9,rfl,hc9,gP9,uP9,Ls9,Lo9,F9,B9,hF9⟩
 replace H:=B9.out (X:=[(b4,_),(b3,_)])
 refine bg H 0 (#[J (x2.code),J (x2.n),.slice A9 x2.texts.length c9]) aP Z Z Z Z Z N N fun w23 H=>U<|Zt ?_
 exact eS (cs0:= #[J (x2.code),J (x2.n),.slice A9 x2.texts.length c9]) Z aM Z (H.ent (i:=0) Z) Z ⟨b2,x2,A9,c9,lo9,hi9,hA9,rfl,hc9,gP9,uP9,Ls9,Lo9,F9,B9.at_ [(b4,_),(b3,_)] H,hF9⟩
 exfalso;have h41:=of_decide_eq_false hc41;have h53:=of_decide_eq_false hc53;have h17:=of_decide_eq_false hc17;omega
 refine G (Wb Z)<|U ?_
 refine eG (τ:=Unit) [53,55,56,57] (fun _=>[(53,.bool (decide (a.kind=16∨a.kind=18∨a.kind=20)))]) (fun _ w'=>Hp w0 w' ((b4,.cells #[J (0),J (0),.slice none 0 0] eg (0,0))::(b3,.cells #[J (a.kind),.string (a.name),J (a.part),J (a.n),J (a.m),.string (a.text),J (a.lost)] gd (0,0))::(bb,.cells b.c.toArray bO (0,0))::(gP,.cells uP bM (0,0))::(Ls++(Lo++K))) F) ?_ ?_
 refine ZF Z<|W<|Zr ?_
 refine cW (bp Z Z) Z Z Z (fun h55=> ?_) (fun h55=> ?_)
 exact absurd h55 hkd.2.2
 refine G (Wb Z)<|U<|ZF Z<|W<|Zr ?_
 refine cW (bp Z Z) Z Z Z (fun h56=> ?_) (fun h56=> ?_)
 refine G (Wb Z)<|U<|ZT Z<|Zk ?_
 exact⟨(),H,dJ (congrArg Value.bool (decide_eq_true I)).symm,Qg⟩
 refine G (Wb Z)<|U<|ZF Z<|Zr ?_
 refine cW (bp Z Z) Z Z Z (fun h57=> ?_) (fun h57=> ?_)
 refine G (Wb Z)<|U ?_
 exact⟨(),H,dJ (congrArg Value.bool (decide_eq_true I)).symm,Qg⟩
 refine G (Wb Z)<|U ?_
 exact⟨(),H,dJ (congrArg Value.bool (decide_eq_false I)).symm,Qg⟩
 rintro _ ρ1 w24 H
 show CW _ _ _ _ (dH (gJ _ _ ρ1) [(53,.bool (decide (a.kind=16∨a.kind=18∨a.kind=20)))]) w24
 refine jo Z (fun hc53=> ?_) (fun hc53=> ?_)
 refine W<|Zr<|G (Yp Z)<|G (Zw dS H 1 Z Z Z)<|ch dQ (qE (B.into [(b4,_),(b3,_)] H) hw hk h4 g (of_decide_eq_true hc53)) Z Z ?_
 rintro _ w25 ⟨b2,x2,A9,c9,lo9,hi9,hA9,rfl,hc9,gP9,uP9,Ls9,Lo9,F9,B9,hF9⟩
 replace H:=B9.out (X:=[(b4,_),(b3,_)])
 refine bg H 0 (#[J (x2.code),J (x2.n),.slice A9 x2.texts.length c9]) aP Z Z Z Z Z N N fun w26 H=>U<|Zt ?_
 exact eS (cs0:= #[J (x2.code),J (x2.n),.slice A9 x2.texts.length c9]) Z aM Z (H.ent (i:=0) Z) Z ⟨b2,x2,A9,c9,lo9,hi9,hA9,rfl,hc9,gP9,uP9,Ls9,Lo9,F9,B9.at_ [(b4,_),(b3,_)] H,hF9⟩
 refine W<|Zr ?_
 refine cW (bp Z Z) Z Z Z (fun h62=> ?_) (fun h62=> ?_)
 refine G (Wb Z)<|U<|ZT Z<|W<|Zr<|G (Yp Z)<|G (Zw dS H 1 Z Z Z)<|ch ej (nY (B.into [(b4,_),(b3,_)] H) hw hk h4 g h62) Z Z ?_
 rintro _ w27 ⟨b2,x2,A9,c9,lo9,hi9,hA9,rfl,hc9,gP9,uP9,Ls9,Lo9,F9,B9,hF9⟩
 replace H:=B9.out (X:=[(b4,_),(b3,_)])
 refine bg H 0 (#[J (x2.code),J (x2.n),.slice A9 x2.texts.length c9]) aP Z Z Z Z Z N N fun w28 H=>U<|Zt ?_
 exact eS (cs0:= #[J (x2.code),J (x2.n),.slice A9 x2.texts.length c9]) Z aM Z (H.ent (i:=0) Z) Z ⟨b2,x2,A9,c9,lo9,hi9,hA9,rfl,hc9,gP9,uP9,Ls9,Lo9,F9,B9.at_ [(b4,_),(b3,_)] H,hF9⟩
 exfalso;have h41:=of_decide_eq_false hc41;have h53:=of_decide_eq_false hc53;have h17:=of_decide_eq_false hc17;omega
 refine G (Wb Z)<|U ?_
 refine eG (τ:=Unit) [41,43,44,45,46,47,48,49] (fun _=>[(41,.bool (decide (8<=a.kind/\a.kind<=15)))]) (fun _ w'=>Hp w0 w' ((b4,.cells #[J (0),J (0),.slice none 0 0] eg (0,0))::(b3,.cells #[J (a.kind),.string (a.name),J (a.part),J (a.n),J (a.m),.string (a.text),J (a.lost)] gd (0,0))::(bb,.cells b.c.toArray bO (0,0))::(gP,.cells uP bM (0,0))::(Ls++(Lo++K))) F) ?_ ?_
 refine ZF Z<|W<|Zr ?_
 refine cW (bp Z Z) Z Z Z (fun h43=> ?_) (fun h43=> ?_)
 refine G (Wb Z)<|U<|ZT Z<|Zk ?_
 exact⟨(),H,dJ (congrArg Value.bool (decide_eq_true I)).symm,Qg⟩
 refine G (Wb Z)<|U<|ZF Z<|W<|Zr ?_
 refine cW (bp Z Z) Z Z Z (fun h44=> ?_) (fun h44=> ?_)
 refine G (Wb Z)<|U<|ZT Z<|Zk ?_
 exact⟨(),H,dJ (congrArg Value.bool (decide_eq_true I)).symm,Qg⟩
 refine G (Wb Z)<|U<|ZF Z<|W<|Zr ?_
 refine cW (bp Z Z) Z Z Z (fun h45=> ?_) (fun h45=> ?_)
 refine G (Wb Z)<|U<|ZT Z<|Zk ?_
 exact⟨(),H,dJ (congrArg Value.bool (decide_eq_true I)).symm,Qg⟩
 refine G (Wb Z)<|U<|ZF Z<|W<|Zr ?_
 refine cW (bp Z Z) Z Z Z (fun h46=> ?_) (fun h46=> ?_)
 refine G (Wb Z)<|U<|ZT Z<|Zk ?_
 exact⟨(),H,dJ (congrArg Value.bool (decide_eq_true I)).symm,Qg⟩
 refine G (Wb Z)<|U<|ZF Z<|W<|Zr ?_
 refine cW (bp Z Z) Z Z Z (fun h47=> ?_) (fun h47=> ?_)
 refine G (Wb Z)<|U<|ZT Z<|Zk ?_
 exact⟨(),H,dJ (congrArg Value.bool (decide_eq_true I)).symm,Qg⟩
 refine G (Wb Z)<|U<|ZF Z<|W<|Zr ?_
 refine cW (bp Z Z) Z Z Z (fun h48=> ?_) (fun h48=> ?_)
 refine G (Wb Z)<|U<|ZT Z<|Zk ?_
 exact⟨(),H,dJ (congrArg Value.bool (decide_eq_true I)).symm,Qg⟩
 refine G (Wb Z)<|U<|ZF Z<|Zr ?_
 refine cW (bp Z Z) Z Z Z (fun h49=> ?_) (fun h49=> ?_)
 refine G (Wb Z)<|U ?_
 exact⟨(),H,dJ (congrArg Value.bool (decide_eq_true I)).symm,Qg⟩
 refine G (Wb Z)<|U ?_
 exact⟨(),H,dJ (congrArg Value.bool (decide_eq_false I)).symm,Qg⟩
 rintro _ ρ1 w29 H
 show CW _ _ _ _ (dH (gJ _ _ ρ1) [(41,.bool (decide (8<=a.kind/\a.kind<=15)))]) w29
 refine jo Z (fun hc41=> ?_) (fun hc41=> ?_)
 refine W<|Zr<|G (Yp Z)<|G (Zw dS H 1 Z Z Z)<|ch fY (wg (B.into [(b4,_),(b3,_)] H) hw hk h4 g (of_decide_eq_true hc41)) Z Z ?_
 rintro _ w30 ⟨b2,x2,A9,c9,lo9,hi9,hA9,rfl,hc9,gP9,uP9,Ls9,Lo9,F9,B9,hF9⟩
 replace H:=B9.out (X:=[(b4,_),(b3,_)])
 refine bg H 0 (#[J (x2.code),J (x2.n),.slice A9 x2.texts.length c9]) aP Z Z Z Z Z N N fun w31 H=>U<|Zt ?_
 exact eS (cs0:= #[J (x2.code),J (x2.n),.slice A9 x2.texts.length c9]) Z aM Z (H.ent (i:=0) Z) Z ⟨b2,x2,A9,c9,lo9,hi9,hA9,rfl,hc9,gP9,uP9,Ls9,Lo9,F9,B9.at_ [(b4,_),(b3,_)] H,hF9⟩
 refine W<|W<|Zr ?_
 refine cW (bp Z Z) Z Z Z (fun h54=> ?_) (fun h54=> ?_)
 refine G (Wb Z)<|U ?_
 refine eG (τ:=Unit) [53,55,56,57] (fun _=>[(53,.bool (decide (a.kind=16∨a.kind=18∨a.kind=20)))]) (fun _ w'=>Hp w0 w' ((b4,.cells #[J (0),J (0),.slice none 0 0] eg (0,0))::(b3,.cells #[J (a.kind),.string (a.name),J (a.part),J (a.n),J (a.m),.string (a.text),J (a.lost)] gd (0,0))::(bb,.cells b.c.toArray bO (0,0))::(gP,.cells uP bM (0,0))::(Ls++(Lo++K))) F) ?_ ?_
 refine ZT Z<|Zk ?_
 exact⟨(),H,dJ (congrArg Value.bool (decide_eq_true I)).symm,Qg⟩
 rintro _ ρ1 w32 H
 show CW _ _ _ _ (dH (gJ _ _ ρ1) [(53,.bool (decide (a.kind=16∨a.kind=18∨a.kind=20)))]) w32
 refine jo Z (fun hc53=> ?_) (fun hc53=> ?_)
 refine W<|Zr<|G (Yp Z)<|G (Zw dS H 1 Z Z Z)<|ch dQ (qE (B.into [(b4,_),(b3,_)] H) hw hk h4 g (of_decide_eq_true hc53)) Z Z ?_
 rintro _ w33 ⟨b2,x2,A9,c9,lo9,hi9,hA9,rfl,hc9,gP9,uP9,Ls9,Lo9,F9,B9,hF9⟩
 replace H:=B9.out (X:=[(b4,_),(b3,_)])
 refine bg H 0 (#[J (x2.code),J (x2.n),.slice A9 x2.texts.length c9]) aP Z Z Z Z Z N N fun w34 H=>U<|Zt ?_
 exact eS (cs0:= #[J (x2.code),J (x2.n),.slice A9 x2.texts.length c9]) Z aM Z (H.ent (i:=0) Z) Z ⟨b2,x2,A9,c9,lo9,hi9,hA9,rfl,hc9,gP9,uP9,Ls9,Lo9,F9,B9.at_ [(b4,_),(b3,_)] H,hF9⟩
 refine W<|Zr ?_
 refine cW (bp Z Z) Z Z Z (fun h62=> ?_) (fun h62=> ?_)
 refine G (Wb Z)<|U<|ZT Z<|W<|Zr<|G (Yp Z)<|G (Zw dS H 1 Z Z Z)<|ch ej (nY (B.into [(b4,_),(b3,_)] H) hw hk h4 g h62) Z Z ?_
 rintro _ w35 ⟨b2,x2,A9,c9,lo9,hi9,hA9,rfl,hc9,gP9,uP9,Ls9,Lo9,F9,B9,hF9⟩
 replace H:=B9.out (X:=[(b4,_),(b3,_)])
 refine bg H 0 (#[J (x2.code),J (x2.n),.slice A9 x2.texts.length c9]) aP Z Z Z Z Z N N fun w36 H=>U<|Zt ?_
 exact eS (cs0:= #[J (x2.code),J (x2.n),.slice A9 x2.texts.length c9]) Z aM Z (H.ent (i:=0) Z) Z ⟨b2,x2,A9,c9,lo9,hi9,hA9,rfl,hc9,gP9,uP9,Ls9,Lo9,F9,B9.at_ [(b4,_),(b3,_)] H,hF9⟩
 exfalso;have h41:=of_decide_eq_false hc41;have h53:=of_decide_eq_false hc53;have h17:=of_decide_eq_false hc17;omega
 refine G (Wb Z)<|U ?_
 refine eG (τ:=Unit) [53,55,56,57] (fun _=>[(53,.bool (decide (a.kind=16∨a.kind=18∨a.kind=20)))]) (fun _ w'=>Hp w0 w' ((b4,.cells #[J (0),J (0),.slice none 0 0] eg (0,0))::(b3,.cells #[J (a.kind),.string (a.name),J (a.part),J (a.n),J (a.m),.string (a.text),J (a.lost)] gd (0,0))::(bb,.cells b.c.toArray bO (0,0))::(gP,.cells uP bM (0,0))::(Ls++(Lo++K))) F) ?_ ?_
 refine ZF Z<|W<|Zr ?_
 refine cW (bp Z Z) Z Z Z (fun h55=> ?_) (fun h55=> ?_)
 exact absurd h55 hkd.2.2
 refine G (Wb Z)<|U<|ZF Z<|W<|Zr ?_
 refine cW (bp Z Z) Z Z Z (fun h56=> ?_) (fun h56=> ?_)
 refine G (Wb Z)<|U<|ZT Z<|Zk ?_
 exact⟨(),H,dJ (congrArg Value.bool (decide_eq_true I)).symm,Qg⟩
 refine G (Wb Z)<|U<|ZF Z<|Zr ?_
 refine cW (bp Z Z) Z Z Z (fun h57=> ?_) (fun h57=> ?_)
 refine G (Wb Z)<|U ?_
 exact⟨(),H,dJ (congrArg Value.bool (decide_eq_true I)).symm,Qg⟩
 refine G (Wb Z)<|U ?_
 exact⟨(),H,dJ (congrArg Value.bool (decide_eq_false I)).symm,Qg⟩
 rintro _ ρ1 w37 H
 show CW _ _ _ _ (dH (gJ _ _ ρ1) [(53,.bool (decide (a.kind=16∨a.kind=18∨a.kind=20)))]) w37
 refine jo Z (fun hc53=> ?_) (fun hc53=> ?_)
 refine W<|Zr<|G (Yp Z)<|G (Zw dS H 1 Z Z Z)<|ch dQ (qE (B.into [(b4,_),(b3,_)] H) hw hk h4 g (of_decide_eq_true hc53)) Z Z ?_
 rintro _ w38 ⟨b2,x2,A9,c9,lo9,hi9,hA9,rfl,hc9,gP9,uP9,Ls9,Lo9,F9,B9,hF9⟩
 replace H:=B9.out (X:=[(b4,_),(b3,_)])
 refine bg H 0 (#[J (x2.code),J (x2.n),.slice A9 x2.texts.length c9]) aP Z Z Z Z Z N N fun w39 H=>U<|Zt ?_
 exact eS (cs0:= #[J (x2.code),J (x2.n),.slice A9 x2.texts.length c9]) Z aM Z (H.ent (i:=0) Z) Z ⟨b2,x2,A9,c9,lo9,hi9,hA9,rfl,hc9,gP9,uP9,Ls9,Lo9,F9,B9.at_ [(b4,_),(b3,_)] H,hF9⟩
 refine W<|Zr ?_
 refine cW (bp Z Z) Z Z Z (fun h62=> ?_) (fun h62=> ?_)
 refine G (Wb Z)<|U<|ZT Z<|W<|Zr<|G (Yp Z)<|G (Zw dS H 1 Z Z Z)<|ch ej (nY (B.into [(b4,_),(b3,_)] H) hw hk h4 g h62) Z Z ?_
 rintro _ w40 ⟨b2,x2,A9,c9,lo9,hi9,hA9,rfl,hc9,gP9,uP9,Ls9,Lo9,F9,B9,hF9⟩
 replace H:=B9.out (X:=[(b4,_),(b3,_)])
 refine bg H 0 (#[J (x2.code),J (x2.n),.slice A9 x2.texts.length c9]) aP Z Z Z Z Z N N fun w41 H=>U<|Zt ?_
 exact eS (cs0:= #[J (x2.code),J (x2.n),.slice A9 x2.texts.length c9]) Z aM Z (H.ent (i:=0) Z) Z ⟨b2,x2,A9,c9,lo9,hi9,hA9,rfl,hc9,gP9,uP9,Ls9,Lo9,F9,B9.at_ [(b4,_),(b3,_)] H,hF9⟩
 exfalso;have h41:=of_decide_eq_false hc41;have h53:=of_decide_eq_false hc53;have h17:=of_decide_eq_false hc17;omega
 refine G (Wb Z)<|U ?_
 refine eG (τ:=Unit) [17,19] (fun _=>[(17,.bool (decide (a.kind=3∨a.kind=4)))]) (fun _ w'=>Hp w0 w' ((b4,.cells #[J (0),J (0),.slice none 0 0] eg (0,0))::(b3,.cells #[J (a.kind),.string (a.name),J (a.part),J (a.n),J (a.m),.string (a.text),J (a.lost)] gd (0,0))::(bb,.cells b.c.toArray bO (0,0))::(gP,.cells uP bM (0,0))::(Ls++(Lo++K))) F) ?_ ?_
 refine ZF Z<|Zr ?_
 refine cW (bp Z Z) Z Z Z (fun h19=> ?_) (fun h19=> ?_)
 refine G (Wb Z)<|U ?_
 exact⟨(),H,dJ (congrArg Value.bool (decide_eq_true I)).symm,Qg⟩
 refine G (Wb Z)<|U ?_
 exact⟨(),H,dJ (congrArg Value.bool (decide_eq_false I)).symm,Qg⟩
 rintro _ ρ1 w42 H
 show CW _ _ _ _ (dH (gJ _ _ ρ1) [(17,.bool (decide (a.kind=3∨a.kind=4)))]) w42
 refine jo Z (fun hc17=> ?_) (fun hc17=> ?_)
 refine W<|Zr<|G (Yp Z)<|G (Zw dS H 1 Z Z Z)<|G (Zf mD Z)<|G (Zd ak H 1 Z Z Z)<|G (bp Z Z)<|ch m3 (Ew (B.into [(b4,_),(b3,_)] H) hw hk h4 g (of_decide_eq_true hc17)) Z Z ?_
 rintro _ w43 ⟨b2,x2,A9,c9,lo9,hi9,hA9,rfl,hc9,gP9,uP9,Ls9,Lo9,F9,B9,hF9⟩
 replace H:=B9.out (X:=[(b4,_),(b3,_)])
 refine bg H 0 (#[J (x2.code),J (x2.n),.slice A9 x2.texts.length c9]) aP Z Z Z Z Z N N fun w44 H=>U<|Zt ?_
 exact eS (cs0:= #[J (x2.code),J (x2.n),.slice A9 x2.texts.length c9]) Z aM Z (H.ent (i:=0) Z) Z ⟨b2,x2,A9,c9,lo9,hi9,hA9,rfl,hc9,gP9,uP9,Ls9,Lo9,F9,B9.at_ [(b4,_),(b3,_)] H,hF9⟩
 refine W<|Zr ?_
 refine cW (bp Z Z) Z Z Z (fun h27=> ?_) (fun h27=> ?_)
 refine G (Wb Z)<|U<|ZT Z<|W<|Zr<|G (Yp Z)<|G (Zw dS H 1 Z Z Z)<|ch lW (Au (B.into [(b4,_),(b3,_)] H) hw hk h4 g h27) Z Z ?_
 rintro _ w45 ⟨b2,x2,A9,c9,lo9,hi9,hA9,rfl,hc9,gP9,uP9,Ls9,Lo9,F9,B9,hF9⟩
 replace H:=B9.out (X:=[(b4,_),(b3,_)])
 refine bg H 0 (#[J (x2.code),J (x2.n),.slice A9 x2.texts.length c9]) aP Z Z Z Z Z N N fun w46 H=>U<|Zt ?_
 exact eS (cs0:= #[J (x2.code),J (x2.n),.slice A9 x2.texts.length c9]) Z aM Z (H.ent (i:=0) Z) Z ⟨b2,x2,A9,c9,lo9,hi9,hA9,rfl,hc9,gP9,uP9,Ls9,Lo9,F9,B9.at_ [(b4,_),(b3,_)] H,hF9⟩
 refine G (Wb Z)<|U<|ZF Z<|W<|Zr ?_
 refine cW (bp Z Z) Z Z Z (fun h32=> ?_) (fun h32=> ?_)
 refine G (Wb Z)<|U<|ZT Z<|W<|Zr<|G (Yp Z)<|G (Zw dS H 1 Z Z Z)<|ch m4 (EU (B.into [(b4,_),(b3,_)] H) hw hk h4 g h32) Z Z ?_
 rintro _ w47 ⟨b2,x2,A9,c9,lo9,hi9,hA9,rfl,hc9,gP9,uP9,Ls9,Lo9,F9,B9,hF9⟩
 replace H:=B9.out (X:=[(b4,_),(b3,_)])
 refine bg H 0 (#[J (x2.code),J (x2.n),.slice A9 x2.texts.length c9]) aP Z Z Z Z Z N N fun w48 H=>U<|Zt ?_
 exact eS (cs0:= #[J (x2.code),J (x2.n),.slice A9 x2.texts.length c9]) Z aM Z (H.ent (i:=0) Z) Z ⟨b2,x2,A9,c9,lo9,hi9,hA9,rfl,hc9,gP9,uP9,Ls9,Lo9,F9,B9.at_ [(b4,_),(b3,_)] H,hF9⟩
 refine G (Wb Z)<|U<|ZF Z<|W<|Zr ?_
 refine cW (bp Z Z) Z Z Z (fun h37=> ?_) (fun h37=> ?_)
 refine G (Wb Z)<|U<|ZT Z<|W<|Zr<|G (Yp Z)<|G (Zw dS H 1 Z Z Z)<|ch m1 (Eh (B.into [(b4,_),(b3,_)] H) hw hk h4 g h37) Z Z ?_
 rintro _ w49 ⟨b2,x2,A9,c9,lo9,hi9,hA9,rfl,hc9,gP9,uP9,Ls9,Lo9,F9,B9,hF9⟩
 replace H:=B9.out (X:=[(b4,_),(b3,_)])
 refine bg H 0 (#[J (x2.code),J (x2.n),.slice A9 x2.texts.length c9]) aP Z Z Z Z Z N N fun w50 H=>U<|Zt ?_
 exact eS (cs0:= #[J (x2.code),J (x2.n),.slice A9 x2.texts.length c9]) Z aM Z (H.ent (i:=0) Z) Z ⟨b2,x2,A9,c9,lo9,hi9,hA9,rfl,hc9,gP9,uP9,Ls9,Lo9,F9,B9.at_ [(b4,_),(b3,_)] H,hF9⟩
 refine G (Wb Z)<|U<|ZF Z<|W<|W<|Zr ?_
 refine cW (bp Z Z) Z Z Z (fun h42=> ?_) (fun h42=> ?_)
 refine G (Wb Z)<|U ?_
 refine eG (τ:=Unit) [41,43,44,45,46,47,48,49] (fun _=>[(41,.bool (decide (8<=a.kind/\a.kind<=15)))]) (fun _ w'=>Hp w0 w' ((b4,.cells #[J (0),J (0),.slice none 0 0] eg (0,0))::(b3,.cells #[J (a.kind),.string (a.name),J (a.part),J (a.n),J (a.m),.string (a.text),J (a.lost)] gd (0,0))::(bb,.cells b.c.toArray bO (0,0))::(gP,.cells uP bM (0,0))::(Ls++(Lo++K))) F) ?_ ?_
 refine ZT Z<|Zk ?_
 exact⟨(),H,dJ (congrArg Value.bool (decide_eq_true I)).symm,Qg⟩
 rintro _ ρ1 w51 H
 show CW _ _ _ _ (dH (gJ _ _ ρ1) [(41,.bool (decide (8<=a.kind/\a.kind<=15)))]) w51
 refine jo Z (fun hc41=> ?_) (fun hc41=> ?_)
 refine W<|Zr<|G (Yp Z)<|G (Zw dS H 1 Z Z Z)<|ch fY (wg (B.into [(b4,_),(b3,_)] H) hw hk h4 g (of_decide_eq_true hc41)) Z Z ?_
 rintro _ w52 ⟨b2,x2,A9,c9,lo9,hi9,hA9,rfl,hc9,gP9,uP9,Ls9,Lo9,F9,B9,hF9⟩
 replace H:=B9.out (X:=[(b4,_),(b3,_)])
 refine bg H 0 (#[J (x2.code),J (x2.n),.slice A9 x2.texts.length c9]) aP Z Z Z Z Z N N fun w53 H=>U<|Zt ?_
 exact eS (cs0:= #[J (x2.code),J (x2.n),.slice A9 x2.texts.length c9]) Z aM Z (H.ent (i:=0) Z) Z ⟨b2,x2,A9,c9,lo9,hi9,hA9,rfl,hc9,gP9,uP9,Ls9,Lo9,F9,B9.at_ [(b4,_),(b3,_)] H,hF9⟩
 refine W<|W<|Zr ?_
 refine cW (bp Z Z) Z Z Z (fun h54=> ?_) (fun h54=> ?_)
 refine G (Wb Z)<|U ?_
 refine eG (τ:=Unit) [53,55,56,57] (fun _=>[(53,.bool (decide (a.kind=16∨a.kind=18∨a.kind=20)))]) (fun _ w'=>Hp w0 w' ((b4,.cells #[J (0),J (0),.slice none 0 0] eg (0,0))::(b3,.cells #[J (a.kind),.string (a.name),J (a.part),J (a.n),J (a.m),.string (a.text),J (a.lost)] gd (0,0))::(bb,.cells b.c.toArray bO (0,0))::(gP,.cells uP bM (0,0))::(Ls++(Lo++K))) F) ?_ ?_
 refine ZT Z<|Zk ?_
 exact⟨(),H,dJ (congrArg Value.bool (decide_eq_true I)).symm,Qg⟩
 rintro _ ρ1 w54 H
 show CW _ _ _ _ (dH (gJ _ _ ρ1) [(53,.bool (decide (a.kind=16∨a.kind=18∨a.kind=20)))]) w54
 refine jo Z (fun hc53=> ?_) (fun hc53=> ?_)
 refine W<|Zr<|G (Yp Z)<|G (Zw dS H 1 Z Z Z)<|ch dQ (qE (B.into [(b4,_),(b3,_)] H) hw hk h4 g (of_decide_eq_true hc53)) Z Z ?_
 rintro _ w55 ⟨b2,x2,A9,c9,lo9,hi9,hA9,rfl,hc9,gP9,uP9,Ls9,Lo9,F9,B9,hF9⟩
 replace H:=B9.out (X:=[(b4,_),(b3,_)])
 refine bg H 0 (#[J (x2.code),J (x2.n),.slice A9 x2.texts.length c9]) aP Z Z Z Z Z N N fun w56 H=>U<|Zt ?_
 exact eS (cs0:= #[J (x2.code),J (x2.n),.slice A9 x2.texts.length c9]) Z aM Z (H.ent (i:=0) Z) Z ⟨b2,x2,A9,c9,lo9,hi9,hA9,rfl,hc9,gP9,uP9,Ls9,Lo9,F9,B9.at_ [(b4,_),(b3,_)] H,hF9⟩
 refine W<|Zr ?_
 refine cW (bp Z Z) Z Z Z (fun h62=> ?_) (fun h62=> ?_)
 refine G (Wb Z)<|U<|ZT Z<|W<|Zr<|G (Yp Z)<|G (Zw dS H 1 Z Z Z)<|ch ej (nY (B.into [(b4,_),(b3,_)] H) hw hk h4 g h62) Z Z ?_
 rintro _ w57 ⟨b2,x2,A9,c9,lo9,hi9,hA9,rfl,hc9,gP9,uP9,Ls9,Lo9,F9,B9,hF9⟩
 replace H:=B9.out (X:=[(b4,_),(b3,_)])
 refine bg H 0 (#[J (x2.code),J (x2.n),.slice A9 x2.texts.length c9]) aP Z Z Z Z Z N N fun w58 H=>U<|Zt ?_
 exact eS (cs0:= #[J (x2.code),J (x2.n),.slice A9 x2.texts.length c9]) Z aM Z (H.ent (i:=0) Z) Z ⟨b2,x2,A9,c9,lo9,hi9,hA9,rfl,hc9,gP9,uP9,Ls9,Lo9,F9,B9.at_ [(b4,_),(b3,_)] H,hF9⟩
 exfalso;have h41:=of_decide_eq_false hc41;have h53:=of_decide_eq_false hc53;have h17:=of_decide_eq_false hc17;omega
 refine G (Wb Z)<|U ?_
 refine eG (τ:=Unit) [53,55,56,57] (fun _=>[(53,.bool (decide (a.kind=16∨a.kind=18∨a.kind=20)))]) (fun _ w'=>Hp w0 w' ((b4,.cells #[J (0),J (0),.slice none 0 0] eg (0,0))::(b3,.cells #[J (a.kind),.string (a.name),J (a.part),J (a.n),J (a.m),.string (a.text),J (a.lost)] gd (0,0))::(bb,.cells b.c.toArray bO (0,0))::(gP,.cells uP bM (0,0))::(Ls++(Lo++K))) F) ?_ ?_
 refine ZF Z<|W<|Zr ?_
 refine cW (bp Z Z) Z Z Z (fun h55=> ?_) (fun h55=> ?_)
 exact absurd h55 hkd.2.2
 refine G (Wb Z)<|U<|ZF Z<|W<|Zr ?_
 refine cW (bp Z Z) Z Z Z (fun h56=> ?_) (fun h56=> ?_)
 refine G (Wb Z)<|U<|ZT Z<|Zk ?_
 exact⟨(),H,dJ (congrArg Value.bool (decide_eq_true I)).symm,Qg⟩
 refine G (Wb Z)<|U<|ZF Z<|Zr ?_
 refine cW (bp Z Z) Z Z Z (fun h57=> ?_) (fun h57=> ?_)
 refine G (Wb Z)<|U ?_
 exact⟨(),H,dJ (congrArg Value.bool (decide_eq_true I)).symm,Qg⟩
 refine G (Wb Z)<|U ?_
 exact⟨(),H,dJ (congrArg Value.bool (decide_eq_false I)).symm,Qg⟩
 rintro _ ρ1 w59 H
 show CW _ _ _ _ (dH (gJ _ _ ρ1) [(53,.bool (decide (a.kind=16∨a.kind=18∨a.kind=20)))]) w59
 refine jo Z (fun hc53=> ?_) (fun hc53=> ?_)
 refine W<|Zr<|G (Yp Z)<|G (Zw dS H 1 Z Z Z)<|ch dQ (qE (B.into [(b4,_),(b3,_)] H) hw hk h4 g (of_decide_eq_true hc53)) Z Z ?_
 rintro _ w60 ⟨b2,x2,A9,c9,lo9,hi9,hA9,rfl,hc9,gP9,uP9,Ls9,Lo9,F9,B9,hF9⟩
 replace H:=B9.out (X:=[(b4,_),(b3,_)])
 refine bg H 0 (#[J (x2.code),J (x2.n),.slice A9 x2.texts.length c9]) aP Z Z Z Z Z N N fun w61 H=>U<|Zt ?_
 exact eS (cs0:= #[J (x2.code),J (x2.n),.slice A9 x2.texts.length c9]) Z aM Z (H.ent (i:=0) Z) Z ⟨b2,x2,A9,c9,lo9,hi9,hA9,rfl,hc9,gP9,uP9,Ls9,Lo9,F9,B9.at_ [(b4,_),(b3,_)] H,hF9⟩
 refine W<|Zr ?_
 refine cW (bp Z Z) Z Z Z (fun h62=> ?_) (fun h62=> ?_)
 refine G (Wb Z)<|U<|ZT Z<|W<|Zr<|G (Yp Z)<|G (Zw dS H 1 Z Z Z)<|ch ej (nY (B.into [(b4,_),(b3,_)] H) hw hk h4 g h62) Z Z ?_
 rintro _ w62 ⟨b2,x2,A9,c9,lo9,hi9,hA9,rfl,hc9,gP9,uP9,Ls9,Lo9,F9,B9,hF9⟩
 replace H:=B9.out (X:=[(b4,_),(b3,_)])
 refine bg H 0 (#[J (x2.code),J (x2.n),.slice A9 x2.texts.length c9]) aP Z Z Z Z Z N N fun w63 H=>U<|Zt ?_
 exact eS (cs0:= #[J (x2.code),J (x2.n),.slice A9 x2.texts.length c9]) Z aM Z (H.ent (i:=0) Z) Z ⟨b2,x2,A9,c9,lo9,hi9,hA9,rfl,hc9,gP9,uP9,Ls9,Lo9,F9,B9.at_ [(b4,_),(b3,_)] H,hF9⟩
 exfalso;have h41:=of_decide_eq_false hc41;have h53:=of_decide_eq_false hc53;have h17:=of_decide_eq_false hc17;omega
 refine G (Wb Z)<|U ?_
 refine eG (τ:=Unit) [41,43,44,45,46,47,48,49] (fun _=>[(41,.bool (decide (8<=a.kind/\a.kind<=15)))]) (fun _ w'=>Hp w0 w' ((b4,.cells #[J (0),J (0),.slice none 0 0] eg (0,0))::(b3,.cells #[J (a.kind),.string (a.name),J (a.part),J (a.n),J (a.m),.string (a.text),J (a.lost)] gd (0,0))::(bb,.cells b.c.toArray bO (0,0))::(gP,.cells uP bM (0,0))::(Ls++(Lo++K))) F) ?_ ?_
 refine ZF Z<|W<|Zr ?_
 refine cW (bp Z Z) Z Z Z (fun h43=> ?_) (fun h43=> ?_)
 refine G (Wb Z)<|U<|ZT Z<|Zk ?_
 exact⟨(),H,dJ (congrArg Value.bool (decide_eq_true I)).symm,Qg⟩
 refine G (Wb Z)<|U<|ZF Z<|W<|Zr ?_
 refine cW (bp Z Z) Z Z Z (fun h44=> ?_) (fun h44=> ?_)
 refine G (Wb Z)<|U<|ZT Z<|Zk ?_
 exact⟨(),H,dJ (congrArg Value.bool (decide_eq_true I)).symm,Qg⟩
 refine G (Wb Z)<|U<|ZF Z<|W<|Zr ?_
 refine cW (bp Z Z) Z Z Z (fun h45=> ?_) (fun h45=> ?_)
 refine G (Wb Z)<|U<|ZT Z<|Zk ?_
 exact⟨(),H,dJ (congrArg Value.bool (decide_eq_true I)).symm,Qg⟩
 refine G (Wb Z)<|U<|ZF Z<|W<|Zr ?_
 refine cW (bp Z Z) Z Z Z (fun h46=> ?_) (fun h46=> ?_)
 refine G (Wb Z)<|U<|ZT Z<|Zk ?_
 exact⟨(),H,dJ (congrArg Value.bool (decide_eq_true I)).symm,Qg⟩
 refine G (Wb Z)<|U<|ZF Z<|W<|Zr ?_
 refine cW (bp Z Z) Z Z Z (fun h47=> ?_) (fun h47=> ?_)
 refine G (Wb Z)<|U<|ZT Z<|Zk ?_
 exact⟨(),H,dJ (congrArg Value.bool (decide_eq_true I)).symm,Qg⟩
 refine G (Wb Z)<|U<|ZF Z<|W<|Zr ?_
 refine cW (bp Z Z) Z Z Z (fun h48=> ?_) (fun h48=> ?_)
 refine G (Wb Z)<|U<|ZT Z<|Zk ?_
 exact⟨(),H,dJ (congrArg Value.bool (decide_eq_true I)).symm,Qg⟩
 refine G (Wb Z)<|U<|ZF Z<|Zr ?_
 refine cW (bp Z Z) Z Z Z (fun h49=> ?_) (fun h49=> ?_)
 refine G (Wb Z)<|U ?_
 exact⟨(),H,dJ (congrArg Value.bool (decide_eq_true I)).symm,Qg⟩
 refine G (Wb Z)<|U ?_
 exact⟨(),H,dJ (congrArg Value.bool (decide_eq_false I)).symm,Qg⟩
 rintro _ ρ1 w64 H
 show CW _ _ _ _ (dH (gJ _ _ ρ1) [(41,.bool (decide (8<=a.kind/\a.kind<=15)))]) w64
 refine jo Z (fun hc41=> ?_) (fun hc41=> ?_)
 refine W<|Zr<|G (Yp Z)<|G (Zw dS H 1 Z Z Z)<|ch fY (wg (B.into [(b4,_),(b3,_)] H) hw hk h4 g (of_decide_eq_true hc41)) Z Z ?_
 rintro _ w65 ⟨b2,x2,A9,c9,lo9,hi9,hA9,rfl,hc9,gP9,uP9,Ls9,Lo9,F9,B9,hF9⟩
 replace H:=B9.out (X:=[(b4,_),(b3,_)])
 refine bg H 0 (#[J (x2.code),J (x2.n),.slice A9 x2.texts.length c9]) aP Z Z Z Z Z N N fun w66 H=>U<|Zt ?_
 exact eS (cs0:= #[J (x2.code),J (x2.n),.slice A9 x2.texts.length c9]) Z aM Z (H.ent (i:=0) Z) Z ⟨b2,x2,A9,c9,lo9,hi9,hA9,rfl,hc9,gP9,uP9,Ls9,Lo9,F9,B9.at_ [(b4,_),(b3,_)] H,hF9⟩
 refine W<|W<|Zr ?_
 refine cW (bp Z Z) Z Z Z (fun h54=> ?_) (fun h54=> ?_)
 refine G (Wb Z)<|U ?_
 refine eG (τ:=Unit) [53,55,56,57] (fun _=>[(53,.bool (decide (a.kind=16∨a.kind=18∨a.kind=20)))]) (fun _ w'=>Hp w0 w' ((b4,.cells #[J (0),J (0),.slice none 0 0] eg (0,0))::(b3,.cells #[J (a.kind),.string (a.name),J (a.part),J (a.n),J (a.m),.string (a.text),J (a.lost)] gd (0,0))::(bb,.cells b.c.toArray bO (0,0))::(gP,.cells uP bM (0,0))::(Ls++(Lo++K))) F) ?_ ?_
 refine ZT Z<|Zk ?_
 exact⟨(),H,dJ (congrArg Value.bool (decide_eq_true I)).symm,Qg⟩
 rintro _ ρ1 w67 H
 show CW _ _ _ _ (dH (gJ _ _ ρ1) [(53,.bool (decide (a.kind=16∨a.kind=18∨a.kind=20)))]) w67
 refine jo Z (fun hc53=> ?_) (fun hc53=> ?_)
 refine W<|Zr<|G (Yp Z)<|G (Zw dS H 1 Z Z Z)<|ch dQ (qE (B.into [(b4,_),(b3,_)] H) hw hk h4 g (of_decide_eq_true hc53)) Z Z ?_
 rintro _ w68 ⟨b2,x2,A9,c9,lo9,hi9,hA9,rfl,hc9,gP9,uP9,Ls9,Lo9,F9,B9,hF9⟩
 replace H:=B9.out (X:=[(b4,_),(b3,_)])
 refine bg H 0 (#[J (x2.code),J (x2.n),.slice A9 x2.texts.length c9]) aP Z Z Z Z Z N N fun w69 H=>U<|Zt ?_
 exact eS (cs0:= #[J (x2.code),J (x2.n),.slice A9 x2.texts.length c9]) Z aM Z (H.ent (i:=0) Z) Z ⟨b2,x2,A9,c9,lo9,hi9,hA9,rfl,hc9,gP9,uP9,Ls9,Lo9,F9,B9.at_ [(b4,_),(b3,_)] H,hF9⟩
 refine W<|Zr ?_
 refine cW (bp Z Z) Z Z Z (fun h62=> ?_) (fun h62=> ?_)
 refine G (Wb Z)<|U<|ZT Z<|W<|Zr<|G (Yp Z)<|G (Zw dS H 1 Z Z Z)<|ch ej (nY (B.into [(b4,_),(b3,_)] H) hw hk h4 g h62) Z Z ?_
 rintro _ w70 ⟨b2,x2,A9,c9,lo9,hi9,hA9,rfl,hc9,gP9,uP9,Ls9,Lo9,F9,B9,hF9⟩
 replace H:=B9.out (X:=[(b4,_),(b3,_)])
 refine bg H 0 (#[J (x2.code),J (x2.n),.slice A9 x2.texts.length c9]) aP Z Z Z Z Z N N fun w71 H=>U<|Zt ?_
 exact eS (cs0:= #[J (x2.code),J (x2.n),.slice A9 x2.texts.length c9]) Z aM Z (H.ent (i:=0) Z) Z ⟨b2,x2,A9,c9,lo9,hi9,hA9,rfl,hc9,gP9,uP9,Ls9,Lo9,F9,B9.at_ [(b4,_),(b3,_)] H,hF9⟩
 exfalso;have h41:=of_decide_eq_false hc41;have h53:=of_decide_eq_false hc53;have h17:=of_decide_eq_false hc17;omega
 refine G (Wb Z)<|U ?_
 refine eG (τ:=Unit) [53,55,56,57] (fun _=>[(53,.bool (decide (a.kind=16∨a.kind=18∨a.kind=20)))]) (fun _ w'=>Hp w0 w' ((b4,.cells #[J (0),J (0),.slice none 0 0] eg (0,0))::(b3,.cells #[J (a.kind),.string (a.name),J (a.part),J (a.n),J (a.m),.string (a.text),J (a.lost)] gd (0,0))::(bb,.cells b.c.toArray bO (0,0))::(gP,.cells uP bM (0,0))::(Ls++(Lo++K))) F) ?_ ?_
 refine ZF Z<|W<|Zr ?_
 refine cW (bp Z Z) Z Z Z (fun h55=> ?_) (fun h55=> ?_)
 exact absurd h55 hkd.2.2
 refine G (Wb Z)<|U<|ZF Z<|W<|Zr ?_
 refine cW (bp Z Z) Z Z Z (fun h56=> ?_) (fun h56=> ?_)
 refine G (Wb Z)<|U<|ZT Z<|Zk ?_
 exact⟨(),H,dJ (congrArg Value.bool (decide_eq_true I)).symm,Qg⟩
 refine G (Wb Z)<|U<|ZF Z<|Zr ?_
 refine cW (bp Z Z) Z Z Z (fun h57=> ?_) (fun h57=> ?_)
 refine G (Wb Z)<|U ?_
 exact⟨(),H,dJ (congrArg Value.bool (decide_eq_true I)).symm,Qg⟩
 refine G (Wb Z)<|U ?_
 exact⟨(),H,dJ (congrArg Value.bool (decide_eq_false I)).symm,Qg⟩
 rintro _ ρ1 w72 H
 show CW _ _ _ _ (dH (gJ _ _ ρ1) [(53,.bool (decide (a.kind=16∨a.kind=18∨a.kind=20)))]) w72
 refine jo Z (fun hc53=> ?_) (fun hc53=> ?_)
 refine W<|Zr<|G (Yp Z)<|G (Zw dS H 1 Z Z Z)<|ch dQ (qE (B.into [(b4,_),(b3,_)] H) hw hk h4 g (of_decide_eq_true hc53)) Z Z ?_
 rintro _ w73 ⟨b2,x2,A9,c9,lo9,hi9,hA9,rfl,hc9,gP9,uP9,Ls9,Lo9,F9,B9,hF9⟩
 replace H:=B9.out (X:=[(b4,_),(b3,_)])
 refine bg H 0 (#[J (x2.code),J (x2.n),.slice A9 x2.texts.length c9]) aP Z Z Z Z Z N N fun w74 H=>U<|Zt ?_
 exact eS (cs0:= #[J (x2.code),J (x2.n),.slice A9 x2.texts.length c9]) Z aM Z (H.ent (i:=0) Z) Z ⟨b2,x2,A9,c9,lo9,hi9,hA9,rfl,hc9,gP9,uP9,Ls9,Lo9,F9,B9.at_ [(b4,_),(b3,_)] H,hF9⟩
 refine W<|Zr ?_
 refine cW (bp Z Z) Z Z Z (fun h62=> ?_) (fun h62=> ?_)
 refine G (Wb Z)<|U<|ZT Z<|W<|Zr<|G (Yp Z)<|G (Zw dS H 1 Z Z Z)<|ch ej (nY (B.into [(b4,_),(b3,_)] H) hw hk h4 g h62) Z Z ?_
 rintro _ w75 ⟨b2,x2,A9,c9,lo9,hi9,hA9,rfl,hc9,gP9,uP9,Ls9,Lo9,F9,B9,hF9⟩
 replace H:=B9.out (X:=[(b4,_),(b3,_)])
 refine bg H 0 (#[J (x2.code),J (x2.n),.slice A9 x2.texts.length c9]) aP Z Z Z Z Z N N fun w76 H=>U<|Zt ?_
 exact eS (cs0:= #[J (x2.code),J (x2.n),.slice A9 x2.texts.length c9]) Z aM Z (H.ent (i:=0) Z) Z ⟨b2,x2,A9,c9,lo9,hi9,hA9,rfl,hc9,gP9,uP9,Ls9,Lo9,F9,B9.at_ [(b4,_),(b3,_)] H,hF9⟩
 exfalso;have h41:=of_decide_eq_false hc41;have h53:=of_decide_eq_false hc53;have h17:=of_decide_eq_false hc17;omega
theorem xp (p:Pa) (w:World) (h:p.rd 0 w.heap.size w) (hok:p.a.ok):dg ab yn [p.v] w fun v w2=> ∃ p':Pa,v=p'.v/\p'.a=p.a/\ez w w2 p':=
 (zD p w h hok).mono fun _ _ ⟨p',_,_,_,_,_,_,h1,h2,h3⟩=>⟨p',h1,h2,h3.new⟩
def N5 (wt:Int):Co:=⟨0,1,wt,[],none,0⟩
def Nk (wt:Int):Gr:=⟨0,wt,0,[],none,0,[],none,0⟩
theorem N4 (wt:Int) (lo hi:Nat) (w:World):(N5 wt).rd lo hi w:=⟨Rd.nil,by simp[N5],by simp[N5],by simp[N5],by simp[N5]⟩
theorem NW (wt:Int) (lo hi:Nat) (w:World):(Nk wt).rd lo hi w:=⟨Rd.nil,by simp[Nk],Rd.nil,by simp[Nk],by simp[Nk],by simp[Nk],by simp[Nk]⟩
structure P1 (w00 w0 w:World) (b:Bk) (gP:Nat) (uP:Array Value) (F:List cz):Prop where
 pA:b.pA=some ⟨gP,0,none⟩
 row:dz C9 b.ps b.pC uP
 sns:b.sns=[]/\b.snA=none/\b.snC=0
 co:xa w00 b.clo b.chi b.co∈F
 gr:Jv w00 b.glo b.ghi b.gr∈F
 ps: ∀ q∈b.ps,tf w00 q.lo q.hi q.p∈F
 lo: ∀ f∈F,w0.heap.size<=f.lo
 H:Hp w0 w [(gP,.cells uP bM (0,0))] F
theorem JF {np nr few:Nat} {wt:Int} (w00 w:World) (h00:w00.heap.size<=w.heap.size) (q1:1<=np) (q4:np<=4) (n1:1<=nr) (n5:nr<=5) (f1:1<=few) (f2:few<=nr) (t1:1<=wt) (t2:wt<=1000):dg ab Ad [.agg #[J (np:Nat),J (nr:Nat),J (few:Nat),J wt]] w fun v w2=> ∃ (b:Bk) (gP:Nat) (uP:Array Value) (F:List cz),v=.tuple #[.agg b.c.toArray,J 0]/\b.a=sk np nr few wt/\P1 w00 w w2 b gP uP F:=by
 refine aF yL Z Z ?_
 have H:=Hp.start w
 show CW _ _ _ _ (args [.agg #[J (np:Nat),J (nr:Nat),J (few:Nat),J wt]]) w
 refine W<|Zr<|fW H Z Z fun w1 b1 H=>eI H nM Z fun w2 b2 H=>G (Wi Z)<|U<|W<|W<|Zr<|G (Zf ny Z)<|G (Zd ak H 1 Z Z Z)<|G (dd Z Z I)<|G (Yb Z)<|ZG<|G (Zf ny Z)<|ZG<|G (Zd ak H 1 Z Z Z)<|ZG<|G (eA Z Z I)<|G (N Z Z)<|U<|ZF Z<|Zk<|W<|Zr<|G (Zf lH Z)<|G (Zd ak H 1 Z Z Z)<|G (Zf GU Z)<|G (Zd ak H 1 Z Z Z)<|ch FF (Mm nr few _ n1 n5 f1 f2) Z Z ?_
 have hlo4:=H.size
 rintro _ w3 ⟨p4,rfl,hap4,hnp4⟩;replace H:=H.learn hnp4.2 (tf w00 w2.heap.size w3.heap.size p4) ⟨(aS h00 H.size),hnp4.1⟩ (ao _) (ao _);clear hnp4
 refine G (Yu Z)<|G (Xa Z Z)<|G (Xi Z Z)<|eI H bv Z fun w4 b4 H=>bg H 0 (#[J (p4.epoch),J (p4.leader),.slice p4.iA p4.isr.length p4.iC,.slice p4.kA p4.known.length p4.kC,.slice p4.rA p4.reps.length p4.rC,J (p4.few),J (p4.base)]) aK Z Z Z Z Z N N fun w5 H=>G (Wi Z)<|U<|W<|W<|Zr<|G (Yi Z)<|G (ce Z Z (by decide))<|U<|ZF Z<|Zk<|W<|Zr<|G (Zf Ax Z)<|G (Zd ak H 2 Z Z Z)<|ch DZ (FA wt _ t1 t2) Z Z ?_
 rintro _ w6 ⟨rfl,hb⟩;replace H:=H.later hb;clear hb
 refine G (Yu Z)<|G (Xa Z Z)<|G (Xi Z Z)<|eI H cM Z fun w7 b6 H=>bg H 0 (#[J (0),J (1),J (wt),.slice none 0 0]) aA Z Z Z Z Z N N fun w8 H=>G (Wi Z)<|U<|W<|W<|Zr<|G (Yi Z)<|G (ce Z Z (by decide))<|U<|ZF Z<|Zk<|W<|Zr<|G (Zf Ax Z)<|G (Zd ak H 3 Z Z Z)<|ch DX (MQ wt _ t1 t2) Z Z ?_
 rintro _ w9 ⟨rfl,hb⟩;replace H:=H.later hb;clear hb
 refine G (Yu Z)<|G (Xa Z Z)<|G (Xi Z Z)<|eI H d9 Z fun w10 b7 H=>bg H 0 (#[J (0),J (wt),J (0),.slice none 0 0,.slice none 0 0]) bF Z Z Z Z Z N N fun w11 H=>G (Wi Z)<|U<|W<|Zr<|G (Zw aq H 1 Z Z Z)<|G (Zw aN H 0 Z Z Z)<|G (bn (cs:= #[.slice none 0 0,J (0),J (1),J (wt),.slice none 0 0,J (0),J (wt),J (0),.slice none 0 0,.slice none 0 0,.slice none 0 0]) JS nM N)<|eI H nM Z fun w12 b8 H=>bg H 0 (#[.slice none 0 0,J (0),J (1),J (wt),.slice none 0 0,J (0),J (wt),J (0),.slice none 0 0,.slice none 0 0,.slice none 0 0]) kH Z Z Z Z Z N N fun w13 H=>U<|W<|W<|Zr<|G (Zf ny Z)<|G (Zd ak H 5 Z Z Z)<|G (Yi Z)<|U<|Zb ?_
 refine cy (τ:=Nat×List Pq×Option Addr×Nat×List (Nat×Obj)×List cz) [51,52,53,54,55,56,57,58,59,60] (fun(i,_)=>[(51,J (i:Nat))]) (fun(i,qs,A,c,Lq,F') w'=>i<=np/\qs.map (fun q=>q.p.a)=av i (na nr few)/\gm C9 (.slice A qs.length c) bM qs Lq/\(∀ q∈qs,tf w00 q.lo q.hi q.p∈F')/\(∀ f∈F',w.heap.size<=f.lo)/\(∃ lo hi,tf w00 lo hi p4∈F')/\Hp w w' ((b8,.cells #[.slice A qs.length c,J (0),J (1),J (wt),.slice none 0 0,J (0),J (wt),J (0),.slice none 0 0,.slice none 0 0,.slice none 0 0] mK (0,0))::(b7,.cells #[J (0),J (wt),J (0),.slice none 0 0,.slice none 0 0] cO (0,0))::(b6,.cells #[J (0),J (1),J (wt),.slice none 0 0] bk (0,0))::(b4,.cells #[J (p4.epoch),J (p4.leader),.slice p4.iA p4.isr.length p4.iC,.slice p4.kA p4.known.length p4.kC,.slice p4.rA p4.reps.length p4.rC,J (p4.few),J (p4.base)] bM (0,0))::(b2,.cells #[.slice none 0 0,J (0),J (0),J (0),.slice none 0 0,J (0),J (0),J (0),.slice none 0 0,.slice none 0 0,.slice none 0 0] mK (0,0))::(b1,.cells #[J (((np:Nat):Int)),J (((nr:Nat):Int)),J (((few:Nat):Int)),J (wt)] jB (0,0))::(Lq++[])) F') (fun(i,_)=>np-i) (0,[],none,0,[],_) ⟨bK _,rfl,gm.nil,by simp,fun f hf=>(by rw[au.1 hf];exact hlo4),⟨_,_,aC ..⟩,H⟩ (dJ Z) ?_
 rintro⟨i,qs,A,c,Lq,F'⟩ ρ1 w14 ⟨hi,hqa,ho,hqs,hFl,⟨lo4,hi4,hp4⟩,H⟩
 show CW _ _ _ _ (dH (gJ _ _ ρ1) [(51,J (i:Nat))]) w14
 have hql:qs.length=i:=by have:=congrArg cB hqa;simpa using this
 refine W<|Zr ?_
 refine cW (cK Z Z) Z Z Z (fun h52=> ?_) (fun h52=> ?_)
 refine U<|W<|ZT Z<|Zk<|W ?_
 refine eG (τ:=List Pq×Option Addr×Nat×List (Nat×Obj)×List cz) [53,54,55,56,57,58,59] (fun _=>[]) (fun(q9,A9,c9,L9,F9) w'=>q9.map (fun q=>q.p.a)=av (i+1) (na nr few)/\gm C9 (.slice A9 q9.length c9) bM q9 L9/\(∀ q∈q9,tf w00 q.lo q.hi q.p∈F9)/\(∀ f∈F9,w.heap.size<=f.lo)/\(∃ lo hi,tf w00 lo hi p4∈F9)/\Hp w w' ((b8,.cells #[.slice A9 q9.length c9,J (0),J (1),J (wt),.slice none 0 0,J (0),J (wt),J (0),.slice none 0 0,.slice none 0 0,.slice none 0 0] mK (0,0))::(b7,.cells #[J (0),J (wt),J (0),.slice none 0 0,.slice none 0 0] cO (0,0))::(b6,.cells #[J (0),J (1),J (wt),.slice none 0 0] bk (0,0))::(b4,.cells #[J (p4.epoch),J (p4.leader),.slice p4.iA p4.isr.length p4.iC,.slice p4.kA p4.known.length p4.kC,.slice p4.rA p4.reps.length p4.rC,J (p4.few),J (p4.base)] bM (0,0))::(b2,.cells #[.slice none 0 0,J (0),J (0),J (0),.slice none 0 0,J (0),J (0),J (0),.slice none 0 0,.slice none 0 0,.slice none 0 0] mK (0,0))::(b1,.cells #[J (((np:Nat):Int)),J (((nr:Nat):Int)),J (((few:Nat):Int)),J (wt)] jB (0,0))::(L9++[])) F9) ?_ ?_
 refine Zb ?_
 refine kL ci [0] [1,2,3,4,5,6,7] [0] 7 N N N Nq ?_
 refine aw Z Z Z Z Z (fun w' hw'=>Zf dx Z)<|aQ ?_
 intro w15 hw';replace H:=H.later hw';clear hw'
 refine kF 1 2 N Z Z ?_ ?_
 refine G (Zd d3 H 0 Z Z Z)<|U<|bu 2 N Z<|G (Zw aH H 3 Z Z Z)<|U<|bu 3 N Z<|ch mG (xp p4 _ (Hp.paM H hp4) (hap4▸(Dd (Φ:=fun _=>True) n1 n5 f1 f2).ok)) Z Z ?_
 have hlo2:=H.size
 rintro _ w16 ⟨p2,rfl,hap2,hnp2⟩;replace H:=H.learn hnp2.2 (tf w00 w15.heap.size w16.heap.size p2) ⟨(aS h00 H.size),hnp2.1⟩ (ao _) (ao _);clear hnp2
 refine U<|bu 4 N Z<|sW (vs:=[.agg #[J (p2.epoch),J (p2.leader),.slice p2.iA p2.isr.length p2.iC,.slice p2.kA p2.known.length p2.kC,.slice p2.rA p2.reps.length p2.rC,J (p2.few),J (p2.base)]]) H gV bv Z Z Z Z Z Z fun w17 b57 H=>U<|bu 5 N Z<|vQ (Y:=C9) wX (K:=[(b57,_),(b8,_),(b7,_),(b6,_),(b4,_),(b2,_),(b1,_)]) (L:=Lq) (M:=[]) H ho (es:=qs) (news:=[⟨p2,w15.heap.size,w16.heap.size⟩]) Z Z Z (vT.row (m:=1) (sz:=C9.sz) (H.ent (i:=0) Z) Z) (by simp only[bU];omega) Z ?_
 intro A5 c5 w18 L5 h5 h5m ho5 H
 refine U<|bu 6 N Z<|G (Zf dx Z)<|U<|bu 7 N Z<|bg H 1 (#[.slice A5 ((qs++[(⟨p2,w15.heap.size,w16.heap.size⟩:Pq)]).length) c5,J (0),J (1),J (wt),.slice none 0 0,J (0),J (wt),J (0),.slice none 0 0,.slice none 0 0,.slice none 0 0]) ue Z Z Z Z Z N N fun w19 H=>U<|aZ N ?_
 exact⟨(qs++[(⟨p2,w15.heap.size,w16.heap.size⟩:Pq)],A5,c5,L5,tf w00 w15.heap.size w16.heap.size p2::F'),⟨by rw[bo,hqa,qP];show _++[p2.a]=_;rw[hap2,hap4],ho5,fun q hq=>(by rcases ax.1 hq with hq|hq;exact al _ (hqs q hq);rw[au.1 hq];exact aC ..),fun f hf=>(by rcases ay.1 hf with rfl|hf;exact hlo2;exact hFl f hf),⟨lo4,hi4,al _ hp4⟩,H.forget (.cons _ (ar _)) (fun _ h=>h)⟩,rX,Qg⟩
 refine G (Zw aH H 3 Z Z Z)<|U ?_
 refine kF 1 3 N Z Z ?_ ?_
 refine G (Zd d3 H 0 Z Z Z)<|U<|bu 3 N Z<|ch mG (xp p4 _ (Hp.paM H hp4) (hap4▸(Dd (Φ:=fun _=>True) n1 n5 f1 f2).ok)) Z Z ?_
 have hlo2:=H.size
 rintro _ w20 ⟨p2,rfl,hap2,hnp2⟩;replace H:=H.learn hnp2.2 (tf w00 w15.heap.size w20.heap.size p2) ⟨(aS h00 H.size),hnp2.1⟩ (ao _) (ao _);clear hnp2
 refine U<|bu 4 N Z<|sW (vs:=[.agg #[J (p2.epoch),J (p2.leader),.slice p2.iA p2.isr.length p2.iC,.slice p2.kA p2.known.length p2.kC,.slice p2.rA p2.reps.length p2.rC,J (p2.few),J (p2.base)]]) H gV bv Z Z Z Z Z Z fun w21 b57 H=>U<|bu 5 N Z<|vQ (Y:=C9) wX (K:=[(b57,_),(b8,_),(b7,_),(b6,_),(b4,_),(b2,_),(b1,_)]) (L:=Lq) (M:=[]) H ho (es:=qs) (news:=[⟨p2,w15.heap.size,w20.heap.size⟩]) Z Z Z (vT.row (m:=1) (sz:=C9.sz) (H.ent (i:=0) Z) Z) (by simp only[bU];omega) Z ?_
 intro A5 c5 w22 L5 h5 h5m ho5 H
 refine U<|bu 6 N Z<|G (Zf dx Z)<|U<|bu 7 N Z<|bg H 1 (#[.slice A5 ((qs++[(⟨p2,w15.heap.size,w20.heap.size⟩:Pq)]).length) c5,J (0),J (1),J (wt),.slice none 0 0,J (0),J (wt),J (0),.slice none 0 0,.slice none 0 0,.slice none 0 0]) ue Z Z Z Z Z N N fun w23 H=>U<|aZ N ?_
 exact⟨(qs++[(⟨p2,w15.heap.size,w20.heap.size⟩:Pq)],A5,c5,L5,tf w00 w15.heap.size w20.heap.size p2::F'),⟨by rw[bo,hqa,qP];show _++[p2.a]=_;rw[hap2,hap4],ho5,fun q hq=>(by rcases ax.1 hq with hq|hq;exact al _ (hqs q hq);rw[au.1 hq];exact aC ..),fun f hf=>(by rcases ay.1 hf with rfl|hf;exact hlo2;exact hFl f hf),⟨lo4,hi4,al _ hp4⟩,H.forget (.cons _ (ar _)) (fun _ h=>h)⟩,rX,Qg⟩
 refine ch mG (xp p4 _ (Hp.paM H hp4) (hap4▸(Dd (Φ:=fun _=>True) n1 n5 f1 f2).ok)) Z Z ?_
 have hlo2:=H.size
 rintro _ w24 ⟨p2,rfl,hap2,hnp2⟩;replace H:=H.learn hnp2.2 (tf w00 w15.heap.size w24.heap.size p2) ⟨(aS h00 H.size),hnp2.1⟩ (ao _) (ao _);clear hnp2
 refine U ?_
 refine kF 1 4 N Z Z ?_ ?_
 refine G (Zd d3 H 0 Z Z Z)<|U<|bu 4 N Z<|sW (vs:=[.agg #[J (p2.epoch),J (p2.leader),.slice p2.iA p2.isr.length p2.iC,.slice p2.kA p2.known.length p2.kC,.slice p2.rA p2.reps.length p2.rC,J (p2.few),J (p2.base)]]) H gV bv Z Z Z Z Z Z fun w25 b57 H=>U<|bu 5 N Z<|vQ (Y:=C9) wX (K:=[(b57,_),(b8,_),(b7,_),(b6,_),(b4,_),(b2,_),(b1,_)]) (L:=Lq) (M:=[]) H ho (es:=qs) (news:=[⟨p2,w15.heap.size,w24.heap.size⟩]) Z Z Z (vT.row (m:=1) (sz:=C9.sz) (H.ent (i:=0) Z) Z) (by simp only[bU];omega) Z ?_
 intro A5 c5 w26 L5 h5 h5m ho5 H
 refine U<|bu 6 N Z<|G (Zf dx Z)<|U<|bu 7 N Z<|bg H 1 (#[.slice A5 ((qs++[(⟨p2,w15.heap.size,w24.heap.size⟩:Pq)]).length) c5,J (0),J (1),J (wt),.slice none 0 0,J (0),J (wt),J (0),.slice none 0 0,.slice none 0 0,.slice none 0 0]) ue Z Z Z Z Z N N fun w27 H=>U<|aZ N ?_
 exact⟨(qs++[(⟨p2,w15.heap.size,w24.heap.size⟩:Pq)],A5,c5,L5,tf w00 w15.heap.size w24.heap.size p2::F'),⟨by rw[bo,hqa,qP];show _++[p2.a]=_;rw[hap2,hap4],ho5,fun q hq=>(by rcases ax.1 hq with hq|hq;exact al _ (hqs q hq);rw[au.1 hq];exact aC ..),fun f hf=>(by rcases ay.1 hf with rfl|hf;exact hlo2;exact hFl f hf),⟨lo4,hi4,al _ hp4⟩,H.forget (.cons _ (ar _)) (fun _ h=>h)⟩,rX,Qg⟩
 refine sW (vs:=[.agg #[J (p2.epoch),J (p2.leader),.slice p2.iA p2.isr.length p2.iC,.slice p2.kA p2.known.length p2.kC,.slice p2.rA p2.reps.length p2.rC,J (p2.few),J (p2.base)]]) H gV bv Z Z Z Z Z Z fun w28 b57 H=>U<|bu 1 N Z<|G (Zd d3 H 1 Z Z Z)<|U<|bu 5 N Z<|vQ (Y:=C9) wX (K:=[(b57,_),(b8,_),(b7,_),(b6,_),(b4,_),(b2,_),(b1,_)]) (L:=Lq) (M:=[]) H ho (es:=qs) (news:=[⟨p2,w15.heap.size,w24.heap.size⟩]) Z Z Z (vT.row (m:=1) (sz:=C9.sz) (H.ent (i:=0) Z) Z) (by simp only[bU];omega) Z ?_
 intro A5 c5 w29 L5 h5 h5m ho5 H
 refine U<|bu 6 N Z<|G (Zf dx Z)<|U<|bu 7 N Z<|bg H 1 (#[.slice A5 ((qs++[(⟨p2,w15.heap.size,w24.heap.size⟩:Pq)]).length) c5,J (0),J (1),J (wt),.slice none 0 0,J (0),J (wt),J (0),.slice none 0 0,.slice none 0 0,.slice none 0 0]) ue Z Z Z Z Z N N fun w30 H=>U<|aZ N ?_
 exact⟨(qs++[(⟨p2,w15.heap.size,w24.heap.size⟩:Pq)],A5,c5,L5,tf w00 w15.heap.size w24.heap.size p2::F'),⟨by rw[bo,hqa,qP];show _++[p2.a]=_;rw[hap2,hap4],ho5,fun q hq=>(by rcases ax.1 hq with hq|hq;exact al _ (hqs q hq);rw[au.1 hq];exact aC ..),fun f hf=>(by rcases ay.1 hf with rfl|hf;exact hlo2;exact hFl f hf),⟨lo4,hi4,al _ hp4⟩,H.forget (.cons _ (ar _)) (fun _ h=>h)⟩,rX,Qg⟩
 rintro⟨q9,A9,c9,L9,F9⟩ ρ1 w31 H9
 show CW _ _ _ _ (dH (gJ _ _ ρ1) []) w31
 refine Zr<|G (bz Z Z I I)<|G (Yi Z)<|U ?_
 exact⟨(i+1,q9,A9,c9,L9,F9),⟨by omega,H9⟩,dJ Z,Qg,by show np- (i+1)<np-i;omega⟩
 refine U<|W<|ZF Z<|Zx<|W<|Zr<|G (Zw nH H 0 Z Z Z)<|G (Yi Z)<|bg H 4 (#[.slice A qs.length c,J (0),J (1),J (wt),.slice none 0 0,J (0),J (wt),J (0),.slice none 0 0,.slice none 0 0,.slice none 0 0]) kH Z Z Z Z Z N N fun w32 H=>G (Wi Z)<|U<|Zt ?_
 obtain rfl:i=np:=by omega
 obtain⟨gP,uP,rfl,rfl,row⟩:=ho.row I
 have H7:=((H.forget (L':=[(gP,_)]) ((.cons _ (.cons _ (.cons _ (.cons _ (.cons _ (.cons _ (ar _)))))))) (fun _ h=>h)).learnOld (xa w00 w.heap.size w.heap.size (N5 wt)) ⟨h00,N4 ..⟩ (ao _)).learnOld (Jv w00 w.heap.size w.heap.size (Nk wt)) ⟨h00,NW ..⟩ (ao _)
 exact bG (cs0:= #[.slice (Qd gP) qs.length c,J (0),J (1),J (wt),.slice none 0 0,J (0),J (wt),J (0),.slice none 0 0,.slice none 0 0,.slice none 0 0]) (v1:=J 0) Z nH Z (H.ent (i:=4) Z) Z Z ⟨⟨qs,some ⟨gP,0,none⟩,c,N5 wt,w.heap.size,w.heap.size,Nk wt,w.heap.size,w.heap.size,[],none,0⟩,gP,uP,_,rfl,by unfold Bk.a sk;rw[hqa];rfl,⟨rfl,row,⟨rfl,rfl,rfl⟩,al _ (aC ..),aC ..,fun q hq=>al _ (al _ (hqs q hq)),fun f hf=>(by rcases ay.1 hf with rfl|hf;exact ao _;rcases ay.1 hf with rfl|hf;exact ao _;exact hFl f hf),H7⟩⟩
theorem yO (es:List ByteArray) (A:Option Addr) (c:Nat) (w:World) (hr:Rd m6 0 w.heap.size A es w) (hb:es.length*16<=140737488355328):
  dg ab jm [.slice A es.length c] w fun v w2=> ∃ A' c' L',v=.slice A' es.length c'/\es.length<=c'/\c'<=maxLen/\gm m6 (.slice A' es.length c') kD es L'/\Hp w w2 L' []:=by
 refine aF nk Z Z ?_
 have H:=Hp.startRd hr
 refine W<|Zr<|G (Ws Z)<|U<|W<|W<|Zr<|G (Ys Z) ?_
 refine wl (qB lO Z) Z Z Z (fun h4=> ?_) (fun h4=> ?_)
 refine U<|ZT Z<|W<|Zr<|G (Ws Z)<|U<|Zt ?_
 have he:es=[]:=by
  cases es with
  |nil=>rfl
  |cons e es=>obtain⟨b,o,hA,_⟩:=hr (by simp);subst hA;cases h4
 subst he
 exact cH Z Z ⟨none,0,[],rfl,by simp,by decide,gm.nil,H.forget (by simp) (by simp)⟩
 refine U<|ZF Z<|Zk<|W<|Zr<|Np H ip Z fun w1 b5 H=>G (Ys Z)<|vQ (Y:=m6) vO (K:=[]) (L:=[(b5,_)]) (M:=[]) H (rU.lit (by decide) (by rfl)) (es:=[]) (news:=es) Z Z Z (Rd.src (H.fact (i:=0) Z)) (by simpa using hb) Z ?_
 intro A3 c3 w3 L3 h3a h3b ho3 H
 refine G (Ws Z)<|U<|Zt ?_
 exact cH Z Z ⟨A3,c3,L3,rfl,h3a,h3b,ho3,H.forget (by simp) (by simp)⟩
theorem yN (es:List ByteArray) (A:Option Addr) (c:Nat) (w:World) (hr:Rd m6 0 w.heap.size A es w) (hb:es.length*16<=140737488355328):
  dg ab jm [.slice A es.length c] w fun v w2=> ∃ A' c',v=.slice A' es.length c'/\es.length<=c'/\Rd m6 w.heap.size w2.heap.size A' es w2/\Below w.heap.size w w2:=
 (yO es A c w hr hb).mono fun v w2 ⟨A',c',L',h1,h2,_,h4,h5⟩=>⟨A',c',h1,h2,h4.rd (K:=[]) (M:=[]) (by simpa using h5),h5.below⟩
structure Aq where
 x:An
 A:Option Addr
 c:Nat
def OW:fo Aq:=⟨fun q=>[J q.x.code,J q.x.n,.slice q.A q.x.texts.length q.c],3,fun _=>rfl,by decide,fun a u hu=>by
 simp only[ay,cd,or_false]at hu
 rcases hu with h|h|h<;>subst h<;>rfl⟩
structure Rn where
 xs:List Aq
 oA:Option Addr
 oC:Nat
 b:Bk
def Rn.v (r:Rn):Value:=.tuple #[.slice r.oA r.xs.length r.oC,.agg r.b.c.toArray,J 0]
structure Rn.rd (r:Rn) (lo hi:Nat) (w:World):Prop where
 xs:Rd OW lo hi r.oA r.xs w
 oC:r.xs.length<=r.oC
 tx: ∀ x∈r.xs,Rd m6 lo hi x.A x.x.texts w/\x.x.texts.length<=x.c
 ps:Rd C9 lo hi r.b.pA r.b.ps w
 pC:r.b.ps.length<=r.b.pC
 pa: ∀ q∈r.b.ps,q.p.rd lo hi w
 co:r.b.co.rd lo hi w
 gr:r.b.gr.rd lo hi w
theorem Rn.rd.st {r:Rn} {lo hi:Nat} {w w':World} (hk: ∀ k,lo<=k->k<hi->w'.heap[k]? =w.heap[k]?) (h:r.rd lo hi w):r.rd lo hi w':=⟨h.xs.st hk,h.oC,fun x hx=>⟨(h.tx x hx).1.st hk,(h.tx x hx).2⟩,h.ps.st hk,h.pC,fun q hq=>(h.pa q hq).st hk,h.co.st hk,h.gr.st hk⟩
theorem Rn.rd.mono {r:Rn} {lo hi lo' hi':Nat} {w:World} (h:r.rd lo hi w) (h1:lo'<=lo) (h2:hi<=hi'):r.rd lo' hi' w:=⟨h.xs.mono h1 h2,h.oC,fun x hx=>⟨(h.tx x hx).1.mono h1 h2,(h.tx x hx).2⟩,h.ps.mono h1 h2,h.pC,fun q hq=>Pa.rd.mono (h.pa q hq) h1 h2,Co.rd.mono h.co h1 h2,Gr.rd.mono h.gr h1 h2⟩
theorem Hp.rdM {α:Type} {Y:fo α} {w0 w:World} {L:List (Nat×Obj)} {F:List cz} {lo hi:Nat} {A:Option Addr} {es:List α} (H:Hp w0 w L F) (h:dT Y lo hi A es∈F):Rd Y 0 w.heap.size A es w:=by
 obtain⟨h1,h2,-⟩:=H.facts _ h
 exact Rd.mono h1 (bK _) h2
theorem Bw.into2 {w0 w w2:World} {bb gP:Nat} {b:Bk} {uP:Array Value} {Ls Lo K:List (Nat×Obj)} {F F2:List cz} (B:Bw w0 w bb b gP uP Ls Lo K F) (X:List (Nat×Obj)) (H:Hp w0 w2 (X++((bb,.cells b.c.toArray bO (0,0))::(gP,.cells uP bM (0,0))::(Ls++(Lo++K)))) F2) (hF: ∀ f∈F,f∈F2):Bw w0 w2 bb b gP uP Ls Lo (X++K) F2:=
 ⟨B.pA,B.row,B.sn,B.own,hF _ B.co,hF _ B.gr,fun q hq=>hF _ (B.ps q hq),H.perm (NS [(bb,_),(gP,_)] Ls Lo X K)⟩
theorem OA (A Ls Lo oL K:List (Nat×Obj)):(A++(oL++(Ls++(Lo++K)))).Perm (A++(Ls++(Lo++(oL++K)))):=by
 refine List.Perm.append_left A ?_
 rw[show Ls++(Lo++(oL++K))=(Ls++Lo)++(oL++K) by simp,show Ls++(Lo++K)=(Ls++Lo)++K by simp]
 exact fX oL (Ls++Lo) K
structure Od (w0 w:World) (W0:Wa) (acts:List Act) (A0:Option Addr) (bb:Nat) (K:List (Nat×Obj)) (i:Nat) (b:Bk) (xs:List Aq) (gP:Nat) (uP:Array Value) (Ls Lo:List (Nat×Obj)) (oA:Option Addr) (oC:Nat) (oL:List (Nat×Obj)) (F:List cz):Prop where
 le:i<=acts.length
 run:nK W0 (acts.take i) (xs.map Aq.x) b.a
 B:Bw w0 w bb b gP uP Ls Lo (oL++K) F
 own:gm OW (.slice oA xs.length oC) eg xs oL
 tx: ∀ x∈xs,x.x.texts.length<=x.c/\ ∃ lo hi,w0.heap.size<=lo/\dT m6 lo hi x.A x.x.texts∈F
 ac:dT te 0 w0.heap.size A0 acts∈F
theorem O9 (bb gP:Nat×Obj) (Ls Lo oL K:List (Nat×Obj)):(bb::(K++(gP::(Ls++(Lo++oL))))).Perm (bb::gP::(Ls++(Lo++(oL++K)))):=by
 rw[show Ls++(Lo++(oL++K))=(Ls++(Lo++oL))++K by simp]
 refine aj _ ?_
 exact(xe (l₁:=K) (l₂:=gP::(Ls++(Lo++oL))))
theorem Od.rd {w0 w w2:World} {W0:Wa} {acts:List Act} {A0:Option Addr} {bb:Nat} {K:List (Nat×Obj)} {i:Nat} {b:Bk} {xs:List Aq} {gP:Nat} {uP:Array Value} {Ls Lo:List (Nat×Obj)} {oA:Option Addr} {oC:Nat} {oL:List (Nat×Obj)} {F F2:List cz} (Ii:Od w0 w W0 acts A0 bb K i b xs gP uP Ls Lo oA oC oL F) (X:List (Nat×Obj)) (H:Hp w0 w2 (X++((gP,.cells uP bM (0,0))::(Ls++(Lo++oL)))) F2) (hF: ∀ f∈F,f∈F2):(Rn.mk xs oA oC b).rd w0.heap.size w2.heap.size w2:=by
 have H1:=H.forget (L':=oL) (((cu Lo oL).trans (cu Ls _)).trans ((aW _ _).trans (cu X _))) (fun _ h=>h)
 have H2:=H.forget (L':=[(gP,.cells uP bM (0,0))]) (((List.cons_sublist_cons.2 (vn _))).trans (cu X _)) (fun _ h=>h)
 obtain⟨A,c,e1,e2,-⟩:=Ii.own.form
 cases e1
 have hg:=H2.ge (i:=0) Z
 have hl:=H2.lt (i:=0) Z
 refine⟨Ii.own.rd (K:=[]) (M:=[]) (by simpa using H1),e2,fun x hx=> ?_,?_,Ii.B.row.le,fun q hq=> ?_,?_,?_⟩
 obtain⟨z1,lo,hi,z2,z3⟩:=Ii.tx x hx
 obtain⟨h1,h2,-⟩:=H.facts _ (hF _ z3)
 exact⟨Rd.mono h1 z2 h2,z1⟩
 have:=(Ii.B.row.rd (H2.ent (i:=0) Z)).mono hg (Nat.succ_le_of_lt hl)
 rw[<-Ii.B.pA]at this
 exact this
 obtain⟨h1,h2,-⟩:=H.facts _ (hF _ (Ii.B.ps q hq))
 exact Pa.rd.mono h1.2 h1.1 h2
 obtain⟨h1,h2,-⟩:=H.facts _ (hF _ Ii.B.co)
 exact Co.rd.mono h1.2 h1.1 h2
 obtain⟨h1,h2,-⟩:=H.facts _ (hF _ Ii.B.gr)
 exact Gr.rd.mono h1.2 h1.1 h2
theorem Iq {es:List cQ} {n st a most b:Nat} {out:List ByteArray} (h:AS es n st a most out b):out.length<=most:=h.2.2.2.1
theorem Hc {w:Wa} {a:Act} {w':Wa} {x:An} (h:D9 w a w' x) (hn:a.kind=19->a.n<=20) (h17:1<=a.kind):x.texts.length<=20:=by
 cases h with
 |poll x h1 h2=>
  cases h2 with
  |no=>exact bK _
  |yes p x h3 h4 h5=>
   cases h5 with
   |none=>exact bK _
   |range=>exact bK _
   |ok l r st out b g1 g2 g3 g4 g5=>have:=Iq g5;have:=hn h1;show out.length<=20;omega
 |other h1=>
  have:(wZ w a).2.texts=[]:=by
   obtain⟨a1,a2,a3,a4,a5,a6,a7,a8⟩:=pG a w
   rcases Classical.em (a.kind=1)with h|h
   rw[a1 h];exact yk ..
   rcases Classical.em (a.kind=2)with h|h
   rw[a2 h];exact wU ..
   rcases Classical.em (a.kind=3∨a.kind=4)with h|h
   rw[a3 h];exact xY ..
   rcases Classical.em (a.kind=5)with h|h
   rw[a4 h];exact vc ..
   rcases Classical.em (a.kind=6)with h|h
   rw[a5 h];exact yg ..
   rcases Classical.em (a.kind=7)with h|h
   rw[a6 h];rfl
   rcases Classical.em (8<=a.kind/\a.kind<=15)with h|h
   rw[a7 h];exact yb ..
   rw[a8 I];exact zN ..
  rw[this];exact bK _
theorem NF {np nr few:Nat} {wt:Int} {acts:List Act} {A0:Option Addr} {c0:Nat} (w:World) (q1:1<=np) (q4:np<=4) (n1:1<=nr) (n5:nr<=5) (f1:1<=few) (f2:few<=nr) (t1:1<=wt) (t2:wt<=1000) (hr:Rd te 0 w.heap.size A0 acts w) (hl:acts.length<=400) (hg: ∀ a∈acts,ua np nr a):dg ab Dx [.agg #[J (np:Nat),J (nr:Nat),J (few:Nat),J wt],.slice A0 acts.length c0] w fun v w2=> ∃ r:Rn,v=r.v/\nK (sk np nr few wt) acts (r.xs.map Aq.x) r.b.a/\r.rd w.heap.size w2.heap.size w2/\Below w.heap.size w w2:=by
 refine aF BJ Z Z ?_
 have H:=Hp.startRd hr
 show CW _ _ _ _ (args [.agg #[J (np:Nat),J (nr:Nat),J (few:Nat),J wt],.slice A0 acts.length c0]) w
 refine W<|Zr<|fW H Z Z fun w1 b2 H=>G (Ws Z)<|eI H nM Z fun w2 b5 H=>G (Wi Z)<|U<|W<|Zr<|G (Zw rR H 1 Z Z Z)<|ch yT (JF w _ H.size q1 q4 n1 n5 f1 f2 t1 t2) Z Z ?_
 rintro _ w3 ⟨⟨ps,pA,pC,co,clo,chi,gr,glo,ghi,sns,snA,snC⟩,gP,uP,F1,rfl,hba,⟨hpA,row,⟨hs1,hs2,hs3⟩,hco,hgr,hps,hlo1,H1⟩⟩
 dsimp only at hpA row hs1 hs2 hs3 hco hgr hps
 subst hpA;subst hs1;subst hs2;subst hs3
 replace H:=H.joinF H1 hlo1;clear H1
 refine G (Yu Z)<|G (Xa Z Z)<|G (Xi Z Z)<|eI H nM Z fun w4 b7 H=>bg H 0 (#[.slice (Qd gP) ps.length pC,J (co.clock),J (co.next),J (co.wait),.slice co.A co.txs.length co.cap,J (gr.clock),J (gr.wait),J (gr.gen),.slice gr.mA gr.ms.length gr.mC,.slice gr.oA gr.os.length gr.oC,.slice none (([]:List Sn).length) 0]) kH Z Z Z Z Z N N fun w5 H=>G (Wi Z)<|U<|W<|W<|Zr<|G (Yi Z)<|G (ce Z Z (by decide))<|U<|ZF Z<|Zk<|W<|W<|Zr<|G (Ys Z)<|G (br zU Z)<|G (eA Z Z I)<|U<|ZF Z<|Zk<|W<|Zr<|G (Zw nH H 0 Z Z Z)<|G (bn (cs:= #[.slice (Qd gP) ps.length pC,J (co.clock),J (co.next),J (co.wait),.slice co.A co.txs.length co.cap,J (gr.clock),J (gr.wait),J (gr.gen),.slice gr.mA gr.ms.length gr.mC,.slice gr.oA gr.os.length gr.oC,.slice none (([]:List Sn).length) 0]) Ie JC N)<|fW H Z Z fun w6 b29 H=>G (Wp Z)<|U<|W<|Zr<|G (Ws Z)<|U<|W<|W<|Zr<|G (Ys Z)<|G (br zU Z) ?_
 refine G (Yi Z)<|U<|Zb ?_
 obtain⟨K3,hK3⟩: ∃ l:List (Nat×Obj),([(b7,.cells #[.slice (Qd gP) ps.length pC,J (co.clock),J (co.next),J (co.wait),.slice co.A co.txs.length co.cap,J (gr.clock),J (gr.wait),J (gr.gen),.slice gr.mA gr.ms.length gr.mC,.slice gr.oA gr.os.length gr.oC,.slice none (([]:List Sn).length) 0] mK (0,0)),(b5,.cells #[.slice none 0 0,J (0),J (0),J (0),.slice none 0 0,J (0),J (0),J (0),.slice none 0 0,.slice none 0 0,.slice none 0 0] mK (0,0)),(b2,.cells #[J (((np:Nat):Int)),J (((nr:Nat):Int)),J (((few:Nat):Int)),J (wt)] jB (0,0))]:List (Nat×Obj))=l:=⟨_,rfl⟩
 refine cy (τ:=Nat×Bk×List Aq×Nat×Array Value×List (Nat×Obj)×List (Nat×Obj)×Option Addr×Nat×List (Nat×Obj)×List cz) [10,12,13,32,33,34,35,36,37,38,39,40,41,42,43,44,45,46,47] (fun(i,_,xs,_,_,_,_,oA,oC,_,_)=>[(32,J (i:Nat)),(10,.slice oA xs.length oC)]) (fun(i,b,xs,gP,uP,Ls,Lo,oA,oC,oL,F') w'=>Od w w' (sk np nr few wt) acts A0 b29 K3 i b xs gP uP Ls Lo oA oC oL F') (fun(i,_)=>acts.length-i) (0,⟨ps,some ⟨gP,0,none⟩,pC,co,clo,chi,gr,glo,ghi,[],none,0⟩,[],gP,uP,[],[],none,0,[],_) (by subst hK3;exact⟨bK _,by rw[hba];exact .nil _,⟨rfl,row,gm.nil,rfl,cm _ hco,cm _ hgr,fun q hq=>cm _ (hps q hq),H.perm (aj _ (am _ _ _))⟩,gm.nil,by simp,aC ..⟩) (la Z Z) ?_
 rintro⟨i,b,xs,gP1,uP1,Ls,Lo,oA,oC,oL,F'⟩ ρ1 w7 Ii
 show CW _ _ _ _ (dH (gJ _ _ ρ1) [(32,J (i:Nat)),(10,.slice oA xs.length oC)]) w7
 have hile:=Ii.le
 have H:=Ii.B.H.learnOld (dT te 0 w.heap.size A0 acts) (Ii.B.H.facts _ Ii.ac).1 (ao _)
 have hxl:xs.length=i:=by have:=Ii.run.len;rwa[bI,aI,bA hile]at this
 obtain⟨M',-,hwi⟩:=J2 Ii.run (Hu n1 n5 f1 f2 t1 t2) (by rw[aI];omega) q4 (fun a ha=>hg a (yz ha))
 rw[cG,aI,bA hile]at hwi
 refine W<|Zr ?_
 refine cW (cK Z Z) Z Z Z (fun h33=> ?_) (fun h33=> ?_)
 ·
  refine U<|W<|ZT Z<|Zk<|W<|Zb<|W ?_
  obtain⟨a,ha⟩: ∃ a,acts[i]? =some a:=⟨_,ai I⟩
  refine Zr<|ql H 0 Z wc Z Z I I Z fun bq8 o8 x8 e8=> ?_
  obtain rfl:a=x8:=by have:=e8.at_;rw[ha]at this;exact bN this
  refine G (jF (xs:=Act.c a) dS Z Z e8.cl)<|eI H jD Z fun w9 b12 H=>bg H 0 (#[J (a.kind),.string (a.name),J (a.part),J (a.n),J (a.m),.string (a.text),J (a.lost)]) iN Z Z Z Z Z N N fun w10 H=>U<|W<|Zr<|G (Yp Z)<|G (Zw dS H 0 Z Z Z)<|ch tY (Oc (Ii.B.into2 [(b12,_)] H (fun f hf=>al _ hf)) hwi I q1 q4 (hg a (ah ha))) Z Z ?_
  rintro _ w11 ⟨b2,x2,A9,c9,lo9,hi9,hA9,rfl,hc9,gP9,uP9,Ls9,Lo9,F9,B9,hF9⟩
  replace H:=B9.out (X:=[(b12,_)])
  refine eI H dp Z fun w12 b13 H=>bg H 0 (#[J (x2.code),J (x2.n),.slice A9 x2.texts.length c9]) aP Z Z Z Z Z N N fun w13 H=>U<|W<|Zr<|G (Zf yq Z)<|G (Zd jk H 0 Z Z Z)<|ch nD (yN x2.texts A9 c9 _ (Hp.rdM H (hF9 _ (aC ..))) (by have:=Hc hA9 (fun h=>((hg a (ah ha)).poll h).2) (hg a (ah ha)).kind.1;omega)) Z Z ?_
  have hz41:=H.size
  rintro _ w14 ⟨A41,c41,rfl,hc41,hr41,hb41⟩;replace H:=H.learnRd hb41 hr41;clear hr41 hb41
  refine G (Zf yq Z)<|bg H 0 (#[J (x2.code),J (x2.n),.slice A41 x2.texts.length c41]) Es Z Z Z Z Z N N fun w15 H=>U<|Zr<|G (Ys Z)<|G (Zw aM H 0 Z Z Z)<|sW (vs:=[.agg #[J (x2.code),J (x2.n),.slice A41 x2.texts.length c41]]) H F4 dp Z Z Z Z Z Z fun w16 b45 H=> ?_
  replace H:=Hp.perm H (OA [(b45,_),(b13,_),(b12,_),(b29,_),(gP9,_)] Ls9 Lo9 oL K3)
  refine vQ (Y:=OW) G9 (K:=[(b45,_),(b13,_),(b12,_),(b29,_),(gP9,_)]) (L:=oL) (M:=Ls9++(Lo9++K3)) H Ii.own (es:=xs) (news:=[(⟨x2,A41,c41⟩:Aq)]) Z Z Z (vT.row (m:=1) (sz:=OW.sz) (H.ent (i:=0) Z) Z) (by simp only[bU];omega) Z ?_
  intro A5 c5 w17 L5 h5 h5m ho5 H
  replace H:=Hp.perm H (OA [(b45,_),(b13,_),(b12,_),(b29,_),(gP9,_)] Ls9 Lo9 L5 K3).symm
  refine G (Ws Z)<|U<|Zr<|G (bz Z Z I I)<|G (Yi Z)<|U ?_
  exact⟨(i+1,b2,xs++[(⟨x2,A41,c41⟩:Aq)],gP9,uP9,Ls9,Lo9,A5,c5,L5,_),⟨by omega,by rw[fi ha,bo];exact Ii.run.snoc hA9,Bw.mk B9.pA B9.row B9.sn B9.own (al _ B9.co) (al _ B9.gr) (fun q hq=>al _ (B9.ps q hq)) (H.forget (cu [(b45,_),(b13,_),(b12,_)] _) (fun _ h=>h)),ho5,fun x hx=>(by rcases ax.1 hx with hx|hx;obtain⟨z1,lo,hi,z2,z3⟩:=Ii.tx x hx;exact⟨z1,lo,hi,z2,al _ (hF9 _ (al _ (al _ z3)))⟩;rw[au.1 hx];exact⟨hc41,_,_,hz41,aC ..⟩),al _ (hF9 _ (al _ (aC ..)))⟩,la Z Z,Qg,by show acts.length- (i+1)<acts.length-i;omega⟩
 ·
  refine U<|W<|ZF Z<|Zx<|W ?_
  obtain rfl:i=acts.length:=by omega
  have hrun:=Ii.run
  rw[bZ]at hrun
  subst hK3
  obtain⟨ps2,pA2,pC2,co2,clo2,chi2,gr2,glo2,ghi2,sns2,snA2,snC2⟩:=b
  replace H:Hp w w7 ((b29,.cells #[.slice pA2 ps2.length pC2,J (co2.clock),J (co2.next),J (co2.wait),.slice co2.A co2.txs.length co2.cap,J (gr2.clock),J (gr2.wait),J (gr2.gen),.slice gr2.mA gr2.ms.length gr2.mC,.slice gr2.oA gr2.os.length gr2.oC,.slice snA2 sns2.length snC2] bO (0,0))::(b7,.cells #[.slice (Qd gP) ps.length pC,J (co.clock),J (co.next),J (co.wait),.slice co.A co.txs.length co.cap,J (gr.clock),J (gr.wait),J (gr.gen),.slice gr.mA gr.ms.length gr.mC,.slice gr.oA gr.os.length gr.oC,.slice none (([]:List Sn).length) 0] mK (0,0))::(b5,.cells #[.slice none 0 0,J (0),J (0),J (0),.slice none 0 0,J (0),J (0),J (0),.slice none 0 0,.slice none 0 0,.slice none 0 0] mK (0,0))::(b2,.cells #[J (((np:Nat):Int)),J (((nr:Nat):Int)),J (((few:Nat):Int)),J (wt)] jB (0,0))::(gP1,.cells uP1 bM (0,0))::(Ls++(Lo++oL))) (dT te 0 w.heap.size A0 acts::F'):=H.perm (O9 (b29,_) (gP1,_) Ls Lo oL [(b7,_),(b5,_),(b2,_)])
  refine bD ci [0,1,2,3,4,5] [6,7] [] [0,1,2,3,5] (sp []) N N N N Nq (cJ _) ?_
  refine aw Z Z Z Z Z (fun w' hw'=>Ys Z)<|aw Z Z Z Z Z (fun w' hw'=>Yp Z)<|aw Z Z Z Z Z (fun w' hw'=>aG Z)<|aw Z Z Z Z Z (fun w' hw'=>Zf aV Z)<|aw Z Z Z Z Z (fun w' hw'=>jW nH Z ((H.later hw').ent (i:=0) Z) Z)<|aw Z Z Z Z Z (fun w' hw'=>Ws Z)<|aQ ?_
  intro w18 hw' hF
  replace H:=H.later hw';clear hw' hF
  refine bg H 2 (#[.slice pA2 ps2.length pC2,J (co2.clock),J (co2.next),J (co2.wait),.slice co2.A co2.txs.length co2.cap,J (gr2.clock),J (gr2.wait),J (gr2.gen),.slice gr2.mA gr2.ms.length gr2.mC,.slice gr2.oA gr2.os.length gr2.oC,.slice snA2 sns2.length snC2]) kH Z Z Z Z Z N N fun w19 H=>G (Wi Z)<|U<|Zt ?_
  exact KT (v0:=.slice oA xs.length oC) (cs1:= #[.slice pA2 ps2.length pC2,J (co2.clock),J (co2.next),J (co2.wait),.slice co2.A co2.txs.length co2.cap,J (gr2.clock),J (gr2.wait),J (gr2.gen),.slice gr2.mA gr2.ms.length gr2.mC,.slice gr2.oA gr2.os.length gr2.oC,.slice snA2 sns2.length snC2]) (v2:=J 0) Z Z nH Z (H.ent (i:=2) Z) Z Z ⟨⟨xs,oA,oC,⟨ps2,pA2,pC2,co2,clo2,chi2,gr2,glo2,ghi2,sns2,snA2,snC2⟩⟩,rfl,hrun,Ii.rd [(b29,_),(b7,_),(b5,_),(b2,_)] H (fun f hf=>al _ hf),H.below⟩
/-- an act that the laws make -/
structure FO (np nr:Nat) (hard:Bool) (a:Act):Prop where
 g:ua np nr a
 calm:hard=false->(a.kind<=9∨16<=a.kind)/\a.kind≠1/\a.lost=0
 txt:a.text=⟨#[]⟩∨ ∃ n,a.text=uO n
theorem iY {np nr:Nat} {hard:Bool} {k pt n m lo:Int} {nm t:ByteArray} (h:(1<=k/\k<=20/\k≠17)/\(0<=pt/\pt<np)/\(0<=n/\n<=1000)/\(8<=k->k<=15->n<nr)/\(k=5->n<=1)/\(k=19->1<=n/\n<=20)/\(0<=m/\m<=1000)/\(0<=lo/\lo<=2)) (hh:hard=false->(k<=9∨16<=k)/\k≠1/\lo=0) (hn:(k=1∨k=16∨k=18∨k=19∨k=20)->bQ nm=true) (ht:t=⟨#[]⟩∨ ∃ n,t=uO n):FO np nr hard ⟨k,nm,pt,n,m,t,lo⟩:=by
 obtain⟨h1,h2,h3,h4,h5,h6,h7,h8⟩:=h
 refine⟨⟨h1,hn,h2,h3,h4,h5,h6,h7,?_,h8⟩,hh,ht⟩
 rcases ht with ht|⟨x,ht⟩
 show t.size<=40;rw[ht];decide
 show t.size<=40;rw[ht];exact aS (HV x) (by decide)
def DN (p:Nat):Act:=⟨13,⟨#[]⟩,p,0,0,⟨#[]⟩,0⟩
def z6 (s:ByteArray):Act:=⟨1,s,0,0,0,⟨#[]⟩,0⟩
def GD (s:ByteArray):Act:=⟨16,s,0,0,0,⟨#[]⟩,0⟩
def iu (n:Nat):List Act:=(Ba n).map DN
def pj (np:Nat):List Act:=iu np++[z6 (pR 0),z6 (pR 1),GD (pR 2)]
theorem Fv (n:Nat):iu (n+1)=iu n++[DN n]:=by unfold iu;rw[List.range_succ,bo];rfl
theorem kp (n:Nat):(iu n).length=n:=by simp[iu]
def Dj:Nat->Int
 |0=>11
 |1=>13
 |_=>1
theorem tD {k:Nat} (h:k<3):(p8 [J 11,J 13,J 1]).toArray[0+k*1]? =some (J (Dj k)):=by
 rcases k with _|_|_|k<;>first|rfl|omega
theorem zZ (k:Nat):Dj k=11∨Dj k=13∨Dj k=1:=by
 rcases k with _|_|k
 exact .inl Z
 exact .inr (.inl Z)
 exact .inr (.inr Z)
theorem J0 (a b:Int) (w:World) (ha:i64 a) (hb:i64 b):dg ab n9 [J a,J b] w fun v w2=>v=.agg #[J (1+(pk a 3:Nat):Int),J (1+(pk b 3:Nat):Int),J (1+(pk a (1+pk b 3):Nat):Int),J (5+(pk b 20:Nat):Int)]/\Below w.heap.size w w2:=by
 refine aF ta Z Z ?_
 have H:=Hp.start w
 have p1:=i9 a (show 0<3 by omega)
 have p2:=i9 b (show 0<3 by omega)
 have p3:=i9 a (show 0<1+pk b 3 by omega)
 have p4:=i9 b (show 0<20 by omega)
 refine W<|Zr<|eI H CR Z fun w1 b4 H=>U<|W<|Zr<|G (Yi Z)<|ch aJ (dm b (3) _ hb.1 hb.2 I I) Z Z ?_
 rintro _ w2 ⟨rfl,hb⟩;replace H:=H.later hb;clear hb
 refine G (bz Z Z I I)<|G (Wi Z)<|U<|W<|Zr<|G (Yi Z)<|ch aJ (dm a (3) _ ha.1 ha.2 I I) Z Z ?_
 rintro _ w3 ⟨rfl,hb⟩;replace H:=H.later hb;clear hb
 refine G (bz Z Z I I)<|G (Yi Z)<|G (Yi Z)<|G (Yi Z)<|ch aJ ((by have hA:=dm a (1+pk b 3) w3 ha.1 ha.2 I I;rw[show((1+pk b 3:Nat):Int)=(1:Int)+(pk b 3:Nat) by omega]at hA;exact hA)) Z Z ?_
 rintro _ w4 ⟨rfl,hb⟩;replace H:=H.later hb;clear hb
 refine G (bz Z Z I I)<|G (Yi Z)<|ch aJ (dm b (20) _ hb.1 hb.2 I I) Z Z ?_
 rintro _ w5 ⟨rfl,hb⟩;replace H:=H.later hb;clear hb
 refine G (bz Z Z I I)<|G (bn (cs:= #[J (1+(((pk a (3):Nat):Int))),J (1+(((pk b (3):Nat):Int))),J (1+(((pk a (1+pk b 3):Nat):Int))),J (5+(((pk b (20):Nat):Int)))]) JT CR N)<|bg H 0 (#[J (1+(((pk a (3):Nat):Int))),J (1+(((pk b (3):Nat):Int))),J (1+(((pk a (1+pk b 3):Nat):Int))),J (5+(((pk b (20):Nat):Int)))]) Cc Z Z Z Z Z N N fun w6 H=>U<|Zt ?_
 exact eS (cs0:= #[J (1+(pk a 3:Nat):Int),J (1+(pk b 3:Nat):Int),J (1+(pk a (1+pk b 3):Nat):Int),J (5+(pk b 20:Nat):Int)]) Z rR Z (H.ent (i:=0) Z) Z ⟨rfl,H.below⟩
def tF (j:Nat):List Act:=(Ba j).map fun k=>z6 (pR k)
theorem GF (np j:Nat):iu np++tF j++[z6 (pR j)]=iu np++tF (j+1):=by unfold tF;rw[List.range_succ,bo,aE];rfl
theorem Kb (np:Nat):iu np++tF 2++[GD (pR 2)]=pj np:=by rw[aE];rfl
theorem Kx {k:Nat} (h:k<2):(p8 [.string ⟨#[97,110,110]⟩,.string ⟨#[98,111,98]⟩]).toArray[0+k*1]? =some (.string (pR k)):=by
 rcases k with _|_|k<;>first|rfl|omega
theorem O1 {a:Int}:i64 ((pk a 2:Nat):Int):=by
 have:=i9 a (show 0<2 by omega)
 exact⟨by omega,by omega⟩
theorem HP {np nr most:Nat} {few wt:Int} {hard:Bool} (l:List He) (A0:Option Addr) (c0:Nat) (w:World) (p1:1<=np) (p4:np<=4) (n1:1<=nr) (n5:nr<=5) (hm:most<=400) (hr:Rd yC 0 w.heap.size A0 l w) (hok: ∀ r∈l,r.ok):dg ab uF [.slice A0 l.length c0,.agg #[J (((np:Nat):Int)),J (((nr:Nat):Int)),J (few),J (wt)],J (most:Nat),.bool hard] w fun v w2=> ∃ (body:List Act) (A:Option Addr) (c:Nat) (L:List (Nat×Obj)),v=.slice A (pj np++body).length c/\body.length<=most/\(∀ a∈body,FO np nr hard a)/\gm te (.slice A (pj np++body).length c) gd (pj np++body) L/\Hp w w2 L []:=by
 refine aF tL Z Z ?_
 have H:=Hp.startRd hr
 show CW _ _ _ _ (args [.slice A0 l.length c0,.agg #[J (((np:Nat):Int)),J (((nr:Nat):Int)),J (few),J (wt)],J (most:Nat),.bool hard]) w
 refine W<|Zr<|fW H Z Z fun w1 b5 H=>G (Ws Z)<|U<|W<|Zr<|G (Ws Z)<|U<|W<|W<|Zr<|G (Zf ny Z)<|G (Zd ak H 0 Z Z Z)<|G (Yi Z)<|U<|Zb ?_
 refine cy (τ:=Nat×Option Addr×Nat×List (Nat×Obj)) [9,10,20,21,22,23,24,25,26,27,28] (fun(i,A,c,_)=>[(20,J (i:Nat)),(9,.slice A (iu i).length c)]) (fun(i,A,c,L) w'=>i<=np/\gm te (.slice A (iu i).length c) gd (iu i) L/\Hp w w' ((b5,.cells #[J (((np:Nat):Int)),J (((nr:Nat):Int)),J (few),J (wt)] jB (0,0))::(L++[])) ([dT yC 0 w.heap.size A0 l])) (fun(i,_)=>np-i) (0,none,0,[]) ⟨bK _,gm.nil,H⟩ (la Z Z) ?_
 rintro⟨i,A,c,L⟩ ρ1 w2 ⟨hi,ho,H⟩
 show CW _ _ _ _ (dH (gJ _ _ ρ1) [(20,J (i:Nat)),(9,.slice A (iu i).length c)]) w2
 refine W<|Zr ?_
 refine cW (cK Z Z) Z Z Z (fun h21=> ?_) (fun h21=> ?_)
 refine U<|W<|ZT Z<|Zk<|W<|Zb<|W<|Zr<|G (Yi Z)<|G (Wi Z)<|U<|Zr<|G (Ys Z)<|G (Yi Z)<|G (bn (cs:= #[J (13),.string (⟨#[]⟩),J (((i:Nat):Int)),J (0),J (0),.string (⟨#[]⟩),J (0)]) js jD N)<|sW (vs:=[.agg #[J (13),.string (⟨#[]⟩),J (((i:Nat):Int)),J (0),J (0),.string (⟨#[]⟩),J (0)]]) H wc jD Z Z Z Z Z Z fun w3 b26 H=>vQ (Y:=te) y7 (K:=[(b26,_),(b5,_)]) (L:=L) (M:=[]) H ho (es:=iu i) (news:=[DN i]) Z Z Z (vT.row (m:=1) (sz:=te.sz) (H.ent (i:=0) Z) Z) (by simp only[bU];rw[kp];omega) Z ?_
 intro A5 c5 w4 L5 h5 h5m ho5 H
 rw[<-Fv]at ho5 h5⊢
 refine G (Ws Z)<|U<|Zr<|G (bz Z Z I I)<|G (Yi Z)<|U ?_
 exact⟨(i+1,A5,c5,L5),⟨by omega,ho5,H.forget (.cons _ (ar _)) (fun _ h=>h)⟩,la Z Z,Qg,by show np- (i+1)<np-i;omega⟩
 refine U<|W<|ZF Z<|Zx<|W<|W<|Zr<|sW (vs:=[.string (⟨#[97,110,110]⟩),.string (⟨#[98,111,98]⟩)]) H ip vW Z Z Z Z Z Z fun w5 b29 H=>G (br lO Z)<|G (Yi Z)<|U<|Zb ?_
 obtain rfl:np=i:=by omega
 refine cy (τ:=Nat×Option Addr×Nat×List (Nat×Obj)) [9,12,31,32,33,34,35,36,37,38,39,40] (fun(j,A,c,_)=>[(31,J (j:Nat)),(9,.slice A (iu np++tF j).length c)]) (fun(j,A,c,L) w'=>j<=2/\gm te (.slice A (iu np++tF j).length c) gd (iu np++tF j) L/\Hp w w' ((b29,.cells #[.string (⟨#[97,110,110]⟩),.string (⟨#[98,111,98]⟩)] kD (0,0))::(b5,.cells #[J (((np:Nat):Int)),J (((nr:Nat):Int)),J (few),J (wt)] jB (0,0))::(L++[])) ([dT yC 0 w.heap.size A0 l])) (fun(j,_)=>2-j) (0,A,c,L) ⟨by omega,by show gm te (.slice A (iu np++[]).length c) gd (iu np++[]) L;rw[aY];exact ho,H⟩ (la Z (by show _=Value.slice A (iu np++[]).length c;rw[aY];rfl)) ?_
 rintro⟨j,A,c,L⟩ ρ1 w6 ⟨hj,ho,H⟩
 show CW _ _ _ _ (dH (gJ _ _ ρ1) [(31,J (j:Nat)),(9,.slice A (iu np++tF j).length c)]) w6
 refine W<|Zr ?_
 refine cW (cK Z Z) Z Z Z (fun h32=> ?_) (fun h32=> ?_)
 refine U<|W<|ZT Z<|Zk<|W<|Zb<|W<|Zr<|G (sS ip Z Z I I)<|G (aX bc Z (aD (H.ent (i:=0) Z) (Kx I)))<|G (Wt Z)<|U<|Zr<|G (Ys Z)<|G (Yt Z)<|G (bn (cs:= #[J (1),.string (pR j),J (0),J (0),J (0),.string (⟨#[]⟩),J (0)]) js jD N)<|sW (vs:=[.agg #[J (1),.string (pR j),J (0),J (0),J (0),.string (⟨#[]⟩),J (0)]]) H wc jD Z Z Z Z Z Z fun w7 b38 H=>vQ (Y:=te) y7 (K:=[(b38,_),(b29,_),(b5,_)]) (L:=L) (M:=[]) H ho (es:=iu np++tF j) (news:=[z6 (pR j)]) Z Z Z (vT.row (m:=1) (sz:=te.sz) (H.ent (i:=0) Z) Z) (by simp only[bU];rw[az,kp];unfold tF;rw[bI,List.length_range];omega) Z ?_
 intro A5 c5 w8 L5 h5 h5m ho5 H
 rw[GF]at ho5 h5⊢
 refine G (Ws Z)<|U<|Zr<|G (bz Z Z I I)<|G (Yi Z)<|U ?_
 exact⟨(j+1,A5,c5,L5),⟨by omega,ho5,H.forget (.cons _ (ar _)) (fun _ h=>h)⟩,la Z Z,Qg,by show 2- (j+1)<2-j;omega⟩
 refine U<|W<|ZF Z<|Zx<|W ?_
 obtain rfl:j=2:=by omega
 refine Zr<|G (Ys Z)<|G (bn (cs:= #[J (16),.string (⟨#[99,121]⟩),J (0),J (0),J (0),.string (⟨#[]⟩),J (0)]) js jD N)<|sW (vs:=[.agg #[J (16),.string (⟨#[99,121]⟩),J (0),J (0),J (0),.string (⟨#[]⟩),J (0)]]) H wc jD Z Z Z Z Z Z fun w9 b43 H=>vQ (Y:=te) y7 (K:=[(b43,_),(b29,_),(b5,_)]) (L:=L) (M:=[]) H ho (es:=iu np++tF 2) (news:=[GD (pR 2)]) Z Z Z (vT.row (m:=1) (sz:=te.sz) (H.ent (i:=0) Z) Z) (by simp only[bU];rw[az,kp];show(np+2+1)*_<=_;omega) Z ?_
 intro A5 c5 w10 L5 h5 h5m ho5 H
 rw[Kb]at ho5 h5⊢
 refine G (Ws Z)<|U<|W<|Zr<|G (Wi Z)<|U<|W<|W<|Zr<|G (Wi Z)<|U<|Zb ?_
 refine cy (τ:=Nat×List Act×Option Addr×Nat×List (Nat×Obj)) [9,14,15,16,17,45,46,47,48,49,50,51,52,53,54,55,56,57,58,59,60,61,62,63,64,65,66,67,68,69,70,71,72,73,74,75,76,77,78,79,80,81,82,83,84,85,86,87,88,89,90,91,92,93,94,95,96,97,98,99,100,101,102,103,104,105,106,107,108,109,110,111,112,113,114,115,116,117,118,119,120,121,122,123,124,125,126,127,128,129,130,131,132,133,134,135,136,137,138,139,140,141,142,143,144,145,146,147,148,149,150,151,152,153,154,155,156,157,158,159,160,161,162,163,164,165,166,167,168,169,170,171,172,173,174,175,176,177,178,179,180,181,182,183,184,185,186,187,188,189,190,191,192,193,194,195,196,197,198,199,200,201,202,203,204,205,206,207,208,209,210,211,212,213,214,215,216,217,218,219,220,221,222,223,224,225,226,227,228,229,230,231,232,233] (fun(i,es,A,c,_)=>[(14,J (i:Nat)),(9,.slice A (pj np++es).length c)]) (fun(i,es,A,c,L) w'=>i<=l.length/\i<=most/\es.length=i/\(∀ a∈es,FO np nr hard a)/\gm te (.slice A (pj np++es).length c) gd (pj np++es) L/\Hp w w' ((b29,.cells #[.string (⟨#[97,110,110]⟩),.string (⟨#[98,111,98]⟩)] kD (0,0))::(b5,.cells #[J (((np:Nat):Int)),J (((nr:Nat):Int)),J (few),J (wt)] jB (0,0))::(L++[])) ([dT yC 0 w.heap.size A0 l])) (fun(i,_)=>l.length-i) (0,[],A5,c5,L5) ⟨bK _,bK _,rfl,by simp,by rw[aY];exact ho5,H.forget (.cons _ (ar _)) (fun _ h=>h)⟩ (la Z (by show _=Value.slice A5 (pj np++[]).length c5;rw[aY];rfl)) ?_
 rintro⟨i,es,A,c,L⟩ ρ1 w11 ⟨hi,him,hel,hes,ho,H⟩
 show CW _ _ _ _ (dH (gJ _ _ ρ1) [(14,J (i:Nat)),(9,.slice A (pj np++es).length c)]) w11
 refine W<|W<|Zr<|G (Yi Z)<|G (Ys Z)<|G (br KG Z) ?_
 refine cW (cK Z Z) Z Z Z (fun h48=> ?_) (fun h48=> ?_)
 refine G (Yb Z)<|ZG<|G (Yi Z)<|ZG<|G (Yi Z)<|ZG ?_
 refine cW (cK Z Z) Z Z Z (fun h52=> ?_) (fun h52=> ?_)
 refine G (Kt Z Z)<|U<|ZT Z<|Zk<|W<|Zb<|W ?_
 obtain⟨x,hx⟩: ∃ x,l[i]? =some x:=⟨_,ai I⟩
 have hxo:=hok x (ah hx)
 obtain⟨z,hz⟩: ∃ z,(hard&&decide (((pk x.c 6:Nat):Int)=0))=z:=⟨_,rfl⟩
 have hq0:=i9 x.a (show 0<2 by omega)
 have hq1:=i9 x.c (show 0<2 by omega)
 have hq2:=i9 x.c (show 0<3 by omega)
 have hq3:=i9 x.c (show 0<4 by omega)
 have hq4:=i9 x.c (show 0<5 by omega)
 have hq5:=i9 x.c (show 0<6 by omega)
 have hq6:=i9 x.c (show 0<40 by omega)
 have hq7:=i9 x.a (show 0<nr by omega)
 have hq8:=i9 x.b (show 0<np by omega)
 have hq9:=i9 x.kind (show 0<30 by omega)
 refine Zr<|G (Ys Z)<|G (Yi Z)<|ql H 0 Z L0 Z Z I I Z fun bq12 o12 x12 e12=> ?_
 obtain rfl:x=x12:=by have:=e12.at_;rw[hx]at this;exact bN this
 refine G (jF (xs:=He.cs x) M3 Z Z e12.cl)<|eI H Ok Z fun w13 b15 H=>bg H 0 (#[J (x.kind),J (x.a),J (x.b),J (x.c)]) L7 Z Z Z Z Z N N fun w14 H=>U<|W ?_
 refine bD ci [0,1,4,5,6,7,2,3,8,9,10] [11] [2,3,8,10] [0,4,6,9] (sp [(2,Sp.one (J ((pk x.a 2:Nat):Int))),(3,Sp.one (.string (pR (pk ((pk x.a 2:Nat):Int) 3)))),(8,Sp.one (J ((pk x.b np:Nat):Int))),(10,Sp.blk w14.heap.size (.agg #[J 0,.string ⟨#[]⟩,J 0,J 0,J 0,.string ⟨#[]⟩,J 0]) gd)]) N N N N Nq (cJ _) ?_
 refine aw Z Z Z Z Z (fun w' hw'=>Zf mB Z)<|aw Z Z Z Z Z (fun w' hw'=>aX ak Z (aD ((H.later hw').ent (i:=0) Z) Z))<|aw Z Z Z Z Z (fun w' hw'=>Zf KY Z)<|aw Z Z Z Z Z (fun w' hw'=>aX ak Z (aD ((H.later hw').ent (i:=0) Z) Z))<|aw Z Z Z Z Z (fun w' hw'=>Zf ny Z)<|aw Z Z Z Z Z (fun w' hw'=>aX ak Z (aD ((H.later hw').ent (i:=2) Z) Z))<|hJ aJ Z Z Z Z Z (fun w' hw'=>dm x.a 2 w' hxo.2.1.1 hxo.2.1.2 I I) Z<|hJ tX Z Z Z Z Z (fun w' hw'=>KI ((pk x.a 2:Nat):Int) w' O1) Z<|hJ aJ Z Z Z Z Z (fun w' hw'=>dm x.b np w' hxo.2.2.1.1 hxo.2.2.1.2 I I) Z<|aw Z Z Z Z Z (fun w' hw'=>bn (cs:= #[J (0),.string (pR (pk ((pk x.a 2:Nat):Int) 3)),J (((pk x.b np:Nat):Int)),J (0),J (0),.string (⟨#[]⟩),J (0)]) js jD N)<|wW jD Z Z Z Z Z (fun w' hw'=>hw'.size) fun b16=>aQ ?_
 intro w15 hw' hF
 obtain⟨hF,bq,eq,hge16,hbl16⟩:=hF;cases eq
 obtain⟨hF,-⟩:=hF
 obtain⟨hF,-⟩:=hF
 obtain⟨hF,-⟩:=hF
 have Hb:=H
 replace H:=H.adoptNew hw' hbl16 hge16
 clear hw' hF
 refine bg H 0 (#[J (0),.string (pR (pk ((pk x.a 2:Nat):Int) 3)),J (((pk x.b np:Nat):Int)),J (0),J (0),.string (⟨#[]⟩),J (0)]) iN Z Z Z Z Z N N fun w16 H=>U<|W<|W ?_
 refine eG (τ:=Unit) [70,71,72,73,74,75,76] (fun _=>[(76,.bool z)]) (fun _ w'=>Hp w w' ((b16,.cells #[J (0),.string (pR (pk ((pk x.a 2:Nat):Int) 3)),J (((pk x.b np:Nat):Int)),J (0),J (0),.string (⟨#[]⟩),J (0)] gd (0,0))::(b15,.cells #[J (x.kind),J (x.a),J (x.b),J (x.c)] vk (0,0))::(b29,.cells #[.string (⟨#[97,110,110]⟩),.string (⟨#[98,111,98]⟩)] kD (0,0))::(b5,.cells #[J (((np:Nat):Int)),J (((nr:Nat):Int)),J (few),J (wt)] jB (0,0))::(L++[])) ([dT yC 0 w.heap.size A0 l])) ?_ ?_
 refine Zr<|G (Yb Z)<|G (Yb Z) ?_
 refine mq 71 Z (fun h71=> ?_) (fun h71=> ?_)
 refine ZG<|G (Zf lk Z)<|ZG<|G (Zd ak H 1 Z Z Z)<|ZG<|ch aJ (dm x.c 6 _ hxo.2.2.2.1 hxo.2.2.2.2 I I) Z Z ?_
 rintro _ w17 ⟨rfl,hb⟩;replace H:=H.later hb;clear hb
 refine ZG ?_
 refine cW (bp Z Z) Z Z Z (fun h75=> ?_) (fun h75=> ?_)
 refine G (Kt Z Z)<|U ?_
 exact⟨(),H,dJ (congrArg Value.bool (by rw[<-hz];simp[h71,h75]<;>omega)),Qg⟩
 refine G (Kt Z Z)<|U ?_
 exact⟨(),H,dJ (congrArg Value.bool (by rw[<-hz];simp[h71,h75]<;>omega)),Qg⟩
 refine ZN<|ZN<|ZN<|ZN<|G (N Z Z)<|U ?_
 exact⟨(),H,dJ (congrArg Value.bool (by rw[<-hz];simp[h71]<;>omega)),Qg⟩
 rintro _ ρ1 w18 H
 show CW _ _ _ _ (dH (gJ _ _ ρ1) [(76,.bool z)]) w18
 refine eG (τ:=Int) [77,78,79,80,81] (fun _=>[]) (fun lo w'=>(0<=lo/\lo<=2)/\(hard=false->lo=0)/\Hp w w' ((b16,.cells #[J (0),.string (pR (pk ((pk x.a 2:Nat):Int) 3)),J (((pk x.b np:Nat):Int)),J (0),J (0),.string (⟨#[]⟩),J (lo)] gd (0,0))::(b15,.cells #[J (x.kind),J (x.a),J (x.b),J (x.c)] vk (0,0))::(b29,.cells #[.string (⟨#[97,110,110]⟩),.string (⟨#[98,111,98]⟩)] kD (0,0))::(b5,.cells #[J (((np:Nat):Int)),J (((nr:Nat):Int)),J (few),J (wt)] jB (0,0))::(L++[])) ([dT yC 0 w.heap.size A0 l])) ?_ ?_
 refine jo Z (fun hc76=> ?_) (fun hc76=> ?_)
 refine Zr<|G (Zf mB Z)<|G (Zd ak H 1 Z Z Z)<|ch aJ (dm x.a 2 _ hxo.2.1.1 hxo.2.1.2 I I) Z Z ?_
 rintro _ w19 ⟨rfl,hb⟩;replace H:=H.later hb;clear hb
 refine G (bz Z Z I I)<|G (Zf jH Z)<|bg H 0 (#[J (0),.string (pR (pk ((pk x.a 2:Nat):Int) 3)),J (((pk x.b np:Nat):Int)),J (0),J (0),.string (⟨#[]⟩),J (1+(((pk x.a 2:Nat):Int)))]) bw Z Z Z Z Z N N fun w20 H=>U ?_
 exact⟨1+((pk x.a 2:Nat):Int),⟨by have:=i9 x.a (show 0<2 by omega);omega,fun hh=>(by rw[hc76,hh]at hz;cases hz),H⟩,rX,Qg⟩
 refine Zk ?_
 exact⟨0,⟨by omega,fun _=>rfl,H⟩,rX,Qg⟩
 rintro lo ρ1 w21 ⟨hlo1,hlo2,H⟩
 show CW _ _ _ _ (dH (gJ _ _ ρ1) []) w21
 refine W<|W<|Zr<|G (Zf KZ Z)<|G (Zd ak H 1 Z Z Z)<|ch aJ (dm x.kind 30 _ hxo.1.1 hxo.1.2 I I) Z Z ?_
 rintro _ w22 ⟨rfl,hb⟩;replace H:=H.later hb;clear hb
 refine G (Wi Z)<|U ?_
 refine eG (τ:=Act) [85,86,87,88,89,90,91,92,93,94,95,96,97,98,99,100,101,102,103,104,105,106,107,108,109,110,111,112,113,114,115,116,117,118,119,120,121,122,123,124,125,126,127,128,129,130,131,132,133,134,135,136,137,138,139,140,141,142,143,144,145,146,147,148,149,150,151,152,153,154,155,156,157,158,159,160,161,162,163,164,165,166,167,168,169,170,171,172,173,174,175,176,177,178,179,180,181,182,183,184,185,186,187,188,189,190,191,192,193,194,195,196,197,198,199,200,201,202,203,204,205,206,207,208,209,210,211,212,213,214,215,216,217,218,219,220,221,222,223,224,225,226,227,228,229] (fun _=>[]) (fun a w'=>FO np nr hard a/\Hp w w' ((b16,.cells #[J (a.kind),.string (a.name),J (a.part),J (a.n),J (a.m),.string (a.text),J (a.lost)] gd (0,0))::(b15,.cells #[J (x.kind),J (x.a),J (x.b),J (x.c)] vk (0,0))::(b29,.cells #[.string (⟨#[97,110,110]⟩),.string (⟨#[98,111,98]⟩)] kD (0,0))::(b5,.cells #[J (((np:Nat):Int)),J (((nr:Nat):Int)),J (few),J (wt)] jB (0,0))::(L++[])) ([dT yC 0 w.heap.size A0 l])) ?_ ?_
 refine Zb<|W<|Zr<|G (Yi Z) ?_
 refine cW (cK Z Z) Z Z Z (fun h103=> ?_) (fun h103=> ?_)
 refine G (Wb Z)<|U<|ZT Z<|W<|Zr<|G (Zf mD Z)<|bg H 0 (#[J (3),.string (pR (pk ((pk x.a 2:Nat):Int) 3)),J (((pk x.b np:Nat):Int)),J (0),J (0),.string (⟨#[]⟩),J (lo)]) bw Z Z Z Z Z N N fun w23 H=>U<|Zr<|G (Zf lk Z)<|G (Zd ak H 1 Z Z Z)<|ch tW (LN x.c _ hxo.2.2.2) Z Z ?_
 rintro _ w24 ⟨rfl,hb⟩;replace H:=H.later hb;clear hb
 refine G (Zf Ay Z)<|bg H 0 (#[J (3),.string (pR (pk ((pk x.a 2:Nat):Int) 3)),J (((pk x.b np:Nat):Int)),J (0),J (0),.string (uO x.c),J (lo)]) zp Z Z Z Z Z N N fun w25 H=>U ?_
 exact⟨(⟨3,pR (pk ((pk x.a 2:Nat):Int) 3),((pk x.b np:Nat):Int),0,0,uO x.c,lo⟩:Act),⟨iY I (fun hh=>by have:=hlo2 hh;omega) (fun _=>qT _) (.inr ⟨_,rfl⟩),H⟩,rX,Qg⟩
 refine G (Wb Z)<|U<|ZF Z<|W<|Zr<|G (Yi Z) ?_
 refine cW (bp Z Z) Z Z Z (fun h111=> ?_) (fun h111=> ?_)
 refine G (Wb Z)<|U<|ZT Z<|Zr<|G (Zf mD Z)<|bg H 0 (#[J (4),.string (pR (pk ((pk x.a 2:Nat):Int) 3)),J (((pk x.b np:Nat):Int)),J (0),J (0),.string (⟨#[]⟩),J (lo)]) bw Z Z Z Z Z N N fun w26 H=>U ?_
 exact⟨(⟨4,pR (pk ((pk x.a 2:Nat):Int) 3),((pk x.b np:Nat):Int),0,0,⟨#[]⟩,lo⟩:Act),⟨iY I (fun hh=>by have:=hlo2 hh;omega) (fun _=>qT _) (.inl Z),H⟩,rX,Qg⟩
 refine G (Wb Z)<|U<|ZF Z<|W<|Zr<|G (Yi Z) ?_
 refine cW (cK Z Z) Z Z Z (fun h115=> ?_) (fun h115=> ?_)
 refine G (Wb Z)<|U<|ZT Z<|Zr<|G (Zf mD Z)<|bg H 0 (#[J (2),.string (pR (pk ((pk x.a 2:Nat):Int) 3)),J (((pk x.b np:Nat):Int)),J (0),J (0),.string (⟨#[]⟩),J (lo)]) bw Z Z Z Z Z N N fun w27 H=>U ?_
 exact⟨(⟨2,pR (pk ((pk x.a 2:Nat):Int) 3),((pk x.b np:Nat):Int),0,0,⟨#[]⟩,lo⟩:Act),⟨iY I (fun hh=>by have:=hlo2 hh;omega) (fun _=>qT _) (.inl Z),H⟩,rX,Qg⟩
 refine G (Wb Z)<|U<|ZF Z<|W<|Zr<|G (Yi Z) ?_
 refine cW (cK Z Z) Z Z Z (fun h119=> ?_) (fun h119=> ?_)
 refine G (Wb Z)<|U<|ZT Z<|W<|Zr<|G (Zf mD Z)<|bg H 0 (#[J (5),.string (pR (pk ((pk x.a 2:Nat):Int) 3)),J (((pk x.b np:Nat):Int)),J (0),J (0),.string (⟨#[]⟩),J (lo)]) bw Z Z Z Z Z N N fun w28 H=>U<|Zr<|G (Zf lk Z)<|G (Zd ak H 1 Z Z Z)<|ch aJ (dm x.c 2 _ hxo.2.2.2.1 hxo.2.2.2.2 I I) Z Z ?_
 rintro _ w29 ⟨rfl,hb⟩;replace H:=H.later hb;clear hb
 refine G (Zf eT Z)<|bg H 0 (#[J (5),.string (pR (pk ((pk x.a 2:Nat):Int) 3)),J (((pk x.b np:Nat):Int)),J (((pk x.c 2:Nat):Int)),J (0),.string (⟨#[]⟩),J (lo)]) bw Z Z Z Z Z N N fun w30 H=>U ?_
 exact⟨(⟨5,pR (pk ((pk x.a 2:Nat):Int) 3),((pk x.b np:Nat):Int),((pk x.c 2:Nat):Int),0,⟨#[]⟩,lo⟩:Act),⟨iY I (fun hh=>by have:=hlo2 hh;omega) (fun _=>qT _) (.inl Z),H⟩,rX,Qg⟩
 refine G (Wb Z)<|U<|ZF Z<|W<|Zr<|G (Yi Z) ?_
 refine cW (cK Z Z) Z Z Z (fun h127=> ?_) (fun h127=> ?_)
 refine G (Wb Z)<|U<|ZT Z<|Zr<|G (Zf mB Z)<|G (Zd ak H 1 Z Z Z)<|ch aJ (dm x.a 2 _ hxo.2.1.1 hxo.2.1.2 I I) Z Z ?_
 rintro _ w31 ⟨rfl,hb⟩;replace H:=H.later hb;clear hb
 refine G (bn (cs:= #[J (6),.string (⟨#[]⟩),J (0),J (((pk x.a 2:Nat):Int)),J (0),.string (⟨#[]⟩),J (0)]) js jD N)<|bg H 0 (#[J (6),.string (⟨#[]⟩),J (0),J (((pk x.a 2:Nat):Int)),J (0),.string (⟨#[]⟩),J (0)]) iN Z Z Z Z Z N N fun w32 H=>U ?_
 exact⟨(⟨6,⟨#[]⟩,0,((pk x.a 2:Nat):Int),0,⟨#[]⟩,0⟩:Act),⟨iY I (fun hh=>by have:=hlo2 hh;omega) (fun h=>by omega) (.inl Z),H⟩,rX,Qg⟩
 refine G (Wb Z)<|U<|ZF Z<|W<|Zr<|G (Yi Z) ?_
 refine cW (cK Z Z) Z Z Z (fun h134=> ?_) (fun h134=> ?_)
 refine G (Wb Z)<|U<|ZT Z ?_
 refine bD ci [0,1,2,3,4,5,6,7] [8] [6] [0,2,4,7] (sp [(6,Sp.one (J ((pk x.a nr:Nat):Int)))]) N N N N Nq (cJ _) ?_
 refine aw Z Z Z Z Z (fun w' hw'=>Zf dW Z)<|aw Z Z Z Z Z (fun w' hw'=>aX ak Z (aD ((H.later hw').ent (i:=0) Z) Z))<|aw Z Z Z Z Z (fun w' hw'=>Zf mB Z)<|aw Z Z Z Z Z (fun w' hw'=>aX ak Z (aD ((H.later hw').ent (i:=1) Z) Z))<|aw Z Z Z Z Z (fun w' hw'=>Zf lH Z)<|aw Z Z Z Z Z (fun w' hw'=>aX ak Z (aD ((H.later hw').ent (i:=3) Z) Z))<|hJ aJ Z Z Z Z Z (fun w' hw'=>dm x.a nr w' hxo.2.1.1 hxo.2.1.2 I I) Z<|aw Z Z Z Z Z (fun w' hw'=>bn (cs:= #[J (8),.string (⟨#[]⟩),J (((pk x.b np:Nat):Int)),J (((pk x.a nr:Nat):Int)),J (0),.string (⟨#[]⟩),J (0)]) js jD N)<|aQ ?_
 intro w33 hw' hF
 replace H:=H.later hw';clear hw' hF
 refine bg H 0 (#[J (8),.string (⟨#[]⟩),J (((pk x.b np:Nat):Int)),J (((pk x.a nr:Nat):Int)),J (0),.string (⟨#[]⟩),J (0)]) iN Z Z Z Z Z N N fun w34 H=>U ?_
 exact⟨(⟨8,⟨#[]⟩,((pk x.b np:Nat):Int),((pk x.a nr:Nat):Int),0,⟨#[]⟩,0⟩:Act),⟨iY I (fun hh=>by have:=hlo2 hh;omega) (fun h=>by omega) (.inl Z),H⟩,rX,Qg⟩
 refine G (Wb Z)<|U<|ZF Z<|W<|Zr<|G (Yi Z) ?_
 refine cW (cK Z Z) Z Z Z (fun h145=> ?_) (fun h145=> ?_)
 refine G (Wb Z)<|U<|ZT Z ?_
 refine bD ci [0,1,2,3,4,5,6,7] [8] [6] [0,2,4,7] (sp [(6,Sp.one (J ((pk x.a nr:Nat):Int)))]) N N N N Nq (cJ _) ?_
 refine aw Z Z Z Z Z (fun w' hw'=>Zf dW Z)<|aw Z Z Z Z Z (fun w' hw'=>aX ak Z (aD ((H.later hw').ent (i:=0) Z) Z))<|aw Z Z Z Z Z (fun w' hw'=>Zf mB Z)<|aw Z Z Z Z Z (fun w' hw'=>aX ak Z (aD ((H.later hw').ent (i:=1) Z) Z))<|aw Z Z Z Z Z (fun w' hw'=>Zf lH Z)<|aw Z Z Z Z Z (fun w' hw'=>aX ak Z (aD ((H.later hw').ent (i:=3) Z) Z))<|hJ aJ Z Z Z Z Z (fun w' hw'=>dm x.a nr w' hxo.2.1.1 hxo.2.1.2 I I) Z<|aw Z Z Z Z Z (fun w' hw'=>bn (cs:= #[J (9),.string (⟨#[]⟩),J (((pk x.b np:Nat):Int)),J (((pk x.a nr:Nat):Int)),J (0),.string (⟨#[]⟩),J (0)]) js jD N)<|aQ ?_
 intro w35 hw' hF
 replace H:=H.later hw';clear hw' hF
 refine bg H 0 (#[J (9),.string (⟨#[]⟩),J (((pk x.b np:Nat):Int)),J (((pk x.a nr:Nat):Int)),J (0),.string (⟨#[]⟩),J (0)]) iN Z Z Z Z Z N N fun w36 H=>U ?_
 exact⟨(⟨9,⟨#[]⟩,((pk x.b np:Nat):Int),((pk x.a nr:Nat):Int),0,⟨#[]⟩,0⟩:Act),⟨iY I (fun hh=>by have:=hlo2 hh;omega) (fun h=>by omega) (.inl Z),H⟩,rX,Qg⟩
 refine G (Wb Z)<|U<|ZF Z<|W<|Zr<|G (Yi Z) ?_
 refine cW (cK Z Z) Z Z Z (fun h156=> ?_) (fun h156=> ?_)
 refine G (Wb Z)<|U<|ZT Z ?_
 refine bD ci [0,1,2,3,4,5,6] [7] [4] [0,2,5,6] (sp [(4,Sp.one (J ((pk x.c 5:Nat):Int)))]) N N N N Nq (cJ _) ?_
 refine aw Z Z Z Z Z (fun w' hw'=>Zf dW Z)<|aw Z Z Z Z Z (fun w' hw'=>aX ak Z (aD ((H.later hw').ent (i:=0) Z) Z))<|aw Z Z Z Z Z (fun w' hw'=>Zf lk Z)<|aw Z Z Z Z Z (fun w' hw'=>aX ak Z (aD ((H.later hw').ent (i:=1) Z) Z))<|hJ aJ Z Z Z Z Z (fun w' hw'=>dm x.c 5 w' hxo.2.2.2.1 hxo.2.2.2.2 I I) Z<|aw Z Z Z Z Z (fun w' hw'=>bz Z Z I I)<|aw Z Z Z Z Z (fun w' hw'=>bn (cs:= #[J (19),.string (⟨#[99,121]⟩),J (((pk x.b np:Nat):Int)),J (1+(((pk x.c 5:Nat):Int))),J (0),.string (⟨#[]⟩),J (0)]) js jD N)<|aQ ?_
 intro w37 hw' hF
 replace H:=H.later hw';clear hw' hF
 refine bg H 0 (#[J (19),.string (⟨#[99,121]⟩),J (((pk x.b np:Nat):Int)),J (1+(((pk x.c 5:Nat):Int))),J (0),.string (⟨#[]⟩),J (0)]) iN Z Z Z Z Z N N fun w38 H=>U ?_
 exact⟨(⟨19,⟨#[99,121]⟩,((pk x.b np:Nat):Int),1+(((pk x.c 5:Nat):Int)),0,⟨#[]⟩,0⟩:Act),⟨iY I (fun hh=>by have:=hlo2 hh;omega) (fun _=>y0) (.inl Z),H⟩,rX,Qg⟩
 refine G (Wb Z)<|U<|ZF Z<|W<|Zr<|G (Yi Z) ?_
 refine cW (bp Z Z) Z Z Z (fun h166=> ?_) (fun h166=> ?_)
 refine G (Wb Z)<|U<|ZT Z ?_
 refine bD ci [0,1,2,3,4,5,6] [7] [5] [0,1,3,6] (sp [(5,Sp.one (J ((pk x.c 6:Nat):Int)))]) N N N N Nq (cJ _) ?_
 refine aw Z Z Z Z Z (fun w' hw'=>Yi Z)<|aw Z Z Z Z Z (fun w' hw'=>Zf dW Z)<|aw Z Z Z Z Z (fun w' hw'=>aX ak Z (aD ((H.later hw').ent (i:=0) Z) Z))<|aw Z Z Z Z Z (fun w' hw'=>Zf lk Z)<|aw Z Z Z Z Z (fun w' hw'=>aX ak Z (aD ((H.later hw').ent (i:=1) Z) Z))<|hJ aJ Z Z Z Z Z (fun w' hw'=>dm x.c 6 w' hxo.2.2.2.1 hxo.2.2.2.2 I I) Z<|aw Z Z Z Z Z (fun w' hw'=>bn (cs:= #[J (20),.string (⟨#[99,121]⟩),J (((pk x.b np:Nat):Int)),J (1),J (((pk x.c 6:Nat):Int)),.string (⟨#[]⟩),J (0)]) js jD N)<|aQ ?_
 intro w39 hw' hF
 replace H:=H.later hw';clear hw' hF
 refine bg H 0 (#[J (20),.string (⟨#[99,121]⟩),J (((pk x.b np:Nat):Int)),J (1),J (((pk x.c 6:Nat):Int)),.string (⟨#[]⟩),J (0)]) iN Z Z Z Z Z N N fun w40 H=>U ?_
 exact⟨(⟨20,⟨#[99,121]⟩,((pk x.b np:Nat):Int),1,((pk x.c 6:Nat):Int),⟨#[]⟩,0⟩:Act),⟨iY I (fun hh=>by have:=hlo2 hh;omega) (fun _=>y0) (.inl Z),H⟩,rX,Qg⟩
 refine G (Wb Z)<|U<|ZF Z<|W<|Zr<|G (Yi Z) ?_
 refine cW (bp Z Z) Z Z Z (fun h176=> ?_) (fun h176=> ?_)
 refine G (Wb Z)<|U<|ZT Z<|Zr<|G (Zf lk Z)<|G (Zd ak H 1 Z Z Z)<|ch aJ (dm x.c 4 _ hxo.2.2.2.1 hxo.2.2.2.2 I I) Z Z ?_
 rintro _ w41 ⟨rfl,hb⟩;replace H:=H.later hb;clear hb
 refine G (bn (cs:= #[J (7),.string (⟨#[]⟩),J (0),J (((pk x.c 4:Nat):Int)),J (0),.string (⟨#[]⟩),J (0)]) js jD N)<|bg H 0 (#[J (7),.string (⟨#[]⟩),J (0),J (((pk x.c 4:Nat):Int)),J (0),.string (⟨#[]⟩),J (0)]) iN Z Z Z Z Z N N fun w42 H=>U ?_
 exact⟨(⟨7,⟨#[]⟩,0,((pk x.c 4:Nat):Int),0,⟨#[]⟩,0⟩:Act),⟨iY I (fun hh=>by have:=hlo2 hh;omega) (fun h=>by omega) (.inl Z),H⟩,rX,Qg⟩
 refine G (Wb Z)<|U<|ZF Z<|W<|Zr<|G (Yi Z) ?_
 refine cW (bp Z Z) Z Z Z (fun h183=> ?_) (fun h183=> ?_)
 refine G (Wb Z)<|U<|ZT Z<|Zr<|G (Yi Z)<|G (bn (cs:= #[J (18),.string (⟨#[99,121]⟩),J (0),J (1),J (0),.string (⟨#[]⟩),J (0)]) js jD N)<|bg H 0 (#[J (18),.string (⟨#[99,121]⟩),J (0),J (1),J (0),.string (⟨#[]⟩),J (0)]) iN Z Z Z Z Z N N fun w43 H=>U ?_
 exact⟨(⟨18,⟨#[99,121]⟩,0,1,0,⟨#[]⟩,0⟩:Act),⟨iY I (fun hh=>by have:=hlo2 hh;omega) (fun _=>y0) (.inl Z),H⟩,rX,Qg⟩
 refine G (Wb Z)<|U<|ZF Z<|W<|Zr<|G (Yb Z)<|G (dR Z)<|G (Wb Z)<|U ?_
 refine jo Z (fun hc186=> ?_) (fun hc186=> ?_)
 refine bD ci [0,1,2,3,4,5,6,7] [8] [6] [0,2,4,7] (sp [(6,Sp.one (J ((pk x.a nr:Nat):Int)))]) N N N N Nq (cJ _) ?_
 refine aw Z Z Z Z Z (fun w' hw'=>Zf dW Z)<|aw Z Z Z Z Z (fun w' hw'=>aX ak Z (aD ((H.later hw').ent (i:=0) Z) Z))<|aw Z Z Z Z Z (fun w' hw'=>Zf mB Z)<|aw Z Z Z Z Z (fun w' hw'=>aX ak Z (aD ((H.later hw').ent (i:=1) Z) Z))<|aw Z Z Z Z Z (fun w' hw'=>Zf lH Z)<|aw Z Z Z Z Z (fun w' hw'=>aX ak Z (aD ((H.later hw').ent (i:=3) Z) Z))<|hJ aJ Z Z Z Z Z (fun w' hw'=>dm x.a nr w' hxo.2.1.1 hxo.2.1.2 I I) Z<|aw Z Z Z Z Z (fun w' hw'=>bn (cs:= #[J (9),.string (⟨#[]⟩),J (((pk x.b np:Nat):Int)),J (((pk x.a nr:Nat):Int)),J (0),.string (⟨#[]⟩),J (0)]) js jD N)<|aQ ?_
 intro w44 hw' hF
 replace H:=H.later hw';clear hw' hF
 refine bg H 0 (#[J (9),.string (⟨#[]⟩),J (((pk x.b np:Nat):Int)),J (((pk x.a nr:Nat):Int)),J (0),.string (⟨#[]⟩),J (0)]) iN Z Z Z Z Z N N fun w45 H=>U ?_
 exact⟨(⟨9,⟨#[]⟩,((pk x.b np:Nat):Int),((pk x.a nr:Nat):Int),0,⟨#[]⟩,0⟩:Act),⟨iY I (fun hh=>by have:=hlo2 hh;omega) (fun h=>by omega) (.inl Z),H⟩,rX,Qg⟩
 refine W<|Zr<|G (Yi Z) ?_
 refine cW (bp Z Z) Z Z Z (fun h199=> ?_) (fun h199=> ?_)
 refine G (Wb Z)<|U<|ZT Z ?_
 refine bD ci [0,1,4,5,6,7,8,9,11,12,2,3,10,13,14] [15] [2,10,13] [0,3,4,6,8,11,14] (sp [(2,Sp.one (J ((pk x.c 3:Nat):Int))),(10,Sp.one (J ((pk x.a nr:Nat):Int))),(13,Sp.one (J ((pk x.c 40:Nat):Int)))]) N N N N Nq (cJ _) ?_
 refine aw Z Z Z Z Z (fun w' hw'=>Zf lk Z)<|aw Z Z Z Z Z (fun w' hw'=>aX ak Z (aD ((H.later hw').ent (i:=1) Z) Z))<|aw Z Z Z Z Z (fun w' hw'=>Zf dW Z)<|aw Z Z Z Z Z (fun w' hw'=>aX ak Z (aD ((H.later hw').ent (i:=0) Z) Z))<|aw Z Z Z Z Z (fun w' hw'=>Zf mB Z)<|aw Z Z Z Z Z (fun w' hw'=>aX ak Z (aD ((H.later hw').ent (i:=1) Z) Z))<|aw Z Z Z Z Z (fun w' hw'=>Zf lH Z)<|aw Z Z Z Z Z (fun w' hw'=>aX ak Z (aD ((H.later hw').ent (i:=3) Z) Z))<|aw Z Z Z Z Z (fun w' hw'=>Zf lk Z)<|aw Z Z Z Z Z (fun w' hw'=>aX ak Z (aD ((H.later hw').ent (i:=1) Z) Z))<|hJ aJ Z Z Z Z Z (fun w' hw'=>dm x.c 3 w' hxo.2.2.2.1 hxo.2.2.2.2 I I) Z<|aw Z Z Z Z Z (fun w' hw'=>bz Z Z I I)<|hJ aJ Z Z Z Z Z (fun w' hw'=>dm x.a nr w' hxo.2.1.1 hxo.2.1.2 I I) Z<|hJ aJ Z Z Z Z Z (fun w' hw'=>dm x.c 40 w' hxo.2.2.2.1 hxo.2.2.2.2 I I) Z<|aw Z Z Z Z Z (fun w' hw'=>bn (cs:= #[J (10+(((pk x.c 3:Nat):Int))),.string (⟨#[]⟩),J (((pk x.b np:Nat):Int)),J (((pk x.a nr:Nat):Int)),J (((pk x.c 40:Nat):Int)),.string (⟨#[]⟩),J (0)]) js jD N)<|aQ ?_
 intro w46 hw' hF
 replace H:=H.later hw';clear hw' hF
 refine bg H 0 (#[J (10+(((pk x.c 3:Nat):Int))),.string (⟨#[]⟩),J (((pk x.b np:Nat):Int)),J (((pk x.a nr:Nat):Int)),J (((pk x.c 40:Nat):Int)),.string (⟨#[]⟩),J (0)]) iN Z Z Z Z Z N N fun w47 H=>U ?_
 exact⟨(⟨10+(((pk x.c 3:Nat):Int)),⟨#[]⟩,((pk x.b np:Nat):Int),((pk x.a nr:Nat):Int),((pk x.c 40:Nat):Int),⟨#[]⟩,0⟩:Act),⟨iY I (fun hh=>by rw[hh]at hc186;cases hc186) (fun h=>by omega) (.inl Z),H⟩,rX,Qg⟩
 refine G (Wb Z)<|U<|ZF Z<|W<|Zr<|G (Yi Z) ?_
 refine cW (bp Z Z) Z Z Z (fun h217=> ?_) (fun h217=> ?_)
 refine G (Wb Z)<|U<|ZT Z ?_
 refine bD ci [0,1,4,5,6,7,8,9,2,3,10,11] [12] [2,10] [0,3,4,6,8,11] (sp [(2,Sp.one (J ((pk x.c 3:Nat):Int))),(10,Sp.one (J ((pk x.a nr:Nat):Int)))]) N N N N Nq (cJ _) ?_
 refine aw Z Z Z Z Z (fun w' hw'=>Zf lk Z)<|aw Z Z Z Z Z (fun w' hw'=>aX ak Z (aD ((H.later hw').ent (i:=1) Z) Z))<|aw Z Z Z Z Z (fun w' hw'=>Zf dW Z)<|aw Z Z Z Z Z (fun w' hw'=>aX ak Z (aD ((H.later hw').ent (i:=0) Z) Z))<|aw Z Z Z Z Z (fun w' hw'=>Zf mB Z)<|aw Z Z Z Z Z (fun w' hw'=>aX ak Z (aD ((H.later hw').ent (i:=1) Z) Z))<|aw Z Z Z Z Z (fun w' hw'=>Zf lH Z)<|aw Z Z Z Z Z (fun w' hw'=>aX ak Z (aD ((H.later hw').ent (i:=3) Z) Z))<|hJ aJ Z Z Z Z Z (fun w' hw'=>dm x.c 3 w' hxo.2.2.2.1 hxo.2.2.2.2 I I) Z<|aw Z Z Z Z Z (fun w' hw'=>bz Z Z I I)<|hJ aJ Z Z Z Z Z (fun w' hw'=>dm x.a nr w' hxo.2.1.1 hxo.2.1.2 I I) Z<|aw Z Z Z Z Z (fun w' hw'=>bn (cs:= #[J (13+(((pk x.c 3:Nat):Int))),.string (⟨#[]⟩),J (((pk x.b np:Nat):Int)),J (((pk x.a nr:Nat):Int)),J (0),.string (⟨#[]⟩),J (0)]) js jD N)<|aQ ?_
 intro w48 hw' hF
 replace H:=H.later hw';clear hw' hF
 refine bg H 0 (#[J (13+(((pk x.c 3:Nat):Int))),.string (⟨#[]⟩),J (((pk x.b np:Nat):Int)),J (((pk x.a nr:Nat):Int)),J (0),.string (⟨#[]⟩),J (0)]) iN Z Z Z Z Z N N fun w49 H=>U ?_
 exact⟨(⟨13+(((pk x.c 3:Nat):Int)),⟨#[]⟩,((pk x.b np:Nat):Int),((pk x.a nr:Nat):Int),0,⟨#[]⟩,0⟩:Act),⟨iY I (fun hh=>by rw[hh]at hc186;cases hc186) (fun h=>by omega) (.inl Z),H⟩,rX,Qg⟩
 refine G (Wb Z)<|U<|ZF Z<|wL ci (fun w'=>w'.heap[b15]? =some (.cells #[J (x.kind),J (x.a),J (x.b),J (x.c)] vk (0,0))/\w'.heap[b5]? =some (.cells #[J (((np:Nat):Int)),J (((nr:Nat):Int)),J (few),J (wt)] jB (0,0))/\ ∃ cs,w'.heap[b16]? =some (.cells cs gd (0,0))/\cs[1]? =some (.string (pR (pk ((pk x.a 2:Nat):Int) 3)))/\cs[2]? =some (J ((pk x.b np:Nat):Int))) ?_
 intro w50 hw';replace H:=H.later hw';clear hw'
 refine cE 1 N N N Z Z Z Z Nq ⟨H.ent (i:=1) Z,H.ent (i:=3) Z,_,H.ent (i:=0) Z,rfl,rfl⟩ (fun _ hS=>Zf lk Z)<|cE 2 N N N Z Z Z Z Nq ⟨H.ent (i:=1) Z,H.ent (i:=3) Z,_,H.ent (i:=0) Z,rfl,rfl⟩ (fun _ hS=>aX ak Z (aD hS.1 Z))<|cE 6 N N N Z Z Z Z Nq ⟨H.ent (i:=1) Z,H.ent (i:=3) Z,_,H.ent (i:=0) Z,rfl,rfl⟩ (fun _ hS=>Zf fe Z)<|cE 7 N N N Z Z Z Z Nq ⟨H.ent (i:=1) Z,H.ent (i:=3) Z,_,H.ent (i:=0) Z,rfl,rfl⟩ (fun _ hS=>aX bc Z (hS.2.2.elim fun _ h=>aD h.1 h.2.1))<|cE 8 N N N Z Z Z Z Nq ⟨H.ent (i:=1) Z,H.ent (i:=3) Z,_,H.ent (i:=0) Z,rfl,rfl⟩ (fun _ hS=>Zf dW Z)<|cE 9 N N N Z Z Z Z Nq ⟨H.ent (i:=1) Z,H.ent (i:=3) Z,_,H.ent (i:=0) Z,rfl,rfl⟩ (fun _ hS=>aX ak Z (hS.2.2.elim fun _ h=>aD h.1 h.2.2))<|cE 10 N N N Z Z Z Z Nq ⟨H.ent (i:=1) Z,H.ent (i:=3) Z,_,H.ent (i:=0) Z,rfl,rfl⟩ (fun _ hS=>Zf mB Z)<|cE 11 N N N Z Z Z Z Nq ⟨H.ent (i:=1) Z,H.ent (i:=3) Z,_,H.ent (i:=0) Z,rfl,rfl⟩ (fun _ hS=>aX ak Z (aD hS.1 Z))<|cE 12 N N N Z Z Z Z Nq ⟨H.ent (i:=1) Z,H.ent (i:=3) Z,_,H.ent (i:=0) Z,rfl,rfl⟩ (fun _ hS=>Zf lH Z)<|cE 13 N N N Z Z Z Z Nq ⟨H.ent (i:=1) Z,H.ent (i:=3) Z,_,H.ent (i:=0) Z,rfl,rfl⟩ (fun _ hS=>aX ak Z (aD hS.2.1 Z)) ?_
 refine Oe 0 3 N Z Z ?_ ?_
 refine sW (vs:=[J (11),J (13),J (1)]) H aT vX Z Z Z Z Z Z fun w51 b85 H=>U ?_
 refine⟨⟨H.ent (i:=2) Z,H.ent (i:=4) Z,_,H.ent (i:=1) Z,rfl,rfl⟩,?_⟩
 refine xf 3 N Z<|ch aJ (dm x.c 3 _ hxo.2.2.2.1 hxo.2.2.2.2 I I) Z Z ?_
 rintro _ w52 ⟨rfl,hb⟩;replace H:=H.later hb;clear hb
 refine U ?_
 refine⟨⟨H.ent (i:=2) Z,H.ent (i:=4) Z,_,H.ent (i:=1) Z,rfl,rfl⟩,?_⟩
 refine cE 4 N N N Z Z Z Z Nq ⟨H.ent (i:=2) Z,H.ent (i:=4) Z,_,H.ent (i:=1) Z,rfl,rfl⟩ (fun _ hS=>sS aT Z Z I I) ?_
 refine Oe 5 14 N Z Z ?_ ?_
 refine G (aX ak Z (aD (H.ent (i:=0) Z) (tD (i9 x.c (show 0<3 by omega)))))<|U ?_
 refine⟨⟨H.ent (i:=2) Z,H.ent (i:=4) Z,_,H.ent (i:=1) Z,rfl,rfl⟩,?_⟩
 refine xf 14 N Z<|ch aJ (dm x.a nr _ hxo.2.1.1 hxo.2.1.2 I I) Z Z ?_
 rintro _ w53 ⟨rfl,hb⟩;replace H:=H.later hb;clear hb
 refine U ?_
 refine⟨⟨H.ent (i:=2) Z,H.ent (i:=4) Z,_,H.ent (i:=1) Z,rfl,rfl⟩,?_⟩
 refine cE 15 N N N Z Z Z Z Nq ⟨H.ent (i:=2) Z,H.ent (i:=4) Z,_,H.ent (i:=1) Z,rfl,rfl⟩ (fun _ hS=>bn (cs:= #[J (Dj (pk x.c 3)),.string (pR (pk ((pk x.a 2:Nat):Int) 3)),J (((pk x.b np:Nat):Int)),J (((pk x.a nr:Nat):Int)),J (0),.string (⟨#[]⟩),J (0)]) js jD N)<|xf 16 N Z<|bg H 1 (#[J (Dj (pk x.c 3)),.string (pR (pk ((pk x.a 2:Nat):Int) 3)),J (((pk x.b np:Nat):Int)),J (((pk x.a nr:Nat):Int)),J (0),.string (⟨#[]⟩),J (0)]) iN Z Z Z Z Z N N fun w54 H=>U ?_
 refine⟨⟨H.ent (i:=2) Z,H.ent (i:=4) Z,_,H.ent (i:=1) Z,rfl,rfl⟩,?_⟩
 refine pL N ?_
 have hkd:=zZ (pk x.c 3)
 exact⟨(⟨Dj (pk x.c 3),pR (pk ((pk x.a 2:Nat):Int) 3),((pk x.b np:Nat):Int),((pk x.a nr:Nat):Int),0,⟨#[]⟩,0⟩:Act),⟨iY I (fun hh=>by rw[hh]at hc186;cases hc186) (fun _=>qT _) (.inl Z),H.forget ((.cons _ (ar _))) (fun _ h=>h)⟩,rX,Qg⟩
 refine ch aJ (dm x.a nr _ hxo.2.1.1 hxo.2.1.2 I I) Z Z ?_
 rintro _ w55 ⟨rfl,hb⟩;replace H:=H.later hb;clear hb
 refine U ?_
 refine⟨⟨H.ent (i:=2) Z,H.ent (i:=4) Z,_,H.ent (i:=1) Z,rfl,rfl⟩,?_⟩
 refine xf 5 N Z<|G (aX ak Z (aD (H.ent (i:=0) Z) (tD (i9 x.c (show 0<3 by omega)))))<|U ?_
 refine⟨⟨H.ent (i:=2) Z,H.ent (i:=4) Z,_,H.ent (i:=1) Z,rfl,rfl⟩,?_⟩
 refine cE 15 N N N Z Z Z Z Nq ⟨H.ent (i:=2) Z,H.ent (i:=4) Z,_,H.ent (i:=1) Z,rfl,rfl⟩ (fun _ hS=>bn (cs:= #[J (Dj (pk x.c 3)),.string (pR (pk ((pk x.a 2:Nat):Int) 3)),J (((pk x.b np:Nat):Int)),J (((pk x.a nr:Nat):Int)),J (0),.string (⟨#[]⟩),J (0)]) js jD N)<|xf 16 N Z<|bg H 1 (#[J (Dj (pk x.c 3)),.string (pR (pk ((pk x.a 2:Nat):Int) 3)),J (((pk x.b np:Nat):Int)),J (((pk x.a nr:Nat):Int)),J (0),.string (⟨#[]⟩),J (0)]) iN Z Z Z Z Z N N fun w56 H=>U ?_
 refine⟨⟨H.ent (i:=2) Z,H.ent (i:=4) Z,_,H.ent (i:=1) Z,rfl,rfl⟩,?_⟩
 refine pL N ?_
 have hkd:=zZ (pk x.c 3)
 exact⟨(⟨Dj (pk x.c 3),pR (pk ((pk x.a 2:Nat):Int) 3),((pk x.b np:Nat):Int),((pk x.a nr:Nat):Int),0,⟨#[]⟩,0⟩:Act),⟨iY I (fun hh=>by rw[hh]at hc186;cases hc186) (fun _=>qT _) (.inl Z),H.forget ((.cons _ (ar _))) (fun _ h=>h)⟩,rX,Qg⟩
 refine ch aJ (dm x.c 3 _ hxo.2.2.2.1 hxo.2.2.2.2 I I) Z Z ?_
 rintro _ w57 ⟨rfl,hb⟩;replace H:=H.later hb;clear hb
 refine U ?_
 refine⟨⟨H.ent (i:=1) Z,H.ent (i:=3) Z,_,H.ent (i:=0) Z,rfl,rfl⟩,?_⟩
 refine Oe 0 14 N Z Z ?_ ?_
 refine sW (vs:=[J (11),J (13),J (1)]) H aT vX Z Z Z Z Z Z fun w58 b85 H=>U ?_
 refine⟨⟨H.ent (i:=2) Z,H.ent (i:=4) Z,_,H.ent (i:=1) Z,rfl,rfl⟩,?_⟩
 refine cE 4 N N N Z Z Z Z Nq ⟨H.ent (i:=2) Z,H.ent (i:=4) Z,_,H.ent (i:=1) Z,rfl,rfl⟩ (fun _ hS=>sS aT Z Z I I) ?_
 refine Oe 5 14 N Z Z ?_ ?_
 refine G (aX ak Z (aD (H.ent (i:=0) Z) (tD (i9 x.c (show 0<3 by omega)))))<|U ?_
 refine⟨⟨H.ent (i:=2) Z,H.ent (i:=4) Z,_,H.ent (i:=1) Z,rfl,rfl⟩,?_⟩
 refine xf 14 N Z<|ch aJ (dm x.a nr _ hxo.2.1.1 hxo.2.1.2 I I) Z Z ?_
 rintro _ w59 ⟨rfl,hb⟩;replace H:=H.later hb;clear hb
 refine U ?_
 refine⟨⟨H.ent (i:=2) Z,H.ent (i:=4) Z,_,H.ent (i:=1) Z,rfl,rfl⟩,?_⟩
 refine cE 15 N N N Z Z Z Z Nq ⟨H.ent (i:=2) Z,H.ent (i:=4) Z,_,H.ent (i:=1) Z,rfl,rfl⟩ (fun _ hS=>bn (cs:= #[J (Dj (pk x.c 3)),.string (pR (pk ((pk x.a 2:Nat):Int) 3)),J (((pk x.b np:Nat):Int)),J (((pk x.a nr:Nat):Int)),J (0),.string (⟨#[]⟩),J (0)]) js jD N)<|xf 16 N Z<|bg H 1 (#[J (Dj (pk x.c 3)),.string (pR (pk ((pk x.a 2:Nat):Int) 3)),J (((pk x.b np:Nat):Int)),J (((pk x.a nr:Nat):Int)),J (0),.string (⟨#[]⟩),J (0)]) iN Z Z Z Z Z N N fun w60 H=>U ?_
 refine⟨⟨H.ent (i:=2) Z,H.ent (i:=4) Z,_,H.ent (i:=1) Z,rfl,rfl⟩,?_⟩
 refine pL N ?_
 have hkd:=zZ (pk x.c 3)
 exact⟨(⟨Dj (pk x.c 3),pR (pk ((pk x.a 2:Nat):Int) 3),((pk x.b np:Nat):Int),((pk x.a nr:Nat):Int),0,⟨#[]⟩,0⟩:Act),⟨iY I (fun hh=>by rw[hh]at hc186;cases hc186) (fun _=>qT _) (.inl Z),H.forget ((.cons _ (ar _))) (fun _ h=>h)⟩,rX,Qg⟩
 refine ch aJ (dm x.a nr _ hxo.2.1.1 hxo.2.1.2 I I) Z Z ?_
 rintro _ w61 ⟨rfl,hb⟩;replace H:=H.later hb;clear hb
 refine U ?_
 refine⟨⟨H.ent (i:=2) Z,H.ent (i:=4) Z,_,H.ent (i:=1) Z,rfl,rfl⟩,?_⟩
 refine xf 5 N Z<|G (aX ak Z (aD (H.ent (i:=0) Z) (tD (i9 x.c (show 0<3 by omega)))))<|U ?_
 refine⟨⟨H.ent (i:=2) Z,H.ent (i:=4) Z,_,H.ent (i:=1) Z,rfl,rfl⟩,?_⟩
 refine cE 15 N N N Z Z Z Z Nq ⟨H.ent (i:=2) Z,H.ent (i:=4) Z,_,H.ent (i:=1) Z,rfl,rfl⟩ (fun _ hS=>bn (cs:= #[J (Dj (pk x.c 3)),.string (pR (pk ((pk x.a 2:Nat):Int) 3)),J (((pk x.b np:Nat):Int)),J (((pk x.a nr:Nat):Int)),J (0),.string (⟨#[]⟩),J (0)]) js jD N)<|xf 16 N Z<|bg H 1 (#[J (Dj (pk x.c 3)),.string (pR (pk ((pk x.a 2:Nat):Int) 3)),J (((pk x.b np:Nat):Int)),J (((pk x.a nr:Nat):Int)),J (0),.string (⟨#[]⟩),J (0)]) iN Z Z Z Z Z N N fun w62 H=>U ?_
 refine⟨⟨H.ent (i:=2) Z,H.ent (i:=4) Z,_,H.ent (i:=1) Z,rfl,rfl⟩,?_⟩
 refine pL N ?_
 have hkd:=zZ (pk x.c 3)
 exact⟨(⟨Dj (pk x.c 3),pR (pk ((pk x.a 2:Nat):Int) 3),((pk x.b np:Nat):Int),((pk x.a nr:Nat):Int),0,⟨#[]⟩,0⟩:Act),⟨iY I (fun hh=>by rw[hh]at hc186;cases hc186) (fun _=>qT _) (.inl Z),H.forget ((.cons _ (ar _))) (fun _ h=>h)⟩,rX,Qg⟩
 refine ch aJ (dm x.a nr _ hxo.2.1.1 hxo.2.1.2 I I) Z Z ?_
 rintro _ w63 ⟨rfl,hb⟩;replace H:=H.later hb;clear hb
 refine U ?_
 refine⟨⟨H.ent (i:=1) Z,H.ent (i:=3) Z,_,H.ent (i:=0) Z,rfl,rfl⟩,?_⟩
 refine xf 0 N Z<|sW (vs:=[J (11),J (13),J (1)]) H aT vX Z Z Z Z Z Z fun w64 b85 H=>U ?_
 refine⟨⟨H.ent (i:=2) Z,H.ent (i:=4) Z,_,H.ent (i:=1) Z,rfl,rfl⟩,?_⟩
 refine cE 4 N N N Z Z Z Z Nq ⟨H.ent (i:=2) Z,H.ent (i:=4) Z,_,H.ent (i:=1) Z,rfl,rfl⟩ (fun _ hS=>sS aT Z Z I I)<|xf 5 N Z<|G (aX ak Z (aD (H.ent (i:=0) Z) (tD (i9 x.c (show 0<3 by omega)))))<|U ?_
 refine⟨⟨H.ent (i:=2) Z,H.ent (i:=4) Z,_,H.ent (i:=1) Z,rfl,rfl⟩,?_⟩
 refine cE 15 N N N Z Z Z Z Nq ⟨H.ent (i:=2) Z,H.ent (i:=4) Z,_,H.ent (i:=1) Z,rfl,rfl⟩ (fun _ hS=>bn (cs:= #[J (Dj (pk x.c 3)),.string (pR (pk ((pk x.a 2:Nat):Int) 3)),J (((pk x.b np:Nat):Int)),J (((pk x.a nr:Nat):Int)),J (0),.string (⟨#[]⟩),J (0)]) js jD N)<|xf 16 N Z<|bg H 1 (#[J (Dj (pk x.c 3)),.string (pR (pk ((pk x.a 2:Nat):Int) 3)),J (((pk x.b np:Nat):Int)),J (((pk x.a nr:Nat):Int)),J (0),.string (⟨#[]⟩),J (0)]) iN Z Z Z Z Z N N fun w65 H=>U ?_
 refine⟨⟨H.ent (i:=2) Z,H.ent (i:=4) Z,_,H.ent (i:=1) Z,rfl,rfl⟩,?_⟩
 refine pL N ?_
 have hkd:=zZ (pk x.c 3)
 exact⟨(⟨Dj (pk x.c 3),pR (pk ((pk x.a 2:Nat):Int) 3),((pk x.b np:Nat):Int),((pk x.a nr:Nat):Int),0,⟨#[]⟩,0⟩:Act),⟨iY I (fun hh=>by rw[hh]at hc186;cases hc186) (fun _=>qT _) (.inl Z),H.forget ((.cons _ (ar _))) (fun _ h=>h)⟩,rX,Qg⟩
 rintro a ρ1 w66 ⟨hga,H⟩
 show CW _ _ _ _ (dH (gJ _ _ ρ1) []) w66
 refine Zr<|G (Ys Z)<|G (Zw dS H 0 Z Z Z)<|sW (vs:=[.agg #[J (a.kind),.string (a.name),J (a.part),J (a.n),J (a.m),.string (a.text),J (a.lost)]]) H wc jD Z Z Z Z Z Z fun w67 b232 H=>vQ (Y:=te) y7 (K:=[(b232,_),(b16,_),(b15,_),(b29,_),(b5,_)]) (L:=L) (M:=[]) H ho (es:=pj np++es) (news:=[a]) Z Z Z (vT.row (m:=1) (sz:=te.sz) (H.ent (i:=0) Z) Z) (by simp only[bU];rw[az];unfold pj;rw[az,kp];show(np+3+es.length+1)*_<=_;omega) Z ?_
 intro A5 c5 w68 L5 h5 h5m ho5 H
 rw[aE]at ho5 h5⊢
 refine G (Ws Z)<|U<|Zr<|G (Yi Z)<|G (bz Z Z I I)<|G (Wi Z)<|U ?_
 exact⟨(i+1,es++[a],A5,c5,L5),⟨by omega,by omega,by rw[az,hel];rfl,fun y hy=>(by rcases ax.1 hy with hy|hy;exact hes y hy;rw[au.1 hy];exact hga),ho5,H.forget (.cons _ (.cons _ (.cons _ (ar _)))) (fun _ h=>h)⟩,la Z Z,Qg,by show l.length- (i+1)<l.length-i;omega⟩
 refine G (Kt Z Z)<|U<|ZF Z<|Zx<|W<|Zr<|G (Ys Z)<|G (Ws Z)<|U<|Zt ?_
 exact cH (v:=.slice A (pj np++es).length c) Z Z ⟨es,A,c,L,rfl,by omega,hes,ho,H.forget (L':=L) (.cons _ (.cons _ (by rw[aY];exact ar _))) (by simp)⟩
 refine G (Yb Z)<|ZN<|ZN<|ZN<|G (N Z Z)<|U<|ZF Z<|Zx<|W<|Zr<|G (Ys Z)<|G (Ws Z)<|U<|Zt ?_
 exact cH (v:=.slice A (pj np++es).length c) Z Z ⟨es,A,c,L,rfl,by omega,hes,ho,H.forget (L':=L) (.cons _ (.cons _ (by rw[aY];exact ar _))) (by simp)⟩
def M4 (lo hi:Nat) (r:Rn):cz:=⟨lo,hi,r.rd lo hi,fun _ _ hk h=>h.st hk⟩
def Pf (w:World) (W0:Wa) (acts:List Act) (v:Value) (w2:World):Prop:= ∃ (xs:List Aq) (oA:Option Addr) (oC:Nat) (b:Bk),v=.tuple #[.slice oA xs.length oC,.agg b.c.toArray,.bool true]/\nK W0 acts (xs.map Aq.x) b.a/\(Rn.mk xs oA oC b).rd w.heap.size w2.heap.size w2/\Below w.heap.size w w2
theorem C6 {a b:Int}:1<=1+pk a 3/\1+pk a 3<=4/\1<=1+pk b 3/\1+pk b 3<=5/\1<=1+pk a (1+pk b 3)/\1+pk a (1+pk b 3)<=1+pk b 3/\(1:Int)<=5+(pk b 20:Nat)/\(5:Int)+(pk b 20:Nat)<=1000:=by
 have p1:=i9 a (show 0<3 by omega)
 have p2:=i9 b (show 0<3 by omega)
 have p3:=i9 a (show 0<1+pk b 3 by omega)
 have p4:=i9 b (show 0<20 by omega)
 omega
theorem Di {np nr few:Nat} {wt:Int} {acts:List Act} {A0:Option Addr} {c0:Nat} (w:World) (q1:1<=np) (q4:np<=4) (n1:1<=nr) (n5:nr<=5) (f1:1<=few) (f2:few<=nr) (t1:1<=wt) (t2:wt<=1000) (hr:Rd te 0 w.heap.size A0 acts w) (hl:acts.length<=400) (hg: ∀ a∈acts,ua np nr a):dg ab vF [.agg #[J (np:Nat),J (nr:Nat),J (few:Nat),J wt],.slice A0 acts.length c0] w (Pf w (sk np nr few wt) acts):=by
 refine aF uH Z Z ?_
 have H:=Hp.startRd hr
 show CW _ _ _ _ (args [.agg #[J (np:Nat),J (nr:Nat),J (few:Nat),J wt],.slice A0 acts.length c0]) w
 refine W<|Zr<|fW H Z Z fun w1 b2 H=>G (Ws Z)<|eI H nM Z fun w2 b5 H=>G (Wb Z)<|U<|W<|Zr<|G (Zw rR H 1 Z Z Z)<|G (Ys Z)<|ch BT (NF _ q1 q4 n1 n5 f1 f2 t1 t2 (H.rd0 0 Z) hl hg) Z Z ?_
 have hlo:=H.size
 rintro _ w3 ⟨⟨xs,oA,oC,⟨ps,pA,pC,co,clo,chi,gr,glo,ghi,sns,snA,snC⟩⟩,rfl,hrun,hrd,hb⟩;replace H:=H.learn hb (M4 w2.heap.size w3.heap.size ⟨xs,oA,oC,⟨ps,pA,pC,co,clo,chi,gr,glo,ghi,sns,snA,snC⟩⟩) hrd (ao _) (ao _)
 have hxl:xs.length=acts.length:=by have:=hrun.len;rwa[bI]at this
 refine G (Yu Z)<|G (Xs Z Z)<|G (Xa Z Z)<|G (Xi Z Z)<|eI H nM Z fun w4 b8 H=>G (Ws Z)<|bg H 0 (#[.slice pA ps.length pC,J (co.clock),J (co.next),J (co.wait),.slice co.A co.txs.length co.cap,J (gr.clock),J (gr.wait),J (gr.gen),.slice gr.mA gr.ms.length gr.mC,.slice gr.oA gr.os.length gr.oC,.slice snA sns.length snC]) kH Z Z Z Z Z N N fun w5 H=>G (Wi Z)<|U<|W ?_
 refine bD ci [0,1,2,3,4,5,6,7,8,9,10,11] [12,13] [] [0,2,3,4,5,6,7,8,9,10,11] (sp []) N N N N Nq (cJ _) ?_
 refine aw Z Z Z Z Z (fun w' hw'=>Ys Z)<|aw Z Z Z Z Z (fun w' hw'=>jW nH Z ((H.later hw').ent (i:=0) Z) Z)<|aw Z Z Z Z Z (fun w' hw'=>Yi Z)<|aw Z Z Z Z Z (fun w' hw'=>qa Z Z Z)<|aw Z Z Z Z Z (fun w' hw'=>Yb Z)<|aw Z Z Z Z Z (fun w' hw'=>Ys Z)<|aw Z Z Z Z Z (fun w' hw'=>br E0 Z)<|aw Z Z Z Z Z (fun w' hw'=>Ys Z)<|aw Z Z Z Z Z (fun w' hw'=>br zU Z)<|aw Z Z Z Z Z (fun w' hw'=>qa Z Z (by dsimp only;omega))<|aw Z Z Z Z Z (fun w' hw'=>Kt Z Z)<|aw Z Z Z Z Z (fun w' hw'=>Ws Z)<|aQ ?_
 intro w6 hw' hF
 replace H:=H.later hw';clear hw' hF
 refine bg H 1 (#[.slice pA ps.length pC,J (co.clock),J (co.next),J (co.wait),.slice co.A co.txs.length co.cap,J (gr.clock),J (gr.wait),J (gr.gen),.slice gr.mA gr.ms.length gr.mC,.slice gr.oA gr.os.length gr.oC,.slice snA sns.length snC]) kH Z Z Z Z Z N N fun w7 H=>G (Wb Z)<|U<|Zt ?_
 exact KT (v0:=.slice oA xs.length oC) (cs1:= #[.slice pA ps.length pC,J (co.clock),J (co.next),J (co.wait),.slice co.A co.txs.length co.cap,J (gr.clock),J (gr.wait),J (gr.gen),.slice gr.mA gr.ms.length gr.mC,.slice gr.oA gr.os.length gr.oC,.slice snA sns.length snC]) (v2:=.bool true) Z Z nH Z (H.ent (i:=1) Z) Z Z ⟨xs,oA,oC,⟨ps,pA,pC,co,clo,chi,gr,glo,ghi,sns,snA,snC⟩,rfl,hrun,Rn.rd.mono (H.fact (i:=0) Z) hlo (H.facts _ (aC ..)).2.1,H.below⟩
theorem Ij {a b:Int} (ha:i64 a) (hb:i64 b): ∃ (np nr few:Nat) (wt:Int),1<=np/\np<=4/\1<=nr/\nr<=5/\1<=few/\few<=nr/\1<=wt/\wt<=1000/\ ∀ w:World,dg ab n9 [J a,J b] w fun v w2=>v=.agg #[J (np:Nat),J (nr:Nat),J (few:Nat),J wt]/\Below w.heap.size w w2:=by
 obtain⟨h1,h2,h3,h4,h5,h6,h7,h8⟩:=@C6 a b
 refine⟨1+pk a 3,1+pk b 3,1+pk a (1+pk b 3),5+(pk b 20:Nat),h1,h2,h3,h4,h5,h6,h7,by omega,fun w=>(J0 a b w ha hb).mono fun v w2 ⟨g1,g2⟩=>⟨?_,g2⟩⟩
 rw[g1,show((1+pk a 3:Nat):Int)=1+(pk a 3:Nat) by omega,show((1+pk b 3:Nat):Int)=1+(pk b 3:Nat) by omega,show((1+pk a (1+pk b 3):Nat):Int)=1+(pk a (1+pk b 3):Nat) by omega]
theorem CI {np nr:Nat} {hard:Bool} {body:List Act} (h1:1<=np) (hr:1<=nr) (hb: ∀ a∈body,FO np nr hard a): ∀ a∈pj np++body,ua np nr a:=fun a ha=>by
 rcases ax.1 ha with ha|ha
 unfold pj at ha
 rcases ax.1 ha with ha|ha
 obtain⟨p,hp,rfl⟩:=bB.1 ha
 have:=List.mem_range.1 hp
 refine(iY (hard:=true) (k:=13) (pt:=p) (n:=0) (m:=0) (lo:=0) I (by simp) I (.inl Z)).g
 simp only[ay,cd,or_false]at ha
 rcases ha with rfl|rfl|rfl<;>exact(iY (hard:=true) (pt:=0) (n:=0) (m:=0) (lo:=0) I (by simp) (fun _=>qT _) (.inl Z)).g
 exact(hb a ha).g
theorem Hp.rnPs {w0 w:World} {L:List (Nat×Obj)} {F:List cz} {lo hi:Nat} {r:Rn} (H:Hp w0 w L F) (i:Nat) (hF:F[i]? =some (M4 lo hi r)):Hp w0 w L (dT C9 lo hi r.b.pA r.b.ps::F):=by
 refine⟨H.below,H.ents,H.nodup,fun f hf=> ?_⟩
 rcases ay.1 hf with rfl|hf
 obtain⟨h1,h2,h3⟩:=H.facts _ (ah hF)
 exact⟨h1.ps,h2,h3⟩
 exact H.facts f hf
theorem Hp.rn0 {w0 w:World} {L:List (Nat×Obj)} {F:List cz} {lo hi:Nat} {r:Rn} (H:Hp w0 w L F) (i:Nat) (hF:F[i]? =some (M4 lo hi r)):r.rd 0 w.heap.size w:=
 Rn.rd.mono (H.fact hF) (bK _) (H.facts _ (ah hF)).2.1
theorem CU (l:List He) (A:Option Addr) (c:Nat) (a b:Int) (w:World) (hr:Rd yC 0 w.heap.size A l w) (hok: ∀ r∈l,r.ok) (_:l.length<=9223372036854775807) (ha:i64 a) (hb:i64 b):dg ab qX [.slice A l.length c,J a,J b] w fun v w2=>v=.bool true/\Below w.heap.size w w2:=by
 refine aF qr Z Z ?_
 have H:=Hp.startRd hr
 obtain⟨np,nr,few,wt,q1,q4,n1,n5,f1,f2,t1,t2,hset⟩:=Ij ha hb
 refine W<|Zr<|G (Wb Z)<|U<|W<|Zr<|G (Yi Z)<|G (Yi Z)<|ch tc (hset _) Z Z ?_
 rintro _ w1 ⟨rfl,hb⟩;replace H:=H.later hb;clear hb
 refine eI H CR Z fun w2 b7 H=>bg H 0 (#[J (((np:Nat):Int)),J (((nr:Nat):Int)),J (((few:Nat):Int)),J (wt)]) Cc Z Z Z Z Z N N fun w3 H=>U<|W ?_
 refine eG (τ:=List Act×Rn×Nat×Nat×Nat) [8,9,10,16,17,18,19,20,21,22,23,24] (fun(_,r,b9,_,_)=>[(8,.slice r.oA r.xs.length r.oC),(9,.pointer (Qd b9)),(10,.bool true)]) (fun(body,r,b9,lo,hi) w'=>body.length<=80/\(∀ a∈pj np++body,ua np nr a)/\nK (sk np nr few wt) (pj np++body) (r.xs.map Aq.x) r.b.a/\Hp w w' ((b9,.cells r.b.c.toArray mK (0,0))::(b7,.cells #[J (((np:Nat):Int)),J (((nr:Nat):Int)),J (((few:Nat):Int)),J (wt)] jB (0,0))::[]) (M4 lo hi r::[dT yC 0 w.heap.size A l])) ?_ ?_
 ·skip
  refine wL ci (fun w'=>w'.heap[b7]? =some (.cells #[J (((np:Nat):Int)),J (((nr:Nat):Int)),J (((few:Nat):Int)),J (wt)] jB (0,0))) ?_
  intro w4 hw';replace H:=H.later hw';clear hw'
  refine cE 0 N N N Z Z Z Z Nq (H.ent (i:=0) Z) (fun _ hS=>jW rR Z hS Z)<|cE 1 N N N Z Z Z Z Nq (H.ent (i:=0) Z) (fun _ hS=>Ys Z)<|cE 2 N N N Z Z Z Z Nq (H.ent (i:=0) Z) (fun _ hS=>jW rR Z hS Z) ?_
  refine Oe 3 9 N Z Z ?_ ?_
  ·
   refine ch ox (HP (few:=few) (wt:=wt) (np:=np) (nr:=nr) (most:=80) (hard:=true) l _ _ _ q1 q4 n1 n5 I (H.rd0 0 Z) hok) Z Z ?_
   rintro _ w5 ⟨body,Abody,cbody,Lbody,rfl,hblbody,hbgbody,hbobody,hbjbody⟩;replace H:=H.learnOwn hbjbody hbobody
   have hagbody:=CI q1 I hbgbody
   refine U ?_
   refine⟨(H.ent (i:=0) Z),?_⟩
   refine Oe 4 9 N Z Z ?_ ?_
   ·
    refine ch kX (Di (np:=np) (nr:=nr) (few:=few) (wt:=wt) (acts:=(pj np++body)) _ q1 q4 n1 n5 f1 f2 t1 t2 (H.rd0 0 Z) (by simp only[az,pj,kp];show _<=400;simp only[bS,jj];omega) hagbody) Z Z ?_
    rintro _ w6 ⟨xs,oA,oC,⟨ps,pA,pC,co,clo,chi,gr,glo,ghi,sns,snA,snC⟩,rfl,hrun,hrd,hrb⟩;replace H:=H.learn hrb (M4 w5.heap.size w6.heap.size ⟨xs,oA,oC,⟨ps,pA,pC,co,clo,chi,gr,glo,ghi,sns,snA,snC⟩⟩) hrd (ao _) (ao _);clear hrd hrb
    refine U ?_
    refine⟨(H.ent (i:=0) Z),?_⟩
    refine cE 5 N N N Z Z Z Z Nq (H.ent (i:=0) Z) (fun _ hS=>Yu Z)<|cE 6 N N N Z Z Z Z Nq (H.ent (i:=0) Z) (fun _ hS=>Xs Z Z)<|cE 7 N N N Z Z Z Z Nq (H.ent (i:=0) Z) (fun _ hS=>Xa Z Z)<|cE 8 N N N Z Z Z Z Nq (H.ent (i:=0) Z) (fun _ hS=>Xb Z Z)<|xf 9 N Z<|eI H nM Z fun w7 b9 H=>U ?_
    refine⟨(H.ent (i:=1) Z),?_⟩
    refine cE 10 N N N Z Z Z Z Nq (H.ent (i:=1) Z) (fun _ hS=>Ws Z)<|xf 11 N Z<|bg H 0 (#[.slice pA ps.length pC,J (co.clock),J (co.next),J (co.wait),.slice co.A co.txs.length co.cap,J (gr.clock),J (gr.wait),J (gr.gen),.slice gr.mA gr.ms.length gr.mC,.slice gr.oA gr.os.length gr.oC,.slice snA sns.length snC]) kH Z Z Z Z Z N N fun w8 H=>U ?_
    refine⟨(H.ent (i:=1) Z),?_⟩
    refine cE 12 N N N Z Z Z Z Nq (H.ent (i:=1) Z) (fun _ hS=>Wb Z)<|pL N ?_
    exact⟨(body,⟨xs,oA,oC,⟨ps,pA,pC,co,clo,chi,gr,glo,ghi,sns,snA,snC⟩⟩,b9,w5.heap.size,w6.heap.size),⟨hblbody,hagbody,hrun,H.forget (L':=(b9,_)::(b7,_)::[]) (by repeat (first|exact ar _|refine .cons_cons _ ?_|refine .cons _ ?_)) (fun f hf=>by simp only[ay,cd,or_false]at hf⊢;rcases hf with h|h<;>simp[h])⟩,Nb Z Z Z,Qg⟩
   ·
    refine eI H nM Z fun w9 b9 H=>U ?_
    refine⟨(H.ent (i:=1) Z),?_⟩
    refine xf 4 N Z<|ch kX (Di (np:=np) (nr:=nr) (few:=few) (wt:=wt) (acts:=(pj np++body)) _ q1 q4 n1 n5 f1 f2 t1 t2 (H.rd0 0 Z) (by simp only[az,pj,kp];show _<=400;simp only[bS,jj];omega) hagbody) Z Z ?_
    rintro _ w10 ⟨xs,oA,oC,⟨ps,pA,pC,co,clo,chi,gr,glo,ghi,sns,snA,snC⟩,rfl,hrun,hrd,hrb⟩;replace H:=H.learn hrb (M4 w9.heap.size w10.heap.size ⟨xs,oA,oC,⟨ps,pA,pC,co,clo,chi,gr,glo,ghi,sns,snA,snC⟩⟩) hrd (ao _) (ao _);clear hrd hrb
    refine U ?_
    refine⟨(H.ent (i:=1) Z),?_⟩
    refine cE 5 N N N Z Z Z Z Nq (H.ent (i:=1) Z) (fun _ hS=>Yu Z)<|cE 6 N N N Z Z Z Z Nq (H.ent (i:=1) Z) (fun _ hS=>Xs Z Z)<|cE 7 N N N Z Z Z Z Nq (H.ent (i:=1) Z) (fun _ hS=>Xa Z Z)<|cE 8 N N N Z Z Z Z Nq (H.ent (i:=1) Z) (fun _ hS=>Xb Z Z)<|cE 10 N N N Z Z Z Z Nq (H.ent (i:=1) Z) (fun _ hS=>Ws Z)<|xf 11 N Z<|bg H 0 (#[.slice pA ps.length pC,J (co.clock),J (co.next),J (co.wait),.slice co.A co.txs.length co.cap,J (gr.clock),J (gr.wait),J (gr.gen),.slice gr.mA gr.ms.length gr.mC,.slice gr.oA gr.os.length gr.oC,.slice snA sns.length snC]) kH Z Z Z Z Z N N fun w11 H=>U ?_
    refine⟨(H.ent (i:=1) Z),?_⟩
    refine cE 12 N N N Z Z Z Z Nq (H.ent (i:=1) Z) (fun _ hS=>Wb Z)<|pL N ?_
    exact⟨(body,⟨xs,oA,oC,⟨ps,pA,pC,co,clo,chi,gr,glo,ghi,sns,snA,snC⟩⟩,b9,w9.heap.size,w10.heap.size),⟨hblbody,hagbody,hrun,H.forget (L':=(b9,_)::(b7,_)::[]) (by repeat (first|exact ar _|refine .cons_cons _ ?_|refine .cons _ ?_)) (fun f hf=>by simp only[ay,cd,or_false]at hf⊢;rcases hf with h|h<;>simp[h])⟩,Nb Z Z Z,Qg⟩
  ·
   refine eI H nM Z fun w12 b9 H=>U ?_
   refine⟨(H.ent (i:=1) Z),?_⟩
   refine xf 3 N Z<|ch ox (HP (few:=few) (wt:=wt) (np:=np) (nr:=nr) (most:=80) (hard:=true) l _ _ _ q1 q4 n1 n5 I (H.rd0 0 Z) hok) Z Z ?_
   rintro _ w13 ⟨body,Abody,cbody,Lbody,rfl,hblbody,hbgbody,hbobody,hbjbody⟩;replace H:=H.learnOwn hbjbody hbobody
   have hagbody:=CI q1 I hbgbody
   refine U ?_
   refine⟨(H.ent (i:=1) Z),?_⟩
   refine xf 4 N Z<|ch kX (Di (np:=np) (nr:=nr) (few:=few) (wt:=wt) (acts:=(pj np++body)) _ q1 q4 n1 n5 f1 f2 t1 t2 (H.rd0 0 Z) (by simp only[az,pj,kp];show _<=400;simp only[bS,jj];omega) hagbody) Z Z ?_
   rintro _ w14 ⟨xs,oA,oC,⟨ps,pA,pC,co,clo,chi,gr,glo,ghi,sns,snA,snC⟩,rfl,hrun,hrd,hrb⟩;replace H:=H.learn hrb (M4 w13.heap.size w14.heap.size ⟨xs,oA,oC,⟨ps,pA,pC,co,clo,chi,gr,glo,ghi,sns,snA,snC⟩⟩) hrd (ao _) (ao _);clear hrd hrb
   refine U ?_
   refine⟨(H.ent (i:=1) Z),?_⟩
   refine cE 5 N N N Z Z Z Z Nq (H.ent (i:=1) Z) (fun _ hS=>Yu Z)<|cE 6 N N N Z Z Z Z Nq (H.ent (i:=1) Z) (fun _ hS=>Xs Z Z)<|cE 7 N N N Z Z Z Z Nq (H.ent (i:=1) Z) (fun _ hS=>Xa Z Z)<|cE 8 N N N Z Z Z Z Nq (H.ent (i:=1) Z) (fun _ hS=>Xb Z Z)<|cE 10 N N N Z Z Z Z Nq (H.ent (i:=1) Z) (fun _ hS=>Ws Z)<|xf 11 N Z<|bg H 0 (#[.slice pA ps.length pC,J (co.clock),J (co.next),J (co.wait),.slice co.A co.txs.length co.cap,J (gr.clock),J (gr.wait),J (gr.gen),.slice gr.mA gr.ms.length gr.mC,.slice gr.oA gr.os.length gr.oC,.slice snA sns.length snC]) kH Z Z Z Z Z N N fun w15 H=>U ?_
   refine⟨(H.ent (i:=1) Z),?_⟩
   refine cE 12 N N N Z Z Z Z Nq (H.ent (i:=1) Z) (fun _ hS=>Wb Z)<|pL N ?_
   exact⟨(body,⟨xs,oA,oC,⟨ps,pA,pC,co,clo,chi,gr,glo,ghi,sns,snA,snC⟩⟩,b9,w13.heap.size,w14.heap.size),⟨hblbody,hagbody,hrun,H.forget (L':=(b9,_)::(b7,_)::[]) (by repeat (first|exact ar _|refine .cons_cons _ ?_|refine .cons _ ?_)) (fun f hf=>by simp only[ay,cd,or_false]at hf⊢;rcases hf with h|h<;>simp[h])⟩,Nb Z Z Z,Qg⟩
 rintro⟨body,⟨xs,oA,oC,⟨ps,pA,pC,co,clo,chi,gr,glo,ghi,sns,snA,snC⟩⟩,b9,lo,hi⟩ ρ1 w16 ⟨hbl,hag,hrun,H⟩
 show CW _ _ _ _ (dH (gJ _ _ ρ1) [(8,.slice oA xs.length oC),(9,.pointer (Qd b9)),(10,.bool true)]) w16
 obtain⟨M,-,hwi⟩:=J2 hrun (Hu n1 n5 f1 f2 t1 t2) (by simp only[az,pj,kp];simp only[bS,jj];omega) q4 hag
 rw[cG]at hwi
 replace H:Hp w w16 ((b9,.cells #[.slice pA ps.length pC,J (co.clock),J (co.next),J (co.wait),.slice co.A co.txs.length co.cap,J (gr.clock),J (gr.wait),J (gr.gen),.slice gr.mA gr.ms.length gr.mC,.slice gr.oA gr.os.length gr.oC,.slice snA sns.length snC] mK (0,0))::(b7,.cells #[J (((np:Nat):Int)),J (((nr:Nat):Int)),J (((few:Nat):Int)),J (wt)] jB (0,0))::[]) (M4 lo hi ⟨xs,oA,oC,⟨ps,pA,pC,co,clo,chi,gr,glo,ghi,sns,snA,snC⟩⟩::[dT yC 0 w.heap.size A l]):=H
 replace H:=Hp.rnPs H 0 Z
 refine W<|W<|Zr<|G (Zf dx Z)<|G (Zd d3 H 0 Z Z Z)<|G (br jK Z)<|G (Yi Z)<|U<|Zb ?_
 obtain⟨hg1,hg2,hg3,hg4⟩:=LP hwi
 have hpl:ps.length=np:=by have:=hg2;rwa[show(Bk.a _).ps=ps.map fun q=>q.p.a from rfl,bI]at this
 have hpok: ∀ q∈ps,q.p.a.ok:=fun q hq=>hg1 q.p.a (bP (f:=fun q:Pq=>q.p.a) hq)
 have hcok:gi co=true:=by rw[ru];exact hg3
 have hgok:kV gr=true:=(Ah gr).1 hg4
 refine cy (τ:=Nat) [6,12,28,29,30,31,32,33,34,35] (fun i=>[(28,J (i:Nat))]) (fun i w'=>i<=ps.length/\Hp w w' [(b9,.cells #[.slice pA ps.length pC,J (co.clock),J (co.next),J (co.wait),.slice co.A co.txs.length co.cap,J (gr.clock),J (gr.wait),J (gr.gen),.slice gr.mA gr.ms.length gr.mC,.slice gr.oA gr.os.length gr.oC,.slice snA sns.length snC] mK (0,0)),(b7,.cells #[J (((np:Nat):Int)),J (((nr:Nat):Int)),J (((few:Nat):Int)),J (wt)] jB (0,0))] ([dT C9 lo hi pA ps,M4 lo hi ⟨xs,oA,oC,⟨ps,pA,pC,co,clo,chi,gr,glo,ghi,sns,snA,snC⟩⟩,dT yC 0 w.heap.size A l])) (fun i=>ps.length-i) 0 ⟨bK _,H⟩ (dJ Z) ?_
 rintro i ρ1 w17 ⟨hi,H⟩
 show CW _ _ _ _ (dH (gJ _ _ ρ1) [(28,J (i:Nat))]) w17
 refine W<|Zr ?_
 refine cW (cK Z Z) Z Z Z (fun h29=> ?_) (fun h29=> ?_)
 ·
  refine U<|W<|ZT Z<|Zk<|W<|Zb<|W ?_
  obtain⟨q,hq⟩: ∃ q,ps[i]? =some q:=⟨_,ai I⟩
  have hqm:=ah hq
  have hqok:=hpok q hqm
  refine Zr<|ql H 0 Z gV Z Z I I Z fun bq18 o18 x18 e18=> ?_
  obtain rfl:q=x18:=by have:=e18.at_;rw[hq]at this;exact bN this
  refine G (jF (xs:=[J (q.p.epoch),J (q.p.leader),.slice q.p.iA q.p.isr.length q.p.iC,.slice q.p.kA q.p.known.length q.p.kC,.slice q.p.rA q.p.reps.length q.p.rC,J (q.p.few),J (q.p.base)]) aH Z Z (DQ e18.cl 0 Z))<|eI H bv Z fun w19 b12 H=>bg H 0 (#[J (q.p.epoch),J (q.p.leader),.slice q.p.iA q.p.isr.length q.p.iC,.slice q.p.kA q.p.known.length q.p.kC,.slice q.p.rA q.p.reps.length q.p.rC,J (q.p.few),J (q.p.base)]) aK Z Z Z Z Z N N fun w20 H=>U<|W<|Zr<|G (Zw aH H 0 Z Z Z)<|ch jO (pI q.p _ ((Hp.rn0 H 1 Z).pa q hqm) hqok) Z Z ?_
  rintro _ w21 ⟨rfl,hb⟩;replace H:=H.later hb;clear hb
  refine G (ce Z Z Z)<|U<|ZF Z<|Zk<|Zr<|G (bz Z Z I I)<|G (Yi Z)<|U ?_
  exact⟨i+1,⟨by omega,H.forget (.cons _ (ar _)) (fun _ h=>h)⟩,dJ Z,Qg,by show ps.length- (i+1)<ps.length-i;omega⟩
 ·
  refine U<|W<|ZF Z<|Zx<|W<|Zr<|G (Yb Z)<|G (Yb Z)<|ZG<|G (Zf dx Z)<|ZG<|G (Zd d3 H 0 Z Z Z)<|ZG<|G (br jK Z)<|ZG<|G (Zf ny Z)<|ZG<|G (Zd ak H 1 Z Z Z)<|ZG<|G (qa Z Z I)<|G (Kt Z Z)<|G (Yb Z)<|ZG<|G (Zf er Z)<|ZG<|G (jl 1 [J (co.clock),J (co.next),J (co.wait),.slice co.A co.txs.length co.cap] aq Z Z (H.ent (i:=0) Z) Z)<|ZG<|ch jh (nB co _ (Hp.rn0 H 1 Z).co) Z Z ?_
  rw[hcok]
  rintro _ w22 ⟨rfl,hb⟩;replace H:=H.later hb;clear hb
  refine ZG<|G (qa Z Z Z)<|G (Kt Z Z)<|G (Yb Z)<|ZG<|G (Zf i5 Z)<|ZG<|G (jl 5 [J (gr.clock),J (gr.wait),J (gr.gen),.slice gr.mA gr.ms.length gr.mC,.slice gr.oA gr.os.length gr.oC] aN Z Z (H.ent (i:=0) Z) Z)<|ZG<|ch qe (xA gr _ (Hp.rn0 H 1 Z).gr hgok) Z Z ?_
  rintro _ w23 ⟨rfl,hb⟩;replace H:=H.later hb;clear hb
  refine ZG<|G (qa Z Z Z)<|G (Kt Z Z)<|G (Wb Z)<|U<|Zt ?_
  exact cH (v:=.bool true) Z Z ⟨rfl,H.below⟩
end Go.Proofs.YtclibalpdhhhfaaGreat

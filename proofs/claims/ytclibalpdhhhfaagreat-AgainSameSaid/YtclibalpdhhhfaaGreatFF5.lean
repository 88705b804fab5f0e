/- Part 5 of the proofs over this seat: what its theorems say holds for every input that they name. -/
import Derived.Test.YtclibalpdhhhfaaGreatFF4
namespace Go.Proofs.YtclibalpdhhhfaaGreat
open Go Go.Eng Go.RowKit
open Go.Eng renaming nG→U, BH→W, KA→Zr, OL→Zk, Rh→Zt, QD→Zb, QW→Zx, Rr→Yi, Rs→Yb, Rp→Ys, Rq→Yp, Ro→Yt, Rm→Yu, RH→Wi, RI→Wb, RF→Ws, RG→Wp, RE→Wt, Rv→Zf, Ry→Xi, RC→Xa, Rz→Xb, Rx→Xs, Q3→Kt, Q4→N, pV→ZT, oQ→ZF
open Go.Proofs.Tryz renaming prog→aa
open _root_.List renaming mem_of_getElem?→ab,getElem?_eq_getElem→ah,mem_cons_of_mem→aj,getElem?_set_self→al,mem_append→ap,mem_singleton→aq,replicate→au,mem_cons→ax,length_append→ay,mem_cons_self→az,append_assoc→aD,length_take→aI,getElem?_map→aL,sublist_cons_self→aY,append_nil→aZ,map_append→bl,mem_map→bp,length_map→bJ,take_length→bN,length_singleton→bO,mem_nil_iff→bU,length_cons→bV,getElem?_append_right→bX,length→ci,mem_append_right→cj,sublist_append_right→cr,eq_of_mem_replicate→dg,map_cons→ey,perm_append_comm_assoc→gb,pairwise_map→gm,replicate_succ→j0,perm_append_singleton→mi,replicate_succ'→re,nil_sublist→vT,perm_append_comm→xQ,mem_of_mem_take→zi,range→B4
open _root_.List.Perm renaming cons→ai,swap→am
open _root_.Nat renaming le_refl→ao,le_trans→aU,min_eq_left→bu,zero_le→bG,zero_add→cJ,add_sub_cancel_left→j8
open _root_.List.Sublist renaming refl→ar
open _root_.Option.some renaming inj→ba
set_option maxHeartbeats 4000000
set_option maxRecDepth 20000
set_option linter.unusedSimpArgs false
set_option linter.unusedVariables false
set_option linter.unusedSectionVars false
theorem Qc {w0 w:World} {bb gP:Nat} {b:Bk} {uP:Array Value} {Ls Lo K:List (Nat×Obj)} {F:List cB} {np nr k:Nat} {few wt:Int} {M:Nat->List cz} {a:Act} (B:Bw w0 w bb b gP uP Ls Lo K F) (hw:WI np nr few wt k M b.a) (hk:k<400) (h1:1<=np) (h4:np<=4) (g:qy np nr a):dh aa vi [.pointer (Qd bb),a.v] w (BZ b a w0 bb K F):=by
 refine aE ug Z Z ?_
 have hkd:=g.kind
 have H:=B.H
 show CW _ _ _ _ (args [.pointer (Qd bb),.agg #[J (a.kind),.string (a.name),J (a.part),J (a.n),J (a.m),.string (a.text),J (a.lost)]]) w
 refine W<|Zr<|f7 H Z Z fun w1 b3 H=>eP H dr Z fun w2 b4 H=>U<|W<|W<|Zr<|G (Zf mW Z)<|G (Zd ak H 1 Z Z Z)<|U<|Zb<|W<|Zr ?_
 refine cW (bn Z Z) Z Z Z (fun h8=> ?_) (fun h8=> ?_)
 refine G (Wb Z)<|U<|ZT Z<|W<|Zr<|G (Yp Z)<|G (Zw dQ H 1 Z Z Z)<|ch tF (ME (B.into [(b4,_),(b3,_)] H) hw hk h4 g h1 h8) Z Z ?_
 rintro _ w3 ⟨b2,x2,A9,c9,lo9,hi9,hA9,rfl,hc9,gP9,uP9,Ls9,Lo9,F9,B9,hF9⟩
 replace H:=B9.out (X:=[(b4,_),(b3,_)])
 refine bo H 0 (#[J (x2.code),J (x2.n),.slice A9 x2.texts.length c9]) aP Z Z Z Z Z N N fun w4 H=>U<|Zt ?_
 exact eS (cs0:= #[J (x2.code),J (x2.n),.slice A9 x2.texts.length c9]) Z aN Z (H.ent (i:=0) Z) Z ⟨b2,x2,A9,c9,lo9,hi9,hA9,rfl,hc9,gP9,uP9,Ls9,Lo9,F9,B9.at_ [(b4,_),(b3,_)] H,hF9⟩
 refine G (Wb Z)<|U<|ZF Z<|W<|Zr ?_
 refine cW (bn Z Z) Z Z Z (fun h13=> ?_) (fun h13=> ?_)
 refine G (Wb Z)<|U<|ZT Z<|W<|Zr<|G (Yp Z)<|G (Zw dQ H 1 Z Z Z)<|ch s8 (KE (B.into [(b4,_),(b3,_)] H) hw hk h4 g h13) Z Z ?_
 rintro _ w5 ⟨b2,x2,A9,c9,lo9,hi9,hA9,rfl,hc9,gP9,uP9,Ls9,Lo9,F9,B9,hF9⟩
 replace H:=B9.out (X:=[(b4,_),(b3,_)])
 refine bo H 0 (#[J (x2.code),J (x2.n),.slice A9 x2.texts.length c9]) aP Z Z Z Z Z N N fun w6 H=>U<|Zt ?_
 exact eS (cs0:= #[J (x2.code),J (x2.n),.slice A9 x2.texts.length c9]) Z aN Z (H.ent (i:=0) Z) Z ⟨b2,x2,A9,c9,lo9,hi9,hA9,rfl,hc9,gP9,uP9,Ls9,Lo9,F9,B9.at_ [(b4,_),(b3,_)] H,hF9⟩
 refine G (Wb Z)<|U<|ZF Z<|W<|W<|Zr ?_
 refine cW (bn Z Z) Z Z Z (fun h18=> ?_) (fun h18=> ?_)
 refine G (Wb Z)<|U ?_
 refine eN (τ:=Unit) [17,19] (fun _=>[(17,.bool (decide (a.kind=3∨a.kind=4)))]) (fun _ w'=>Hp w0 w' ((b4,.cells #[J (0),J (0),.slice none 0 0] eg (0,0))::(b3,.cells #[J (a.kind),.string (a.name),J (a.part),J (a.n),J (a.m),.string (a.text),J (a.lost)] gj (0,0))::(bb,.cells b.c.toArray bK (0,0))::(gP,.cells uP bF (0,0))::(Ls++(Lo++K))) F) ?_ ?_
 refine ZT Z<|Zk ?_
 exact⟨(),H,dP (congrArg Value.bool (decide_eq_true I)).symm,Qg⟩
 rintro _ ρ1 w7 H
 show CW _ _ _ _ (dH (gZ _ _ ρ1) [(17,.bool (decide (a.kind=3∨a.kind=4)))]) w7
 refine jw Z (fun hc17=> ?_) (fun hc17=> ?_)
 refine W<|Zr<|G (Yp Z)<|G (Zw dQ H 1 Z Z Z)<|G (Zf mW Z)<|G (Zd ak H 1 Z Z Z)<|G (bn Z Z)<|ch nu (FB (B.into [(b4,_),(b3,_)] H) hw hk h4 g (of_decide_eq_true hc17)) Z Z ?_
 rintro _ w8 ⟨b2,x2,A9,c9,lo9,hi9,hA9,rfl,hc9,gP9,uP9,Ls9,Lo9,F9,B9,hF9⟩
 replace H:=B9.out (X:=[(b4,_),(b3,_)])
 refine bo H 0 (#[J (x2.code),J (x2.n),.slice A9 x2.texts.length c9]) aP Z Z Z Z Z N N fun w9 H=>U<|Zt ?_
 exact eS (cs0:= #[J (x2.code),J (x2.n),.slice A9 x2.texts.length c9]) Z aN Z (H.ent (i:=0) Z) Z ⟨b2,x2,A9,c9,lo9,hi9,hA9,rfl,hc9,gP9,uP9,Ls9,Lo9,F9,B9.at_ [(b4,_),(b3,_)] H,hF9⟩
 refine W<|Zr ?_
 refine cW (bn Z Z) Z Z Z (fun h27=> ?_) (fun h27=> ?_)
 refine G (Wb Z)<|U<|ZT Z<|W<|Zr<|G (Yp Z)<|G (Zw dQ H 1 Z Z Z)<|ch mg (Bt (B.into [(b4,_),(b3,_)] H) hw hk h4 g h27) Z Z ?_
 rintro _ w10 ⟨b2,x2,A9,c9,lo9,hi9,hA9,rfl,hc9,gP9,uP9,Ls9,Lo9,F9,B9,hF9⟩
 replace H:=B9.out (X:=[(b4,_),(b3,_)])
 refine bo H 0 (#[J (x2.code),J (x2.n),.slice A9 x2.texts.length c9]) aP Z Z Z Z Z N N fun w11 H=>U<|Zt ?_
 exact eS (cs0:= #[J (x2.code),J (x2.n),.slice A9 x2.texts.length c9]) Z aN Z (H.ent (i:=0) Z) Z ⟨b2,x2,A9,c9,lo9,hi9,hA9,rfl,hc9,gP9,uP9,Ls9,Lo9,F9,B9.at_ [(b4,_),(b3,_)] H,hF9⟩
 refine G (Wb Z)<|U<|ZF Z<|W<|Zr ?_
 refine cW (bn Z Z) Z Z Z (fun h32=> ?_) (fun h32=> ?_)
 refine G (Wb Z)<|U<|ZT Z<|W<|Zr<|G (Yp Z)<|G (Zw dQ H 1 Z Z Z)<|ch nv (F4 (B.into [(b4,_),(b3,_)] H) hw hk h4 g h32) Z Z ?_
 rintro _ w12 ⟨b2,x2,A9,c9,lo9,hi9,hA9,rfl,hc9,gP9,uP9,Ls9,Lo9,F9,B9,hF9⟩
 replace H:=B9.out (X:=[(b4,_),(b3,_)])
 refine bo H 0 (#[J (x2.code),J (x2.n),.slice A9 x2.texts.length c9]) aP Z Z Z Z Z N N fun w13 H=>U<|Zt ?_
 exact eS (cs0:= #[J (x2.code),J (x2.n),.slice A9 x2.texts.length c9]) Z aN Z (H.ent (i:=0) Z) Z ⟨b2,x2,A9,c9,lo9,hi9,hA9,rfl,hc9,gP9,uP9,Ls9,Lo9,F9,B9.at_ [(b4,_),(b3,_)] H,hF9⟩
 refine G (Wb Z)<|U<|ZF Z<|W<|Zr ?_
 refine cW (bn Z Z) Z Z Z (fun h37=> ?_) (fun h37=> ?_)
 refine G (Wb Z)<|U<|ZT Z<|W<|Zr<|G (Yp Z)<|G (Zw dQ H 1 Z Z Z)<|ch nt (Fl (B.into [(b4,_),(b3,_)] H) hw hk h4 g h37) Z Z ?_
 rintro _ w14 ⟨b2,x2,A9,c9,lo9,hi9,hA9,rfl,hc9,gP9,uP9,Ls9,Lo9,F9,B9,hF9⟩
 replace H:=B9.out (X:=[(b4,_),(b3,_)])
 refine bo H 0 (#[J (x2.code),J (x2.n),.slice A9 x2.texts.length c9]) aP Z Z Z Z Z N N fun w15 H=>U<|Zt ?_
 exact eS (cs0:= #[J (x2.code),J (x2.n),.slice A9 x2.texts.length c9]) Z aN Z (H.ent (i:=0) Z) Z ⟨b2,x2,A9,c9,lo9,hi9,hA9,rfl,hc9,gP9,uP9,Ls9,Lo9,F9,B9.at_ [(b4,_),(b3,_)] H,hF9⟩
 refine G (Wb Z)<|U<|ZF Z<|W<|W<|Zr ?_
 refine cW (bn Z Z) Z Z Z (fun h42=> ?_) (fun h42=> ?_)
 refine G (Wb Z)<|U ?_
 refine eN (τ:=Unit) [41,43,44,45,46,47,48,49] (fun _=>[(41,.bool (decide (8<=a.kind/\a.kind<=15)))]) (fun _ w'=>Hp w0 w' ((b4,.cells #[J (0),J (0),.slice none 0 0] eg (0,0))::(b3,.cells #[J (a.kind),.string (a.name),J (a.part),J (a.n),J (a.m),.string (a.text),J (a.lost)] gj (0,0))::(bb,.cells b.c.toArray bK (0,0))::(gP,.cells uP bF (0,0))::(Ls++(Lo++K))) F) ?_ ?_
 refine ZT Z<|Zk ?_
 exact⟨(),H,dP (congrArg Value.bool (decide_eq_true I)).symm,Qg⟩
 rintro _ ρ1 w16 H
 show CW _ _ _ _ (dH (gZ _ _ ρ1) [(41,.bool (decide (8<=a.kind/\a.kind<=15)))]) w16
 refine jw Z (fun hc41=> ?_) (fun hc41=> ?_)
 refine W<|Zr<|G (Yp Z)<|G (Zw dQ H 1 Z Z Z)<|ch gd (wT (B.into [(b4,_),(b3,_)] H) hw hk h4 g (of_decide_eq_true hc41)) Z Z ?_
 rintro _ w17 ⟨b2,x2,A9,c9,lo9,hi9,hA9,rfl,hc9,gP9,uP9,Ls9,Lo9,F9,B9,hF9⟩
 replace H:=B9.out (X:=[(b4,_),(b3,_)])
 refine bo H 0 (#[J (x2.code),J (x2.n),.slice A9 x2.texts.length c9]) aP Z Z Z Z Z N N fun w18 H=>U<|Zt ?_
 exact eS (cs0:= #[J (x2.code),J (x2.n),.slice A9 x2.texts.length c9]) Z aN Z (H.ent (i:=0) Z) Z ⟨b2,x2,A9,c9,lo9,hi9,hA9,rfl,hc9,gP9,uP9,Ls9,Lo9,F9,B9.at_ [(b4,_),(b3,_)] H,hF9⟩
 refine W<|W<|Zr ?_
 refine cW (bn Z Z) Z Z Z (fun h54=> ?_) (fun h54=> ?_)
 refine G (Wb Z)<|U ?_
 refine eN (τ:=Unit) [53,55,56,57] (fun _=>[(53,.bool (decide (a.kind=16∨a.kind=18∨a.kind=20)))]) (fun _ w'=>Hp w0 w' ((b4,.cells #[J (0),J (0),.slice none 0 0] eg (0,0))::(b3,.cells #[J (a.kind),.string (a.name),J (a.part),J (a.n),J (a.m),.string (a.text),J (a.lost)] gj (0,0))::(bb,.cells b.c.toArray bK (0,0))::(gP,.cells uP bF (0,0))::(Ls++(Lo++K))) F) ?_ ?_
 refine ZT Z<|Zk ?_
 exact⟨(),H,dP (congrArg Value.bool (decide_eq_true I)).symm,Qg⟩
 rintro _ ρ1 w19 H
 show CW _ _ _ _ (dH (gZ _ _ ρ1) [(53,.bool (decide (a.kind=16∨a.kind=18∨a.kind=20)))]) w19
 refine jw Z (fun hc53=> ?_) (fun hc53=> ?_)
 refine W<|Zr<|G (Yp Z)<|G (Zw dQ H 1 Z Z Z)<|ch dO (qQ (B.into [(b4,_),(b3,_)] H) hw hk h4 g (of_decide_eq_true hc53)) Z Z ?_
 rintro _ w20 ⟨b2,x2,A9,c9,lo9,hi9,hA9,rfl,hc9,gP9,uP9,Ls9,Lo9,F9,B9,hF9⟩
 replace H:=B9.out (X:=[(b4,_),(b3,_)])
 refine bo H 0 (#[J (x2.code),J (x2.n),.slice A9 x2.texts.length c9]) aP Z Z Z Z Z N N fun w21 H=>U<|Zt ?_
 exact eS (cs0:= #[J (x2.code),J (x2.n),.slice A9 x2.texts.length c9]) Z aN Z (H.ent (i:=0) Z) Z ⟨b2,x2,A9,c9,lo9,hi9,hA9,rfl,hc9,gP9,uP9,Ls9,Lo9,F9,B9.at_ [(b4,_),(b3,_)] H,hF9⟩
 refine W<|Zr ?_
 refine cW (bn Z Z) Z Z Z (fun h62=> ?_) (fun h62=> ?_)
 refine G (Wb Z)<|U<|ZT Z<|W<|Zr<|G (Yp Z)<|G (Zw dQ H 1 Z Z Z)<|ch ej (oq (B.into [(b4,_),(b3,_)] H) hw hk h4 g h62) Z Z ?_
 rintro _ w22 ⟨b2,x2,A9,c9,lo9,hi9,hA9,rfl,hc9,gP9,uP9,Ls9,Lo9,F9,B9,hF9⟩
 replace H:=B9.out (X:=[(b4,_),(b3,_)])
 refine bo H 0 (#[J (x2.code),J (x2.n),.slice A9 x2.texts.length c9]) aP Z Z Z Z Z N N fun w23 H=>U<|Zt ?_
 exact eS (cs0:= #[J (x2.code),J (x2.n),.slice A9 x2.texts.length c9]) Z aN Z (H.ent (i:=0) Z) Z ⟨b2,x2,A9,c9,lo9,hi9,hA9,rfl,hc9,gP9,uP9,Ls9,Lo9,F9,B9.at_ [(b4,_),(b3,_)] H,hF9⟩
 exfalso;have h41:=of_decide_eq_false hc41;have h53:=of_decide_eq_false hc53;have h17:=of_decide_eq_false hc17;omega
 refine G (Wb Z)<|U ?_
 refine eN (τ:=Unit) [53,55,56,57] (fun _=>[(53,.bool (decide (a.kind=16∨a.kind=18∨a.kind=20)))]) (fun _ w'=>Hp w0 w' ((b4,.cells #[J (0),J (0),.slice none 0 0] eg (0,0))::(b3,.cells #[J (a.kind),.string (a.name),J (a.part),J (a.n),J (a.m),.string (a.text),J (a.lost)] gj (0,0))::(bb,.cells b.c.toArray bK (0,0))::(gP,.cells uP bF (0,0))::(Ls++(Lo++K))) F) ?_ ?_
 refine ZF Z<|W<|Zr ?_
 refine cW (bn Z Z) Z Z Z (fun h55=> ?_) (fun h55=> ?_)
 exact absurd h55 hkd.2.2
 refine G (Wb Z)<|U<|ZF Z<|W<|Zr ?_
 refine cW (bn Z Z) Z Z Z (fun h56=> ?_) (fun h56=> ?_)
 refine G (Wb Z)<|U<|ZT Z<|Zk ?_
 exact⟨(),H,dP (congrArg Value.bool (decide_eq_true I)).symm,Qg⟩
 refine G (Wb Z)<|U<|ZF Z<|Zr ?_
 refine cW (bn Z Z) Z Z Z (fun h57=> ?_) (fun h57=> ?_)
 refine G (Wb Z)<|U ?_
 exact⟨(),H,dP (congrArg Value.bool (decide_eq_true I)).symm,Qg⟩
 refine G (Wb Z)<|U ?_
 exact⟨(),H,dP (congrArg Value.bool (decide_eq_false I)).symm,Qg⟩
 rintro _ ρ1 w24 H
 show CW _ _ _ _ (dH (gZ _ _ ρ1) [(53,.bool (decide (a.kind=16∨a.kind=18∨a.kind=20)))]) w24
 refine jw Z (fun hc53=> ?_) (fun hc53=> ?_)
 refine W<|Zr<|G (Yp Z)<|G (Zw dQ H 1 Z Z Z)<|ch dO (qQ (B.into [(b4,_),(b3,_)] H) hw hk h4 g (of_decide_eq_true hc53)) Z Z ?_
 rintro _ w25 ⟨b2,x2,A9,c9,lo9,hi9,hA9,rfl,hc9,gP9,uP9,Ls9,Lo9,F9,B9,hF9⟩
 replace H:=B9.out (X:=[(b4,_),(b3,_)])
 refine bo H 0 (#[J (x2.code),J (x2.n),.slice A9 x2.texts.length c9]) aP Z Z Z Z Z N N fun w26 H=>U<|Zt ?_
 exact eS (cs0:= #[J (x2.code),J (x2.n),.slice A9 x2.texts.length c9]) Z aN Z (H.ent (i:=0) Z) Z ⟨b2,x2,A9,c9,lo9,hi9,hA9,rfl,hc9,gP9,uP9,Ls9,Lo9,F9,B9.at_ [(b4,_),(b3,_)] H,hF9⟩
 refine W<|Zr ?_
 refine cW (bn Z Z) Z Z Z (fun h62=> ?_) (fun h62=> ?_)
 refine G (Wb Z)<|U<|ZT Z<|W<|Zr<|G (Yp Z)<|G (Zw dQ H 1 Z Z Z)<|ch ej (oq (B.into [(b4,_),(b3,_)] H) hw hk h4 g h62) Z Z ?_
 rintro _ w27 ⟨b2,x2,A9,c9,lo9,hi9,hA9,rfl,hc9,gP9,uP9,Ls9,Lo9,F9,B9,hF9⟩
 replace H:=B9.out (X:=[(b4,_),(b3,_)])
 refine bo H 0 (#[J (x2.code),J (x2.n),.slice A9 x2.texts.length c9]) aP Z Z Z Z Z N N fun w28 H=>U<|Zt ?_
 exact eS (cs0:= #[J (x2.code),J (x2.n),.slice A9 x2.texts.length c9]) Z aN Z (H.ent (i:=0) Z) Z ⟨b2,x2,A9,c9,lo9,hi9,hA9,rfl,hc9,gP9,uP9,Ls9,Lo9,F9,B9.at_ [(b4,_),(b3,_)] H,hF9⟩
 exfalso;have h41:=of_decide_eq_false hc41;have h53:=of_decide_eq_false hc53;have h17:=of_decide_eq_false hc17;omega
 refine G (Wb Z)<|U ?_
 refine eN (τ:=Unit) [41,43,44,45,46,47,48,49] (fun _=>[(41,.bool (decide (8<=a.kind/\a.kind<=15)))]) (fun _ w'=>Hp w0 w' ((b4,.cells #[J (0),J (0),.slice none 0 0] eg (0,0))::(b3,.cells #[J (a.kind),.string (a.name),J (a.part),J (a.n),J (a.m),.string (a.text),J (a.lost)] gj (0,0))::(bb,.cells b.c.toArray bK (0,0))::(gP,.cells uP bF (0,0))::(Ls++(Lo++K))) F) ?_ ?_
 refine ZF Z<|W<|Zr ?_
 refine cW (bn Z Z) Z Z Z (fun h43=> ?_) (fun h43=> ?_)
 refine G (Wb Z)<|U<|ZT Z<|Zk ?_
 exact⟨(),H,dP (congrArg Value.bool (decide_eq_true I)).symm,Qg⟩
 refine G (Wb Z)<|U<|ZF Z<|W<|Zr ?_
 refine cW (bn Z Z) Z Z Z (fun h44=> ?_) (fun h44=> ?_)
 refine G (Wb Z)<|U<|ZT Z<|Zk ?_
 exact⟨(),H,dP (congrArg Value.bool (decide_eq_true I)).symm,Qg⟩
 refine G (Wb Z)<|U<|ZF Z<|W<|Zr ?_
 refine cW (bn Z Z) Z Z Z (fun h45=> ?_) (fun h45=> ?_)
 refine G (Wb Z)<|U<|ZT Z<|Zk ?_
 exact⟨(),H,dP (congrArg Value.bool (decide_eq_true I)).symm,Qg⟩
 refine G (Wb Z)<|U<|ZF Z<|W<|Zr ?_
 refine cW (bn Z Z) Z Z Z (fun h46=> ?_) (fun h46=> ?_)
 refine G (Wb Z)<|U<|ZT Z<|Zk ?_
 exact⟨(),H,dP (congrArg Value.bool (decide_eq_true I)).symm,Qg⟩
 refine G (Wb Z)<|U<|ZF Z<|W<|Zr ?_
 refine cW (bn Z Z) Z Z Z (fun h47=> ?_) (fun h47=> ?_)
 refine G (Wb Z)<|U<|ZT Z<|Zk ?_
 exact⟨(),H,dP (congrArg Value.bool (decide_eq_true I)).symm,Qg⟩
 refine G (Wb Z)<|U<|ZF Z<|W<|Zr ?_
 refine cW (bn Z Z) Z Z Z (fun h48=> ?_) (fun h48=> ?_)
 refine G (Wb Z)<|U<|ZT Z<|Zk ?_
 exact⟨(),H,dP (congrArg Value.bool (decide_eq_true I)).symm,Qg⟩
 refine G (Wb Z)<|U<|ZF Z<|Zr ?_
 refine cW (bn Z Z) Z Z Z (fun h49=> ?_) (fun h49=> ?_)
 refine G (Wb Z)<|U ?_
 exact⟨(),H,dP (congrArg Value.bool (decide_eq_true I)).symm,Qg⟩
 refine G (Wb Z)<|U ?_
 exact⟨(),H,dP (congrArg Value.bool (decide_eq_false I)).symm,Qg⟩
 rintro _ ρ1 w29 H
 show CW _ _ _ _ (dH (gZ _ _ ρ1) [(41,.bool (decide (8<=a.kind/\a.kind<=15)))]) w29
 refine jw Z (fun hc41=> ?_) (fun hc41=> ?_)
 refine W<|Zr<|G (Yp Z)<|G (Zw dQ H 1 Z Z Z)<|ch gd (wT (B.into [(b4,_),(b3,_)] H) hw hk h4 g (of_decide_eq_true hc41)) Z Z ?_
 rintro _ w30 ⟨b2,x2,A9,c9,lo9,hi9,hA9,rfl,hc9,gP9,uP9,Ls9,Lo9,F9,B9,hF9⟩
 replace H:=B9.out (X:=[(b4,_),(b3,_)])
 refine bo H 0 (#[J (x2.code),J (x2.n),.slice A9 x2.texts.length c9]) aP Z Z Z Z Z N N fun w31 H=>U<|Zt ?_
 exact eS (cs0:= #[J (x2.code),J (x2.n),.slice A9 x2.texts.length c9]) Z aN Z (H.ent (i:=0) Z) Z ⟨b2,x2,A9,c9,lo9,hi9,hA9,rfl,hc9,gP9,uP9,Ls9,Lo9,F9,B9.at_ [(b4,_),(b3,_)] H,hF9⟩
 refine W<|W<|Zr ?_
 refine cW (bn Z Z) Z Z Z (fun h54=> ?_) (fun h54=> ?_)
 refine G (Wb Z)<|U ?_
 refine eN (τ:=Unit) [53,55,56,57] (fun _=>[(53,.bool (decide (a.kind=16∨a.kind=18∨a.kind=20)))]) (fun _ w'=>Hp w0 w' ((b4,.cells #[J (0),J (0),.slice none 0 0] eg (0,0))::(b3,.cells #[J (a.kind),.string (a.name),J (a.part),J (a.n),J (a.m),.string (a.text),J (a.lost)] gj (0,0))::(bb,.cells b.c.toArray bK (0,0))::(gP,.cells uP bF (0,0))::(Ls++(Lo++K))) F) ?_ ?_
 refine ZT Z<|Zk ?_
 exact⟨(),H,dP (congrArg Value.bool (decide_eq_true I)).symm,Qg⟩
 rintro _ ρ1 w32 H
 show CW _ _ _ _ (dH (gZ _ _ ρ1) [(53,.bool (decide (a.kind=16∨a.kind=18∨a.kind=20)))]) w32
 refine jw Z (fun hc53=> ?_) (fun hc53=> ?_)
 refine W<|Zr<|G (Yp Z)<|G (Zw dQ H 1 Z Z Z)<|ch dO (qQ (B.into [(b4,_),(b3,_)] H) hw hk h4 g (of_decide_eq_true hc53)) Z Z ?_
 rintro _ w33 ⟨b2,x2,A9,c9,lo9,hi9,hA9,rfl,hc9,gP9,uP9,Ls9,Lo9,F9,B9,hF9⟩
 replace H:=B9.out (X:=[(b4,_),(b3,_)])
 refine bo H 0 (#[J (x2.code),J (x2.n),.slice A9 x2.texts.length c9]) aP Z Z Z Z Z N N fun w34 H=>U<|Zt ?_
 exact eS (cs0:= #[J (x2.code),J (x2.n),.slice A9 x2.texts.length c9]) Z aN Z (H.ent (i:=0) Z) Z ⟨b2,x2,A9,c9,lo9,hi9,hA9,rfl,hc9,gP9,uP9,Ls9,Lo9,F9,B9.at_ [(b4,_),(b3,_)] H,hF9⟩
 refine W<|Zr ?_
 refine cW (bn Z Z) Z Z Z (fun h62=> ?_) (fun h62=> ?_)
 refine G (Wb Z)<|U<|ZT Z<|W<|Zr<|G (Yp Z)<|G (Zw dQ H 1 Z Z Z)<|ch ej (oq (B.into [(b4,_),(b3,_)] H) hw hk h4 g h62) Z Z ?_
 rintro _ w35 ⟨b2,x2,A9,c9,lo9,hi9,hA9,rfl,hc9,gP9,uP9,Ls9,Lo9,F9,B9,hF9⟩
 replace H:=B9.out (X:=[(b4,_),(b3,_)])
 refine bo H 0 (#[J (x2.code),J (x2.n),.slice A9 x2.texts.length c9]) aP Z Z Z Z Z N N fun w36 H=>U<|Zt ?_
 exact eS (cs0:= #[J (x2.code),J (x2.n),.slice A9 x2.texts.length c9]) Z aN Z (H.ent (i:=0) Z) Z ⟨b2,x2,A9,c9,lo9,hi9,hA9,rfl,hc9,gP9,uP9,Ls9,Lo9,F9,B9.at_ [(b4,_),(b3,_)] H,hF9⟩
 exfalso;have h41:=of_decide_eq_false hc41;have h53:=of_decide_eq_false hc53;have h17:=of_decide_eq_false hc17;omega
 refine G (Wb Z)<|U ?_
 refine eN (τ:=Unit) [53,55,56,57] (fun _=>[(53,.bool (decide (a.kind=16∨a.kind=18∨a.kind=20)))]) (fun _ w'=>Hp w0 w' ((b4,.cells #[J (0),J (0),.slice none 0 0] eg (0,0))::(b3,.cells #[J (a.kind),.string (a.name),J (a.part),J (a.n),J (a.m),.string (a.text),J (a.lost)] gj (0,0))::(bb,.cells b.c.toArray bK (0,0))::(gP,.cells uP bF (0,0))::(Ls++(Lo++K))) F) ?_ ?_
 refine ZF Z<|W<|Zr ?_
 refine cW (bn Z Z) Z Z Z (fun h55=> ?_) (fun h55=> ?_)
 exact absurd h55 hkd.2.2
 refine G (Wb Z)<|U<|ZF Z<|W<|Zr ?_
 refine cW (bn Z Z) Z Z Z (fun h56=> ?_) (fun h56=> ?_)
 refine G (Wb Z)<|U<|ZT Z<|Zk ?_
 exact⟨(),H,dP (congrArg Value.bool (decide_eq_true I)).symm,Qg⟩
 refine G (Wb Z)<|U<|ZF Z<|Zr ?_
 refine cW (bn Z Z) Z Z Z (fun h57=> ?_) (fun h57=> ?_)
 refine G (Wb Z)<|U ?_
 exact⟨(),H,dP (congrArg Value.bool (decide_eq_true I)).symm,Qg⟩
 refine G (Wb Z)<|U ?_
 exact⟨(),H,dP (congrArg Value.bool (decide_eq_false I)).symm,Qg⟩
 rintro _ ρ1 w37 H
 show CW _ _ _ _ (dH (gZ _ _ ρ1) [(53,.bool (decide (a.kind=16∨a.kind=18∨a.kind=20)))]) w37
 refine jw Z (fun hc53=> ?_) (fun hc53=> ?_)
 refine W<|Zr<|G (Yp Z)<|G (Zw dQ H 1 Z Z Z)<|ch dO (qQ (B.into [(b4,_),(b3,_)] H) hw hk h4 g (of_decide_eq_true hc53)) Z Z ?_
 rintro _ w38 ⟨b2,x2,A9,c9,lo9,hi9,hA9,rfl,hc9,gP9,uP9,Ls9,Lo9,F9,B9,hF9⟩
 replace H:=B9.out (X:=[(b4,_),(b3,_)])
 refine bo H 0 (#[J (x2.code),J (x2.n),.slice A9 x2.texts.length c9]) aP Z Z Z Z Z N N fun w39 H=>U<|Zt ?_
 exact eS (cs0:= #[J (x2.code),J (x2.n),.slice A9 x2.texts.length c9]) Z aN Z (H.ent (i:=0) Z) Z ⟨b2,x2,A9,c9,lo9,hi9,hA9,rfl,hc9,gP9,uP9,Ls9,Lo9,F9,B9.at_ [(b4,_),(b3,_)] H,hF9⟩
 refine W<|Zr ?_
 refine cW (bn Z Z) Z Z Z (fun h62=> ?_) (fun h62=> ?_)
 refine G (Wb Z)<|U<|ZT Z<|W<|Zr<|G (Yp Z)<|G (Zw dQ H 1 Z Z Z)<|ch ej (oq (B.into [(b4,_),(b3,_)] H) hw hk h4 g h62) Z Z ?_
 rintro _ w40 ⟨b2,x2,A9,c9,lo9,hi9,hA9,rfl,hc9,gP9,uP9,Ls9,Lo9,F9,B9,hF9⟩
 replace H:=B9.out (X:=[(b4,_),(b3,_)])
 refine bo H 0 (#[J (x2.code),J (x2.n),.slice A9 x2.texts.length c9]) aP Z Z Z Z Z N N fun w41 H=>U<|Zt ?_
 exact eS (cs0:= #[J (x2.code),J (x2.n),.slice A9 x2.texts.length c9]) Z aN Z (H.ent (i:=0) Z) Z ⟨b2,x2,A9,c9,lo9,hi9,hA9,rfl,hc9,gP9,uP9,Ls9,Lo9,F9,B9.at_ [(b4,_),(b3,_)] H,hF9⟩
 exfalso;have h41:=of_decide_eq_false hc41;have h53:=of_decide_eq_false hc53;have h17:=of_decide_eq_false hc17;omega
 refine G (Wb Z)<|U ?_
 refine eN (τ:=Unit) [17,19] (fun _=>[(17,.bool (decide (a.kind=3∨a.kind=4)))]) (fun _ w'=>Hp w0 w' ((b4,.cells #[J (0),J (0),.slice none 0 0] eg (0,0))::(b3,.cells #[J (a.kind),.string (a.name),J (a.part),J (a.n),J (a.m),.string (a.text),J (a.lost)] gj (0,0))::(bb,.cells b.c.toArray bK (0,0))::(gP,.cells uP bF (0,0))::(Ls++(Lo++K))) F) ?_ ?_
 refine ZF Z<|Zr ?_
 refine cW (bn Z Z) Z Z Z (fun h19=> ?_) (fun h19=> ?_)
 refine G (Wb Z)<|U ?_
 exact⟨(),H,dP (congrArg Value.bool (decide_eq_true I)).symm,Qg⟩
 refine G (Wb Z)<|U ?_
 exact⟨(),H,dP (congrArg Value.bool (decide_eq_false I)).symm,Qg⟩
 rintro _ ρ1 w42 H
 show CW _ _ _ _ (dH (gZ _ _ ρ1) [(17,.bool (decide (a.kind=3∨a.kind=4)))]) w42
 refine jw Z (fun hc17=> ?_) (fun hc17=> ?_)
 refine W<|Zr<|G (Yp Z)<|G (Zw dQ H 1 Z Z Z)<|G (Zf mW Z)<|G (Zd ak H 1 Z Z Z)<|G (bn Z Z)<|ch nu (FB (B.into [(b4,_),(b3,_)] H) hw hk h4 g (of_decide_eq_true hc17)) Z Z ?_
 rintro _ w43 ⟨b2,x2,A9,c9,lo9,hi9,hA9,rfl,hc9,gP9,uP9,Ls9,Lo9,F9,B9,hF9⟩
 replace H:=B9.out (X:=[(b4,_),(b3,_)])
 refine bo H 0 (#[J (x2.code),J (x2.n),.slice A9 x2.texts.length c9]) aP Z Z Z Z Z N N fun w44 H=>U<|Zt ?_
 exact eS (cs0:= #[J (x2.code),J (x2.n),.slice A9 x2.texts.length c9]) Z aN Z (H.ent (i:=0) Z) Z ⟨b2,x2,A9,c9,lo9,hi9,hA9,rfl,hc9,gP9,uP9,Ls9,Lo9,F9,B9.at_ [(b4,_),(b3,_)] H,hF9⟩
 refine W<|Zr ?_
 refine cW (bn Z Z) Z Z Z (fun h27=> ?_) (fun h27=> ?_)
 refine G (Wb Z)<|U<|ZT Z<|W<|Zr<|G (Yp Z)<|G (Zw dQ H 1 Z Z Z)<|ch mg (Bt (B.into [(b4,_),(b3,_)] H) hw hk h4 g h27) Z Z ?_
 rintro _ w45 ⟨b2,x2,A9,c9,lo9,hi9,hA9,rfl,hc9,gP9,uP9,Ls9,Lo9,F9,B9,hF9⟩
 replace H:=B9.out (X:=[(b4,_),(b3,_)])
 refine bo H 0 (#[J (x2.code),J (x2.n),.slice A9 x2.texts.length c9]) aP Z Z Z Z Z N N fun w46 H=>U<|Zt ?_
 exact eS (cs0:= #[J (x2.code),J (x2.n),.slice A9 x2.texts.length c9]) Z aN Z (H.ent (i:=0) Z) Z ⟨b2,x2,A9,c9,lo9,hi9,hA9,rfl,hc9,gP9,uP9,Ls9,Lo9,F9,B9.at_ [(b4,_),(b3,_)] H,hF9⟩
 refine G (Wb Z)<|U<|ZF Z<|W<|Zr ?_
 refine cW (bn Z Z) Z Z Z (fun h32=> ?_) (fun h32=> ?_)
 refine G (Wb Z)<|U<|ZT Z<|W<|Zr<|G (Yp Z)<|G (Zw dQ H 1 Z Z Z)<|ch nv (F4 (B.into [(b4,_),(b3,_)] H) hw hk h4 g h32) Z Z ?_
 rintro _ w47 ⟨b2,x2,A9,c9,lo9,hi9,hA9,rfl,hc9,gP9,uP9,Ls9,Lo9,F9,B9,hF9⟩
 replace H:=B9.out (X:=[(b4,_),(b3,_)])
 refine bo H 0 (#[J (x2.code),J (x2.n),.slice A9 x2.texts.length c9]) aP Z Z Z Z Z N N fun w48 H=>U<|Zt ?_
 exact eS (cs0:= #[J (x2.code),J (x2.n),.slice A9 x2.texts.length c9]) Z aN Z (H.ent (i:=0) Z) Z ⟨b2,x2,A9,c9,lo9,hi9,hA9,rfl,hc9,gP9,uP9,Ls9,Lo9,F9,B9.at_ [(b4,_),(b3,_)] H,hF9⟩
 refine G (Wb Z)<|U<|ZF Z<|W<|Zr ?_
 refine cW (bn Z Z) Z Z Z (fun h37=> ?_) (fun h37=> ?_)
 refine G (Wb Z)<|U<|ZT Z<|W<|Zr<|G (Yp Z)<|G (Zw dQ H 1 Z Z Z)<|ch nt (Fl (B.into [(b4,_),(b3,_)] H) hw hk h4 g h37) Z Z ?_
 rintro _ w49 ⟨b2,x2,A9,c9,lo9,hi9,hA9,rfl,hc9,gP9,uP9,Ls9,Lo9,F9,B9,hF9⟩
 replace H:=B9.out (X:=[(b4,_),(b3,_)])
 refine bo H 0 (#[J (x2.code),J (x2.n),.slice A9 x2.texts.length c9]) aP Z Z Z Z Z N N fun w50 H=>U<|Zt ?_
 exact eS (cs0:= #[J (x2.code),J (x2.n),.slice A9 x2.texts.length c9]) Z aN Z (H.ent (i:=0) Z) Z ⟨b2,x2,A9,c9,lo9,hi9,hA9,rfl,hc9,gP9,uP9,Ls9,Lo9,F9,B9.at_ [(b4,_),(b3,_)] H,hF9⟩
 refine G (Wb Z)<|U<|ZF Z<|W<|W<|Zr ?_
 refine cW (bn Z Z) Z Z Z (fun h42=> ?_) (fun h42=> ?_)
 refine G (Wb Z)<|U ?_
 refine eN (τ:=Unit) [41,43,44,45,46,47,48,49] (fun _=>[(41,.bool (decide (8<=a.kind/\a.kind<=15)))]) (fun _ w'=>Hp w0 w' ((b4,.cells #[J (0),J (0),.slice none 0 0] eg (0,0))::(b3,.cells #[J (a.kind),.string (a.name),J (a.part),J (a.n),J (a.m),.string (a.text),J (a.lost)] gj (0,0))::(bb,.cells b.c.toArray bK (0,0))::(gP,.cells uP bF (0,0))::(Ls++(Lo++K))) F) ?_ ?_
 refine ZT Z<|Zk ?_
 exact⟨(),H,dP (congrArg Value.bool (decide_eq_true I)).symm,Qg⟩
 rintro _ ρ1 w51 H
 show CW _ _ _ _ (dH (gZ _ _ ρ1) [(41,.bool (decide (8<=a.kind/\a.kind<=15)))]) w51
 refine jw Z (fun hc41=> ?_) (fun hc41=> ?_)
 refine W<|Zr<|G (Yp Z)<|G (Zw dQ H 1 Z Z Z)<|ch gd (wT (B.into [(b4,_),(b3,_)] H) hw hk h4 g (of_decide_eq_true hc41)) Z Z ?_
 rintro _ w52 ⟨b2,x2,A9,c9,lo9,hi9,hA9,rfl,hc9,gP9,uP9,Ls9,Lo9,F9,B9,hF9⟩
 replace H:=B9.out (X:=[(b4,_),(b3,_)])
 refine bo H 0 (#[J (x2.code),J (x2.n),.slice A9 x2.texts.length c9]) aP Z Z Z Z Z N N fun w53 H=>U<|Zt ?_
 exact eS (cs0:= #[J (x2.code),J (x2.n),.slice A9 x2.texts.length c9]) Z aN Z (H.ent (i:=0) Z) Z ⟨b2,x2,A9,c9,lo9,hi9,hA9,rfl,hc9,gP9,uP9,Ls9,Lo9,F9,B9.at_ [(b4,_),(b3,_)] H,hF9⟩
 refine W<|W<|Zr ?_
 refine cW (bn Z Z) Z Z Z (fun h54=> ?_) (fun h54=> ?_)
 refine G (Wb Z)<|U ?_
 refine eN (τ:=Unit) [53,55,56,57] (fun _=>[(53,.bool (decide (a.kind=16∨a.kind=18∨a.kind=20)))]) (fun _ w'=>Hp w0 w' ((b4,.cells #[J (0),J (0),.slice none 0 0] eg (0,0))::(b3,.cells #[J (a.kind),.string (a.name),J (a.part),J (a.n),J (a.m),.string (a.text),J (a.lost)] gj (0,0))::(bb,.cells b.c.toArray bK (0,0))::(gP,.cells uP bF (0,0))::(Ls++(Lo++K))) F) ?_ ?_
 refine ZT Z<|Zk ?_
 exact⟨(),H,dP (congrArg Value.bool (decide_eq_true I)).symm,Qg⟩
 rintro _ ρ1 w54 H
 show CW _ _ _ _ (dH (gZ _ _ ρ1) [(53,.bool (decide (a.kind=16∨a.kind=18∨a.kind=20)))]) w54
 refine jw Z (fun hc53=> ?_) (fun hc53=> ?_)
 refine W<|Zr<|G (Yp Z)<|G (Zw dQ H 1 Z Z Z)<|ch dO (qQ (B.into [(b4,_),(b3,_)] H) hw hk h4 g (of_decide_eq_true hc53)) Z Z ?_
 rintro _ w55 ⟨b2,x2,A9,c9,lo9,hi9,hA9,rfl,hc9,gP9,uP9,Ls9,Lo9,F9,B9,hF9⟩
 replace H:=B9.out (X:=[(b4,_),(b3,_)])
 refine bo H 0 (#[J (x2.code),J (x2.n),.slice A9 x2.texts.length c9]) aP Z Z Z Z Z N N fun w56 H=>U<|Zt ?_
 exact eS (cs0:= #[J (x2.code),J (x2.n),.slice A9 x2.texts.length c9]) Z aN Z (H.ent (i:=0) Z) Z ⟨b2,x2,A9,c9,lo9,hi9,hA9,rfl,hc9,gP9,uP9,Ls9,Lo9,F9,B9.at_ [(b4,_),(b3,_)] H,hF9⟩
 refine W<|Zr ?_
 refine cW (bn Z Z) Z Z Z (fun h62=> ?_) (fun h62=> ?_)
 refine G (Wb Z)<|U<|ZT Z<|W<|Zr<|G (Yp Z)<|G (Zw dQ H 1 Z Z Z)<|ch ej (oq (B.into [(b4,_),(b3,_)] H) hw hk h4 g h62) Z Z ?_
 rintro _ w57 ⟨b2,x2,A9,c9,lo9,hi9,hA9,rfl,hc9,gP9,uP9,Ls9,Lo9,F9,B9,hF9⟩
 replace H:=B9.out (X:=[(b4,_),(b3,_)])
 refine bo H 0 (#[J (x2.code),J (x2.n),.slice A9 x2.texts.length c9]) aP Z Z Z Z Z N N fun w58 H=>U<|Zt ?_
 exact eS (cs0:= #[J (x2.code),J (x2.n),.slice A9 x2.texts.length c9]) Z aN Z (H.ent (i:=0) Z) Z ⟨b2,x2,A9,c9,lo9,hi9,hA9,rfl,hc9,gP9,uP9,Ls9,Lo9,F9,B9.at_ [(b4,_),(b3,_)] H,hF9⟩
 exfalso;have h41:=of_decide_eq_false hc41;have h53:=of_decide_eq_false hc53;have h17:=of_decide_eq_false hc17;omega
 refine G (Wb Z)<|U ?_
 refine eN (τ:=Unit) [53,55,56,57] (fun _=>[(53,.bool (decide (a.kind=16∨a.kind=18∨a.kind=20)))]) (fun _ w'=>Hp w0 w' ((b4,.cells #[J (0),J (0),.slice none 0 0] eg (0,0))::(b3,.cells #[J (a.kind),.string (a.name),J (a.part),J (a.n),J (a.m),.string (a.text),J (a.lost)] gj (0,0))::(bb,.cells b.c.toArray bK (0,0))::(gP,.cells uP bF (0,0))::(Ls++(Lo++K))) F) ?_ ?_
 refine ZF Z<|W<|Zr ?_
 refine cW (bn Z Z) Z Z Z (fun h55=> ?_) (fun h55=> ?_)
 exact absurd h55 hkd.2.2
 refine G (Wb Z)<|U<|ZF Z<|W<|Zr ?_
 refine cW (bn Z Z) Z Z Z (fun h56=> ?_) (fun h56=> ?_)
 refine G (Wb Z)<|U<|ZT Z<|Zk ?_
 exact⟨(),H,dP (congrArg Value.bool (decide_eq_true I)).symm,Qg⟩
 refine G (Wb Z)<|U<|ZF Z<|Zr ?_
 refine cW (bn Z Z) Z Z Z (fun h57=> ?_) (fun h57=> ?_)
 refine G (Wb Z)<|U ?_
 exact⟨(),H,dP (congrArg Value.bool (decide_eq_true I)).symm,Qg⟩
 refine G (Wb Z)<|U ?_
 exact⟨(),H,dP (congrArg Value.bool (decide_eq_false I)).symm,Qg⟩
 rintro _ ρ1 w59 H
 show CW _ _ _ _ (dH (gZ _ _ ρ1) [(53,.bool (decide (a.kind=16∨a.kind=18∨a.kind=20)))]) w59
 refine jw Z (fun hc53=> ?_) (fun hc53=> ?_)
 refine W<|Zr<|G (Yp Z)<|G (Zw dQ H 1 Z Z Z)<|ch dO (qQ (B.into [(b4,_),(b3,_)] H) hw hk h4 g (of_decide_eq_true hc53)) Z Z ?_
 rintro _ w60 ⟨b2,x2,A9,c9,lo9,hi9,hA9,rfl,hc9,gP9,uP9,Ls9,Lo9,F9,B9,hF9⟩
 replace H:=B9.out (X:=[(b4,_),(b3,_)])
 refine bo H 0 (#[J (x2.code),J (x2.n),.slice A9 x2.texts.length c9]) aP Z Z Z Z Z N N fun w61 H=>U<|Zt ?_
 exact eS (cs0:= #[J (x2.code),J (x2.n),.slice A9 x2.texts.length c9]) Z aN Z (H.ent (i:=0) Z) Z ⟨b2,x2,A9,c9,lo9,hi9,hA9,rfl,hc9,gP9,uP9,Ls9,Lo9,F9,B9.at_ [(b4,_),(b3,_)] H,hF9⟩
 refine W<|Zr ?_
 refine cW (bn Z Z) Z Z Z (fun h62=> ?_) (fun h62=> ?_)
 refine G (Wb Z)<|U<|ZT Z<|W<|Zr<|G (Yp Z)<|G (Zw dQ H 1 Z Z Z)<|ch ej (oq (B.into [(b4,_),(b3,_)] H) hw hk h4 g h62) Z Z ?_
 rintro _ w62 ⟨b2,x2,A9,c9,lo9,hi9,hA9,rfl,hc9,gP9,uP9,Ls9,Lo9,F9,B9,hF9⟩
 replace H:=B9.out (X:=[(b4,_),(b3,_)])
 refine bo H 0 (#[J (x2.code),J (x2.n),.slice A9 x2.texts.length c9]) aP Z Z Z Z Z N N fun w63 H=>U<|Zt ?_
 exact eS (cs0:= #[J (x2.code),J (x2.n),.slice A9 x2.texts.length c9]) Z aN Z (H.ent (i:=0) Z) Z ⟨b2,x2,A9,c9,lo9,hi9,hA9,rfl,hc9,gP9,uP9,Ls9,Lo9,F9,B9.at_ [(b4,_),(b3,_)] H,hF9⟩
 exfalso;have h41:=of_decide_eq_false hc41;have h53:=of_decide_eq_false hc53;have h17:=of_decide_eq_false hc17;omega
 refine G (Wb Z)<|U ?_
 refine eN (τ:=Unit) [41,43,44,45,46,47,48,49] (fun _=>[(41,.bool (decide (8<=a.kind/\a.kind<=15)))]) (fun _ w'=>Hp w0 w' ((b4,.cells #[J (0),J (0),.slice none 0 0] eg (0,0))::(b3,.cells #[J (a.kind),.string (a.name),J (a.part),J (a.n),J (a.m),.string (a.text),J (a.lost)] gj (0,0))::(bb,.cells b.c.toArray bK (0,0))::(gP,.cells uP bF (0,0))::(Ls++(Lo++K))) F) ?_ ?_
 refine ZF Z<|W<|Zr ?_
 refine cW (bn Z Z) Z Z Z (fun h43=> ?_) (fun h43=> ?_)
 refine G (Wb Z)<|U<|ZT Z<|Zk ?_
 exact⟨(),H,dP (congrArg Value.bool (decide_eq_true I)).symm,Qg⟩
 refine G (Wb Z)<|U<|ZF Z<|W<|Zr ?_
 refine cW (bn Z Z) Z Z Z (fun h44=> ?_) (fun h44=> ?_)
 refine G (Wb Z)<|U<|ZT Z<|Zk ?_
 exact⟨(),H,dP (congrArg Value.bool (decide_eq_true I)).symm,Qg⟩
 refine G (Wb Z)<|U<|ZF Z<|W<|Zr ?_
 refine cW (bn Z Z) Z Z Z (fun h45=> ?_) (fun h45=> ?_)
 refine G (Wb Z)<|U<|ZT Z<|Zk ?_
 exact⟨(),H,dP (congrArg Value.bool (decide_eq_true I)).symm,Qg⟩
 refine G (Wb Z)<|U<|ZF Z<|W<|Zr ?_
 refine cW (bn Z Z) Z Z Z (fun h46=> ?_) (fun h46=> ?_)
 refine G (Wb Z)<|U<|ZT Z<|Zk ?_
 exact⟨(),H,dP (congrArg Value.bool (decide_eq_true I)).symm,Qg⟩
 refine G (Wb Z)<|U<|ZF Z<|W<|Zr ?_
 refine cW (bn Z Z) Z Z Z (fun h47=> ?_) (fun h47=> ?_)
 refine G (Wb Z)<|U<|ZT Z<|Zk ?_
 exact⟨(),H,dP (congrArg Value.bool (decide_eq_true I)).symm,Qg⟩
 refine G (Wb Z)<|U<|ZF Z<|W<|Zr ?_
 refine cW (bn Z Z) Z Z Z (fun h48=> ?_) (fun h48=> ?_)
 refine G (Wb Z)<|U<|ZT Z<|Zk ?_
 exact⟨(),H,dP (congrArg Value.bool (decide_eq_true I)).symm,Qg⟩
 refine G (Wb Z)<|U<|ZF Z<|Zr ?_
 refine cW (bn Z Z) Z Z Z (fun h49=> ?_) (fun h49=> ?_)
 refine G (Wb Z)<|U ?_
 exact⟨(),H,dP (congrArg Value.bool (decide_eq_true I)).symm,Qg⟩
 refine G (Wb Z)<|U ?_
 exact⟨(),H,dP (congrArg Value.bool (decide_eq_false I)).symm,Qg⟩
 rintro _ ρ1 w64 H
 show CW _ _ _ _ (dH (gZ _ _ ρ1) [(41,.bool (decide (8<=a.kind/\a.kind<=15)))]) w64
 refine jw Z (fun hc41=> ?_) (fun hc41=> ?_)
 refine W<|Zr<|G (Yp Z)<|G (Zw dQ H 1 Z Z Z)<|ch gd (wT (B.into [(b4,_),(b3,_)] H) hw hk h4 g (of_decide_eq_true hc41)) Z Z ?_
 rintro _ w65 ⟨b2,x2,A9,c9,lo9,hi9,hA9,rfl,hc9,gP9,uP9,Ls9,Lo9,F9,B9,hF9⟩
 replace H:=B9.out (X:=[(b4,_),(b3,_)])
 refine bo H 0 (#[J (x2.code),J (x2.n),.slice A9 x2.texts.length c9]) aP Z Z Z Z Z N N fun w66 H=>U<|Zt ?_
 exact eS (cs0:= #[J (x2.code),J (x2.n),.slice A9 x2.texts.length c9]) Z aN Z (H.ent (i:=0) Z) Z ⟨b2,x2,A9,c9,lo9,hi9,hA9,rfl,hc9,gP9,uP9,Ls9,Lo9,F9,B9.at_ [(b4,_),(b3,_)] H,hF9⟩
 refine W<|W<|Zr ?_
 refine cW (bn Z Z) Z Z Z (fun h54=> ?_) (fun h54=> ?_)
 refine G (Wb Z)<|U ?_
 refine eN (τ:=Unit) [53,55,56,57] (fun _=>[(53,.bool (decide (a.kind=16∨a.kind=18∨a.kind=20)))]) (fun _ w'=>Hp w0 w' ((b4,.cells #[J (0),J (0),.slice none 0 0] eg (0,0))::(b3,.cells #[J (a.kind),.string (a.name),J (a.part),J (a.n),J (a.m),.string (a.text),J (a.lost)] gj (0,0))::(bb,.cells b.c.toArray bK (0,0))::(gP,.cells uP bF (0,0))::(Ls++(Lo++K))) F) ?_ ?_
 refine ZT Z<|Zk ?_
 exact⟨(),H,dP (congrArg Value.bool (decide_eq_true I)).symm,Qg⟩
 rintro _ ρ1 w67 H
 show CW _ _ _ _ (dH (gZ _ _ ρ1) [(53,.bool (decide (a.kind=16∨a.kind=18∨a.kind=20)))]) w67
 refine jw Z (fun hc53=> ?_) (fun hc53=> ?_)
 refine W<|Zr<|G (Yp Z)<|G (Zw dQ H 1 Z Z Z)<|ch dO (qQ (B.into [(b4,_),(b3,_)] H) hw hk h4 g (of_decide_eq_true hc53)) Z Z ?_
 rintro _ w68 ⟨b2,x2,A9,c9,lo9,hi9,hA9,rfl,hc9,gP9,uP9,Ls9,Lo9,F9,B9,hF9⟩
 replace H:=B9.out (X:=[(b4,_),(b3,_)])
 refine bo H 0 (#[J (x2.code),J (x2.n),.slice A9 x2.texts.length c9]) aP Z Z Z Z Z N N fun w69 H=>U<|Zt ?_
 exact eS (cs0:= #[J (x2.code),J (x2.n),.slice A9 x2.texts.length c9]) Z aN Z (H.ent (i:=0) Z) Z ⟨b2,x2,A9,c9,lo9,hi9,hA9,rfl,hc9,gP9,uP9,Ls9,Lo9,F9,B9.at_ [(b4,_),(b3,_)] H,hF9⟩
 refine W<|Zr ?_
 refine cW (bn Z Z) Z Z Z (fun h62=> ?_) (fun h62=> ?_)
 refine G (Wb Z)<|U<|ZT Z<|W<|Zr<|G (Yp Z)<|G (Zw dQ H 1 Z Z Z)<|ch ej (oq (B.into [(b4,_),(b3,_)] H) hw hk h4 g h62) Z Z ?_
 rintro _ w70 ⟨b2,x2,A9,c9,lo9,hi9,hA9,rfl,hc9,gP9,uP9,Ls9,Lo9,F9,B9,hF9⟩
 replace H:=B9.out (X:=[(b4,_),(b3,_)])
 refine bo H 0 (#[J (x2.code),J (x2.n),.slice A9 x2.texts.length c9]) aP Z Z Z Z Z N N fun w71 H=>U<|Zt ?_
 exact eS (cs0:= #[J (x2.code),J (x2.n),.slice A9 x2.texts.length c9]) Z aN Z (H.ent (i:=0) Z) Z ⟨b2,x2,A9,c9,lo9,hi9,hA9,rfl,hc9,gP9,uP9,Ls9,Lo9,F9,B9.at_ [(b4,_),(b3,_)] H,hF9⟩
 exfalso;have h41:=of_decide_eq_false hc41;have h53:=of_decide_eq_false hc53;have h17:=of_decide_eq_false hc17;omega
 refine G (Wb Z)<|U ?_
 refine eN (τ:=Unit) [53,55,56,57] (fun _=>[(53,.bool (decide (a.kind=16∨a.kind=18∨a.kind=20)))]) (fun _ w'=>Hp w0 w' ((b4,.cells #[J (0),J (0),.slice none 0 0] eg (0,0))::(b3,.cells #[J (a.kind),.string (a.name),J (a.part),J (a.n),J (a.m),.string (a.text),J (a.lost)] gj (0,0))::(bb,.cells b.c.toArray bK (0,0))::(gP,.cells uP bF (0,0))::(Ls++(Lo++K))) F) ?_ ?_
 refine ZF Z<|W<|Zr ?_
 refine cW (bn Z Z) Z Z Z (fun h55=> ?_) (fun h55=> ?_)
 exact absurd h55 hkd.2.2
 refine G (Wb Z)<|U<|ZF Z<|W<|Zr ?_
 refine cW (bn Z Z) Z Z Z (fun h56=> ?_) (fun h56=> ?_)
 refine G (Wb Z)<|U<|ZT Z<|Zk ?_
 exact⟨(),H,dP (congrArg Value.bool (decide_eq_true I)).symm,Qg⟩
 refine G (Wb Z)<|U<|ZF Z<|Zr ?_
 refine cW (bn Z Z) Z Z Z (fun h57=> ?_) (fun h57=> ?_)
 refine G (Wb Z)<|U ?_
 exact⟨(),H,dP (congrArg Value.bool (decide_eq_true I)).symm,Qg⟩
 refine G (Wb Z)<|U ?_
 exact⟨(),H,dP (congrArg Value.bool (decide_eq_false I)).symm,Qg⟩
 rintro _ ρ1 w72 H
 show CW _ _ _ _ (dH (gZ _ _ ρ1) [(53,.bool (decide (a.kind=16∨a.kind=18∨a.kind=20)))]) w72
 refine jw Z (fun hc53=> ?_) (fun hc53=> ?_)
 refine W<|Zr<|G (Yp Z)<|G (Zw dQ H 1 Z Z Z)<|ch dO (qQ (B.into [(b4,_),(b3,_)] H) hw hk h4 g (of_decide_eq_true hc53)) Z Z ?_
 rintro _ w73 ⟨b2,x2,A9,c9,lo9,hi9,hA9,rfl,hc9,gP9,uP9,Ls9,Lo9,F9,B9,hF9⟩
 replace H:=B9.out (X:=[(b4,_),(b3,_)])
 refine bo H 0 (#[J (x2.code),J (x2.n),.slice A9 x2.texts.length c9]) aP Z Z Z Z Z N N fun w74 H=>U<|Zt ?_
 exact eS (cs0:= #[J (x2.code),J (x2.n),.slice A9 x2.texts.length c9]) Z aN Z (H.ent (i:=0) Z) Z ⟨b2,x2,A9,c9,lo9,hi9,hA9,rfl,hc9,gP9,uP9,Ls9,Lo9,F9,B9.at_ [(b4,_),(b3,_)] H,hF9⟩
 refine W<|Zr ?_
 refine cW (bn Z Z) Z Z Z (fun h62=> ?_) (fun h62=> ?_)
 refine G (Wb Z)<|U<|ZT Z<|W<|Zr<|G (Yp Z)<|G (Zw dQ H 1 Z Z Z)<|ch ej (oq (B.into [(b4,_),(b3,_)] H) hw hk h4 g h62) Z Z ?_
 rintro _ w75 ⟨b2,x2,A9,c9,lo9,hi9,hA9,rfl,hc9,gP9,uP9,Ls9,Lo9,F9,B9,hF9⟩
 replace H:=B9.out (X:=[(b4,_),(b3,_)])
 refine bo H 0 (#[J (x2.code),J (x2.n),.slice A9 x2.texts.length c9]) aP Z Z Z Z Z N N fun w76 H=>U<|Zt ?_
 exact eS (cs0:= #[J (x2.code),J (x2.n),.slice A9 x2.texts.length c9]) Z aN Z (H.ent (i:=0) Z) Z ⟨b2,x2,A9,c9,lo9,hi9,hA9,rfl,hc9,gP9,uP9,Ls9,Lo9,F9,B9.at_ [(b4,_),(b3,_)] H,hF9⟩
 exfalso;have h41:=of_decide_eq_false hc41;have h53:=of_decide_eq_false hc53;have h17:=of_decide_eq_false hc17;omega
theorem ya (p:Pa) (w:World) (h:p.rd 0 w.heap.size w) (hok:p.a.ok):dh aa y6 [p.v] w fun v w2=> ∃ p':Pa,v=p'.v/\p'.a=p.a/\eA w w2 p':=
 (Ax p w h hok).mono fun _ _ ⟨p',_,_,_,_,_,_,h1,h2,h3⟩=>⟨p',h1,h2,h3.new⟩
def P6 (wt:Int):Co:=⟨0,1,wt,[],none,0⟩
def O8 (wt:Int):Gr:=⟨0,wt,0,[],none,0,[],none,0⟩
theorem P3 (wt:Int) (lo hi:Nat) (w:World):(P6 wt).rd lo hi w:=⟨Rd.nil,by simp[P6],by simp[P6],by simp[P6],by simp[P6]⟩
theorem PU (wt:Int) (lo hi:Nat) (w:World):(O8 wt).rd lo hi w:=⟨Rd.nil,by simp[O8],Rd.nil,by simp[O8],by simp[O8],by simp[O8],by simp[O8]⟩
structure R5 (w00 w0 w:World) (b:Bk) (gP:Nat) (uP:Array Value) (F:List cB):Prop where
 pA:b.pA=some ⟨gP,0,none⟩
 row:dX FI b.ps b.pC uP
 sns:b.sns=[]/\b.snA=none/\b.snC=0
 co:xM w00 b.clo b.chi b.co∈F
 gr:KS w00 b.glo b.ghi b.gr∈F
 ps: ∀ q∈b.ps,tI w00 q.lo q.hi q.p∈F
 lo: ∀ f∈F,w0.heap.size<=f.lo
 H:Hp w0 w [(gP,.cells uP bF (0,0))] F
theorem K5 {np nr few:Nat} {wt:Int} (w00 w:World) (h00:w00.heap.size<=w.heap.size) (q1:1<=np) (q4:np<=4) (n1:1<=nr) (n5:nr<=5) (f1:1<=few) (f2:few<=nr) (t1:1<=wt) (t2:wt<=1000):dh aa Bg [.agg #[J (np:Nat),J (nr:Nat),J (few:Nat),J wt]] w fun v w2=> ∃ (b:Bk) (gP:Nat) (uP:Array Value) (F:List cB),v=.tuple #[.agg b.c.toArray,J 0]/\b.a=ow np nr few wt/\R5 w00 w w2 b gP uP F:=by
 refine aE zv Z Z ?_
 have H:=Hp.start w
 show CW _ _ _ _ (args [.agg #[J (np:Nat),J (nr:Nat),J (few:Nat),J wt]]) w
 refine W<|Zr<|f7 H Z Z fun w1 b1 H=>eP H qL Z fun w2 b2 H=>G (Wi Z)<|U<|W<|W<|Zr<|G (Zf qn Z)<|G (Zd ak H 1 Z Z Z)<|G (dd Z Z I)<|G (Yb Z)<|ZG<|G (Zf qn Z)<|ZG<|G (Zd ak H 1 Z Z Z)<|ZG<|G (eB Z Z I)<|G (N Z Z)<|U<|ZF Z<|Zk<|W<|Zr<|G (Zf lP Z)<|G (Zd ak H 1 Z Z Z)<|G (Zf By Z)<|G (Zd ak H 1 Z Z Z)<|ch GV (N5 nr few _ n1 n5 f1 f2) Z Z ?_
 have hlo4:=H.size
 rintro _ w3 ⟨p4,rfl,hap4,hnp4⟩;replace H:=H.learn hnp4.2 (tI w00 w2.heap.size w3.heap.size p4) ⟨(aU h00 H.size),hnp4.1⟩ (ao _) (ao _);clear hnp4
 refine G (Yu Z)<|G (Xa Z Z)<|G (Xi Z Z)<|eP H bv Z fun w4 b4 H=>bo H 0 (#[J (p4.epoch),J (p4.leader),.slice p4.iA p4.isr.length p4.iC,.slice p4.kA p4.known.length p4.kC,.slice p4.rA p4.reps.length p4.rC,J (p4.few),J (p4.base)]) aK Z Z Z Z Z N N fun w5 H=>G (Wi Z)<|U<|W<|W<|Zr<|G (Yi Z)<|G (bZ Z Z (by decide))<|U<|ZF Z<|Zk<|W<|Zr<|G (Zf Bx Z)<|G (Zd ak H 2 Z Z Z)<|ch E0 (GP wt _ t1 t2) Z Z ?_
 rintro _ w6 ⟨rfl,hb⟩;replace H:=H.later hb;clear hb
 refine G (Yu Z)<|G (Xa Z Z)<|G (Xi Z Z)<|eP H cM Z fun w7 b6 H=>bo H 0 (#[J (0),J (1),J (wt),.slice none 0 0]) aF Z Z Z Z Z N N fun w8 H=>G (Wi Z)<|U<|W<|W<|Zr<|G (Yi Z)<|G (bZ Z Z (by decide))<|U<|ZF Z<|Zk<|W<|Zr<|G (Zf Bx Z)<|G (Zd ak H 3 Z Z Z)<|ch EY (OG wt _ t1 t2) Z Z ?_
 rintro _ w9 ⟨rfl,hb⟩;replace H:=H.later hb;clear hb
 refine G (Yu Z)<|G (Xa Z Z)<|G (Xi Z Z)<|eP H d8 Z fun w10 b7 H=>bo H 0 (#[J (0),J (wt),J (0),.slice none 0 0,.slice none 0 0]) bD Z Z Z Z Z N N fun w11 H=>G (Wi Z)<|U<|W<|Zr<|G (Zw av H 1 Z Z Z)<|G (Zw aQ H 0 Z Z Z)<|G (bg (cs:= #[.slice none 0 0,J (0),J (1),J (wt),.slice none 0 0,J (0),J (wt),J (0),.slice none 0 0,.slice none 0 0,.slice none 0 0]) Lv qL N)<|eP H qL Z fun w12 b8 H=>bo H 0 (#[.slice none 0 0,J (0),J (1),J (wt),.slice none 0 0,J (0),J (wt),J (0),.slice none 0 0,.slice none 0 0,.slice none 0 0]) nA Z Z Z Z Z N N fun w13 H=>U<|W<|W<|Zr<|G (Zf qn Z)<|G (Zd ak H 5 Z Z Z)<|G (Yi Z)<|U<|Zb ?_
 refine cD (τ:=Nat×List Pq×Option Addr×Nat×List (Nat×Obj)×List cB) [51,52,53,54,55,56,57,58,59,60] (fun(i,_)=>[(51,J (i:Nat))]) (fun(i,qs,A,c,Lq,F') w'=>i<=np/\qs.map (fun q=>q.p.a)=au i (mL nr few)/\gz FI (.slice A qs.length c) bF qs Lq/\(∀ q∈qs,tI w00 q.lo q.hi q.p∈F')/\(∀ f∈F',w.heap.size<=f.lo)/\(∃ lo hi,tI w00 lo hi p4∈F')/\Hp w w' ((b8,.cells #[.slice A qs.length c,J (0),J (1),J (wt),.slice none 0 0,J (0),J (wt),J (0),.slice none 0 0,.slice none 0 0,.slice none 0 0] ra (0,0))::(b7,.cells #[J (0),J (wt),J (0),.slice none 0 0,.slice none 0 0] cO (0,0))::(b6,.cells #[J (0),J (1),J (wt),.slice none 0 0] bi (0,0))::(b4,.cells #[J (p4.epoch),J (p4.leader),.slice p4.iA p4.isr.length p4.iC,.slice p4.kA p4.known.length p4.kC,.slice p4.rA p4.reps.length p4.rC,J (p4.few),J (p4.base)] bF (0,0))::(b2,.cells #[.slice none 0 0,J (0),J (0),J (0),.slice none 0 0,J (0),J (0),J (0),.slice none 0 0,.slice none 0 0,.slice none 0 0] ra (0,0))::(b1,.cells #[J (((np:Nat):Int)),J (((nr:Nat):Int)),J (((few:Nat):Int)),J (wt)] m5 (0,0))::(Lq++[])) F') (fun(i,_)=>np-i) (0,[],none,0,[],_) ⟨bG _,rfl,gz.nil,by simp,fun f hf=>(by rw[aq.1 hf];exact hlo4),⟨_,_,az ..⟩,H⟩ (dP Z) ?_
 rintro⟨i,qs,A,c,Lq,F'⟩ ρ1 w14 ⟨hi,hqa,ho,hqs,hFl,⟨lo4,hi4,hp4⟩,H⟩
 show CW _ _ _ _ (dH (gZ _ _ ρ1) [(51,J (i:Nat))]) w14
 have hql:qs.length=i:=by have:=congrArg ci hqa;simpa using this
 refine W<|Zr ?_
 refine cW (cK Z Z) Z Z Z (fun h52=> ?_) (fun h52=> ?_)
 refine U<|W<|ZT Z<|Zk<|W ?_
 refine eN (τ:=List Pq×Option Addr×Nat×List (Nat×Obj)×List cB) [53,54,55,56,57,58,59] (fun _=>[]) (fun(q9,A9,c9,L9,F9) w'=>q9.map (fun q=>q.p.a)=au (i+1) (mL nr few)/\gz FI (.slice A9 q9.length c9) bF q9 L9/\(∀ q∈q9,tI w00 q.lo q.hi q.p∈F9)/\(∀ f∈F9,w.heap.size<=f.lo)/\(∃ lo hi,tI w00 lo hi p4∈F9)/\Hp w w' ((b8,.cells #[.slice A9 q9.length c9,J (0),J (1),J (wt),.slice none 0 0,J (0),J (wt),J (0),.slice none 0 0,.slice none 0 0,.slice none 0 0] ra (0,0))::(b7,.cells #[J (0),J (wt),J (0),.slice none 0 0,.slice none 0 0] cO (0,0))::(b6,.cells #[J (0),J (1),J (wt),.slice none 0 0] bi (0,0))::(b4,.cells #[J (p4.epoch),J (p4.leader),.slice p4.iA p4.isr.length p4.iC,.slice p4.kA p4.known.length p4.kC,.slice p4.rA p4.reps.length p4.rC,J (p4.few),J (p4.base)] bF (0,0))::(b2,.cells #[.slice none 0 0,J (0),J (0),J (0),.slice none 0 0,J (0),J (0),J (0),.slice none 0 0,.slice none 0 0,.slice none 0 0] ra (0,0))::(b1,.cells #[J (((np:Nat):Int)),J (((nr:Nat):Int)),J (((few:Nat):Int)),J (wt)] m5 (0,0))::(L9++[])) F9) ?_ ?_
 refine Zb ?_
 refine qW cd [0] [1,2,3,4,5,6,7] [0] 7 N N N Nq ?_
 refine aw Z Z Z Z Z (fun w' hw'=>Zf dJ Z)<|aV ?_
 intro w15 hw';replace H:=H.later hw';clear hw'
 refine tH 1 2 N Z Z ?_ ?_
 refine G (Zd ex H 0 Z Z Z)<|U<|de 2 N Z<|G (Zw aH H 3 Z Z Z)<|U<|de 3 N Z<|ch mZ (ya p4 _ (Hp.paM H hp4) (hap4▸(Ef (Φ:=fun _=>True) n1 n5 f1 f2).ok)) Z Z ?_
 have hlo2:=H.size
 rintro _ w16 ⟨p2,rfl,hap2,hnp2⟩;replace H:=H.learn hnp2.2 (tI w00 w15.heap.size w16.heap.size p2) ⟨(aU h00 H.size),hnp2.1⟩ (ao _) (ao _);clear hnp2
 refine U<|de 4 N Z<|s9 (vs:=[.agg #[J (p2.epoch),J (p2.leader),.slice p2.iA p2.isr.length p2.iC,.slice p2.kA p2.known.length p2.kC,.slice p2.rA p2.reps.length p2.rC,J (p2.few),J (p2.base)]]) H iz bv Z Z Z Z Z Z fun w17 b57 H=>U<|de 5 N Z<|vP (Y:=FI) xH (K:=[(b57,_),(b8,_),(b7,_),(b6,_),(b4,_),(b2,_),(b1,_)]) (L:=Lq) (M:=[]) H ho (es:=qs) (news:=[⟨p2,w15.heap.size,w16.heap.size⟩]) Z Z Z (wz.row (m:=1) (sz:=FI.sz) (H.ent (i:=0) Z) Z) (by simp only[bO];omega) Z ?_
 intro A5 c5 w18 L5 h5 h5m ho5 H
 refine U<|de 6 N Z<|G (Zf dJ Z)<|U<|de 7 N Z<|bo H 1 (#[.slice A5 ((qs++[(⟨p2,w15.heap.size,w16.heap.size⟩:Pq)]).length) c5,J (0),J (1),J (wt),.slice none 0 0,J (0),J (wt),J (0),.slice none 0 0,.slice none 0 0,.slice none 0 0]) uL Z Z Z Z Z N N fun w19 H=>U<|cF N ?_
 exact⟨(qs++[(⟨p2,w15.heap.size,w16.heap.size⟩:Pq)],A5,c5,L5,tI w00 w15.heap.size w16.heap.size p2::F'),⟨by rw[bl,hqa,re];show _++[p2.a]=_;rw[hap2,hap4],ho5,fun q hq=>(by rcases ap.1 hq with hq|hq;exact aj _ (hqs q hq);rw[aq.1 hq];exact az ..),fun f hf=>(by rcases ax.1 hf with rfl|hf;exact hlo2;exact hFl f hf),⟨lo4,hi4,aj _ hp4⟩,H.forget (.cons _ (ar _)) (fun _ h=>h)⟩,wC,Qg⟩
 refine G (Zw aH H 3 Z Z Z)<|U ?_
 refine tH 1 3 N Z Z ?_ ?_
 refine G (Zd ex H 0 Z Z Z)<|U<|de 3 N Z<|ch mZ (ya p4 _ (Hp.paM H hp4) (hap4▸(Ef (Φ:=fun _=>True) n1 n5 f1 f2).ok)) Z Z ?_
 have hlo2:=H.size
 rintro _ w20 ⟨p2,rfl,hap2,hnp2⟩;replace H:=H.learn hnp2.2 (tI w00 w15.heap.size w20.heap.size p2) ⟨(aU h00 H.size),hnp2.1⟩ (ao _) (ao _);clear hnp2
 refine U<|de 4 N Z<|s9 (vs:=[.agg #[J (p2.epoch),J (p2.leader),.slice p2.iA p2.isr.length p2.iC,.slice p2.kA p2.known.length p2.kC,.slice p2.rA p2.reps.length p2.rC,J (p2.few),J (p2.base)]]) H iz bv Z Z Z Z Z Z fun w21 b57 H=>U<|de 5 N Z<|vP (Y:=FI) xH (K:=[(b57,_),(b8,_),(b7,_),(b6,_),(b4,_),(b2,_),(b1,_)]) (L:=Lq) (M:=[]) H ho (es:=qs) (news:=[⟨p2,w15.heap.size,w20.heap.size⟩]) Z Z Z (wz.row (m:=1) (sz:=FI.sz) (H.ent (i:=0) Z) Z) (by simp only[bO];omega) Z ?_
 intro A5 c5 w22 L5 h5 h5m ho5 H
 refine U<|de 6 N Z<|G (Zf dJ Z)<|U<|de 7 N Z<|bo H 1 (#[.slice A5 ((qs++[(⟨p2,w15.heap.size,w20.heap.size⟩:Pq)]).length) c5,J (0),J (1),J (wt),.slice none 0 0,J (0),J (wt),J (0),.slice none 0 0,.slice none 0 0,.slice none 0 0]) uL Z Z Z Z Z N N fun w23 H=>U<|cF N ?_
 exact⟨(qs++[(⟨p2,w15.heap.size,w20.heap.size⟩:Pq)],A5,c5,L5,tI w00 w15.heap.size w20.heap.size p2::F'),⟨by rw[bl,hqa,re];show _++[p2.a]=_;rw[hap2,hap4],ho5,fun q hq=>(by rcases ap.1 hq with hq|hq;exact aj _ (hqs q hq);rw[aq.1 hq];exact az ..),fun f hf=>(by rcases ax.1 hf with rfl|hf;exact hlo2;exact hFl f hf),⟨lo4,hi4,aj _ hp4⟩,H.forget (.cons _ (ar _)) (fun _ h=>h)⟩,wC,Qg⟩
 refine ch mZ (ya p4 _ (Hp.paM H hp4) (hap4▸(Ef (Φ:=fun _=>True) n1 n5 f1 f2).ok)) Z Z ?_
 have hlo2:=H.size
 rintro _ w24 ⟨p2,rfl,hap2,hnp2⟩;replace H:=H.learn hnp2.2 (tI w00 w15.heap.size w24.heap.size p2) ⟨(aU h00 H.size),hnp2.1⟩ (ao _) (ao _);clear hnp2
 refine U ?_
 refine tH 1 4 N Z Z ?_ ?_
 refine G (Zd ex H 0 Z Z Z)<|U<|de 4 N Z<|s9 (vs:=[.agg #[J (p2.epoch),J (p2.leader),.slice p2.iA p2.isr.length p2.iC,.slice p2.kA p2.known.length p2.kC,.slice p2.rA p2.reps.length p2.rC,J (p2.few),J (p2.base)]]) H iz bv Z Z Z Z Z Z fun w25 b57 H=>U<|de 5 N Z<|vP (Y:=FI) xH (K:=[(b57,_),(b8,_),(b7,_),(b6,_),(b4,_),(b2,_),(b1,_)]) (L:=Lq) (M:=[]) H ho (es:=qs) (news:=[⟨p2,w15.heap.size,w24.heap.size⟩]) Z Z Z (wz.row (m:=1) (sz:=FI.sz) (H.ent (i:=0) Z) Z) (by simp only[bO];omega) Z ?_
 intro A5 c5 w26 L5 h5 h5m ho5 H
 refine U<|de 6 N Z<|G (Zf dJ Z)<|U<|de 7 N Z<|bo H 1 (#[.slice A5 ((qs++[(⟨p2,w15.heap.size,w24.heap.size⟩:Pq)]).length) c5,J (0),J (1),J (wt),.slice none 0 0,J (0),J (wt),J (0),.slice none 0 0,.slice none 0 0,.slice none 0 0]) uL Z Z Z Z Z N N fun w27 H=>U<|cF N ?_
 exact⟨(qs++[(⟨p2,w15.heap.size,w24.heap.size⟩:Pq)],A5,c5,L5,tI w00 w15.heap.size w24.heap.size p2::F'),⟨by rw[bl,hqa,re];show _++[p2.a]=_;rw[hap2,hap4],ho5,fun q hq=>(by rcases ap.1 hq with hq|hq;exact aj _ (hqs q hq);rw[aq.1 hq];exact az ..),fun f hf=>(by rcases ax.1 hf with rfl|hf;exact hlo2;exact hFl f hf),⟨lo4,hi4,aj _ hp4⟩,H.forget (.cons _ (ar _)) (fun _ h=>h)⟩,wC,Qg⟩
 refine s9 (vs:=[.agg #[J (p2.epoch),J (p2.leader),.slice p2.iA p2.isr.length p2.iC,.slice p2.kA p2.known.length p2.kC,.slice p2.rA p2.reps.length p2.rC,J (p2.few),J (p2.base)]]) H iz bv Z Z Z Z Z Z fun w28 b57 H=>U<|de 1 N Z<|G (Zd ex H 1 Z Z Z)<|U<|de 5 N Z<|vP (Y:=FI) xH (K:=[(b57,_),(b8,_),(b7,_),(b6,_),(b4,_),(b2,_),(b1,_)]) (L:=Lq) (M:=[]) H ho (es:=qs) (news:=[⟨p2,w15.heap.size,w24.heap.size⟩]) Z Z Z (wz.row (m:=1) (sz:=FI.sz) (H.ent (i:=0) Z) Z) (by simp only[bO];omega) Z ?_
 intro A5 c5 w29 L5 h5 h5m ho5 H
 refine U<|de 6 N Z<|G (Zf dJ Z)<|U<|de 7 N Z<|bo H 1 (#[.slice A5 ((qs++[(⟨p2,w15.heap.size,w24.heap.size⟩:Pq)]).length) c5,J (0),J (1),J (wt),.slice none 0 0,J (0),J (wt),J (0),.slice none 0 0,.slice none 0 0,.slice none 0 0]) uL Z Z Z Z Z N N fun w30 H=>U<|cF N ?_
 exact⟨(qs++[(⟨p2,w15.heap.size,w24.heap.size⟩:Pq)],A5,c5,L5,tI w00 w15.heap.size w24.heap.size p2::F'),⟨by rw[bl,hqa,re];show _++[p2.a]=_;rw[hap2,hap4],ho5,fun q hq=>(by rcases ap.1 hq with hq|hq;exact aj _ (hqs q hq);rw[aq.1 hq];exact az ..),fun f hf=>(by rcases ax.1 hf with rfl|hf;exact hlo2;exact hFl f hf),⟨lo4,hi4,aj _ hp4⟩,H.forget (.cons _ (ar _)) (fun _ h=>h)⟩,wC,Qg⟩
 rintro⟨q9,A9,c9,L9,F9⟩ ρ1 w31 H9
 show CW _ _ _ _ (dH (gZ _ _ ρ1) []) w31
 refine Zr<|G (bw Z Z I I)<|G (Yi Z)<|U ?_
 exact⟨(i+1,q9,A9,c9,L9,F9),⟨by omega,H9⟩,dP Z,Qg,by show np- (i+1)<np-i;omega⟩
 refine U<|W<|ZF Z<|Zx<|W<|Zr<|G (Zw nZ H 0 Z Z Z)<|G (Yi Z)<|bo H 4 (#[.slice A qs.length c,J (0),J (1),J (wt),.slice none 0 0,J (0),J (wt),J (0),.slice none 0 0,.slice none 0 0,.slice none 0 0]) nA Z Z Z Z Z N N fun w32 H=>G (Wi Z)<|U<|Zt ?_
 obtain rfl:i=np:=by omega
 obtain⟨gP,uP,rfl,rfl,row⟩:=ho.row I
 have H7:=((H.forget (L':=[(gP,_)]) ((.cons _ (.cons _ (.cons _ (.cons _ (.cons _ (.cons _ (ar _)))))))) (fun _ h=>h)).learnOld (xM w00 w.heap.size w.heap.size (P6 wt)) ⟨h00,P3 ..⟩ (ao _)).learnOld (KS w00 w.heap.size w.heap.size (O8 wt)) ⟨h00,PU ..⟩ (ao _)
 exact bE (cs0:= #[.slice (Qd gP) qs.length c,J (0),J (1),J (wt),.slice none 0 0,J (0),J (wt),J (0),.slice none 0 0,.slice none 0 0,.slice none 0 0]) (v1:=J 0) Z nZ Z (H.ent (i:=4) Z) Z Z ⟨⟨qs,some ⟨gP,0,none⟩,c,P6 wt,w.heap.size,w.heap.size,O8 wt,w.heap.size,w.heap.size,[],none,0⟩,gP,uP,_,rfl,by unfold Bk.a ow;rw[hqa];rfl,⟨rfl,row,⟨rfl,rfl,rfl⟩,aj _ (az ..),az ..,fun q hq=>aj _ (aj _ (hqs q hq)),fun f hf=>(by rcases ax.1 hf with rfl|hf;exact ao _;rcases ax.1 hf with rfl|hf;exact ao _;exact hFl f hf),H7⟩⟩
theorem zy (es:List ByteArray) (A:Option Addr) (c:Nat) (w:World) (hr:Rd nz 0 w.heap.size A es w) (hb:es.length*16<=140737488355328):
  dh aa ju [.slice A es.length c] w fun v w2=> ∃ A' c' L',v=.slice A' es.length c'/\es.length<=c'/\c'<=maxLen/\gz nz (.slice A' es.length c') kL es L'/\Hp w w2 L' []:=by
 refine aE nL Z Z ?_
 have H:=Hp.startRd hr
 refine W<|Zr<|G (Ws Z)<|U<|W<|W<|Zr<|G (Ys Z) ?_
 refine wW (qO l5 Z) Z Z Z (fun h4=> ?_) (fun h4=> ?_)
 refine U<|ZT Z<|W<|Zr<|G (Ws Z)<|U<|Zt ?_
 have he:es=[]:=by
  cases es with
  |nil=>rfl
  |cons e es=>obtain⟨b,o,hA,_⟩:=hr (by simp);subst hA;cases h4
 subst he
 exact cH Z Z ⟨none,0,[],rfl,by simp,by decide,gz.nil,H.forget (by simp) (by simp)⟩
 refine U<|ZF Z<|Zk<|W<|Zr<|Pe H iy Z fun w1 b5 H=>G (Ys Z)<|vP (Y:=nz) ww (K:=[]) (L:=[(b5,_)]) (M:=[]) H (sj.lit (by decide) (by rfl)) (es:=[]) (news:=es) Z Z Z (Rd.src (H.fact (i:=0) Z)) (by simpa using hb) Z ?_
 intro A3 c3 w3 L3 h3a h3b ho3 H
 refine G (Ws Z)<|U<|Zt ?_
 exact cH Z Z ⟨A3,c3,L3,rfl,h3a,h3b,ho3,H.forget (by simp) (by simp)⟩
theorem zx (es:List ByteArray) (A:Option Addr) (c:Nat) (w:World) (hr:Rd nz 0 w.heap.size A es w) (hb:es.length*16<=140737488355328):
  dh aa ju [.slice A es.length c] w fun v w2=> ∃ A' c',v=.slice A' es.length c'/\es.length<=c'/\Rd nz w.heap.size w2.heap.size A' es w2/\Below w.heap.size w w2:=
 (zy es A c w hr hb).mono fun v w2 ⟨A',c',L',h1,h2,_,h4,h5⟩=>⟨A',c',h1,h2,h4.rd (K:=[]) (M:=[]) (by simpa using h5),h5.below⟩
structure Aq where
 x:An
 A:Option Addr
 c:Nat
def Ql:fq Aq:=⟨fun q=>[J q.x.code,J q.x.n,.slice q.A q.x.texts.length q.c],3,fun _=>rfl,by decide,fun a u hu=>by
 simp only[ax,bU,or_false]at hu
 rcases hu with h|h|h<;>subst h<;>rfl⟩
structure Rn where
 xs:List Aq
 oA:Option Addr
 oC:Nat
 b:Bk
def Rn.v (r:Rn):Value:=.tuple #[.slice r.oA r.xs.length r.oC,.agg r.b.c.toArray,J 0]
structure Rn.rd (r:Rn) (lo hi:Nat) (w:World):Prop where
 xs:Rd Ql lo hi r.oA r.xs w
 oC:r.xs.length<=r.oC
 tx: ∀ x∈r.xs,Rd nz lo hi x.A x.x.texts w/\x.x.texts.length<=x.c
 ps:Rd FI lo hi r.b.pA r.b.ps w
 pC:r.b.ps.length<=r.b.pC
 pa: ∀ q∈r.b.ps,q.p.rd lo hi w
 co:r.b.co.rd lo hi w
 gr:r.b.gr.rd lo hi w
theorem Rn.rd.st {r:Rn} {lo hi:Nat} {w w':World} (hk: ∀ k,lo<=k->k<hi->w'.heap[k]? =w.heap[k]?) (h:r.rd lo hi w):r.rd lo hi w':=⟨h.xs.st hk,h.oC,fun x hx=>⟨(h.tx x hx).1.st hk,(h.tx x hx).2⟩,h.ps.st hk,h.pC,fun q hq=>(h.pa q hq).st hk,h.co.st hk,h.gr.st hk⟩
theorem Rn.rd.mono {r:Rn} {lo hi lo' hi':Nat} {w:World} (h:r.rd lo hi w) (h1:lo'<=lo) (h2:hi<=hi'):r.rd lo' hi' w:=⟨h.xs.mono h1 h2,h.oC,fun x hx=>⟨(h.tx x hx).1.mono h1 h2,(h.tx x hx).2⟩,h.ps.mono h1 h2,h.pC,fun q hq=>Pa.rd.mono (h.pa q hq) h1 h2,Co.rd.mono h.co h1 h2,Gr.rd.mono h.gr h1 h2⟩
theorem Hp.rdM {α:Type} {Y:fq α} {w0 w:World} {L:List (Nat×Obj)} {F:List cB} {lo hi:Nat} {A:Option Addr} {es:List α} (H:Hp w0 w L F) (h:dU Y lo hi A es∈F):Rd Y 0 w.heap.size A es w:=by
 obtain⟨h1,h2,-⟩:=H.facts _ h
 exact Rd.mono h1 (bG _) h2
theorem Bw.into2 {w0 w w2:World} {bb gP:Nat} {b:Bk} {uP:Array Value} {Ls Lo K:List (Nat×Obj)} {F F2:List cB} (B:Bw w0 w bb b gP uP Ls Lo K F) (X:List (Nat×Obj)) (H:Hp w0 w2 (X++((bb,.cells b.c.toArray bK (0,0))::(gP,.cells uP bF (0,0))::(Ls++(Lo++K)))) F2) (hF: ∀ f∈F,f∈F2):Bw w0 w2 bb b gP uP Ls Lo (X++K) F2:=
 ⟨B.pA,B.row,B.sn,B.own,hF _ B.co,hF _ B.gr,fun q hq=>hF _ (B.ps q hq),H.perm (PP [(bb,_),(gP,_)] Ls Lo X K)⟩
theorem QA (A Ls Lo oL K:List (Nat×Obj)):(A++(oL++(Ls++(Lo++K)))).Perm (A++(Ls++(Lo++(oL++K)))):=by
 refine List.Perm.append_left A ?_
 rw[show Ls++(Lo++(oL++K))=(Ls++Lo)++(oL++K) by simp,show Ls++(Lo++K)=(Ls++Lo)++K by simp]
 exact gb oL (Ls++Lo) K
structure Qf (w0 w:World) (W0:Wa) (acts:List Act) (A0:Option Addr) (bb:Nat) (K:List (Nat×Obj)) (i:Nat) (b:Bk) (xs:List Aq) (gP:Nat) (uP:Array Value) (Ls Lo:List (Nat×Obj)) (oA:Option Addr) (oC:Nat) (oL:List (Nat×Obj)) (F:List cB):Prop where
 le:i<=acts.length
 run:m6 W0 (acts.take i) (xs.map Aq.x) b.a
 B:Bw w0 w bb b gP uP Ls Lo (oL++K) F
 own:gz Ql (.slice oA xs.length oC) eg xs oL
 tx: ∀ x∈xs,x.x.texts.length<=x.c/\ ∃ lo hi,w0.heap.size<=lo/\dU nz lo hi x.A x.x.texts∈F
 ac:dU si 0 w0.heap.size A0 acts∈F
theorem Rb (bb gP:Nat×Obj) (Ls Lo oL K:List (Nat×Obj)):(bb::(K++(gP::(Ls++(Lo++oL))))).Perm (bb::gP::(Ls++(Lo++(oL++K)))):=by
 rw[show Ls++(Lo++(oL++K))=(Ls++(Lo++oL))++K by simp]
 refine ai _ ?_
 exact(xQ (l₁:=K) (l₂:=gP::(Ls++(Lo++oL))))
theorem Qf.rd {w0 w w2:World} {W0:Wa} {acts:List Act} {A0:Option Addr} {bb:Nat} {K:List (Nat×Obj)} {i:Nat} {b:Bk} {xs:List Aq} {gP:Nat} {uP:Array Value} {Ls Lo:List (Nat×Obj)} {oA:Option Addr} {oC:Nat} {oL:List (Nat×Obj)} {F F2:List cB} (Ii:Qf w0 w W0 acts A0 bb K i b xs gP uP Ls Lo oA oC oL F) (X:List (Nat×Obj)) (H:Hp w0 w2 (X++((gP,.cells uP bF (0,0))::(Ls++(Lo++oL)))) F2) (hF: ∀ f∈F,f∈F2):(Rn.mk xs oA oC b).rd w0.heap.size w2.heap.size w2:=by
 have H1:=H.forget (L':=oL) (((cr Lo oL).trans (cr Ls _)).trans ((aY _ _).trans (cr X _))) (fun _ h=>h)
 have H2:=H.forget (L':=[(gP,.cells uP bF (0,0))]) (((List.cons_sublist_cons.2 (vT _))).trans (cr X _)) (fun _ h=>h)
 obtain⟨A,c,e1,e2,-⟩:=Ii.own.form
 cases e1
 have hg:=H2.ge (i:=0) Z
 have hl:=H2.lt (i:=0) Z
 refine⟨Ii.own.rd (K:=[]) (M:=[]) (by simpa using H1),e2,fun x hx=> ?_,?_,Ii.B.row.le,fun q hq=> ?_,?_,?_⟩
 obtain⟨z1,lo,hi,z2,z3⟩:=Ii.tx x hx
 obtain⟨h1,h2,-⟩:=H.facts _ (hF _ z3)
 exact⟨Rd.mono h1 z2 h2,z1⟩
 have:=(Ii.B.row.rd (H2.ent (i:=0) Z)).mono hg (Nat.succ_le_of_lt hl)
 rw[<-Ii.B.pA]at this
 exact this
 obtain⟨h1,h2,-⟩:=H.facts _ (hF _ (Ii.B.ps q hq))
 exact Pa.rd.mono h1.2 h1.1 h2
 obtain⟨h1,h2,-⟩:=H.facts _ (hF _ Ii.B.co)
 exact Co.rd.mono h1.2 h1.1 h2
 obtain⟨h1,h2,-⟩:=H.facts _ (hF _ Ii.B.gr)
 exact Gr.rd.mono h1.2 h1.1 h2
theorem JK {es:List cz} {n st a most b:Nat} {out:List ByteArray} (h:BX es n st a most out b):out.length<=most:=h.2.2.2.1
theorem IG {w:Wa} {a:Act} {w':Wa} {x:An} (h:tG w a w' x) (hn:a.kind=19->a.n<=20) (h17:1<=a.kind):x.texts.length<=20:=by
 cases h with
 |poll x h1 h2=>
  cases h2 with
  |no=>exact bG _
  |yes p x h3 h4 h5=>
   cases h5 with
   |none=>exact bG _
   |range=>exact bG _
   |ok l r st out b g1 g2 g3 g4 g5=>have:=JK g5;have:=hn h1;show out.length<=20;omega
 |other h1=>
  have:(oV w a).2.texts=[]:=by
   obtain⟨a1,a2,a3,a4,a5,a6,a7,a8⟩:=pY a w
   rcases Classical.em (a.kind=1)with h|h
   rw[a1 h];exact yX ..
   rcases Classical.em (a.kind=2)with h|h
   rw[a2 h];exact xE ..
   rcases Classical.em (a.kind=3∨a.kind=4)with h|h
   rw[a3 h];exact yK ..
   rcases Classical.em (a.kind=5)with h|h
   rw[a4 h];exact vI ..
   rcases Classical.em (a.kind=6)with h|h
   rw[a5 h];exact yS ..
   rcases Classical.em (a.kind=7)with h|h
   rw[a6 h];rfl
   rcases Classical.em (8<=a.kind/\a.kind<=15)with h|h
   rw[a7 h];exact yN ..
   rw[a8 I];exact AH ..
  rw[this];exact bG _
theorem Px {np nr few:Nat} {wt:Int} {acts:List Act} {A0:Option Addr} {c0:Nat} (w:World) (q1:1<=np) (q4:np<=4) (n1:1<=nr) (n5:nr<=5) (f1:1<=few) (f2:few<=nr) (t1:1<=wt) (t2:wt<=1000) (hr:Rd si 0 w.heap.size A0 acts w) (hl:acts.length<=400) (hg: ∀ a∈acts,qy np nr a):dh aa EA [.agg #[J (np:Nat),J (nr:Nat),J (few:Nat),J wt],.slice A0 acts.length c0] w fun v w2=> ∃ r:Rn,v=r.v/\m6 (ow np nr few wt) acts (r.xs.map Aq.x) r.b.a/\r.rd w.heap.size w2.heap.size w2/\Below w.heap.size w w2:=by
 refine aE CE Z Z ?_
 have H:=Hp.startRd hr
 show CW _ _ _ _ (args [.agg #[J (np:Nat),J (nr:Nat),J (few:Nat),J wt],.slice A0 acts.length c0]) w
 refine W<|Zr<|f7 H Z Z fun w1 b2 H=>G (Ws Z)<|eP H qL Z fun w2 b5 H=>G (Wi Z)<|U<|W<|Zr<|G (Zw sg H 1 Z Z Z)<|ch zD (K5 w _ H.size q1 q4 n1 n5 f1 f2 t1 t2) Z Z ?_
 rintro _ w3 ⟨⟨ps,pA,pC,co,clo,chi,gr,glo,ghi,sns,snA,snC⟩,gP,uP,F1,rfl,hba,⟨hpA,row,⟨hs1,hs2,hs3⟩,hco,hgr,hps,hlo1,H1⟩⟩
 dsimp only at hpA row hs1 hs2 hs3 hco hgr hps
 subst hpA;subst hs1;subst hs2;subst hs3
 replace H:=H.joinF H1 hlo1;clear H1
 refine G (Yu Z)<|G (Xa Z Z)<|G (Xi Z Z)<|eP H qL Z fun w4 b7 H=>bo H 0 (#[.slice (Qd gP) ps.length pC,J (co.clock),J (co.next),J (co.wait),.slice co.A co.txs.length co.cap,J (gr.clock),J (gr.wait),J (gr.gen),.slice gr.mA gr.ms.length gr.mC,.slice gr.oA gr.os.length gr.oC,.slice none (([]:List Sn).length) 0]) nA Z Z Z Z Z N N fun w5 H=>G (Wi Z)<|U<|W<|W<|Zr<|G (Yi Z)<|G (bZ Z Z (by decide))<|U<|ZF Z<|Zk<|W<|W<|Zr<|G (Ys Z)<|G (br AO Z)<|G (eB Z Z I)<|U<|ZF Z<|Zk<|W<|Zr<|G (Zw nZ H 0 Z Z Z)<|G (bg (cs:= #[.slice (Qd gP) ps.length pC,J (co.clock),J (co.next),J (co.wait),.slice co.A co.txs.length co.cap,J (gr.clock),J (gr.wait),J (gr.gen),.slice gr.mA gr.ms.length gr.mC,.slice gr.oA gr.os.length gr.oC,.slice none (([]:List Sn).length) 0]) Jz KZ N)<|f7 H Z Z fun w6 b29 H=>G (Wp Z)<|U<|W<|Zr<|G (Ws Z)<|U<|W<|W<|Zr<|G (Ys Z)<|G (br AO Z) ?_
 refine G (Yi Z)<|U<|Zb ?_
 obtain⟨K3,hK3⟩: ∃ l:List (Nat×Obj),([(b7,.cells #[.slice (Qd gP) ps.length pC,J (co.clock),J (co.next),J (co.wait),.slice co.A co.txs.length co.cap,J (gr.clock),J (gr.wait),J (gr.gen),.slice gr.mA gr.ms.length gr.mC,.slice gr.oA gr.os.length gr.oC,.slice none (([]:List Sn).length) 0] ra (0,0)),(b5,.cells #[.slice none 0 0,J (0),J (0),J (0),.slice none 0 0,J (0),J (0),J (0),.slice none 0 0,.slice none 0 0,.slice none 0 0] ra (0,0)),(b2,.cells #[J (((np:Nat):Int)),J (((nr:Nat):Int)),J (((few:Nat):Int)),J (wt)] m5 (0,0))]:List (Nat×Obj))=l:=⟨_,rfl⟩
 refine cD (τ:=Nat×Bk×List Aq×Nat×Array Value×List (Nat×Obj)×List (Nat×Obj)×Option Addr×Nat×List (Nat×Obj)×List cB) [10,12,13,32,33,34,35,36,37,38,39,40,41,42,43,44,45,46,47] (fun(i,_,xs,_,_,_,_,oA,oC,_,_)=>[(32,J (i:Nat)),(10,.slice oA xs.length oC)]) (fun(i,b,xs,gP,uP,Ls,Lo,oA,oC,oL,F') w'=>Qf w w' (ow np nr few wt) acts A0 b29 K3 i b xs gP uP Ls Lo oA oC oL F') (fun(i,_)=>acts.length-i) (0,⟨ps,some ⟨gP,0,none⟩,pC,co,clo,chi,gr,glo,ghi,[],none,0⟩,[],gP,uP,[],[],none,0,[],_) (by subst hK3;exact⟨bG _,by rw[hba];exact .nil _,⟨rfl,row,gz.nil,rfl,cj _ hco,cj _ hgr,fun q hq=>cj _ (hps q hq),H.perm (ai _ (am _ _ _))⟩,gz.nil,by simp,az ..⟩) (li Z Z) ?_
 rintro⟨i,b,xs,gP1,uP1,Ls,Lo,oA,oC,oL,F'⟩ ρ1 w7 Ii
 show CW _ _ _ _ (dH (gZ _ _ ρ1) [(32,J (i:Nat)),(10,.slice oA xs.length oC)]) w7
 have hile:=Ii.le
 have H:=Ii.B.H.learnOld (dU si 0 w.heap.size A0 acts) (Ii.B.H.facts _ Ii.ac).1 (ao _)
 have hxl:xs.length=i:=by have:=Ii.run.len;rwa[bJ,aI,bu hile]at this
 obtain⟨M',-,hwi⟩:=LH Ii.run (IZ n1 n5 f1 f2 t1 t2) (by rw[aI];omega) q4 (fun a ha=>hg a (zi ha))
 rw[cJ,aI,bu hile]at hwi
 refine W<|Zr ?_
 refine cW (cK Z Z) Z Z Z (fun h33=> ?_) (fun h33=> ?_)
 ·
  refine U<|W<|ZT Z<|Zk<|W<|Zb<|W ?_
  obtain⟨a,ha⟩: ∃ a,acts[i]? =some a:=⟨_,ah I⟩
  refine Zr<|qB H 0 Z uK Z Z I I Z fun bq8 o8 x8 e8=> ?_
  obtain rfl:a=x8:=by have:=e8.at_;rw[ha]at this;exact ba this
  refine G (j7 (xs:=Act.c a) dQ Z Z e8.cl)<|eP H ig Z fun w9 b12 H=>bo H 0 (#[J (a.kind),.string (a.name),J (a.part),J (a.n),J (a.m),.string (a.text),J (a.lost)]) iV Z Z Z Z Z N N fun w10 H=>U<|W<|Zr<|G (Yp Z)<|G (Zw dQ H 0 Z Z Z)<|ch ux (Qc (Ii.B.into2 [(b12,_)] H (fun f hf=>aj _ hf)) hwi I q1 q4 (hg a (ab ha))) Z Z ?_
  rintro _ w11 ⟨b2,x2,A9,c9,lo9,hi9,hA9,rfl,hc9,gP9,uP9,Ls9,Lo9,F9,B9,hF9⟩
  replace H:=B9.out (X:=[(b12,_)])
  refine eP H dr Z fun w12 b13 H=>bo H 0 (#[J (x2.code),J (x2.n),.slice A9 x2.texts.length c9]) aP Z Z Z Z Z N N fun w13 H=>U<|W<|Zr<|G (Zf y9 Z)<|G (Zd jt H 0 Z Z Z)<|ch nV (zx x2.texts A9 c9 _ (Hp.rdM H (hF9 _ (az ..))) (by have:=IG hA9 (fun h=>((hg a (ab ha)).poll h).2) (hg a (ab ha)).kind.1;omega)) Z Z ?_
  have hz41:=H.size
  rintro _ w14 ⟨A41,c41,rfl,hc41,hr41,hb41⟩;replace H:=H.learnRd hb41 hr41;clear hr41 hb41
  refine G (Zf y9 Z)<|bo H 0 (#[J (x2.code),J (x2.n),.slice A41 x2.texts.length c41]) Fv Z Z Z Z Z N N fun w15 H=>U<|Zr<|G (Ys Z)<|G (Zw aN H 0 Z Z Z)<|s9 (vs:=[.agg #[J (x2.code),J (x2.n),.slice A41 x2.texts.length c41]]) H iB dr Z Z Z Z Z Z fun w16 b45 H=> ?_
  replace H:=Hp.perm H (QA [(b45,_),(b13,_),(b12,_),(b29,_),(gP9,_)] Ls9 Lo9 oL K3)
  refine vP (Y:=Ql) IE (K:=[(b45,_),(b13,_),(b12,_),(b29,_),(gP9,_)]) (L:=oL) (M:=Ls9++(Lo9++K3)) H Ii.own (es:=xs) (news:=[(⟨x2,A41,c41⟩:Aq)]) Z Z Z (wz.row (m:=1) (sz:=Ql.sz) (H.ent (i:=0) Z) Z) (by simp only[bO];omega) Z ?_
  intro A5 c5 w17 L5 h5 h5m ho5 H
  replace H:=Hp.perm H (QA [(b45,_),(b13,_),(b12,_),(b29,_),(gP9,_)] Ls9 Lo9 L5 K3).symm
  refine G (Ws Z)<|U<|Zr<|G (bw Z Z I I)<|G (Yi Z)<|U ?_
  exact⟨(i+1,b2,xs++[(⟨x2,A41,c41⟩:Aq)],gP9,uP9,Ls9,Lo9,A5,c5,L5,_),⟨by omega,by rw[eu ha,bl];exact Ii.run.snoc hA9,Bw.mk B9.pA B9.row B9.sn B9.own (aj _ B9.co) (aj _ B9.gr) (fun q hq=>aj _ (B9.ps q hq)) (H.forget (cr [(b45,_),(b13,_),(b12,_)] _) (fun _ h=>h)),ho5,fun x hx=>(by rcases ap.1 hx with hx|hx;obtain⟨z1,lo,hi,z2,z3⟩:=Ii.tx x hx;exact⟨z1,lo,hi,z2,aj _ (hF9 _ (aj _ (aj _ z3)))⟩;rw[aq.1 hx];exact⟨hc41,_,_,hz41,az ..⟩),aj _ (hF9 _ (aj _ (az ..)))⟩,li Z Z,Qg,by show acts.length- (i+1)<acts.length-i;omega⟩
 ·
  refine U<|W<|ZF Z<|Zx<|W ?_
  obtain rfl:i=acts.length:=by omega
  have hrun:=Ii.run
  rw[bN]at hrun
  subst hK3
  obtain⟨ps2,pA2,pC2,co2,clo2,chi2,gr2,glo2,ghi2,sns2,snA2,snC2⟩:=b
  replace H:Hp w w7 ((b29,.cells #[.slice pA2 ps2.length pC2,J (co2.clock),J (co2.next),J (co2.wait),.slice co2.A co2.txs.length co2.cap,J (gr2.clock),J (gr2.wait),J (gr2.gen),.slice gr2.mA gr2.ms.length gr2.mC,.slice gr2.oA gr2.os.length gr2.oC,.slice snA2 sns2.length snC2] bK (0,0))::(b7,.cells #[.slice (Qd gP) ps.length pC,J (co.clock),J (co.next),J (co.wait),.slice co.A co.txs.length co.cap,J (gr.clock),J (gr.wait),J (gr.gen),.slice gr.mA gr.ms.length gr.mC,.slice gr.oA gr.os.length gr.oC,.slice none (([]:List Sn).length) 0] ra (0,0))::(b5,.cells #[.slice none 0 0,J (0),J (0),J (0),.slice none 0 0,J (0),J (0),J (0),.slice none 0 0,.slice none 0 0,.slice none 0 0] ra (0,0))::(b2,.cells #[J (((np:Nat):Int)),J (((nr:Nat):Int)),J (((few:Nat):Int)),J (wt)] m5 (0,0))::(gP1,.cells uP1 bF (0,0))::(Ls++(Lo++oL))) (dU si 0 w.heap.size A0 acts::F'):=H.perm (Rb (b29,_) (gP1,_) Ls Lo oL [(b7,_),(b5,_),(b2,_)])
  refine bA cd [0,1,2,3,4,5] [6,7] [] [0,1,2,3,5] (sp []) N N N N Nq (cI _) ?_
  refine aw Z Z Z Z Z (fun w' hw'=>Ys Z)<|aw Z Z Z Z Z (fun w' hw'=>Yp Z)<|aw Z Z Z Z Z (fun w' hw'=>aJ Z)<|aw Z Z Z Z Z (fun w' hw'=>Zf aX Z)<|aw Z Z Z Z Z (fun w' hw'=>jL nZ Z ((H.later hw').ent (i:=0) Z) Z)<|aw Z Z Z Z Z (fun w' hw'=>Ws Z)<|aV ?_
  intro w18 hw' hF
  replace H:=H.later hw';clear hw' hF
  refine bo H 2 (#[.slice pA2 ps2.length pC2,J (co2.clock),J (co2.next),J (co2.wait),.slice co2.A co2.txs.length co2.cap,J (gr2.clock),J (gr2.wait),J (gr2.gen),.slice gr2.mA gr2.ms.length gr2.mC,.slice gr2.oA gr2.os.length gr2.oC,.slice snA2 sns2.length snC2]) nA Z Z Z Z Z N N fun w19 H=>G (Wi Z)<|U<|Zt ?_
  exact MO (v0:=.slice oA xs.length oC) (cs1:= #[.slice pA2 ps2.length pC2,J (co2.clock),J (co2.next),J (co2.wait),.slice co2.A co2.txs.length co2.cap,J (gr2.clock),J (gr2.wait),J (gr2.gen),.slice gr2.mA gr2.ms.length gr2.mC,.slice gr2.oA gr2.os.length gr2.oC,.slice snA2 sns2.length snC2]) (v2:=J 0) Z Z nZ Z (H.ent (i:=2) Z) Z Z ⟨⟨xs,oA,oC,⟨ps2,pA2,pC2,co2,clo2,chi2,gr2,glo2,ghi2,sns2,snA2,snC2⟩⟩,rfl,hrun,Ii.rd [(b29,_),(b7,_),(b5,_),(b2,_)] H (fun f hf=>aj _ hf),H.below⟩
/-- an act that the laws make -/
structure zj (np nr:Nat) (hard:Bool) (a:Act):Prop where
 g:qy np nr a
 calm:hard=false->(a.kind<=9∨16<=a.kind)/\a.kind≠1/\a.lost=0
 txt:a.text=⟨#[]⟩∨ ∃ n,a.text=vv n
theorem i9 {np nr:Nat} {hard:Bool} {k pt n m lo:Int} {nm t:ByteArray} (h:(1<=k/\k<=20/\k≠17)/\(0<=pt/\pt<np)/\(0<=n/\n<=1000)/\(8<=k->k<=15->n<nr)/\(k=5->n<=1)/\(k=19->1<=n/\n<=20)/\(0<=m/\m<=1000)/\(0<=lo/\lo<=2)) (hh:hard=false->(k<=9∨16<=k)/\k≠1/\lo=0) (hn:(k=1∨k=16∨k=18∨k=19∨k=20)->bL nm=true) (ht:t=⟨#[]⟩∨ ∃ n,t=vv n):zj np nr hard ⟨k,nm,pt,n,m,t,lo⟩:=by
 obtain⟨h1,h2,h3,h4,h5,h6,h7,h8⟩:=h
 refine⟨⟨h1,hn,h2,h3,h4,h5,h6,h7,?_,h8⟩,hh,ht⟩
 rcases ht with ht|⟨x,ht⟩
 show t.size<=40;rw[ht];decide
 show t.size<=40;rw[ht];exact aU (Jo x) (by decide)
def kQ (p:Nat):Act:=⟨13,⟨#[]⟩,p,0,0,⟨#[]⟩,0⟩
def AZ (s:ByteArray):Act:=⟨1,s,0,0,0,⟨#[]⟩,0⟩
def HT (s:ByteArray):Act:=⟨16,s,0,0,0,⟨#[]⟩,0⟩
def gX (n:Nat):List Act:=(B4 n).map kQ
def mH (np:Nat):List Act:=gX np++[AZ (ov 0),AZ (ov 1),HT (ov 2)]
theorem GK (n:Nat):gX (n+1)=gX n++[kQ n]:=by unfold gX;rw[List.range_succ,bl];rfl
theorem nT (n:Nat):(gX n).length=n:=by simp[gX]
def Ek:Nat->Int
 |0=>11
 |1=>13
 |_=>1
theorem t5 {k:Nat} (h:k<3):(qm [J 11,J 13,J 1]).toArray[0+k*1]? =some (J (Ek k)):=by
 rcases k with _|_|_|k<;>first|rfl|omega
theorem AT (k:Nat):Ek k=11∨Ek k=13∨Ek k=1:=by
 rcases k with _|_|k
 exact .inl Z
 exact .inr (.inl Z)
 exact .inr (.inr Z)
theorem LD (a b:Int) (w:World) (ha:i64 a) (hb:i64 b):dh aa oy [J a,J b] w fun v w2=>v=.agg #[J (1+(pk a 3:Nat):Int),J (1+(pk b 3:Nat):Int),J (1+(pk a (1+pk b 3):Nat):Int),J (5+(pk b 20:Nat):Int)]/\Below w.heap.size w w2:=by
 refine aE tC Z Z ?_
 have H:=Hp.start w
 have p1:=iZ a (show 0<3 by omega)
 have p2:=iZ b (show 0<3 by omega)
 have p3:=iZ a (show 0<1+pk b 3 by omega)
 have p4:=iZ b (show 0<20 by omega)
 refine W<|Zr<|eP H DN Z fun w1 b4 H=>U<|W<|Zr<|G (Yi Z)<|ch aG (di b (3) _ hb.1 hb.2 I I) Z Z ?_
 rintro _ w2 ⟨rfl,hb⟩;replace H:=H.later hb;clear hb
 refine G (bw Z Z I I)<|G (Wi Z)<|U<|W<|Zr<|G (Yi Z)<|ch aG (di a (3) _ ha.1 ha.2 I I) Z Z ?_
 rintro _ w3 ⟨rfl,hb⟩;replace H:=H.later hb;clear hb
 refine G (bw Z Z I I)<|G (Yi Z)<|G (Yi Z)<|G (Yi Z)<|ch aG ((by have hA:=di a (1+pk b 3) w3 ha.1 ha.2 I I;rw[show((1+pk b 3:Nat):Int)=(1:Int)+(pk b 3:Nat) by omega]at hA;exact hA)) Z Z ?_
 rintro _ w4 ⟨rfl,hb⟩;replace H:=H.later hb;clear hb
 refine G (bw Z Z I I)<|G (Yi Z)<|ch aG (di b (20) _ hb.1 hb.2 I I) Z Z ?_
 rintro _ w5 ⟨rfl,hb⟩;replace H:=H.later hb;clear hb
 refine G (bw Z Z I I)<|G (bg (cs:= #[J (1+(((pk a (3):Nat):Int))),J (1+(((pk b (3):Nat):Int))),J (1+(((pk a (1+pk b 3):Nat):Int))),J (5+(((pk b (20):Nat):Int)))]) Lw DN N)<|bo H 0 (#[J (1+(((pk a (3):Nat):Int))),J (1+(((pk b (3):Nat):Int))),J (1+(((pk a (1+pk b 3):Nat):Int))),J (5+(((pk b (20):Nat):Int)))]) C9 Z Z Z Z Z N N fun w6 H=>U<|Zt ?_
 exact eS (cs0:= #[J (1+(pk a 3:Nat):Int),J (1+(pk b 3:Nat):Int),J (1+(pk a (1+pk b 3):Nat):Int),J (5+(pk b 20:Nat):Int)]) Z sg Z (H.ent (i:=0) Z) Z ⟨rfl,H.below⟩
def t7 (j:Nat):List Act:=(B4 j).map fun k=>AZ (ov k)
theorem HV (np j:Nat):gX np++t7 j++[AZ (ov j)]=gX np++t7 (j+1):=by unfold t7;rw[List.range_succ,bl,aD];rfl
theorem LU (np:Nat):gX np++t7 2++[HT (ov 2)]=mH np:=by rw[aD];rfl
theorem Mo {k:Nat} (h:k<2):(qm [.string ⟨#[97,110,110]⟩,.string ⟨#[98,111,98]⟩]).toArray[0+k*1]? =some (.string (ov k)):=by
 rcases k with _|_|k<;>first|rfl|omega
theorem Q2 {a:Int}:i64 ((pk a 2:Nat):Int):=by
 have:=iZ a (show 0<2 by omega)
 exact⟨by omega,by omega⟩
theorem OV {np nr most:Nat} {few wt:Int} {hard:Bool} (l:List II) (A0:Option Addr) (c0:Nat) (w:World) (p1:1<=np) (p4:np<=4) (n1:1<=nr) (n5:nr<=5) (hm:most<=400) (hr:Rd D9 0 w.heap.size A0 l w) (hok: ∀ r∈l,r.ok):dh aa vh [.slice A0 l.length c0,.agg #[J (((np:Nat):Int)),J (((nr:Nat):Int)),J (few),J (wt)],J (most:Nat),.bool hard] w fun v w2=> ∃ (body:List Act) (A:Option Addr) (c:Nat) (L:List (Nat×Obj)),v=.slice A (mH np++body).length c/\body.length<=most/\(∀ a∈body,zj np nr hard a)/\gz si (.slice A (mH np++body).length c) gj (mH np++body) L/\Hp w w2 L []:=by
 refine aE ud Z Z ?_
 have H:=Hp.startRd hr
 show CW _ _ _ _ (args [.slice A0 l.length c0,.agg #[J (((np:Nat):Int)),J (((nr:Nat):Int)),J (few),J (wt)],J (most:Nat),.bool hard]) w
 refine W<|Zr<|f7 H Z Z fun w1 b5 H=>G (Ws Z)<|U<|W<|Zr<|G (Ws Z)<|U<|W<|W<|Zr<|G (Zf qn Z)<|G (Zd ak H 0 Z Z Z)<|G (Yi Z)<|U<|Zb ?_
 refine cD (τ:=Nat×Option Addr×Nat×List (Nat×Obj)) [9,10,20,21,22,23,24,25,26,27,28] (fun(i,A,c,_)=>[(20,J (i:Nat)),(9,.slice A (gX i).length c)]) (fun(i,A,c,L) w'=>i<=np/\gz si (.slice A (gX i).length c) gj (gX i) L/\Hp w w' ((b5,.cells #[J (((np:Nat):Int)),J (((nr:Nat):Int)),J (few),J (wt)] m5 (0,0))::(L++[])) ([dU D9 0 w.heap.size A0 l])) (fun(i,_)=>np-i) (0,none,0,[]) ⟨bG _,gz.nil,H⟩ (li Z Z) ?_
 rintro⟨i,A,c,L⟩ ρ1 w2 ⟨hi,ho,H⟩
 show CW _ _ _ _ (dH (gZ _ _ ρ1) [(20,J (i:Nat)),(9,.slice A (gX i).length c)]) w2
 refine W<|Zr ?_
 refine cW (cK Z Z) Z Z Z (fun h21=> ?_) (fun h21=> ?_)
 refine U<|W<|ZT Z<|Zk<|W<|Zb<|W<|Zr<|G (Yi Z)<|G (Wi Z)<|U<|Zr<|G (Ys Z)<|G (Yi Z)<|G (bg (cs:= #[J (13),.string (⟨#[]⟩),J (((i:Nat):Int)),J (0),J (0),.string (⟨#[]⟩),J (0)]) gR ig N)<|s9 (vs:=[.agg #[J (13),.string (⟨#[]⟩),J (((i:Nat):Int)),J (0),J (0),.string (⟨#[]⟩),J (0)]]) H uK ig Z Z Z Z Z Z fun w3 b26 H=>vP (Y:=si) xI (K:=[(b26,_),(b5,_)]) (L:=L) (M:=[]) H ho (es:=gX i) (news:=[kQ i]) Z Z Z (wz.row (m:=1) (sz:=si.sz) (H.ent (i:=0) Z) Z) (by simp only[bO];rw[nT];omega) Z ?_
 intro A5 c5 w4 L5 h5 h5m ho5 H
 rw[<-GK]at ho5 h5⊢
 refine G (Ws Z)<|U<|Zr<|G (bw Z Z I I)<|G (Yi Z)<|U ?_
 exact⟨(i+1,A5,c5,L5),⟨by omega,ho5,H.forget (.cons _ (ar _)) (fun _ h=>h)⟩,li Z Z,Qg,by show np- (i+1)<np-i;omega⟩
 refine U<|W<|ZF Z<|Zx<|W<|W<|Zr<|s9 (vs:=[.string (⟨#[97,110,110]⟩),.string (⟨#[98,111,98]⟩)]) H iy wH Z Z Z Z Z Z fun w5 b29 H=>G (br l5 Z)<|G (Yi Z)<|U<|Zb ?_
 obtain rfl:np=i:=by omega
 refine cD (τ:=Nat×Option Addr×Nat×List (Nat×Obj)) [9,12,31,32,33,34,35,36,37,38,39,40] (fun(j,A,c,_)=>[(31,J (j:Nat)),(9,.slice A (gX np++t7 j).length c)]) (fun(j,A,c,L) w'=>j<=2/\gz si (.slice A (gX np++t7 j).length c) gj (gX np++t7 j) L/\Hp w w' ((b29,.cells #[.string (⟨#[97,110,110]⟩),.string (⟨#[98,111,98]⟩)] kL (0,0))::(b5,.cells #[J (((np:Nat):Int)),J (((nr:Nat):Int)),J (few),J (wt)] m5 (0,0))::(L++[])) ([dU D9 0 w.heap.size A0 l])) (fun(j,_)=>2-j) (0,A,c,L) ⟨by omega,by show gz si (.slice A (gX np++[]).length c) gj (gX np++[]) L;rw[aZ];exact ho,H⟩ (li Z (by show _=Value.slice A (gX np++[]).length c;rw[aZ];rfl)) ?_
 rintro⟨j,A,c,L⟩ ρ1 w6 ⟨hj,ho,H⟩
 show CW _ _ _ _ (dH (gZ _ _ ρ1) [(31,J (j:Nat)),(9,.slice A (gX np++t7 j).length c)]) w6
 refine W<|Zr ?_
 refine cW (cK Z Z) Z Z Z (fun h32=> ?_) (fun h32=> ?_)
 refine U<|W<|ZT Z<|Zk<|W<|Zb<|W<|Zr<|G (tk iy Z Z I I)<|G (aW bd Z (aB (H.ent (i:=0) Z) (Mo I)))<|G (Wt Z)<|U<|Zr<|G (Ys Z)<|G (Yt Z)<|G (bg (cs:= #[J (1),.string (ov j),J (0),J (0),J (0),.string (⟨#[]⟩),J (0)]) gR ig N)<|s9 (vs:=[.agg #[J (1),.string (ov j),J (0),J (0),J (0),.string (⟨#[]⟩),J (0)]]) H uK ig Z Z Z Z Z Z fun w7 b38 H=>vP (Y:=si) xI (K:=[(b38,_),(b29,_),(b5,_)]) (L:=L) (M:=[]) H ho (es:=gX np++t7 j) (news:=[AZ (ov j)]) Z Z Z (wz.row (m:=1) (sz:=si.sz) (H.ent (i:=0) Z) Z) (by simp only[bO];rw[ay,nT];unfold t7;rw[bJ,List.length_range];omega) Z ?_
 intro A5 c5 w8 L5 h5 h5m ho5 H
 rw[HV]at ho5 h5⊢
 refine G (Ws Z)<|U<|Zr<|G (bw Z Z I I)<|G (Yi Z)<|U ?_
 exact⟨(j+1,A5,c5,L5),⟨by omega,ho5,H.forget (.cons _ (ar _)) (fun _ h=>h)⟩,li Z Z,Qg,by show 2- (j+1)<2-j;omega⟩
 refine U<|W<|ZF Z<|Zx<|W ?_
 obtain rfl:j=2:=by omega
 refine Zr<|G (Ys Z)<|G (bg (cs:= #[J (16),.string (⟨#[99,121]⟩),J (0),J (0),J (0),.string (⟨#[]⟩),J (0)]) gR ig N)<|s9 (vs:=[.agg #[J (16),.string (⟨#[99,121]⟩),J (0),J (0),J (0),.string (⟨#[]⟩),J (0)]]) H uK ig Z Z Z Z Z Z fun w9 b43 H=>vP (Y:=si) xI (K:=[(b43,_),(b29,_),(b5,_)]) (L:=L) (M:=[]) H ho (es:=gX np++t7 2) (news:=[HT (ov 2)]) Z Z Z (wz.row (m:=1) (sz:=si.sz) (H.ent (i:=0) Z) Z) (by simp only[bO];rw[ay,nT];show(np+2+1)*_<=_;omega) Z ?_
 intro A5 c5 w10 L5 h5 h5m ho5 H
 rw[LU]at ho5 h5⊢
 refine G (Ws Z)<|U<|W<|Zr<|G (Wi Z)<|U<|W<|W<|Zr<|G (Wi Z)<|U<|Zb ?_
 refine cD (τ:=Nat×List Act×Option Addr×Nat×List (Nat×Obj)) [9,14,15,16,17,45,46,47,48,49,50,51,52,53,54,55,56,57,58,59,60,61,62,63,64,65,66,67,68,69,70,71,72,73,74,75,76,77,78,79,80,81,82,83,84,85,86,87,88,89,90,91,92,93,94,95,96,97,98,99,100,101,102,103,104,105,106,107,108,109,110,111,112,113,114,115,116,117,118,119,120,121,122,123,124,125,126,127,128,129,130,131,132,133,134,135,136,137,138,139,140,141,142,143,144,145,146,147,148,149,150,151,152,153,154,155,156,157,158,159,160,161,162,163,164,165,166,167,168,169,170,171,172,173,174,175,176,177,178,179,180,181,182,183,184,185,186,187,188,189,190,191,192,193,194,195,196,197,198,199,200,201,202,203,204,205,206,207,208,209,210,211,212,213,214,215,216,217,218,219,220,221,222,223,224,225,226,227,228,229,230,231,232,233] (fun(i,es,A,c,_)=>[(14,J (i:Nat)),(9,.slice A (mH np++es).length c)]) (fun(i,es,A,c,L) w'=>i<=l.length/\i<=most/\es.length=i/\(∀ a∈es,zj np nr hard a)/\gz si (.slice A (mH np++es).length c) gj (mH np++es) L/\Hp w w' ((b29,.cells #[.string (⟨#[97,110,110]⟩),.string (⟨#[98,111,98]⟩)] kL (0,0))::(b5,.cells #[J (((np:Nat):Int)),J (((nr:Nat):Int)),J (few),J (wt)] m5 (0,0))::(L++[])) ([dU D9 0 w.heap.size A0 l])) (fun(i,_)=>l.length-i) (0,[],A5,c5,L5) ⟨bG _,bG _,rfl,by simp,by rw[aZ];exact ho5,H.forget (.cons _ (ar _)) (fun _ h=>h)⟩ (li Z (by show _=Value.slice A5 (mH np++[]).length c5;rw[aZ];rfl)) ?_
 rintro⟨i,es,A,c,L⟩ ρ1 w11 ⟨hi,him,hel,hes,ho,H⟩
 show CW _ _ _ _ (dH (gZ _ _ ρ1) [(14,J (i:Nat)),(9,.slice A (mH np++es).length c)]) w11
 refine W<|W<|Zr<|G (Yi Z)<|G (Ys Z)<|G (br Mz Z) ?_
 refine cW (cK Z Z) Z Z Z (fun h48=> ?_) (fun h48=> ?_)
 refine G (Yb Z)<|ZG<|G (Yi Z)<|ZG<|G (Yi Z)<|ZG ?_
 refine cW (cK Z Z) Z Z Z (fun h52=> ?_) (fun h52=> ?_)
 refine G (Kt Z Z)<|U<|ZT Z<|Zk<|W<|Zb<|W ?_
 obtain⟨x,hx⟩: ∃ x,l[i]? =some x:=⟨_,ah I⟩
 have hxo:=hok x (ab hx)
 obtain⟨z,hz⟩: ∃ z,(hard&&decide (((pk x.c 6:Nat):Int)=0))=z:=⟨_,rfl⟩
 have hq0:=iZ x.a (show 0<2 by omega)
 have hq1:=iZ x.c (show 0<2 by omega)
 have hq2:=iZ x.c (show 0<3 by omega)
 have hq3:=iZ x.c (show 0<4 by omega)
 have hq4:=iZ x.c (show 0<5 by omega)
 have hq5:=iZ x.c (show 0<6 by omega)
 have hq6:=iZ x.c (show 0<40 by omega)
 have hq7:=iZ x.a (show 0<nr by omega)
 have hq8:=iZ x.b (show 0<np by omega)
 have hq9:=iZ x.kind (show 0<30 by omega)
 refine Zr<|G (Ys Z)<|G (Yi Z)<|qB H 0 Z NL Z Z I I Z fun bq12 o12 x12 e12=> ?_
 obtain rfl:x=x12:=by have:=e12.at_;rw[hx]at this;exact ba this
 refine G (j7 (xs:=II.cs x) OU Z Z e12.cl)<|eP H Qm Z fun w13 b15 H=>bo H 0 (#[J (x.kind),J (x.a),J (x.b),J (x.c)]) NM Z Z Z Z Z N N fun w14 H=>U<|W ?_
 refine bA cd [0,1,4,5,6,7,2,3,8,9,10] [11] [2,3,8,10] [0,4,6,9] (sp [(2,Sp.one (J ((pk x.a 2:Nat):Int))),(3,Sp.one (.string (ov (pk ((pk x.a 2:Nat):Int) 3)))),(8,Sp.one (J ((pk x.b np:Nat):Int))),(10,Sp.blk w14.heap.size (.agg #[J 0,.string ⟨#[]⟩,J 0,J 0,J 0,.string ⟨#[]⟩,J 0]) gj)]) N N N N Nq (cI _) ?_
 refine aw Z Z Z Z Z (fun w' hw'=>Zf mV Z)<|aw Z Z Z Z Z (fun w' hw'=>aW ak Z (aB ((H.later hw').ent (i:=0) Z) Z))<|aw Z Z Z Z Z (fun w' hw'=>Zf MT Z)<|aw Z Z Z Z Z (fun w' hw'=>aW ak Z (aB ((H.later hw').ent (i:=0) Z) Z))<|aw Z Z Z Z Z (fun w' hw'=>Zf qn Z)<|aw Z Z Z Z Z (fun w' hw'=>aW ak Z (aB ((H.later hw').ent (i:=2) Z) Z))<|ic aG Z Z Z Z Z (fun w' hw'=>di x.a 2 w' hxo.2.1.1 hxo.2.1.2 I I) Z<|ic uu Z Z Z Z Z (fun w' hw'=>MB ((pk x.a 2:Nat):Int) w' Q2) Z<|ic aG Z Z Z Z Z (fun w' hw'=>di x.b np w' hxo.2.2.1.1 hxo.2.2.1.2 I I) Z<|aw Z Z Z Z Z (fun w' hw'=>bg (cs:= #[J (0),.string (ov (pk ((pk x.a 2:Nat):Int) 3)),J (((pk x.b np:Nat):Int)),J (0),J (0),.string (⟨#[]⟩),J (0)]) gR ig N)<|xG ig Z Z Z Z Z (fun w' hw'=>hw'.size) fun b16=>aV ?_
 intro w15 hw' hF
 obtain⟨hF,bq,eq,hge16,hbl16⟩:=hF;cases eq
 obtain⟨hF,-⟩:=hF
 obtain⟨hF,-⟩:=hF
 obtain⟨hF,-⟩:=hF
 have Hb:=H
 replace H:=H.adoptNew hw' hbl16 hge16
 clear hw' hF
 refine bo H 0 (#[J (0),.string (ov (pk ((pk x.a 2:Nat):Int) 3)),J (((pk x.b np:Nat):Int)),J (0),J (0),.string (⟨#[]⟩),J (0)]) iV Z Z Z Z Z N N fun w16 H=>U<|W<|W ?_
 refine eN (τ:=Unit) [70,71,72,73,74,75,76] (fun _=>[(76,.bool z)]) (fun _ w'=>Hp w w' ((b16,.cells #[J (0),.string (ov (pk ((pk x.a 2:Nat):Int) 3)),J (((pk x.b np:Nat):Int)),J (0),J (0),.string (⟨#[]⟩),J (0)] gj (0,0))::(b15,.cells #[J (x.kind),J (x.a),J (x.b),J (x.c)] vR (0,0))::(b29,.cells #[.string (⟨#[97,110,110]⟩),.string (⟨#[98,111,98]⟩)] kL (0,0))::(b5,.cells #[J (((np:Nat):Int)),J (((nr:Nat):Int)),J (few),J (wt)] m5 (0,0))::(L++[])) ([dU D9 0 w.heap.size A0 l])) ?_ ?_
 refine Zr<|G (Yb Z)<|G (Yb Z) ?_
 refine mM 71 Z (fun h71=> ?_) (fun h71=> ?_)
 refine ZG<|G (Zf lr Z)<|ZG<|G (Zd ak H 1 Z Z Z)<|ZG<|ch aG (di x.c 6 _ hxo.2.2.2.1 hxo.2.2.2.2 I I) Z Z ?_
 rintro _ w17 ⟨rfl,hb⟩;replace H:=H.later hb;clear hb
 refine ZG ?_
 refine cW (bn Z Z) Z Z Z (fun h75=> ?_) (fun h75=> ?_)
 refine G (Kt Z Z)<|U ?_
 exact⟨(),H,dP (congrArg Value.bool (by rw[<-hz];simp[h71,h75]<;>omega)),Qg⟩
 refine G (Kt Z Z)<|U ?_
 exact⟨(),H,dP (congrArg Value.bool (by rw[<-hz];simp[h71,h75]<;>omega)),Qg⟩
 refine ZN<|ZN<|ZN<|ZN<|G (N Z Z)<|U ?_
 exact⟨(),H,dP (congrArg Value.bool (by rw[<-hz];simp[h71]<;>omega)),Qg⟩
 rintro _ ρ1 w18 H
 show CW _ _ _ _ (dH (gZ _ _ ρ1) [(76,.bool z)]) w18
 refine eN (τ:=Int) [77,78,79,80,81] (fun _=>[]) (fun lo w'=>(0<=lo/\lo<=2)/\(hard=false->lo=0)/\Hp w w' ((b16,.cells #[J (0),.string (ov (pk ((pk x.a 2:Nat):Int) 3)),J (((pk x.b np:Nat):Int)),J (0),J (0),.string (⟨#[]⟩),J (lo)] gj (0,0))::(b15,.cells #[J (x.kind),J (x.a),J (x.b),J (x.c)] vR (0,0))::(b29,.cells #[.string (⟨#[97,110,110]⟩),.string (⟨#[98,111,98]⟩)] kL (0,0))::(b5,.cells #[J (((np:Nat):Int)),J (((nr:Nat):Int)),J (few),J (wt)] m5 (0,0))::(L++[])) ([dU D9 0 w.heap.size A0 l])) ?_ ?_
 refine jw Z (fun hc76=> ?_) (fun hc76=> ?_)
 refine Zr<|G (Zf mV Z)<|G (Zd ak H 1 Z Z Z)<|ch aG (di x.a 2 _ hxo.2.1.1 hxo.2.1.2 I I) Z Z ?_
 rintro _ w19 ⟨rfl,hb⟩;replace H:=H.later hb;clear hb
 refine G (bw Z Z I I)<|G (Zf jN Z)<|bo H 0 (#[J (0),.string (ov (pk ((pk x.a 2:Nat):Int) 3)),J (((pk x.b np:Nat):Int)),J (0),J (0),.string (⟨#[]⟩),J (1+(((pk x.a 2:Nat):Int)))]) bH Z Z Z Z Z N N fun w20 H=>U ?_
 exact⟨1+((pk x.a 2:Nat):Int),⟨by have:=iZ x.a (show 0<2 by omega);omega,fun hh=>(by rw[hc76,hh]at hz;cases hz),H⟩,wC,Qg⟩
 refine Zk ?_
 exact⟨0,⟨by omega,fun _=>rfl,H⟩,wC,Qg⟩
 rintro lo ρ1 w21 ⟨hlo1,hlo2,H⟩
 show CW _ _ _ _ (dH (gZ _ _ ρ1) []) w21
 refine W<|W<|Zr<|G (Zf MU Z)<|G (Zd ak H 1 Z Z Z)<|ch aG (di x.kind 30 _ hxo.1.1 hxo.1.2 I I) Z Z ?_
 rintro _ w22 ⟨rfl,hb⟩;replace H:=H.later hb;clear hb
 refine G (Wi Z)<|U ?_
 refine eN (τ:=Act) [85,86,87,88,89,90,91,92,93,94,95,96,97,98,99,100,101,102,103,104,105,106,107,108,109,110,111,112,113,114,115,116,117,118,119,120,121,122,123,124,125,126,127,128,129,130,131,132,133,134,135,136,137,138,139,140,141,142,143,144,145,146,147,148,149,150,151,152,153,154,155,156,157,158,159,160,161,162,163,164,165,166,167,168,169,170,171,172,173,174,175,176,177,178,179,180,181,182,183,184,185,186,187,188,189,190,191,192,193,194,195,196,197,198,199,200,201,202,203,204,205,206,207,208,209,210,211,212,213,214,215,216,217,218,219,220,221,222,223,224,225,226,227,228,229] (fun _=>[]) (fun a w'=>zj np nr hard a/\Hp w w' ((b16,.cells #[J (a.kind),.string (a.name),J (a.part),J (a.n),J (a.m),.string (a.text),J (a.lost)] gj (0,0))::(b15,.cells #[J (x.kind),J (x.a),J (x.b),J (x.c)] vR (0,0))::(b29,.cells #[.string (⟨#[97,110,110]⟩),.string (⟨#[98,111,98]⟩)] kL (0,0))::(b5,.cells #[J (((np:Nat):Int)),J (((nr:Nat):Int)),J (few),J (wt)] m5 (0,0))::(L++[])) ([dU D9 0 w.heap.size A0 l])) ?_ ?_
 refine Zb<|W<|Zr<|G (Yi Z) ?_
 refine cW (cK Z Z) Z Z Z (fun h103=> ?_) (fun h103=> ?_)
 refine G (Wb Z)<|U<|ZT Z<|W<|Zr<|G (Zf mW Z)<|bo H 0 (#[J (3),.string (ov (pk ((pk x.a 2:Nat):Int) 3)),J (((pk x.b np:Nat):Int)),J (0),J (0),.string (⟨#[]⟩),J (lo)]) bH Z Z Z Z Z N N fun w23 H=>U<|Zr<|G (Zf lr Z)<|G (Zd ak H 1 Z Z Z)<|ch ut (NB x.c _ hxo.2.2.2) Z Z ?_
 rintro _ w24 ⟨rfl,hb⟩;replace H:=H.later hb;clear hb
 refine G (Zf Bz Z)<|bo H 0 (#[J (3),.string (ov (pk ((pk x.a 2:Nat):Int) 3)),J (((pk x.b np:Nat):Int)),J (0),J (0),.string (vv x.c),J (lo)]) Af Z Z Z Z Z N N fun w25 H=>U ?_
 exact⟨(⟨3,ov (pk ((pk x.a 2:Nat):Int) 3),((pk x.b np:Nat):Int),0,0,vv x.c,lo⟩:Act),⟨i9 I (fun hh=>by have:=hlo2 hh;omega) (fun _=>rj _) (.inr ⟨_,rfl⟩),H⟩,wC,Qg⟩
 refine G (Wb Z)<|U<|ZF Z<|W<|Zr<|G (Yi Z) ?_
 refine cW (bn Z Z) Z Z Z (fun h111=> ?_) (fun h111=> ?_)
 refine G (Wb Z)<|U<|ZT Z<|Zr<|G (Zf mW Z)<|bo H 0 (#[J (4),.string (ov (pk ((pk x.a 2:Nat):Int) 3)),J (((pk x.b np:Nat):Int)),J (0),J (0),.string (⟨#[]⟩),J (lo)]) bH Z Z Z Z Z N N fun w26 H=>U ?_
 exact⟨(⟨4,ov (pk ((pk x.a 2:Nat):Int) 3),((pk x.b np:Nat):Int),0,0,⟨#[]⟩,lo⟩:Act),⟨i9 I (fun hh=>by have:=hlo2 hh;omega) (fun _=>rj _) (.inl Z),H⟩,wC,Qg⟩
 refine G (Wb Z)<|U<|ZF Z<|W<|Zr<|G (Yi Z) ?_
 refine cW (cK Z Z) Z Z Z (fun h115=> ?_) (fun h115=> ?_)
 refine G (Wb Z)<|U<|ZT Z<|Zr<|G (Zf mW Z)<|bo H 0 (#[J (2),.string (ov (pk ((pk x.a 2:Nat):Int) 3)),J (((pk x.b np:Nat):Int)),J (0),J (0),.string (⟨#[]⟩),J (lo)]) bH Z Z Z Z Z N N fun w27 H=>U ?_
 exact⟨(⟨2,ov (pk ((pk x.a 2:Nat):Int) 3),((pk x.b np:Nat):Int),0,0,⟨#[]⟩,lo⟩:Act),⟨i9 I (fun hh=>by have:=hlo2 hh;omega) (fun _=>rj _) (.inl Z),H⟩,wC,Qg⟩
 refine G (Wb Z)<|U<|ZF Z<|W<|Zr<|G (Yi Z) ?_
 refine cW (cK Z Z) Z Z Z (fun h119=> ?_) (fun h119=> ?_)
 refine G (Wb Z)<|U<|ZT Z<|W<|Zr<|G (Zf mW Z)<|bo H 0 (#[J (5),.string (ov (pk ((pk x.a 2:Nat):Int) 3)),J (((pk x.b np:Nat):Int)),J (0),J (0),.string (⟨#[]⟩),J (lo)]) bH Z Z Z Z Z N N fun w28 H=>U<|Zr<|G (Zf lr Z)<|G (Zd ak H 1 Z Z Z)<|ch aG (di x.c 2 _ hxo.2.2.2.1 hxo.2.2.2.2 I I) Z Z ?_
 rintro _ w29 ⟨rfl,hb⟩;replace H:=H.later hb;clear hb
 refine G (Zf eT Z)<|bo H 0 (#[J (5),.string (ov (pk ((pk x.a 2:Nat):Int) 3)),J (((pk x.b np:Nat):Int)),J (((pk x.c 2:Nat):Int)),J (0),.string (⟨#[]⟩),J (lo)]) bH Z Z Z Z Z N N fun w30 H=>U ?_
 exact⟨(⟨5,ov (pk ((pk x.a 2:Nat):Int) 3),((pk x.b np:Nat):Int),((pk x.c 2:Nat):Int),0,⟨#[]⟩,lo⟩:Act),⟨i9 I (fun hh=>by have:=hlo2 hh;omega) (fun _=>rj _) (.inl Z),H⟩,wC,Qg⟩
 refine G (Wb Z)<|U<|ZF Z<|W<|Zr<|G (Yi Z) ?_
 refine cW (cK Z Z) Z Z Z (fun h127=> ?_) (fun h127=> ?_)
 refine G (Wb Z)<|U<|ZT Z<|Zr<|G (Zf mV Z)<|G (Zd ak H 1 Z Z Z)<|ch aG (di x.a 2 _ hxo.2.1.1 hxo.2.1.2 I I) Z Z ?_
 rintro _ w31 ⟨rfl,hb⟩;replace H:=H.later hb;clear hb
 refine G (bg (cs:= #[J (6),.string (⟨#[]⟩),J (0),J (((pk x.a 2:Nat):Int)),J (0),.string (⟨#[]⟩),J (0)]) gR ig N)<|bo H 0 (#[J (6),.string (⟨#[]⟩),J (0),J (((pk x.a 2:Nat):Int)),J (0),.string (⟨#[]⟩),J (0)]) iV Z Z Z Z Z N N fun w32 H=>U ?_
 exact⟨(⟨6,⟨#[]⟩,0,((pk x.a 2:Nat):Int),0,⟨#[]⟩,0⟩:Act),⟨i9 I (fun hh=>by have:=hlo2 hh;omega) (fun h=>by omega) (.inl Z),H⟩,wC,Qg⟩
 refine G (Wb Z)<|U<|ZF Z<|W<|Zr<|G (Yi Z) ?_
 refine cW (cK Z Z) Z Z Z (fun h134=> ?_) (fun h134=> ?_)
 refine G (Wb Z)<|U<|ZT Z ?_
 refine bA cd [0,1,2,3,4,5,6,7] [8] [6] [0,2,4,7] (sp [(6,Sp.one (J ((pk x.a nr:Nat):Int)))]) N N N N Nq (cI _) ?_
 refine aw Z Z Z Z Z (fun w' hw'=>Zf dT Z)<|aw Z Z Z Z Z (fun w' hw'=>aW ak Z (aB ((H.later hw').ent (i:=0) Z) Z))<|aw Z Z Z Z Z (fun w' hw'=>Zf mV Z)<|aw Z Z Z Z Z (fun w' hw'=>aW ak Z (aB ((H.later hw').ent (i:=1) Z) Z))<|aw Z Z Z Z Z (fun w' hw'=>Zf lP Z)<|aw Z Z Z Z Z (fun w' hw'=>aW ak Z (aB ((H.later hw').ent (i:=3) Z) Z))<|ic aG Z Z Z Z Z (fun w' hw'=>di x.a nr w' hxo.2.1.1 hxo.2.1.2 I I) Z<|aw Z Z Z Z Z (fun w' hw'=>bg (cs:= #[J (8),.string (⟨#[]⟩),J (((pk x.b np:Nat):Int)),J (((pk x.a nr:Nat):Int)),J (0),.string (⟨#[]⟩),J (0)]) gR ig N)<|aV ?_
 intro w33 hw' hF
 replace H:=H.later hw';clear hw' hF
 refine bo H 0 (#[J (8),.string (⟨#[]⟩),J (((pk x.b np:Nat):Int)),J (((pk x.a nr:Nat):Int)),J (0),.string (⟨#[]⟩),J (0)]) iV Z Z Z Z Z N N fun w34 H=>U ?_
 exact⟨(⟨8,⟨#[]⟩,((pk x.b np:Nat):Int),((pk x.a nr:Nat):Int),0,⟨#[]⟩,0⟩:Act),⟨i9 I (fun hh=>by have:=hlo2 hh;omega) (fun h=>by omega) (.inl Z),H⟩,wC,Qg⟩
 refine G (Wb Z)<|U<|ZF Z<|W<|Zr<|G (Yi Z) ?_
 refine cW (cK Z Z) Z Z Z (fun h145=> ?_) (fun h145=> ?_)
 refine G (Wb Z)<|U<|ZT Z ?_
 refine bA cd [0,1,2,3,4,5,6,7] [8] [6] [0,2,4,7] (sp [(6,Sp.one (J ((pk x.a nr:Nat):Int)))]) N N N N Nq (cI _) ?_
 refine aw Z Z Z Z Z (fun w' hw'=>Zf dT Z)<|aw Z Z Z Z Z (fun w' hw'=>aW ak Z (aB ((H.later hw').ent (i:=0) Z) Z))<|aw Z Z Z Z Z (fun w' hw'=>Zf mV Z)<|aw Z Z Z Z Z (fun w' hw'=>aW ak Z (aB ((H.later hw').ent (i:=1) Z) Z))<|aw Z Z Z Z Z (fun w' hw'=>Zf lP Z)<|aw Z Z Z Z Z (fun w' hw'=>aW ak Z (aB ((H.later hw').ent (i:=3) Z) Z))<|ic aG Z Z Z Z Z (fun w' hw'=>di x.a nr w' hxo.2.1.1 hxo.2.1.2 I I) Z<|aw Z Z Z Z Z (fun w' hw'=>bg (cs:= #[J (9),.string (⟨#[]⟩),J (((pk x.b np:Nat):Int)),J (((pk x.a nr:Nat):Int)),J (0),.string (⟨#[]⟩),J (0)]) gR ig N)<|aV ?_
 intro w35 hw' hF
 replace H:=H.later hw';clear hw' hF
 refine bo H 0 (#[J (9),.string (⟨#[]⟩),J (((pk x.b np:Nat):Int)),J (((pk x.a nr:Nat):Int)),J (0),.string (⟨#[]⟩),J (0)]) iV Z Z Z Z Z N N fun w36 H=>U ?_
 exact⟨(⟨9,⟨#[]⟩,((pk x.b np:Nat):Int),((pk x.a nr:Nat):Int),0,⟨#[]⟩,0⟩:Act),⟨i9 I (fun hh=>by have:=hlo2 hh;omega) (fun h=>by omega) (.inl Z),H⟩,wC,Qg⟩
 refine G (Wb Z)<|U<|ZF Z<|W<|Zr<|G (Yi Z) ?_
 refine cW (cK Z Z) Z Z Z (fun h156=> ?_) (fun h156=> ?_)
 refine G (Wb Z)<|U<|ZT Z ?_
 refine bA cd [0,1,2,3,4,5,6] [7] [4] [0,2,5,6] (sp [(4,Sp.one (J ((pk x.c 5:Nat):Int)))]) N N N N Nq (cI _) ?_
 refine aw Z Z Z Z Z (fun w' hw'=>Zf dT Z)<|aw Z Z Z Z Z (fun w' hw'=>aW ak Z (aB ((H.later hw').ent (i:=0) Z) Z))<|aw Z Z Z Z Z (fun w' hw'=>Zf lr Z)<|aw Z Z Z Z Z (fun w' hw'=>aW ak Z (aB ((H.later hw').ent (i:=1) Z) Z))<|ic aG Z Z Z Z Z (fun w' hw'=>di x.c 5 w' hxo.2.2.2.1 hxo.2.2.2.2 I I) Z<|aw Z Z Z Z Z (fun w' hw'=>bw Z Z I I)<|aw Z Z Z Z Z (fun w' hw'=>bg (cs:= #[J (19),.string (⟨#[99,121]⟩),J (((pk x.b np:Nat):Int)),J (1+(((pk x.c 5:Nat):Int))),J (0),.string (⟨#[]⟩),J (0)]) gR ig N)<|aV ?_
 intro w37 hw' hF
 replace H:=H.later hw';clear hw' hF
 refine bo H 0 (#[J (19),.string (⟨#[99,121]⟩),J (((pk x.b np:Nat):Int)),J (1+(((pk x.c 5:Nat):Int))),J (0),.string (⟨#[]⟩),J (0)]) iV Z Z Z Z Z N N fun w38 H=>U ?_
 exact⟨(⟨19,⟨#[99,121]⟩,((pk x.b np:Nat):Int),1+(((pk x.c 5:Nat):Int)),0,⟨#[]⟩,0⟩:Act),⟨i9 I (fun hh=>by have:=hlo2 hh;omega) (fun _=>zK) (.inl Z),H⟩,wC,Qg⟩
 refine G (Wb Z)<|U<|ZF Z<|W<|Zr<|G (Yi Z) ?_
 refine cW (bn Z Z) Z Z Z (fun h166=> ?_) (fun h166=> ?_)
 refine G (Wb Z)<|U<|ZT Z ?_
 refine bA cd [0,1,2,3,4,5,6] [7] [5] [0,1,3,6] (sp [(5,Sp.one (J ((pk x.c 6:Nat):Int)))]) N N N N Nq (cI _) ?_
 refine aw Z Z Z Z Z (fun w' hw'=>Yi Z)<|aw Z Z Z Z Z (fun w' hw'=>Zf dT Z)<|aw Z Z Z Z Z (fun w' hw'=>aW ak Z (aB ((H.later hw').ent (i:=0) Z) Z))<|aw Z Z Z Z Z (fun w' hw'=>Zf lr Z)<|aw Z Z Z Z Z (fun w' hw'=>aW ak Z (aB ((H.later hw').ent (i:=1) Z) Z))<|ic aG Z Z Z Z Z (fun w' hw'=>di x.c 6 w' hxo.2.2.2.1 hxo.2.2.2.2 I I) Z<|aw Z Z Z Z Z (fun w' hw'=>bg (cs:= #[J (20),.string (⟨#[99,121]⟩),J (((pk x.b np:Nat):Int)),J (1),J (((pk x.c 6:Nat):Int)),.string (⟨#[]⟩),J (0)]) gR ig N)<|aV ?_
 intro w39 hw' hF
 replace H:=H.later hw';clear hw' hF
 refine bo H 0 (#[J (20),.string (⟨#[99,121]⟩),J (((pk x.b np:Nat):Int)),J (1),J (((pk x.c 6:Nat):Int)),.string (⟨#[]⟩),J (0)]) iV Z Z Z Z Z N N fun w40 H=>U ?_
 exact⟨(⟨20,⟨#[99,121]⟩,((pk x.b np:Nat):Int),1,((pk x.c 6:Nat):Int),⟨#[]⟩,0⟩:Act),⟨i9 I (fun hh=>by have:=hlo2 hh;omega) (fun _=>zK) (.inl Z),H⟩,wC,Qg⟩
 refine G (Wb Z)<|U<|ZF Z<|W<|Zr<|G (Yi Z) ?_
 refine cW (bn Z Z) Z Z Z (fun h176=> ?_) (fun h176=> ?_)
 refine G (Wb Z)<|U<|ZT Z<|Zr<|G (Zf lr Z)<|G (Zd ak H 1 Z Z Z)<|ch aG (di x.c 4 _ hxo.2.2.2.1 hxo.2.2.2.2 I I) Z Z ?_
 rintro _ w41 ⟨rfl,hb⟩;replace H:=H.later hb;clear hb
 refine G (bg (cs:= #[J (7),.string (⟨#[]⟩),J (0),J (((pk x.c 4:Nat):Int)),J (0),.string (⟨#[]⟩),J (0)]) gR ig N)<|bo H 0 (#[J (7),.string (⟨#[]⟩),J (0),J (((pk x.c 4:Nat):Int)),J (0),.string (⟨#[]⟩),J (0)]) iV Z Z Z Z Z N N fun w42 H=>U ?_
 exact⟨(⟨7,⟨#[]⟩,0,((pk x.c 4:Nat):Int),0,⟨#[]⟩,0⟩:Act),⟨i9 I (fun hh=>by have:=hlo2 hh;omega) (fun h=>by omega) (.inl Z),H⟩,wC,Qg⟩
 refine G (Wb Z)<|U<|ZF Z<|W<|Zr<|G (Yi Z) ?_
 refine cW (bn Z Z) Z Z Z (fun h183=> ?_) (fun h183=> ?_)
 refine G (Wb Z)<|U<|ZT Z<|Zr<|G (Yi Z)<|G (bg (cs:= #[J (18),.string (⟨#[99,121]⟩),J (0),J (1),J (0),.string (⟨#[]⟩),J (0)]) gR ig N)<|bo H 0 (#[J (18),.string (⟨#[99,121]⟩),J (0),J (1),J (0),.string (⟨#[]⟩),J (0)]) iV Z Z Z Z Z N N fun w43 H=>U ?_
 exact⟨(⟨18,⟨#[99,121]⟩,0,1,0,⟨#[]⟩,0⟩:Act),⟨i9 I (fun hh=>by have:=hlo2 hh;omega) (fun _=>zK) (.inl Z),H⟩,wC,Qg⟩
 refine G (Wb Z)<|U<|ZF Z<|W<|Zr<|G (Yb Z)<|G (dM Z)<|G (Wb Z)<|U ?_
 refine jw Z (fun hc186=> ?_) (fun hc186=> ?_)
 refine bA cd [0,1,2,3,4,5,6,7] [8] [6] [0,2,4,7] (sp [(6,Sp.one (J ((pk x.a nr:Nat):Int)))]) N N N N Nq (cI _) ?_
 refine aw Z Z Z Z Z (fun w' hw'=>Zf dT Z)<|aw Z Z Z Z Z (fun w' hw'=>aW ak Z (aB ((H.later hw').ent (i:=0) Z) Z))<|aw Z Z Z Z Z (fun w' hw'=>Zf mV Z)<|aw Z Z Z Z Z (fun w' hw'=>aW ak Z (aB ((H.later hw').ent (i:=1) Z) Z))<|aw Z Z Z Z Z (fun w' hw'=>Zf lP Z)<|aw Z Z Z Z Z (fun w' hw'=>aW ak Z (aB ((H.later hw').ent (i:=3) Z) Z))<|ic aG Z Z Z Z Z (fun w' hw'=>di x.a nr w' hxo.2.1.1 hxo.2.1.2 I I) Z<|aw Z Z Z Z Z (fun w' hw'=>bg (cs:= #[J (9),.string (⟨#[]⟩),J (((pk x.b np:Nat):Int)),J (((pk x.a nr:Nat):Int)),J (0),.string (⟨#[]⟩),J (0)]) gR ig N)<|aV ?_
 intro w44 hw' hF
 replace H:=H.later hw';clear hw' hF
 refine bo H 0 (#[J (9),.string (⟨#[]⟩),J (((pk x.b np:Nat):Int)),J (((pk x.a nr:Nat):Int)),J (0),.string (⟨#[]⟩),J (0)]) iV Z Z Z Z Z N N fun w45 H=>U ?_
 exact⟨(⟨9,⟨#[]⟩,((pk x.b np:Nat):Int),((pk x.a nr:Nat):Int),0,⟨#[]⟩,0⟩:Act),⟨i9 I (fun hh=>by have:=hlo2 hh;omega) (fun h=>by omega) (.inl Z),H⟩,wC,Qg⟩
 refine W<|Zr<|G (Yi Z) ?_
 refine cW (bn Z Z) Z Z Z (fun h199=> ?_) (fun h199=> ?_)
 refine G (Wb Z)<|U<|ZT Z ?_
 refine bA cd [0,1,4,5,6,7,8,9,11,12,2,3,10,13,14] [15] [2,10,13] [0,3,4,6,8,11,14] (sp [(2,Sp.one (J ((pk x.c 3:Nat):Int))),(10,Sp.one (J ((pk x.a nr:Nat):Int))),(13,Sp.one (J ((pk x.c 40:Nat):Int)))]) N N N N Nq (cI _) ?_
 refine aw Z Z Z Z Z (fun w' hw'=>Zf lr Z)<|aw Z Z Z Z Z (fun w' hw'=>aW ak Z (aB ((H.later hw').ent (i:=1) Z) Z))<|aw Z Z Z Z Z (fun w' hw'=>Zf dT Z)<|aw Z Z Z Z Z (fun w' hw'=>aW ak Z (aB ((H.later hw').ent (i:=0) Z) Z))<|aw Z Z Z Z Z (fun w' hw'=>Zf mV Z)<|aw Z Z Z Z Z (fun w' hw'=>aW ak Z (aB ((H.later hw').ent (i:=1) Z) Z))<|aw Z Z Z Z Z (fun w' hw'=>Zf lP Z)<|aw Z Z Z Z Z (fun w' hw'=>aW ak Z (aB ((H.later hw').ent (i:=3) Z) Z))<|aw Z Z Z Z Z (fun w' hw'=>Zf lr Z)<|aw Z Z Z Z Z (fun w' hw'=>aW ak Z (aB ((H.later hw').ent (i:=1) Z) Z))<|ic aG Z Z Z Z Z (fun w' hw'=>di x.c 3 w' hxo.2.2.2.1 hxo.2.2.2.2 I I) Z<|aw Z Z Z Z Z (fun w' hw'=>bw Z Z I I)<|ic aG Z Z Z Z Z (fun w' hw'=>di x.a nr w' hxo.2.1.1 hxo.2.1.2 I I) Z<|ic aG Z Z Z Z Z (fun w' hw'=>di x.c 40 w' hxo.2.2.2.1 hxo.2.2.2.2 I I) Z<|aw Z Z Z Z Z (fun w' hw'=>bg (cs:= #[J (10+(((pk x.c 3:Nat):Int))),.string (⟨#[]⟩),J (((pk x.b np:Nat):Int)),J (((pk x.a nr:Nat):Int)),J (((pk x.c 40:Nat):Int)),.string (⟨#[]⟩),J (0)]) gR ig N)<|aV ?_
 intro w46 hw' hF
 replace H:=H.later hw';clear hw' hF
 refine bo H 0 (#[J (10+(((pk x.c 3:Nat):Int))),.string (⟨#[]⟩),J (((pk x.b np:Nat):Int)),J (((pk x.a nr:Nat):Int)),J (((pk x.c 40:Nat):Int)),.string (⟨#[]⟩),J (0)]) iV Z Z Z Z Z N N fun w47 H=>U ?_
 exact⟨(⟨10+(((pk x.c 3:Nat):Int)),⟨#[]⟩,((pk x.b np:Nat):Int),((pk x.a nr:Nat):Int),((pk x.c 40:Nat):Int),⟨#[]⟩,0⟩:Act),⟨i9 I (fun hh=>by rw[hh]at hc186;cases hc186) (fun h=>by omega) (.inl Z),H⟩,wC,Qg⟩
 refine G (Wb Z)<|U<|ZF Z<|W<|Zr<|G (Yi Z) ?_
 refine cW (bn Z Z) Z Z Z (fun h217=> ?_) (fun h217=> ?_)
 refine G (Wb Z)<|U<|ZT Z ?_
 refine bA cd [0,1,4,5,6,7,8,9,2,3,10,11] [12] [2,10] [0,3,4,6,8,11] (sp [(2,Sp.one (J ((pk x.c 3:Nat):Int))),(10,Sp.one (J ((pk x.a nr:Nat):Int)))]) N N N N Nq (cI _) ?_
 refine aw Z Z Z Z Z (fun w' hw'=>Zf lr Z)<|aw Z Z Z Z Z (fun w' hw'=>aW ak Z (aB ((H.later hw').ent (i:=1) Z) Z))<|aw Z Z Z Z Z (fun w' hw'=>Zf dT Z)<|aw Z Z Z Z Z (fun w' hw'=>aW ak Z (aB ((H.later hw').ent (i:=0) Z) Z))<|aw Z Z Z Z Z (fun w' hw'=>Zf mV Z)<|aw Z Z Z Z Z (fun w' hw'=>aW ak Z (aB ((H.later hw').ent (i:=1) Z) Z))<|aw Z Z Z Z Z (fun w' hw'=>Zf lP Z)<|aw Z Z Z Z Z (fun w' hw'=>aW ak Z (aB ((H.later hw').ent (i:=3) Z) Z))<|ic aG Z Z Z Z Z (fun w' hw'=>di x.c 3 w' hxo.2.2.2.1 hxo.2.2.2.2 I I) Z<|aw Z Z Z Z Z (fun w' hw'=>bw Z Z I I)<|ic aG Z Z Z Z Z (fun w' hw'=>di x.a nr w' hxo.2.1.1 hxo.2.1.2 I I) Z<|aw Z Z Z Z Z (fun w' hw'=>bg (cs:= #[J (13+(((pk x.c 3:Nat):Int))),.string (⟨#[]⟩),J (((pk x.b np:Nat):Int)),J (((pk x.a nr:Nat):Int)),J (0),.string (⟨#[]⟩),J (0)]) gR ig N)<|aV ?_
 intro w48 hw' hF
 replace H:=H.later hw';clear hw' hF
 refine bo H 0 (#[J (13+(((pk x.c 3:Nat):Int))),.string (⟨#[]⟩),J (((pk x.b np:Nat):Int)),J (((pk x.a nr:Nat):Int)),J (0),.string (⟨#[]⟩),J (0)]) iV Z Z Z Z Z N N fun w49 H=>U ?_
 exact⟨(⟨13+(((pk x.c 3:Nat):Int)),⟨#[]⟩,((pk x.b np:Nat):Int),((pk x.a nr:Nat):Int),0,⟨#[]⟩,0⟩:Act),⟨i9 I (fun hh=>by rw[hh]at hc186;cases hc186) (fun h=>by omega) (.inl Z),H⟩,wC,Qg⟩
 refine G (Wb Z)<|U<|ZF Z<|pW cd (fun w'=>w'.heap[b15]? =some (.cells #[J (x.kind),J (x.a),J (x.b),J (x.c)] vR (0,0))/\w'.heap[b5]? =some (.cells #[J (((np:Nat):Int)),J (((nr:Nat):Int)),J (few),J (wt)] m5 (0,0))/\ ∃ cs,w'.heap[b16]? =some (.cells cs gj (0,0))/\cs[1]? =some (.string (ov (pk ((pk x.a 2:Nat):Int) 3)))/\cs[2]? =some (J ((pk x.b np:Nat):Int))) ?_
 intro w50 hw';replace H:=H.later hw';clear hw'
 refine bh 1 N N N Z Z Z Z Nq ⟨H.ent (i:=1) Z,H.ent (i:=3) Z,_,H.ent (i:=0) Z,rfl,rfl⟩ (fun _ hS=>Zf lr Z)<|bh 2 N N N Z Z Z Z Nq ⟨H.ent (i:=1) Z,H.ent (i:=3) Z,_,H.ent (i:=0) Z,rfl,rfl⟩ (fun _ hS=>aW ak Z (aB hS.1 Z))<|bh 6 N N N Z Z Z Z Nq ⟨H.ent (i:=1) Z,H.ent (i:=3) Z,_,H.ent (i:=0) Z,rfl,rfl⟩ (fun _ hS=>Zf fh Z)<|bh 7 N N N Z Z Z Z Nq ⟨H.ent (i:=1) Z,H.ent (i:=3) Z,_,H.ent (i:=0) Z,rfl,rfl⟩ (fun _ hS=>aW bd Z (hS.2.2.elim fun _ h=>aB h.1 h.2.1))<|bh 8 N N N Z Z Z Z Nq ⟨H.ent (i:=1) Z,H.ent (i:=3) Z,_,H.ent (i:=0) Z,rfl,rfl⟩ (fun _ hS=>Zf dT Z)<|bh 9 N N N Z Z Z Z Nq ⟨H.ent (i:=1) Z,H.ent (i:=3) Z,_,H.ent (i:=0) Z,rfl,rfl⟩ (fun _ hS=>aW ak Z (hS.2.2.elim fun _ h=>aB h.1 h.2.2))<|bh 10 N N N Z Z Z Z Nq ⟨H.ent (i:=1) Z,H.ent (i:=3) Z,_,H.ent (i:=0) Z,rfl,rfl⟩ (fun _ hS=>Zf mV Z)<|bh 11 N N N Z Z Z Z Nq ⟨H.ent (i:=1) Z,H.ent (i:=3) Z,_,H.ent (i:=0) Z,rfl,rfl⟩ (fun _ hS=>aW ak Z (aB hS.1 Z))<|bh 12 N N N Z Z Z Z Nq ⟨H.ent (i:=1) Z,H.ent (i:=3) Z,_,H.ent (i:=0) Z,rfl,rfl⟩ (fun _ hS=>Zf lP Z)<|bh 13 N N N Z Z Z Z Nq ⟨H.ent (i:=1) Z,H.ent (i:=3) Z,_,H.ent (i:=0) Z,rfl,rfl⟩ (fun _ hS=>aW ak Z (aB hS.2.1 Z)) ?_
 refine QP 0 3 N Z Z ?_ ?_
 refine s9 (vs:=[J (11),J (13),J (1)]) H bc wI Z Z Z Z Z Z fun w51 b85 H=>U ?_
 refine⟨⟨H.ent (i:=2) Z,H.ent (i:=4) Z,_,H.ent (i:=1) Z,rfl,rfl⟩,?_⟩
 refine wK 3 N Z<|ch aG (di x.c 3 _ hxo.2.2.2.1 hxo.2.2.2.2 I I) Z Z ?_
 rintro _ w52 ⟨rfl,hb⟩;replace H:=H.later hb;clear hb
 refine U ?_
 refine⟨⟨H.ent (i:=2) Z,H.ent (i:=4) Z,_,H.ent (i:=1) Z,rfl,rfl⟩,?_⟩
 refine bh 4 N N N Z Z Z Z Nq ⟨H.ent (i:=2) Z,H.ent (i:=4) Z,_,H.ent (i:=1) Z,rfl,rfl⟩ (fun _ hS=>tk bc Z Z I I) ?_
 refine QP 5 14 N Z Z ?_ ?_
 refine G (aW ak Z (aB (H.ent (i:=0) Z) (t5 (iZ x.c (show 0<3 by omega)))))<|U ?_
 refine⟨⟨H.ent (i:=2) Z,H.ent (i:=4) Z,_,H.ent (i:=1) Z,rfl,rfl⟩,?_⟩
 refine wK 14 N Z<|ch aG (di x.a nr _ hxo.2.1.1 hxo.2.1.2 I I) Z Z ?_
 rintro _ w53 ⟨rfl,hb⟩;replace H:=H.later hb;clear hb
 refine U ?_
 refine⟨⟨H.ent (i:=2) Z,H.ent (i:=4) Z,_,H.ent (i:=1) Z,rfl,rfl⟩,?_⟩
 refine bh 15 N N N Z Z Z Z Nq ⟨H.ent (i:=2) Z,H.ent (i:=4) Z,_,H.ent (i:=1) Z,rfl,rfl⟩ (fun _ hS=>bg (cs:= #[J (Ek (pk x.c 3)),.string (ov (pk ((pk x.a 2:Nat):Int) 3)),J (((pk x.b np:Nat):Int)),J (((pk x.a nr:Nat):Int)),J (0),.string (⟨#[]⟩),J (0)]) gR ig N)<|wK 16 N Z<|bo H 1 (#[J (Ek (pk x.c 3)),.string (ov (pk ((pk x.a 2:Nat):Int) 3)),J (((pk x.b np:Nat):Int)),J (((pk x.a nr:Nat):Int)),J (0),.string (⟨#[]⟩),J (0)]) iV Z Z Z Z Z N N fun w54 H=>U ?_
 refine⟨⟨H.ent (i:=2) Z,H.ent (i:=4) Z,_,H.ent (i:=1) Z,rfl,rfl⟩,?_⟩
 refine ny N ?_
 have hkd:=AT (pk x.c 3)
 exact⟨(⟨Ek (pk x.c 3),ov (pk ((pk x.a 2:Nat):Int) 3),((pk x.b np:Nat):Int),((pk x.a nr:Nat):Int),0,⟨#[]⟩,0⟩:Act),⟨i9 I (fun hh=>by rw[hh]at hc186;cases hc186) (fun _=>rj _) (.inl Z),H.forget ((.cons _ (ar _))) (fun _ h=>h)⟩,wC,Qg⟩
 refine ch aG (di x.a nr _ hxo.2.1.1 hxo.2.1.2 I I) Z Z ?_
 rintro _ w55 ⟨rfl,hb⟩;replace H:=H.later hb;clear hb
 refine U ?_
 refine⟨⟨H.ent (i:=2) Z,H.ent (i:=4) Z,_,H.ent (i:=1) Z,rfl,rfl⟩,?_⟩
 refine wK 5 N Z<|G (aW ak Z (aB (H.ent (i:=0) Z) (t5 (iZ x.c (show 0<3 by omega)))))<|U ?_
 refine⟨⟨H.ent (i:=2) Z,H.ent (i:=4) Z,_,H.ent (i:=1) Z,rfl,rfl⟩,?_⟩
 refine bh 15 N N N Z Z Z Z Nq ⟨H.ent (i:=2) Z,H.ent (i:=4) Z,_,H.ent (i:=1) Z,rfl,rfl⟩ (fun _ hS=>bg (cs:= #[J (Ek (pk x.c 3)),.string (ov (pk ((pk x.a 2:Nat):Int) 3)),J (((pk x.b np:Nat):Int)),J (((pk x.a nr:Nat):Int)),J (0),.string (⟨#[]⟩),J (0)]) gR ig N)<|wK 16 N Z<|bo H 1 (#[J (Ek (pk x.c 3)),.string (ov (pk ((pk x.a 2:Nat):Int) 3)),J (((pk x.b np:Nat):Int)),J (((pk x.a nr:Nat):Int)),J (0),.string (⟨#[]⟩),J (0)]) iV Z Z Z Z Z N N fun w56 H=>U ?_
 refine⟨⟨H.ent (i:=2) Z,H.ent (i:=4) Z,_,H.ent (i:=1) Z,rfl,rfl⟩,?_⟩
 refine ny N ?_
 have hkd:=AT (pk x.c 3)
 exact⟨(⟨Ek (pk x.c 3),ov (pk ((pk x.a 2:Nat):Int) 3),((pk x.b np:Nat):Int),((pk x.a nr:Nat):Int),0,⟨#[]⟩,0⟩:Act),⟨i9 I (fun hh=>by rw[hh]at hc186;cases hc186) (fun _=>rj _) (.inl Z),H.forget ((.cons _ (ar _))) (fun _ h=>h)⟩,wC,Qg⟩
 refine ch aG (di x.c 3 _ hxo.2.2.2.1 hxo.2.2.2.2 I I) Z Z ?_
 rintro _ w57 ⟨rfl,hb⟩;replace H:=H.later hb;clear hb
 refine U ?_
 refine⟨⟨H.ent (i:=1) Z,H.ent (i:=3) Z,_,H.ent (i:=0) Z,rfl,rfl⟩,?_⟩
 refine QP 0 14 N Z Z ?_ ?_
 refine s9 (vs:=[J (11),J (13),J (1)]) H bc wI Z Z Z Z Z Z fun w58 b85 H=>U ?_
 refine⟨⟨H.ent (i:=2) Z,H.ent (i:=4) Z,_,H.ent (i:=1) Z,rfl,rfl⟩,?_⟩
 refine bh 4 N N N Z Z Z Z Nq ⟨H.ent (i:=2) Z,H.ent (i:=4) Z,_,H.ent (i:=1) Z,rfl,rfl⟩ (fun _ hS=>tk bc Z Z I I) ?_
 refine QP 5 14 N Z Z ?_ ?_
 refine G (aW ak Z (aB (H.ent (i:=0) Z) (t5 (iZ x.c (show 0<3 by omega)))))<|U ?_
 refine⟨⟨H.ent (i:=2) Z,H.ent (i:=4) Z,_,H.ent (i:=1) Z,rfl,rfl⟩,?_⟩
 refine wK 14 N Z<|ch aG (di x.a nr _ hxo.2.1.1 hxo.2.1.2 I I) Z Z ?_
 rintro _ w59 ⟨rfl,hb⟩;replace H:=H.later hb;clear hb
 refine U ?_
 refine⟨⟨H.ent (i:=2) Z,H.ent (i:=4) Z,_,H.ent (i:=1) Z,rfl,rfl⟩,?_⟩
 refine bh 15 N N N Z Z Z Z Nq ⟨H.ent (i:=2) Z,H.ent (i:=4) Z,_,H.ent (i:=1) Z,rfl,rfl⟩ (fun _ hS=>bg (cs:= #[J (Ek (pk x.c 3)),.string (ov (pk ((pk x.a 2:Nat):Int) 3)),J (((pk x.b np:Nat):Int)),J (((pk x.a nr:Nat):Int)),J (0),.string (⟨#[]⟩),J (0)]) gR ig N)<|wK 16 N Z<|bo H 1 (#[J (Ek (pk x.c 3)),.string (ov (pk ((pk x.a 2:Nat):Int) 3)),J (((pk x.b np:Nat):Int)),J (((pk x.a nr:Nat):Int)),J (0),.string (⟨#[]⟩),J (0)]) iV Z Z Z Z Z N N fun w60 H=>U ?_
 refine⟨⟨H.ent (i:=2) Z,H.ent (i:=4) Z,_,H.ent (i:=1) Z,rfl,rfl⟩,?_⟩
 refine ny N ?_
 have hkd:=AT (pk x.c 3)
 exact⟨(⟨Ek (pk x.c 3),ov (pk ((pk x.a 2:Nat):Int) 3),((pk x.b np:Nat):Int),((pk x.a nr:Nat):Int),0,⟨#[]⟩,0⟩:Act),⟨i9 I (fun hh=>by rw[hh]at hc186;cases hc186) (fun _=>rj _) (.inl Z),H.forget ((.cons _ (ar _))) (fun _ h=>h)⟩,wC,Qg⟩
 refine ch aG (di x.a nr _ hxo.2.1.1 hxo.2.1.2 I I) Z Z ?_
 rintro _ w61 ⟨rfl,hb⟩;replace H:=H.later hb;clear hb
 refine U ?_
 refine⟨⟨H.ent (i:=2) Z,H.ent (i:=4) Z,_,H.ent (i:=1) Z,rfl,rfl⟩,?_⟩
 refine wK 5 N Z<|G (aW ak Z (aB (H.ent (i:=0) Z) (t5 (iZ x.c (show 0<3 by omega)))))<|U ?_
 refine⟨⟨H.ent (i:=2) Z,H.ent (i:=4) Z,_,H.ent (i:=1) Z,rfl,rfl⟩,?_⟩
 refine bh 15 N N N Z Z Z Z Nq ⟨H.ent (i:=2) Z,H.ent (i:=4) Z,_,H.ent (i:=1) Z,rfl,rfl⟩ (fun _ hS=>bg (cs:= #[J (Ek (pk x.c 3)),.string (ov (pk ((pk x.a 2:Nat):Int) 3)),J (((pk x.b np:Nat):Int)),J (((pk x.a nr:Nat):Int)),J (0),.string (⟨#[]⟩),J (0)]) gR ig N)<|wK 16 N Z<|bo H 1 (#[J (Ek (pk x.c 3)),.string (ov (pk ((pk x.a 2:Nat):Int) 3)),J (((pk x.b np:Nat):Int)),J (((pk x.a nr:Nat):Int)),J (0),.string (⟨#[]⟩),J (0)]) iV Z Z Z Z Z N N fun w62 H=>U ?_
 refine⟨⟨H.ent (i:=2) Z,H.ent (i:=4) Z,_,H.ent (i:=1) Z,rfl,rfl⟩,?_⟩
 refine ny N ?_
 have hkd:=AT (pk x.c 3)
 exact⟨(⟨Ek (pk x.c 3),ov (pk ((pk x.a 2:Nat):Int) 3),((pk x.b np:Nat):Int),((pk x.a nr:Nat):Int),0,⟨#[]⟩,0⟩:Act),⟨i9 I (fun hh=>by rw[hh]at hc186;cases hc186) (fun _=>rj _) (.inl Z),H.forget ((.cons _ (ar _))) (fun _ h=>h)⟩,wC,Qg⟩
 refine ch aG (di x.a nr _ hxo.2.1.1 hxo.2.1.2 I I) Z Z ?_
 rintro _ w63 ⟨rfl,hb⟩;replace H:=H.later hb;clear hb
 refine U ?_
 refine⟨⟨H.ent (i:=1) Z,H.ent (i:=3) Z,_,H.ent (i:=0) Z,rfl,rfl⟩,?_⟩
 refine wK 0 N Z<|s9 (vs:=[J (11),J (13),J (1)]) H bc wI Z Z Z Z Z Z fun w64 b85 H=>U ?_
 refine⟨⟨H.ent (i:=2) Z,H.ent (i:=4) Z,_,H.ent (i:=1) Z,rfl,rfl⟩,?_⟩
 refine bh 4 N N N Z Z Z Z Nq ⟨H.ent (i:=2) Z,H.ent (i:=4) Z,_,H.ent (i:=1) Z,rfl,rfl⟩ (fun _ hS=>tk bc Z Z I I)<|wK 5 N Z<|G (aW ak Z (aB (H.ent (i:=0) Z) (t5 (iZ x.c (show 0<3 by omega)))))<|U ?_
 refine⟨⟨H.ent (i:=2) Z,H.ent (i:=4) Z,_,H.ent (i:=1) Z,rfl,rfl⟩,?_⟩
 refine bh 15 N N N Z Z Z Z Nq ⟨H.ent (i:=2) Z,H.ent (i:=4) Z,_,H.ent (i:=1) Z,rfl,rfl⟩ (fun _ hS=>bg (cs:= #[J (Ek (pk x.c 3)),.string (ov (pk ((pk x.a 2:Nat):Int) 3)),J (((pk x.b np:Nat):Int)),J (((pk x.a nr:Nat):Int)),J (0),.string (⟨#[]⟩),J (0)]) gR ig N)<|wK 16 N Z<|bo H 1 (#[J (Ek (pk x.c 3)),.string (ov (pk ((pk x.a 2:Nat):Int) 3)),J (((pk x.b np:Nat):Int)),J (((pk x.a nr:Nat):Int)),J (0),.string (⟨#[]⟩),J (0)]) iV Z Z Z Z Z N N fun w65 H=>U ?_
 refine⟨⟨H.ent (i:=2) Z,H.ent (i:=4) Z,_,H.ent (i:=1) Z,rfl,rfl⟩,?_⟩
 refine ny N ?_
 have hkd:=AT (pk x.c 3)
 exact⟨(⟨Ek (pk x.c 3),ov (pk ((pk x.a 2:Nat):Int) 3),((pk x.b np:Nat):Int),((pk x.a nr:Nat):Int),0,⟨#[]⟩,0⟩:Act),⟨i9 I (fun hh=>by rw[hh]at hc186;cases hc186) (fun _=>rj _) (.inl Z),H.forget ((.cons _ (ar _))) (fun _ h=>h)⟩,wC,Qg⟩
 rintro a ρ1 w66 ⟨hga,H⟩
 show CW _ _ _ _ (dH (gZ _ _ ρ1) []) w66
 refine Zr<|G (Ys Z)<|G (Zw dQ H 0 Z Z Z)<|s9 (vs:=[.agg #[J (a.kind),.string (a.name),J (a.part),J (a.n),J (a.m),.string (a.text),J (a.lost)]]) H uK ig Z Z Z Z Z Z fun w67 b232 H=>vP (Y:=si) xI (K:=[(b232,_),(b16,_),(b15,_),(b29,_),(b5,_)]) (L:=L) (M:=[]) H ho (es:=mH np++es) (news:=[a]) Z Z Z (wz.row (m:=1) (sz:=si.sz) (H.ent (i:=0) Z) Z) (by simp only[bO];rw[ay];unfold mH;rw[ay,nT];show(np+3+es.length+1)*_<=_;omega) Z ?_
 intro A5 c5 w68 L5 h5 h5m ho5 H
 rw[aD]at ho5 h5⊢
 refine G (Ws Z)<|U<|Zr<|G (Yi Z)<|G (bw Z Z I I)<|G (Wi Z)<|U ?_
 exact⟨(i+1,es++[a],A5,c5,L5),⟨by omega,by omega,by rw[ay,hel];rfl,fun y hy=>(by rcases ap.1 hy with hy|hy;exact hes y hy;rw[aq.1 hy];exact hga),ho5,H.forget (.cons _ (.cons _ (.cons _ (ar _)))) (fun _ h=>h)⟩,li Z Z,Qg,by show l.length- (i+1)<l.length-i;omega⟩
 refine G (Kt Z Z)<|U<|ZF Z<|Zx<|W<|Zr<|G (Ys Z)<|G (Ws Z)<|U<|Zt ?_
 exact cH (v:=.slice A (mH np++es).length c) Z Z ⟨es,A,c,L,rfl,by omega,hes,ho,H.forget (L':=L) (.cons _ (.cons _ (by rw[aZ];exact ar _))) (by simp)⟩
 refine G (Yb Z)<|ZN<|ZN<|ZN<|G (N Z Z)<|U<|ZF Z<|Zx<|W<|Zr<|G (Ys Z)<|G (Ws Z)<|U<|Zt ?_
 exact cH (v:=.slice A (mH np++es).length c) Z Z ⟨es,A,c,L,rfl,by omega,hes,ho,H.forget (L':=L) (.cons _ (.cons _ (by rw[aZ];exact ar _))) (by simp)⟩
def Rl (lo hi:Nat) (r:Rn):cB:=⟨lo,hi,r.rd lo hi,fun _ _ hk h=>h.st hk⟩
def Rk (w:World) (W0:Wa) (acts:List Act) (v:Value) (w2:World):Prop:= ∃ (xs:List Aq) (oA:Option Addr) (oC:Nat) (b:Bk),v=.tuple #[.slice oA xs.length oC,.agg b.c.toArray,.bool true]/\m6 W0 acts (xs.map Aq.x) b.a/\(Rn.mk xs oA oC b).rd w.heap.size w2.heap.size w2/\Below w.heap.size w w2
theorem D0 {a b:Int}:1<=1+pk a 3/\1+pk a 3<=4/\1<=1+pk b 3/\1+pk b 3<=5/\1<=1+pk a (1+pk b 3)/\1+pk a (1+pk b 3)<=1+pk b 3/\(1:Int)<=5+(pk b 20:Nat)/\(5:Int)+(pk b 20:Nat)<=1000:=by
 have p1:=iZ a (show 0<3 by omega)
 have p2:=iZ b (show 0<3 by omega)
 have p3:=iZ a (show 0<1+pk b 3 by omega)
 have p4:=iZ b (show 0<20 by omega)
 omega
theorem Ox {np nr few:Nat} {wt:Int} {acts:List Act} {A0:Option Addr} {c0:Nat} (w:World) (q1:1<=np) (q4:np<=4) (n1:1<=nr) (n5:nr<=5) (f1:1<=few) (f2:few<=nr) (t1:1<=wt) (t2:wt<=1000) (hr:Rd si 0 w.heap.size A0 acts w) (hl:acts.length<=400) (hg: ∀ a∈acts,qy np nr a):dh aa wl [.agg #[J (np:Nat),J (nr:Nat),J (few:Nat),J wt],.slice A0 acts.length c0] w (Rk w (ow np nr few wt) acts):=by
 refine aE vj Z Z ?_
 have H:=Hp.startRd hr
 show CW _ _ _ _ (args [.agg #[J (np:Nat),J (nr:Nat),J (few:Nat),J wt],.slice A0 acts.length c0]) w
 refine W<|Zr<|f7 H Z Z fun w1 b2 H=>G (Ws Z)<|eP H qL Z fun w2 b5 H=>G (Wb Z)<|U<|W<|Zr<|G (Zw sg H 1 Z Z Z)<|G (Ys Z)<|ch CP (Px _ q1 q4 n1 n5 f1 f2 t1 t2 (H.rd0 0 Z) hl hg) Z Z ?_
 have hlo:=H.size
 rintro _ w3 ⟨⟨xs,oA,oC,⟨ps,pA,pC,co,clo,chi,gr,glo,ghi,sns,snA,snC⟩⟩,rfl,hrun,hrd,hb⟩;replace H:=H.learn hb (Rl w2.heap.size w3.heap.size ⟨xs,oA,oC,⟨ps,pA,pC,co,clo,chi,gr,glo,ghi,sns,snA,snC⟩⟩) hrd (ao _) (ao _)
 have hxl:xs.length=acts.length:=by have:=hrun.len;rwa[bJ]at this
 refine G (Yu Z)<|G (Xs Z Z)<|G (Xa Z Z)<|G (Xi Z Z)<|eP H qL Z fun w4 b8 H=>G (Ws Z)<|bo H 0 (#[.slice pA ps.length pC,J (co.clock),J (co.next),J (co.wait),.slice co.A co.txs.length co.cap,J (gr.clock),J (gr.wait),J (gr.gen),.slice gr.mA gr.ms.length gr.mC,.slice gr.oA gr.os.length gr.oC,.slice snA sns.length snC]) nA Z Z Z Z Z N N fun w5 H=>G (Wi Z)<|U<|W ?_
 refine bA cd [0,1,2,3,4,5,6,7,8,9,10,11] [12,13] [] [0,2,3,4,5,6,7,8,9,10,11] (sp []) N N N N Nq (cI _) ?_
 refine aw Z Z Z Z Z (fun w' hw'=>Ys Z)<|aw Z Z Z Z Z (fun w' hw'=>jL nZ Z ((H.later hw').ent (i:=0) Z) Z)<|aw Z Z Z Z Z (fun w' hw'=>Yi Z)<|aw Z Z Z Z Z (fun w' hw'=>lQ Z Z Z)<|aw Z Z Z Z Z (fun w' hw'=>Yb Z)<|aw Z Z Z Z Z (fun w' hw'=>Ys Z)<|aw Z Z Z Z Z (fun w' hw'=>br yU Z)<|aw Z Z Z Z Z (fun w' hw'=>Ys Z)<|aw Z Z Z Z Z (fun w' hw'=>br AO Z)<|aw Z Z Z Z Z (fun w' hw'=>lQ Z Z (by dsimp only;omega))<|aw Z Z Z Z Z (fun w' hw'=>Kt Z Z)<|aw Z Z Z Z Z (fun w' hw'=>Ws Z)<|aV ?_
 intro w6 hw' hF
 replace H:=H.later hw';clear hw' hF
 refine bo H 1 (#[.slice pA ps.length pC,J (co.clock),J (co.next),J (co.wait),.slice co.A co.txs.length co.cap,J (gr.clock),J (gr.wait),J (gr.gen),.slice gr.mA gr.ms.length gr.mC,.slice gr.oA gr.os.length gr.oC,.slice snA sns.length snC]) nA Z Z Z Z Z N N fun w7 H=>G (Wb Z)<|U<|Zt ?_
 exact MO (v0:=.slice oA xs.length oC) (cs1:= #[.slice pA ps.length pC,J (co.clock),J (co.next),J (co.wait),.slice co.A co.txs.length co.cap,J (gr.clock),J (gr.wait),J (gr.gen),.slice gr.mA gr.ms.length gr.mC,.slice gr.oA gr.os.length gr.oC,.slice snA sns.length snC]) (v2:=.bool true) Z Z nZ Z (H.ent (i:=1) Z) Z Z ⟨xs,oA,oC,⟨ps,pA,pC,co,clo,chi,gr,glo,ghi,sns,snA,snC⟩,rfl,hrun,Rn.rd.mono (H.fact (i:=0) Z) hlo (H.facts _ (az ..)).2.1,H.below⟩
theorem JD {a b:Int} (ha:i64 a) (hb:i64 b): ∃ (np nr few:Nat) (wt:Int),1<=np/\np<=4/\1<=nr/\nr<=5/\1<=few/\few<=nr/\1<=wt/\wt<=1000/\ ∀ w:World,dh aa oy [J a,J b] w fun v w2=>v=.agg #[J (np:Nat),J (nr:Nat),J (few:Nat),J wt]/\Below w.heap.size w w2:=by
 obtain⟨h1,h2,h3,h4,h5,h6,h7,h8⟩:=@D0 a b
 refine⟨1+pk a 3,1+pk b 3,1+pk a (1+pk b 3),5+(pk b 20:Nat),h1,h2,h3,h4,h5,h6,h7,by omega,fun w=>(LD a b w ha hb).mono fun v w2 ⟨g1,g2⟩=>⟨?_,g2⟩⟩
 rw[g1,show((1+pk a 3:Nat):Int)=1+(pk a 3:Nat) by omega,show((1+pk b 3:Nat):Int)=1+(pk b 3:Nat) by omega,show((1+pk a (1+pk b 3):Nat):Int)=1+(pk a (1+pk b 3):Nat) by omega]
theorem DF {np nr:Nat} {hard:Bool} {body:List Act} (h1:1<=np) (hr:1<=nr) (hb: ∀ a∈body,zj np nr hard a): ∀ a∈mH np++body,qy np nr a:=fun a ha=>by
 rcases ap.1 ha with ha|ha
 unfold mH at ha
 rcases ap.1 ha with ha|ha
 obtain⟨p,hp,rfl⟩:=bp.1 ha
 have:=List.mem_range.1 hp
 refine(i9 (hard:=true) (k:=13) (pt:=p) (n:=0) (m:=0) (lo:=0) I (by simp) I (.inl Z)).g
 simp only[ax,bU,or_false]at ha
 rcases ha with rfl|rfl|rfl<;>exact(i9 (hard:=true) (pt:=0) (n:=0) (m:=0) (lo:=0) I (by simp) (fun _=>rj _) (.inl Z)).g
 exact(hb a ha).g
theorem Hp.rnXs {w0 w:World} {L:List (Nat×Obj)} {F:List cB} {lo hi:Nat} {r:Rn} (H:Hp w0 w L F) (i:Nat) (hF:F[i]? =some (Rl lo hi r)):Hp w0 w L (dU Ql lo hi r.oA r.xs::F):=by
 refine⟨H.below,H.ents,H.nodup,fun f hf=> ?_⟩
 rcases ax.1 hf with rfl|hf
 obtain⟨h1,h2,h3⟩:=H.facts _ (ab hF)
 exact⟨h1.xs,h2,h3⟩
 exact H.facts f hf
section
/-! what is sent again stands where it stood -/
def fV (t:ByteArray) (k d:Int):Act:=⟨k,za,0,0,0,t,d⟩
def tX:ByteArray:=⟨#[120]⟩
def tY:ByteArray:=⟨#[121]⟩
def t0:ByteArray:=⟨#[]⟩
def Fx (d:Int):List Act:=[fV t0 1 0,fV tX 3 0,fV t0 4 0,fV tY 3 d,fV t0 4 0,fV t0 4 0]
variable {np nr k:Nat} {few wt wt':Int} {K:Nat->List cz} {P:ByteArray->Prop} {w:Wa} {p:fD} {x:RA} {e:cz}
theorem FG (w:Wa) (l:List Sn) (n:Nat) (e:cz):lK {w with sns:=l} n e=({(lK w n e).1 with sns:=l},(lK w n e).2):=by
 unfold lK lJ
 dsimp only
 split
 rfl
 split<;>rfl
theorem C5 {s:Sn} {nm:ByteArray} (h:s.name=nm) (b:Bool) (n:Nat) (t:ByteArray):(if b then s else eL s n t).name=nm:=by cases b<;>exact h
theorem Lk {a:Act} {i:Nat} {s:Sn} {again:Bool} (hw:WI np nr 1 wt k K w) (hc:wG P wt w) (h:P0 w p x) (hs:At a.name w i s) (h0:a.part=0) (hl:a.lost≠1) (hag:again=true->(s.last.getD 0 jV).kind≠0) (he:(if again then s else eL s 0 a.text).last[0]? =some e) (ht:e.txn=false) (hg:kT {e with epoch:=p.epoch}) (hv:fc x.es {e with epoch:=p.epoch}=(-1,0)):
  ∃ w',jg w a again=(w',fL a ⟨0,(x.es.length:Nat),[]⟩)/\P0 w' {p with reps:=p.reps.set 0 {x with es:=x.es++[{e with epoch:=p.epoch}]}} {x with es:=x.es++[{e with epoch:=p.epoch}]}/\At a.name w' i (if again then s else eL s 0 a.text):=by
 have hs2:=hs.set (y:=if again then s else eL s 0 a.text) (C5 hs.nm again 0 a.text)
 have hp2:=h.put {x with es:=x.es++[{e with epoch:=p.epoch}]}
 rw[Ao hs h0 hl hag he ht,FG,NX hw hc h hg hv]
 exact⟨_,rfl,⟨hp2.pt,hp2.ld,hp2.rp⟩,⟨hs2.ix,hs2.sn,hs2.nm⟩⟩
theorem Ll {a:Act} {i j:Nat} {s:Sn} {again:Bool} (hw:WI np nr 1 wt k K w) (hc:wG P wt w) (h:P0 w p x) (hs:At a.name w i s) (h0:a.part=0) (hl:a.lost≠1) (hag:again=true->(s.last.getD 0 jV).kind≠0) (he:(if again then s else eL s 0 a.text).last[0]? =some e) (ht:e.txn=false) (hg:kT {e with epoch:=p.epoch}) (hv:fc x.es {e with epoch:=p.epoch}=(((j:Nat):Int),0)):
  ∃ w',jg w a again=(w',fL a ⟨0,(j:Nat),[]⟩)/\P0 w' p x/\At a.name w' i (if again then s else eL s 0 a.text):=by
 have hs2:=hs.set (y:=if again then s else eL s 0 a.text) (C5 hs.nm again 0 a.text)
 rw[Ao hs h0 hl hag he ht,FG,NY hw hc h hg hv]
 exact⟨_,rfl,⟨h.pt,h.ld,h.rp⟩,⟨hs2.ix,hs2.sn,hs2.nm⟩⟩
theorem Gs {ep pid ver seq:Int} {t:ByteArray} (h1:0<=ep/\ep<=1073741824) (h2:0<pid/\pid<=1073741824) (h3:0<=ver/\ver<=1073741824) (h4:0<=seq/\seq<=1073741824) (ht:t.size<=40):kT ⟨ep,pid,ver,seq,1,false,t⟩:=by
 unfold kT eD
 rw[if_neg (by show¬ ((1:Int)<1∨3<(1:Int));decide),if_neg,if_neg (by simpa using ht),if_neg]
 unfold cz.noForm
 simp
 omega
 simp[cz.nums,iK]
 omega
theorem BD (hw:WI np nr few wt k K w) (h:wG P wt' w) {n:Nat} {w':Wa} {x:An} (hA:tG w (kQ n) w' x):wG P wt' w'/\Ld w w'/\ ∀ q,w.ps[n]? =some q->q.epoch<1073741824-> ∃ q',w'.ps[n]? =some q'/\q'.leader=0:=by
 cases hA with
 |poll x h19 hp=>exact absurd h19 (by show¬ ((13:Int)=19);decide)
 |other h19=>
  have e1:oV w (kQ n)=rT w (kQ n):=by simp[oV,kQ]
  rw[e1]
  unfold rT
  have e2:(kQ n).part.toNat=n:=by simp[kQ]
  rw[e2]
  cases hq:w.ps[n]? with
  |none=>exact⟨h,Ld.refl w,fun q hq2=>by cases hq2⟩
  |some q=>
   have e3:jo q (kQ n)=((fU q 0).1,0,(fU q 0).2):=by simp[jo,kQ]
   dsimp only
   rw[e3]
   dsimp only
   obtain⟨hcm,hpd⟩:=h.ps q (ab hq)
   have hok:=(hw.ps.gt n q hq).1.ok
   obtain⟨y,hy⟩: ∃ y,q.reps[0]? =some y:=⟨_,ah hok.n1⟩
   have u0: ¬ y.up=false:=by rw[hcm.up y (ab hy)];decide
   have i0: ¬ q.isr[0]? =some false:=fun hh=>by have:=hcm.isr false (ab hh);cases this
   by_cases hl:q.leader=((0:Nat):Int)
   have e4:fU q 0=(gw,6):=by unfold fU;rw[hy];dsimp only;rw[if_neg u0,if_neg i0,if_pos hl]
   rw[e4]
   dsimp only
   rw[if_neg (by decide)]
   exact⟨h,Ld.refl w,fun q2 hq2 _=>⟨q2,hq.trans hq2,by cases hq2;simpa using hl⟩⟩
   by_cases h30:q.epoch=1073741824
   have e4:fU q 0=(gw,2):=by unfold fU;rw[hy];dsimp only;rw[if_neg u0,if_neg i0,if_neg hl,if_pos h30]
   rw[e4]
   dsimp only
   rw[if_neg (by decide)]
   exact⟨h,Ld.refl w,fun q2 hq2 he=>by cases hq2;omega⟩
   have e4:fU q 0=(lU {q with epoch:=q.epoch+1,leader:=((0:Nat):Int),known:=(au q.reps.length 0).set 0 y.s,base:=y.es.length},0):=by unfold fU;rw[hy];dsimp only;rw[if_neg u0,if_neg i0,if_neg hl,if_neg h30]
   rw[e4]
   dsimp only
   rw[if_pos Z]
   have hc2:Cm {q with epoch:=q.epoch+1,leader:=((0:Nat):Int),known:=(au q.reps.length 0).set 0 (y.s:Int),base:=y.es.length}:=⟨.inr Z,hcm.isr,hcm.up⟩
   have hp2:Pd w.co.next {q with epoch:=q.epoch+1,leader:=((0:Nat):Int),known:=(au q.reps.length 0).set 0 (y.s:Int),base:=y.es.length}:=hpd
   refine⟨h.part ⟨hc2.adv,hp2.adv⟩,HQ hq fun _=> ?_,fun q2 hq2 _=>⟨_,al (cC hq).1,?_⟩⟩<;>rw[xJ.2.2.2.1]<;>rfl
def Qe (P:ByteArray->Prop) (a:Act):Prop:=(∃ n,a=kQ n)∨((a.kind<=9∨16<=a.kind)/\(a.kind=1->P a.name))
theorem NI (hw:WI np nr few wt k K w) (h:wG P wt' w) {a:Act} (g:qy np nr a) (hs:Qe P a) {w':Wa} {x:An} (hA:tG w a w' x):wG P wt' w'/\Ld w w':=by
 rcases hs with⟨n,rfl⟩|⟨h1,h2⟩
 exact⟨(BD hw h hA).1,(BD hw h hA).2.1⟩
 exact Nt hw h g h1 h2 hA
theorem Py {w w1:Wa} {l:List Act} {xs:List An} (h:m6 w l xs w1): ∀ {k:Nat} {K:Nat->List cz},WI np nr few wt k K w->wG P wt' w->k+l.length<=400->np<=4->(∀ a∈l,qy np nr a/\Qe P a)->wG P wt' w1/\Ld w w1:=by
 induction h with
 |nil=>intro k K hw hc _ _ _;exact⟨hc,Ld.refl _⟩
 |@cons w wa wb a x l xs h1 _ ih=>
  intro k K hw hc hk h4 hg
  simp only[bV]at hk
  obtain⟨g,s⟩:=hg a (az ..)
  obtain⟨K1,u1,i1⟩:=E9 hw I h4 g h1
  obtain⟨c1,d1⟩:=NI hw hc g s h1
  obtain⟨c2,d2⟩:=ih i1 c1 I h4 fun b hb=>hg b (aj _ hb)
  exact⟨c2,d1.trans d2⟩
theorem Re {c:Co} (h:gI c=true) (hn:wB vy wt c):c.txs.length<=3:=by
 obtain⟨-,-,h3⟩:=fH.1 h
 unfold uG at h3
 rw[gm]at h3
 have:=FW (l:=c.txs.map Tx.name) (m:=[ov 0,ov 1,ov 2]) (by rw[gm];exact h3.imp fun h=>h.1) fun x hx=>by
  obtain⟨t,ht,rfl⟩:=bp.1 hx
  exact Fo (hn.2 t ht)
 simpa using this
theorem Ge (hw:WI np nr few wt' k K w) (hc:wG vy wt w):bB w.co za=(lR w.co za,w.co.next,0,0):=by
 unfold bB
 rw[OH (fun t ht=>(Jw (hc.co.2 t ht)).1)]
 dsimp only
 have:=Re hw.co.ok hc.co
 rw[if_neg I]
theorem Fa {w w':Wa} {a:Act} {x:An} (h:tG w a w' x) (hk:a.kind≠19):w'=(oV w a).1/\x=(oV w a).2:=by
 cases h with
 |poll x h19 hp=>exact absurd h19 hk
 |other h19=>exact⟨rfl,rfl⟩
theorem JH {a:Act} {i:Nat} {s:Sn} (h:At a.name w i s) (h0:a.part=0) (hl:a.lost=1):jg w a false=({w with sns:=w.sns.set i (eL s 0 a.text)},⟨14,0,[]⟩):=by
 unfold jg
 rw[h.find]
 dsimp only
 rw[h0,show(0:Int).toNat=0 from rfl,if_neg (fun hh=>by cases hh.1),if_pos hl]
 rfl
theorem Ns (w:Wa) (d:Int) (t:ByteArray):oV w (fV t 1 d)=mN w (fV t 1 d):=by simp[oV,fV]
theorem G1 (w:Wa) (d:Int) (t:ByteArray):oV w (fV t 3 d)=jg w (fV t 3 d) false:=by simp[oV,fV]
theorem DG (w:Wa) (d:Int) (t:ByteArray):oV w (fV t 4 d)=jg w (fV t 4 d) true:=by simp[oV,fV]
theorem GY {k d:Int} {t:ByteArray} (hp:1<=np) (hk:k=1∨k=3∨k=4) (hd:0<=d/\d<=2) (ht:t.size<=40):qy np nr (fV t k d):=by
 refine⟨?_,fun _=>by show bL za=true;decide,?_,?_,?_,?_,?_,?_,ht,hd⟩
 show 1<=k/\k<=20/\k≠17;omega
 show(0:Int)<=0/\(0:Int)<np;omega
 show(0:Int)<=0/\(0:Int)<=1000;omega
 show 8<=k->_;omega
 show k=5->_;omega
 show k=19->_;omega
 show(0:Int)<=0/\(0:Int)<=1000;omega
structure Cw (np nr k:Nat) (wt:Int) (w:Wa):Prop where
 wi: ∃ K,WI np nr 1 wt k K w
 cm:wG (fun _=>True) wt w
theorem Cw.act (h:Cw np nr k wt w) (hk:k<400) (h4:np<=4) {t:ByteArray} {kd d:Int} (hp:1<=np) (hkd:kd=1∨kd=3∨kd=4) (hd:0<=d/\d<=2) (ht:t.size<=40) {w':Wa} {x:An} (hA:tG w (fV t kd d) w' x):Cw np nr (k+1) wt w':=by
 obtain⟨K,hw⟩:=h.wi
 have g:qy np nr (fV t kd d):=GY hp hkd hd ht
 obtain⟨K1,-,i1⟩:=E9 hw I h4 g hA
 exact⟨⟨K1,i1⟩,(Nt hw h.cm g (.inl (by show kd<=9;omega)) (fun _=>trivial) hA).1⟩
structure Dw (np nr k:Nat) (wt:Int) (w:Wa) (p:fD) (x:RA) (i:Nat) (s:Sn):Prop where
 cw:Cw np nr k wt w
 p0:P0 w p x
 at_:At za w i s
theorem Dw.sent {i:Nat} {s:Sn} (h:Dw np nr k wt w p x i s):vr x.es:=by
 obtain⟨K,hw⟩:=h.cw.wi
 exact(hw.ps.gt 0 p h.p0.pt).2 0 x h.p0.rp
theorem Dw.ep {i:Nat} {s:Sn} (h:Dw np nr k wt w p x i s):0<=p.epoch/\p.epoch<=1073741824:=by
 obtain⟨K,hw⟩:=h.cw.wi
 exact⟨(hw.ps.gt 0 p h.p0.pt).1.ok.ep0,(hw.ps.gt 0 p h.p0.pt).1.ok.ep1⟩
theorem Dw.new {i:Nat} {s:Sn} (h:Dw np nr k wt w p x i s) (hk:k<400) (h4:np<=4) (hp:1<=np) {t:ByteArray} {kd d:Int} (hkd:kd=3∨kd=4) (hd:d=0∨d=2) (ht:t.size<=40) {w':Wa} {y:An} (hA:tG w (fV t kd d) w' y)
  (hag:kd=4->(s.last.getD 0 jV).kind≠0) {e:cz} (he:(if decide (kd=4)then s else eL s 0 t).last[0]? =some e) (hx:e.txn=false) (hg:kT {e with epoch:=p.epoch}) (hv:fc x.es {e with epoch:=p.epoch}=(-1,0)):
  y=fL (fV t kd d) ⟨0,(x.es.length:Nat),[]⟩/\ ∃ (p':fD) (x':RA),p'.epoch=p.epoch/\x'.es=x.es++[{e with epoch:=p.epoch}]/\Dw np nr (k+1) wt w' p' x' i (if decide (kd=4)then s else eL s 0 t):=by
 obtain⟨K,hw⟩:=h.cw.wi
 obtain⟨h1,h2⟩:=Fa hA (by show¬ kd=19;omega)
 obtain⟨w2,e1,g1,g2⟩:=Lk (a:=fV t kd d) (again:=decide (kd=4)) hw h.cw.cm h.p0 h.at_ Z (by show¬ d=1;omega) (fun q=>hag (of_decide_eq_true q)) he hx hg hv
 have e2:oV w (fV t kd d)=jg w (fV t kd d) (decide (kd=4)):=by rcases hkd with rfl|rfl;exact G1 w d t;exact DG w d t
 rw[e2,e1]at h1 h2
 refine⟨h2,{p with reps:=p.reps.set 0 {x with es:=x.es++[{e with epoch:=p.epoch}]}},{x with es:=x.es++[{e with epoch:=p.epoch}]},rfl,rfl,h.cw.act hk h4 hp (.inr hkd) I ht hA,?_,?_⟩
 rw[h1];exact g1
 rw[h1];exact g2
theorem Dw.dup {i j:Nat} {s:Sn} (h:Dw np nr k wt w p x i s) (hk:k<400) (h4:np<=4) (hp:1<=np) {w':Wa} {y:An} (hA:tG w (fV t0 4 0) w' y)
  (hag:(s.last.getD 0 jV).kind≠0) {e:cz} (he:s.last[0]? =some e) (hx:e.txn=false) (hg:kT {e with epoch:=p.epoch}) (hv:fc x.es {e with epoch:=p.epoch}=(((j:Nat):Int),0)):
  y=⟨0,(j:Nat),[]⟩/\Dw np nr (k+1) wt w' p x i s:=by
 obtain⟨K,hw⟩:=h.cw.wi
 obtain⟨h1,h2⟩:=Fa hA (by show¬ (4:Int)=19;decide)
 obtain⟨w2,e1,g1,g2⟩:=Ll (a:=fV t0 4 0) (again:=true) hw h.cw.cm h.p0 h.at_ Z (by show¬ (0:Int)=1;decide) (fun _=>hag) he hx hg hv
 rw[DG,e1]at h1 h2
 exact⟨h2,h.cw.act hk h4 hp (.inr (.inr Z)) (by decide) (by decide) hA,by rw[h1];exact g1,by rw[h1];exact g2⟩
theorem MD {w':Wa} {y:An} (hw:WI np nr 1 wt k K w) (hc:wG vy wt w) (hk:k<400) (h4:np<=4) (hp:1<=np) (h0:P0 w p x) (hA:tG w (fV t0 1 0) w' y):
  ∃ i,Dw np nr (k+1) wt w' p x i (lZ za w.co.next 0 np):=by
 obtain⟨h1,h2⟩:=Fa hA (by show¬ (1:Int)=19;decide)
 have cw:Cw np nr k wt w:=⟨⟨K,hw⟩,hc.ps,hc.sns,hc.co.1,fun _ _=>trivial⟩
 have cw2:=cw.act hk h4 hp (.inl Z) (by decide) (by decide) hA
 rw[Ns]at h1
 unfold mN at h1
 have hi:bB w.co (fV t0 1 0).name=(lR w.co za,w.co.next,0,0):=Ge hw hc
 rw[hi,if_pos Z]at h1
 obtain⟨i,g1,g2⟩:=LR w.sns (lZ za w.co.next 0 w.ps.length)
 rw[hw.ps.len]at g1 g2
 refine⟨i,cw2,?_,?_⟩
 rw[h1];exact⟨h0.pt,h0.ld,h0.rp⟩
 rw[h1]
 refine⟨?_,?_,rfl⟩
 show eK (tf w.sns (lZ za w.co.next 0 w.ps.length)) za=_
 rw[hw.ps.len];exact g1
 show(tf w.sns (lZ za w.co.next 0 w.ps.length))[i]? =_
 rw[hw.ps.len];exact g2
theorem Dw.lost {i:Nat} {s:Sn} (h:Dw np nr k wt w p x i s) (hk:k<400) (h4:np<=4) (hp:1<=np) {w':Wa} {y:An} (hA:tG w (fV tY 3 1) w' y):y.code=14/\Dw np nr (k+1) wt w' p x i (eL s 0 tY):=by
 obtain⟨h1,h2⟩:=Fa hA (by show¬ (3:Int)=19;decide)
 have hl:=JH (a:=fV tY 3 1) h.at_ Z Z
 rw[G1,hl]at h1 h2
 have hs2:=h.at_.set (y:=eL s 0 tY) h.at_.nm
 refine⟨by rw[h2],h.cw.act hk h4 hp (.inr (.inl Z)) (by decide) (by decide) hA,?_,?_⟩
 rw[h1];exact⟨h.p0.pt,h.p0.ld,h.p0.rp⟩
 rw[h1];exact⟨hs2.ix,hs2.sn,hs2.nm⟩
theorem Q5 (hp:1<=np) (Nn:Int):(eL (lZ za Nn 0 np) 0 tX).last[0]? =some ⟨0,Nn,0,0,1,false,tX⟩:=by
 obtain⟨m,rfl⟩: ∃ m,np=m+1:=⟨np-1,by omega⟩
 simp[eL,lZ,j0]
theorem nx2 (hp:1<=np) (Nn:Int):(eL (eL (lZ za Nn 0 np) 0 tX) 0 tY).last[0]? =some ⟨0,Nn,0,1,1,false,tY⟩:=by
 obtain⟨m,rfl⟩: ∃ m,np=m+1:=⟨np-1,by omega⟩
 simp[eL,lZ,j0]
theorem I6 {α:Type} {l:List α} {i:Nat} {a b:α} (h:l[i]? =some a):l.getD i b=a:=by simp[List.getD,h]
theorem Oh:wG vy wt (ow np nr 1 wt):=by
 refine⟨fun q hq=> ?_,by simp[ow],rfl,by simp[ow]⟩
 obtain rfl:q=mL nr 1:=dg hq
 exact⟨⟨.inl Z,fun b hb=>dg hb,fun y hy=>by rw[dg hy]⟩,fun y hy e he=>by rw[dg hy]at he;cases he⟩
theorem LT {l:List Act} (hb: ∀ a∈l,zj np nr false a): ∀ a∈mH np++l,Qe vy a:=fun a ha=>by
 rcases ap.1 ha with ha|ha
 unfold mH gX at ha
 rcases ap.1 ha with ha|ha
 obtain⟨n,-,rfl⟩:=bp.1 ha
 exact .inl ⟨n,rfl⟩
 simp only[ax,bU,or_false]at ha
 rcases ha with rfl|rfl|rfl
 exact .inr ⟨.inl (by show(1:Int)<=9;decide),fun _=>⟨0,rfl⟩⟩
 exact .inr ⟨.inl (by show(1:Int)<=9;decide),fun _=>⟨1,rfl⟩⟩
 exact .inr ⟨.inr (by show(16:Int)<=16;decide),fun h=>absurd h (by show¬ (16:Int)=1;decide)⟩
 obtain⟨h1,h2,-⟩:=(hb a ha).calm Z
 exact .inr ⟨h1,fun h=>absurd h h2⟩
theorem N2 {l:List Act} {us:List An} {w0:Wa} (q1:1<=np) (q4:np<=4) (n1:1<=nr) (n5:nr<=5) (t1:1<=wt) (t2:wt<=1000) (hl:l.length<=40) (hb: ∀ a∈l,zj np nr false a) (h:m6 (ow np nr 1 wt) (mH np++l) us w0):
  ∃ (k:Nat) (K:Nat->List cz) (p:fD) (x:RA),k<=47/\WI np nr 1 wt k K w0/\wG vy wt w0/\P0 w0 p x:=by
 have hlen:(mH np++l).length<=47:=by rw[ay];unfold mH;rw[ay,nT];simp;omega
 have hg:=DF q1 n1 hb
 have hs:=LT hb
 have w00:WI np nr 1 wt 0 (fun _=>[]) (ow np nr 1 wt):=IZ (few:=1) n1 n5 (ao _) n1 t1 t2
 obtain⟨K,-,i1⟩:=LH h w00 I q4 hg
 obtain⟨rest,hr⟩: ∃ rest,mH np++l=kQ 0::rest:=by
  obtain⟨m,rfl⟩: ∃ m,np=m+1:=⟨np-1,by omega⟩
  unfold mH gX
  rw[List.range_succ_eq_map,ey]
  exact⟨_,rfl⟩
 rw[hr]at h hg hs hlen
 cases h with
 |cons hA h=>
  obtain⟨K1,-,i2⟩:=E9 w00 I q4 (hg _ (az ..)) hA
  obtain⟨c1,-,c3⟩:=BD w00 Oh hA
  have hp0:(ow np nr 1 wt).ps[0]? =some (mL nr 1):=by
   obtain⟨m,rfl⟩: ∃ m,np=m+1:=⟨np-1,by omega⟩
   simp[ow,j0]
  obtain⟨q,hq,hql⟩:=c3 _ hp0 (by show(0:Int)<1073741824;decide)
  obtain⟨c4,c5⟩:=Py h i2 c1 (by simp only[bV]at hlen;omega) q4 fun a ha=>⟨hg a (aj _ ha),hs a (aj _ ha)⟩
  obtain⟨p,hp,hpl⟩:=c5 0 q hq hql
  have hok:=(i1.ps.gt 0 p hp).1.ok
  refine⟨_,K,p,_,?_,i1,c4,⟨hp,hpl,ah hok.n1⟩⟩
  rw[hr]
  simpa using hlen
theorem Rg {es:List cz} {e:cz}:(es++[e]).length=es.length+1:=by simp
theorem KN {l:List Act} {d:Int} {xs:List An} {w1:Wa} (q1:1<=np) (q4:np<=4) (n1:1<=nr) (n5:nr<=5) (t1:1<=wt) (t2:wt<=1000) (hl:l.length<=40) (hb: ∀ a∈l,zj np nr false a) (hd:d=1∨d=2) (h:m6 (ow np nr 1 wt) (mH np++l++Fx d) xs w1):
  ∃ (us:List An) (y0 y1 y2 y3 y4 y5:An) (E:Nat),E<=400/\us.length=(mH np++l).length/\xs=us++[y0,y1,y2,y3,y4,y5]/\y1=⟨0,(E:Nat),[]⟩/\y2=⟨0,(E:Nat),[]⟩/\y3.code=14/\y4=⟨0,((E+1:Nat):Int),[]⟩/\y5=⟨0,((E+1:Nat):Int),[]⟩:=by
 obtain⟨us,zs,w0,rfl,r1,r2⟩:=h.split
 obtain⟨k,K,p,x,hk,hw,hc,h0⟩:=N2 q1 q4 n1 n5 t1 t2 hl hb r1
 have hul:=r1.len
 have hi:bB w0.co za=(lR w0.co za,w0.co.next,0,0):=Ge hw hc
 have hN0:0<w0.co.next:=by have:=(Dk (s:=za) hw.co (by rw[hi])).2.2;rwa[hi]at this
 have hN1:w0.co.next<=401:=by have:=hw.co.next;omega
 have hfr:fC x.es w0.co.next=none:=PJ fun e he=>(hc.ps p (ab h0.pt)).2 x (ab h0.rp) e he
 have hE:x.es.length<=400:=((hw.ps.gt 0 p h0.pt).1.ok.at_ h0.rp).gl.len
 generalize hNe:w0.co.next=Nn at*
 unfold Fx at r2
 cases r2 with
 |cons a1 r2=>cases r2 with
 |cons a2 r2=>cases r2 with
 |cons a3 r2=>cases r2 with
 |cons a4 r2=>cases r2 with
 |cons a5 r2=>cases r2 with
 |cons a6 r2=>
  cases r2
  obtain⟨i,D1⟩:=MD hw hc I q4 q1 h0 a1
  rw[hNe]at D1
  have ep:=D1.ep
  have g1:kT (⟨p.epoch,Nn,0,0,1,false,tX⟩:cz):=Gs ep ⟨hN0,by omega⟩ (by decide) (by decide) (by decide)
  have g2:kT (⟨p.epoch,Nn,0,1,1,false,tY⟩:cz):=Gs ep ⟨hN0,by omega⟩ (by decide) (by decide) (by decide)
  obtain⟨v1,p2,x2,e2,f2,D2⟩:=D1.new I q4 q1 (.inl Z) (.inl Z) (by decide) a2 (fun h=>by cases h) (Q5 q1 Nn) Z g1 (If (by show Nn≠0;omega) hfr Z Z)
  have s2:=D2.sent
  rw[f2]at s2
  have l1:((eL (lZ za Nn 0 np) 0 tX).last.getD 0 jV).kind≠0:=by rw[I6 (Q5 q1 Nn)];show(1:Int)≠0;decide
  have l2:((eL (eL (lZ za Nn 0 np) 0 tX) 0 tY).last.getD 0 jV).kind≠0:=by rw[I6 (nx2 q1 Nn)];show(1:Int)≠0;decide
  obtain⟨v2,D3⟩:=D2.dup (j:=x.es.length) I q4 q1 a3 l1 (Q5 q1 Nn) Z (by rw[e2];exact g1) (by rw[f2,e2];exact yi s2 (by show Nn≠0;omega) Z)
  have hv:fc x2.es {(⟨0,Nn,0,1,1,false,tY⟩:cz)with epoch:=p2.epoch}=(-1,0):=by
   obtain⟨pr,b1,b2,b3⟩:=LS (es:=x.es) (e:={(⟨0,Nn,0,0,1,false,tX⟩:cz)with epoch:=p.epoch}) (by show Nn≠0;omega) Z
   rw[f2]
   exact J1 (p:=pr) (by show Nn≠0;omega) b1 Z b2 (by rw[b3];rfl)
  have g2':kT {(⟨0,Nn,0,1,1,false,tY⟩:cz)with epoch:=p2.epoch}:=by rw[e2];exact g2
  have hE2:x2.es.length=x.es.length+1:=by rw[f2,Rg]
  refine⟨us,_,_,_,_,_,_,x.es.length,hE,hul,rfl,v1,v2,?_⟩
  rcases hd with rfl|rfl
  obtain⟨v3,D4⟩:=D3.lost I q4 q1 a4
  obtain⟨v4,p3,x3,e3,f3,D5⟩:=D4.new I q4 q1 (.inr Z) (.inl Z) (by decide) a5 (fun _=>l2) (nx2 q1 Nn) Z g2' hv
  have s3:=D5.sent
  rw[f3]at s3
  obtain⟨v5,D6⟩:=D5.dup (j:=x2.es.length) I q4 q1 a6 l2 (nx2 q1 Nn) Z (by rw[e3];exact g2') (by rw[f3,e3];exact yi s3 (by show Nn≠0;omega) Z)
  rw[hE2]at v4 v5
  exact⟨v3,v4,v5⟩
  obtain⟨v3,p3,x3,e3,f3,D4⟩:=D3.new I q4 q1 (.inl Z) (.inr Z) (by decide) a4 (fun h=>by cases h) (nx2 q1 Nn) Z g2' hv
  have s3:=D4.sent
  rw[f3]at s3
  have g3:kT {(⟨0,Nn,0,1,1,false,tY⟩:cz)with epoch:=p3.epoch}:=by rw[e3];exact g2'
  have hd3:fc x3.es {(⟨0,Nn,0,1,1,false,tY⟩:cz)with epoch:=p3.epoch}=(((x2.es.length:Nat):Int),0):=by rw[f3,e3];exact yi s3 (by show Nn≠0;omega) Z
  obtain⟨v4,D5⟩:=D4.dup (j:=x2.es.length) I q4 q1 a5 l2 (nx2 q1 Nn) Z g3 hd3
  obtain⟨v5,D6⟩:=D5.dup (j:=x2.es.length) I q4 q1 a6 l2 (nx2 q1 Nn) Z g3 hd3
  rw[hE2]at v4 v5
  exact⟨by rw[v3];rfl,v4,v5⟩
end
theorem Eb (np:Nat) (body:List Act):(mH np++body).length=np+3+body.length:=by rw[ay];unfold mH;rw[ay,nT];rfl
theorem Ak {xs:List Aq} {us ys:List An} (h:xs.map Aq.x=us++ys) {j:Nat} {y:An} (hy:ys[j]? =some y): ∃ z,xs[us.length+j]? =some z/\z.x=y:=by
 have h1:(xs.map Aq.x)[us.length+j]? =some y:=by
  rw[h,bX I,j8];exact hy
 rw[aL]at h1
 cases hz:xs[us.length+j]? with
 |none=>rw[hz]at h1;cases h1
 |some z=>rw[hz]at h1;exact⟨z,rfl,ba h1⟩
theorem Qr {np nr:Nat} {l:List Act} {d:Int} (hp:1<=np) (hd:d=1∨d=2) (h: ∀ a∈l,qy np nr a): ∀ a∈l++Fx d,qy np nr a:=fun a ha=>by
 rcases ap.1 ha with ha|ha
 exact h a ha
 unfold Fx at ha
 simp only[ax,bU,or_false]at ha
 rcases ha with rfl|rfl|rfl|rfl|rfl|rfl<;>exact GY hp I I (by decide)
theorem E6 (l:List II) (A:Option Addr) (c:Nat) (a b lost:Int) (w:World) (hr:Rd D9 0 w.heap.size A l w) (hok: ∀ r∈l,r.ok) (_:l.length<=9223372036854775807) (ha:i64 a) (hb:i64 b) (hlo:i64 lost):dh aa rt [.slice A l.length c,J a,J b,J lost] w fun v w2=>v=.bool true/\Below w.heap.size w w2:=by
 refine aE qE Z Z ?_
 have H:=Hp.startRd hr
 obtain⟨np,nr,few,wt,q1,q4,n1,n5,f1,f2,t1,t2,hset⟩:=JD ha hb
 have p2:=iZ lost (show 0<2 by omega)
 refine W<|Zr<|G (Wb Z)<|U<|W<|Zr<|G (Yi Z)<|G (Yi Z)<|ch tE (hset _) Z Z ?_
 rintro _ w1 ⟨rfl,hb⟩;replace H:=H.later hb;clear hb
 refine eP H DN Z fun w2 b9 H=>bo H 0 (#[J (((np:Nat):Int)),J (((nr:Nat):Int)),J (((few:Nat):Int)),J (wt)]) C9 Z Z Z Z Z N N fun w3 H=>U<|W<|Zr<|G (Zf By Z)<|bo H 0 (#[J (((np:Nat):Int)),J (((nr:Nat):Int)),J (1),J (wt)]) bH Z Z Z Z Z N N fun w4 H=>U<|W<|Zr<|G (Ys Z)<|G (Zw sg H 0 Z Z Z)<|ch uv (OV (few:=1) (wt:=wt) (np:=np) (nr:=nr) (most:=40) (hard:=false) l _ _ _ q1 q4 n1 n5 I (H.rd0 0 Z) hok) Z Z ?_
 rintro _ w5 ⟨body,Ab,cb,Lb,rfl,hblbody,hbgbody,ho,hbj⟩;replace H:=(H.join hbj).perm ((mi _ _).trans (.of_eq (congrArg (List.cons _) (aZ Lb).symm))).symm
 have hagbody:=DF q1 I hbgbody
 refine G (Ws Z)<|U<|W<|Zr<|G (Ys Z)<|G (bg (cs:= #[J (1),.string (⟨#[100,101,101]⟩),J (0),J (0),J (0),.string (⟨#[]⟩),J (0)]) gR ig N)<|G (bg (cs:= #[J (3),.string (⟨#[100,101,101]⟩),J (0),J (0),J (0),.string (⟨#[120]⟩),J (0)]) gR ig N)<|G (bg (cs:= #[J (4),.string (⟨#[100,101,101]⟩),J (0),J (0),J (0),.string (⟨#[]⟩),J (0)]) gR ig N)<|G (Yi Z)<|ch aG (di lost (2) _ hlo.1 hlo.2 I I) Z Z ?_
 rintro _ w6 ⟨rfl,hb⟩;replace H:=H.later hb;clear hb
 refine G (bw Z Z I I)<|G (bg (cs:= #[J (3),.string (⟨#[100,101,101]⟩),J (0),J (0),J (0),.string (⟨#[121]⟩),J (1+(((pk lost (2):Nat):Int)))]) gR ig N)<|G (bg (cs:= #[J (4),.string (⟨#[100,101,101]⟩),J (0),J (0),J (0),.string (⟨#[]⟩),J (0)]) gR ig N)<|G (bg (cs:= #[J (4),.string (⟨#[100,101,101]⟩),J (0),J (0),J (0),.string (⟨#[]⟩),J (0)]) gR ig N)<|s9 (vs:=[.agg #[J (1),.string za,J 0,J 0,J 0,.string t0,J (0)],.agg #[J (3),.string za,J 0,J 0,J 0,.string tX,J (0)],.agg #[J (4),.string za,J 0,J 0,J 0,.string t0,J (0)],.agg #[J (3),.string za,J 0,J 0,J 0,.string tY,J (1+(pk lost 2:Nat))],.agg #[J (4),.string za,J 0,J 0,J 0,.string t0,J (0)],.agg #[J (4),.string za,J 0,J 0,J 0,.string t0,J (0)]]) H uK ig Z Z Z Z Z Z fun w7 b32 H=>vP (Y:=si) xI (K:=[(b32,_),(b9,_)]) (L:=Lb) (M:=[]) H ho (es:=mH np++body) (news:=Fx (1+(pk lost 2:Nat):Int)) Z Z Z (wz.row (m:=6) (sz:=si.sz) (H.ent (i:=0) Z) Z) (by have h1:=Eb np body;have h2:(Fx (1+(pk lost 2:Nat):Int)).length=6:=rfl;show((mH np++body).length+(Fx (1+(pk lost 2:Nat):Int)).length)*72<=140737488355328;omega) Z ?_
 intro A5 c5 w8 L5 h5 h5m ho5 H
 have hrd5:=(ho5.rd H).mono (bG _) (ao _)
 refine G (Ws Z)<|U<|W<|Zr<|G (Zw sg H 1 Z Z Z)<|G (Ys Z)<|ch vn (Ox (np:=np) (nr:=nr) (few:=1) (wt:=wt) (acts:=(mH np++body++Fx (1+(pk lost 2:Nat):Int))) _ q1 q4 n1 n5 I I t1 t2 hrd5 (by rw[ay,Eb];show _+6<=400;omega) (Qr q1 I hagbody)) Z Z ?_
 rintro _ w9 ⟨xs,oA,oC,⟨ps,pA,pC,co,clo,chi,gr,glo,ghi,sns,snA,snC⟩,rfl,hrun,hrd,hrb⟩;replace H:=H.learn hrb (Rl w8.heap.size w9.heap.size ⟨xs,oA,oC,⟨ps,pA,pC,co,clo,chi,gr,glo,ghi,sns,snA,snC⟩⟩) hrd (ao _) (ao _);clear hrd hrb
 refine G (Yu Z)<|G (Xs Z Z)<|G (Xa Z Z)<|G (Xb Z Z)<|eP H qL Z fun w10 b12 H=>G (Ws Z)<|bo H 0 (#[.slice pA ps.length pC,J (co.clock),J (co.next),J (co.wait),.slice co.A co.txs.length co.cap,J (gr.clock),J (gr.wait),J (gr.gen),.slice gr.mA gr.ms.length gr.mC,.slice gr.oA gr.os.length gr.oC,.slice snA sns.length snC]) nA Z Z Z Z Z N N fun w11 H=>G (Wb Z)<|U<|W<|W<|Zr<|G (Yb Z)<|G (dM Z)<|U<|ZF Z<|Zk<|W<|Zr<|G (Ys Z)<|G (br yU Z)<|G (Wi Z)<|U<|W ?_
 obtain⟨us,y0,y1,y2,y3,y4,y5,E,hE,hul,hxs,r1,r2,r3,r4,r5⟩:=KN q1 q4 n1 n5 t1 t2 hblbody hbgbody I hrun
 rw[Eb]at hul
 have hxm:xs.length=us.length+6:=by have:=congrArg ci hxs;simpa using this
 obtain⟨z1,hz1,e1⟩:=Ak hxs (j:=1) Z
 obtain⟨z2,hz2,e2⟩:=Ak hxs (j:=2) Z
 obtain⟨z3,hz3,e3⟩:=Ak hxs (j:=3) Z
 obtain⟨z4,hz4,e4⟩:=Ak hxs (j:=4) Z
 obtain⟨z5,hz5,e5⟩:=Ak hxs (j:=5) Z
 have c1:z1.x.code=0:=by rw[e1,r1]
 have c2:z2.x.code=0:=by rw[e2,r2]
 have n21:z2.x.n=z1.x.n:=by rw[e1,e2,r1,r2]
 have c3:z3.x.code=14:=by rw[e3,r3]
 have c4:z4.x.code=0:=by rw[e4,r4]
 have n54:z5.x.n=z4.x.n:=by rw[e5,e4,r5,r4]
 have hn1:z1.x.n=(E:Nat):=by rw[e1,r1]
 have n41:z4.x.n=z1.x.n+1:=by rw[e4,e1,r4,r1];show((E+1:Nat):Int)=(E:Nat)+1;omega
 have hs5:((xs.length:Nat):Int)-5=((us.length+1:Nat):Int):=by omega
 have hs4:((xs.length:Nat):Int)-4=((us.length+2:Nat):Int):=by omega
 have hs3:((xs.length:Nat):Int)-3=((us.length+3:Nat):Int):=by omega
 have hs2:((xs.length:Nat):Int)-2=((us.length+4:Nat):Int):=by omega
 have hs1:((xs.length:Nat):Int)-1=((us.length+5:Nat):Int):=by omega
 replace H:Hp w w11 _ (dU Ql w8.heap.size w9.heap.size oA xs::_):=Hp.rnXs H 0 Z
 refine bA cd [0,1,2,3,4,5,6,7,8,9,10,11,12,13,14,15,16,17,18,19,20,21,22,23,24,25,26,27,28,29,30,31,32,33,34,35,36,37,38,39,40,41,42,43,44,45,46,47,48,49,50,51,52,53,54,55,56,57,58,59,60,61,62,63,64,65,66,67,68,69,70,71,72,73,74,75,76,77,78,79,80] [] [] [0,1,2,3,4,6,7,8,9,10,11,12,14,15,16,17,18,19,20,21,23,24,25,26,27,29,30,31,32,33,34,35,36,38,39,40,41,42,43,44,45,47,48,49,50,51,52,53,54,56,57,58,59,60,62,63,64,65,66,67,68,69,71,72,73,74,75,77,78,79,80] (sp []) N N N N Nq (cI _) ?_
 refine aw Z Z Z Z Z (fun w' hw'=>Ys Z)<|aw Z Z Z Z Z (fun w' hw'=>Yi Z)<|aw Z Z Z Z Z (fun w' hw'=>jf Z Z I I) ?_
 rw[hs5]
 refine jO H 0 Z Z Z Z Z iB Z Z I I fun bq12 o12 x12 e12=> ?_
 obtain rfl:z1=x12:=by have:=e12.at_;rw[hz1]at this;exact ba this
 refine aw Z Z Z Z Z (fun w' hw'=>Zf qU Z)<|aw Z Z Z Z Z (fun w' hw'=>aW uO Z (e12.later hw' 0 _ Z))<|aw Z Z Z Z Z (fun w' hw'=>lQ Z Z c1)<|aw Z Z Z Z Z (fun w' hw'=>Yb Z)<|aw Z Z Z Z Z (fun w' hw'=>Ys Z)<|aw Z Z Z Z Z (fun w' hw'=>Yi Z)<|aw Z Z Z Z Z (fun w' hw'=>jf Z Z I I) ?_
 rw[hs4]
 refine jO H 0 Z Z Z Z Z iB Z Z I I fun bq13 o13 x13 e13=> ?_
 obtain rfl:z2=x13:=by have:=e13.at_;rw[hz2]at this;exact ba this
 refine aw Z Z Z Z Z (fun w' hw'=>Zf qU Z)<|aw Z Z Z Z Z (fun w' hw'=>aW uO Z (e13.later hw' 0 _ Z))<|aw Z Z Z Z Z (fun w' hw'=>lQ Z Z c2)<|aw Z Z Z Z Z (fun w' hw'=>Kt Z Z)<|aw Z Z Z Z Z (fun w' hw'=>Yb Z)<|aw Z Z Z Z Z (fun w' hw'=>Ys Z)<|aw Z Z Z Z Z (fun w' hw'=>Yi Z)<|aw Z Z Z Z Z (fun w' hw'=>jf Z Z I I) ?_
 rw[hs4]
 refine jO H 0 Z Z Z Z Z iB Z Z I I fun bq14 o14 x14 e14=> ?_
 obtain rfl:z2=x14:=by have:=e14.at_;rw[hz2]at this;exact ba this
 refine aw Z Z Z Z Z (fun w' hw'=>Zf mf Z)<|aw Z Z Z Z Z (fun w' hw'=>aW ak Z (e14.later hw' 1 _ Z))<|aw Z Z Z Z Z (fun w' hw'=>Ys Z)<|aw Z Z Z Z Z (fun w' hw'=>Yi Z)<|aw Z Z Z Z Z (fun w' hw'=>jf Z Z I I) ?_
 rw[hs5]
 refine jO H 0 Z Z Z Z Z iB Z Z I I fun bq15 o15 x15 e15=> ?_
 obtain rfl:z1=x15:=by have:=e15.at_;rw[hz1]at this;exact ba this
 refine aw Z Z Z Z Z (fun w' hw'=>Zf mf Z)<|aw Z Z Z Z Z (fun w' hw'=>aW ak Z (e15.later hw' 1 _ Z))<|aw Z Z Z Z Z (fun w' hw'=>lQ Z Z n21)<|aw Z Z Z Z Z (fun w' hw'=>Kt Z Z)<|aw Z Z Z Z Z (fun w' hw'=>Yb Z)<|aw Z Z Z Z Z (fun w' hw'=>Ys Z)<|aw Z Z Z Z Z (fun w' hw'=>Yi Z)<|aw Z Z Z Z Z (fun w' hw'=>jf Z Z I I) ?_
 rw[hs3]
 refine jO H 0 Z Z Z Z Z iB Z Z I I fun bq16 o16 x16 e16=> ?_
 obtain rfl:z3=x16:=by have:=e16.at_;rw[hz3]at this;exact ba this
 refine aw Z Z Z Z Z (fun w' hw'=>Zf qU Z)<|aw Z Z Z Z Z (fun w' hw'=>aW uO Z (e16.later hw' 0 _ Z))<|aw Z Z Z Z Z (fun w' hw'=>lQ Z Z c3)<|aw Z Z Z Z Z (fun w' hw'=>Kt Z Z)<|aw Z Z Z Z Z (fun w' hw'=>Yb Z)<|aw Z Z Z Z Z (fun w' hw'=>Ys Z)<|aw Z Z Z Z Z (fun w' hw'=>Yi Z)<|aw Z Z Z Z Z (fun w' hw'=>jf Z Z I I) ?_
 rw[hs2]
 refine jO H 0 Z Z Z Z Z iB Z Z I I fun bq17 o17 x17 e17=> ?_
 obtain rfl:z4=x17:=by have:=e17.at_;rw[hz4]at this;exact ba this
 refine aw Z Z Z Z Z (fun w' hw'=>Zf qU Z)<|aw Z Z Z Z Z (fun w' hw'=>aW uO Z (e17.later hw' 0 _ Z))<|aw Z Z Z Z Z (fun w' hw'=>lQ Z Z c4)<|aw Z Z Z Z Z (fun w' hw'=>Kt Z Z)<|aw Z Z Z Z Z (fun w' hw'=>Yb Z)<|aw Z Z Z Z Z (fun w' hw'=>Ys Z)<|aw Z Z Z Z Z (fun w' hw'=>Yi Z)<|aw Z Z Z Z Z (fun w' hw'=>jf Z Z I I) ?_
 rw[hs1]
 refine jO H 0 Z Z Z Z Z iB Z Z I I fun bq18 o18 x18 e18=> ?_
 obtain rfl:z5=x18:=by have:=e18.at_;rw[hz5]at this;exact ba this
 refine aw Z Z Z Z Z (fun w' hw'=>Zf mf Z)<|aw Z Z Z Z Z (fun w' hw'=>aW ak Z (e18.later hw' 1 _ Z))<|aw Z Z Z Z Z (fun w' hw'=>Ys Z)<|aw Z Z Z Z Z (fun w' hw'=>Yi Z)<|aw Z Z Z Z Z (fun w' hw'=>jf Z Z I I) ?_
 rw[hs2]
 refine jO H 0 Z Z Z Z Z iB Z Z I I fun bq19 o19 x19 e19=> ?_
 obtain rfl:z4=x19:=by have:=e19.at_;rw[hz4]at this;exact ba this
 refine aw Z Z Z Z Z (fun w' hw'=>Zf mf Z)<|aw Z Z Z Z Z (fun w' hw'=>aW ak Z (e19.later hw' 1 _ Z))<|aw Z Z Z Z Z (fun w' hw'=>lQ Z Z n54)<|aw Z Z Z Z Z (fun w' hw'=>Kt Z Z)<|aw Z Z Z Z Z (fun w' hw'=>Yb Z)<|aw Z Z Z Z Z (fun w' hw'=>Ys Z)<|aw Z Z Z Z Z (fun w' hw'=>Yi Z)<|aw Z Z Z Z Z (fun w' hw'=>jf Z Z I I) ?_
 rw[hs2]
 refine jO H 0 Z Z Z Z Z iB Z Z I I fun bq20 o20 x20 e20=> ?_
 obtain rfl:z4=x20:=by have:=e20.at_;rw[hz4]at this;exact ba this
 refine aw Z Z Z Z Z (fun w' hw'=>Zf mf Z)<|aw Z Z Z Z Z (fun w' hw'=>aW ak Z (e20.later hw' 1 _ Z))<|aw Z Z Z Z Z (fun w' hw'=>Ys Z)<|aw Z Z Z Z Z (fun w' hw'=>Yi Z)<|aw Z Z Z Z Z (fun w' hw'=>jf Z Z I I) ?_
 rw[hs5]
 refine jO H 0 Z Z Z Z Z iB Z Z I I fun bq21 o21 x21 e21=> ?_
 obtain rfl:z1=x21:=by have:=e21.at_;rw[hz1]at this;exact ba this
 refine aw Z Z Z Z Z (fun w' hw'=>Zf mf Z)<|aw Z Z Z Z Z (fun w' hw'=>aW ak Z (e21.later hw' 1 _ Z))<|aw Z Z Z Z Z (fun w' hw'=>bw Z Z I I)<|aw Z Z Z Z Z (fun w' hw'=>lQ Z Z n41)<|aw Z Z Z Z Z (fun w' hw'=>Kt Z Z)<|aw Z Z Z Z Z (fun w' hw'=>Wb Z)<|aV ?_
 intro w22 hw' hF
 replace H:=H.later hw';clear hw' hF
 refine U<|Zt ?_
 exact cH (v:=.bool true) Z Z ⟨rfl,H.below⟩
end Go.Proofs.YtclibalpdhhhfaaGreat

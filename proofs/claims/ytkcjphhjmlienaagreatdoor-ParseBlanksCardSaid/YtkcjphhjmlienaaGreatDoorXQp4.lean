import Derived.Test.YtkcjphhjmlienaaGreatDoorXQp3
import Derived.Test.YtkcjphhjmlienaaGreatDoorXQp2
import Derived.Test.YtkcjphhjmlienaaGreatDoorProg
import Derived.Test.YtkcjphhjmlienaaGreatDoorXQp1
import Derived.Test.YtkcjphhjmlienaaGreatDoorAi3
import Derived.Test.YtkcjphhjmlienaaGreatDoorRows
import Derived.LaidMore
import Derived.LaidHandle
import Derived.Stop.LaidErr
/- Functions of the program as plain functions, and what they come to; part 4. -/
namespace Go.Proofs.YtkcjphhjmlienaaGreatDoor
set_option linter.unusedVariables false
set_option linter.unusedSimpArgs false
open Go Ai Go.Proofs
namespace Qp
def Al (U V:List Tok) (d:Nat):Prop:=∀ i,(tk U (i+d)).1=(tk V i).1∧(tk U (i+d)).2.1=(tk V i).2.1
def RF {σ α:Type} (R:σ→σ→Prop) (Q:α→α→Prop) (F' F:σ→α×σ):Prop:=∀ s' s,R s' s→Q (F' s').1 (F s).1∧R (F' s').2 (F s).2
def Rt (d:Nat) (σ' σ:St):Prop:=σ'.1=σ.1+d∧σ'.2.map Prod.fst=σ.2.map Prod.fst
section
variable {σ α β γ:Type} {R:σ→σ→Prop} {Q:α→α→Prop} {Q2:β→β→Prop}
theorem RF.bnd {f' f:σ→α×σ} {g' g:α→σ→β×σ} (hf:RF R Q f' f) (hg:∀ x' x,Q x' x→RF R Q2 (g' x') (g x)):RF R Q2 (Qp.bnd f' g') (Qp.bnd f g):=fun s' s h=>by
 obtain ⟨h1,h2⟩:=hf s' s h;exact hg _ _ h1 _ _ h2
theorem RF.bnE {f' f:σ→α×σ} {g' g:α→σ→β×σ} (hf:RF R Eq f' f) (hg:∀ x,RF R Q2 (g' x) (g x)):RF R Q2 (Qp.bnd f' g') (Qp.bnd f g):=hf.bnd fun x' x h=>by subst h;exact hg _
theorem RF.mapE {f' f:σ→α×σ} (hf:RF R Eq f' f) (h:α→β):RF R Eq (jI h f') (jI h f):=fun s' s q=>by
 obtain ⟨h1,h2⟩:=hf s' s q;exact ⟨congrArg h h1,h2⟩
theorem RF.map {f' f:σ→α×σ} (hf:RF R Q f' f) {h' h:α→β} (hh:∀ x' x,Q x' x→Q2 (h' x') (h x)):RF R Q2 (jI h' f') (jI h f):=fun s' s q=>by
 obtain ⟨h1,h2⟩:=hf s' s q;exact ⟨hh _ _ h1,h2⟩
theorem uM (x:α):RF R Eq (oM (σ:=σ) x) (oM x):=fun s' s h=>⟨rfl,h⟩
theorem iAc {x' x:α} (hx:Q x' x):RF R Q (oM (σ:=σ) x') (oM x):=fun s' s h=>⟨hx,h⟩
theorem mAt {c' c:σ→Bool} {Y' Y X' X:σ→α×σ} (hc:∀ s' s,R s' s→c' s'=c s) (hY:RF R Q Y' Y) (hX:RF R Q X' X):RF R Q (fun s=>if c' s=true then Y' s else X' s) (fun s=>if c s=true then Y s else X s):=fun s' s h=>by
 simp only [hc s' s h]
 split
 ·exact hY s' s h
 ·exact hX s' s h
end
abbrev RE (d:Nat) {α:Type} (F' F:St→α×St):Prop:=RF (Rt d) Eq F' F
section
variable {U V:List Tok} {d:Nat} {α:Type}
theorem Rt.cases {σ' σ:St} (h:Rt d σ' σ):(∃ i,σ=(i,none)∧σ'=(i+d,none))∨∃ i c a a',σ=(i,some (c,a))∧σ'=(i+d,some (c,a')):=by
 obtain ⟨i',o'⟩:=σ';obtain ⟨i,o⟩:=σ;obtain ⟨h1,h2⟩:=h;have h1:i'=i+d:=h1;subst h1
 cases o with
 | none=>
  cases o' with
  | none=>exact .inl ⟨i,rfl,rfl⟩
  | some e=>simp at h2
 | some e=>
  obtain ⟨c,a⟩:=e
  cases o' with
  | none=>simp at h2
  | some e'=>
   obtain ⟨c',a'⟩:=e'
   have:c'=c:=by simpa using h2
   subst this;exact .inr ⟨i,c',a,a',rfl,rfl⟩
theorem Rt.n (i:Nat):Rt d (i+d,none) (i,none):=⟨rfl,rfl⟩
theorem Rt.n1 (i:Nat):Rt d (i+d+1,none) (i+1,none):=⟨by show i+d+1=i+1+d;omega,rfl⟩
theorem Rt.e (i:Nat) (c a a':Int):Rt d (i+d,some (c,a')) (i,some (c,a)):=⟨rfl,rfl⟩
theorem RE.of {F' F:St→α×St} (h1:∀ i,(F' (i+d,none)).1=(F (i,none)).1∧Rt d (F' (i+d,none)).2 (F (i,none)).2) (h2:∀ i c a a',(F' (i+d,some (c,a'))).1=(F (i,some (c,a))).1∧Rt d (F' (i+d,some (c,a'))).2 (F (i,some (c,a))).2):RE d F' F:=fun s' s h=>by
 rcases h.cases with ⟨i,rfl,rfl⟩ | ⟨i,c,a,a',rfl,rfl⟩
 ·exact h1 i
 ·exact h2 i c a a'
theorem Al.is (hc:Al U V d) (w:Bs) (i:Nat):isS U w (i+d)=isS V w i:=by unfold isS;rw [(hc i).1,(hc i).2]
theorem tA8 (hc:Al U V d) (w:Bs):RE d (kB U w) (kB V w):=RE.of (fun i=>by
 by_cases h:isS V w i=true
 ·simp only [kB,hc.is,h,if_true];exact ⟨trivial,Rt.n1 i⟩
 ·simp only [kB,hc.is,h,Bool.false_eq_true,if_false];exact ⟨trivial,Rt.n i⟩) fun i c a a'=>⟨rfl,Rt.e i c a a'⟩
theorem tJ (hc:Al U V d) (k:Int):RE d (iC U k) (iC V k):=RE.of (fun i=>by
 simp only [iC,(hc i).1,(hc i).2,iF]
 split
 ·exact ⟨rfl,Rt.n1 i⟩
 ·exact ⟨rfl,Rt.e i _ _ _⟩) fun i c a a'=>⟨rfl,Rt.e i c a a'⟩
theorem aAk (c:Int) (x:α):RE d (dAm U c x) (dAm V c x):=RE.of (fun i=>⟨rfl,Rt.e i _ _ _⟩) fun i c a a'=>⟨rfl,Rt.e i c a a'⟩
theorem kH (hc:Al U V d) (w:Bs):RE d (lH U w) (lH V w):=RE.of (fun i=>by
 simp only [lH,oAw,hc.is]
 cases isS V w i with
 | true=>exact ⟨trivial,Rt.n1 i⟩
 | false=>exact ⟨trivial,Rt.e i _ _ _⟩) fun i c a a'=>by unfold lH;rw [gH,gH];exact ⟨rfl,Rt.e i c a a'⟩
theorem aF (hc:Al U V d) (w:Bs) {Q:α→α→Prop} {Y' Y X' X:St→α×St} (hY:RF (Rt d) Q Y' Y) (hX:RF (Rt d) Q X' X):RF (Rt d) Q (yM U w Y' X') (yM V w Y X):=fun s' s h=>by
 obtain ⟨h1,h2⟩:=tA8 hc w s' s h;unfold yM;rw [h1]
 split
 ·exact hY _ _ h2
 ·exact hX _ _ h2
theorem cBc (hc:Al U V d) (w:Bs) {Y' Y X' X:St→α×St} (hY:RE d Y' Y) (hX:RE d X' X):RE d (fun σ=>if (kB U w σ).1=true then Y' σ else X' σ) (fun σ=>if (kB V w σ).1=true then Y σ else X σ):=
 mAt (c':=fun σ=>(kB U w σ).1) (c:=fun σ=>(kB V w σ).1) (fun s' s h=>(tA8 hc w s' s h).1) hY hX
theorem mAz (hc:Al U V d) (p:Int→Bool) {Y' Y X' X:St→α×St} (hY:RE d Y' Y) (hX:RE d X' X):RE d (fun σ=>if p (tk U σ.1).1=true then Y' σ else X' σ) (fun σ=>if p (tk V σ.1).1=true then Y σ else X σ):=
 mAt (c':=fun σ=>p (tk U σ.1).1) (c:=fun σ=>p (tk V σ.1).1) (fun s' s h=>by show p _=p _;rw [h.1,(hc s.1).1]) hY hX
theorem bAk (hc:Al U V d) (w:Bs) {s' s:St} (h:Rt d s' s):dF U w s'=dF V w s:=by
 rcases h.cases with ⟨i,rfl,rfl⟩ | ⟨i,c,a,a',rfl,rfl⟩
 ·have e:=hc (i+1)
  rw [show i+1+d=i+d+1 by omega] at e;simp only [dF,(hc i).1,e.1,e.2]
 ·rfl
theorem nAt (hc:Al U V d) {s' s:St} (h:Rt d s' s):yF U s'=yF V s:=by simp only [yF,bAk hc _ h]
theorem oAt (hc:Al U V d):RE d (lI U) (lI V):=by
 have h:∀ T,lI T=bnd (iC T 1) fun a=>yM T [58,58] (jI (fun c=>a++[58,58]++c) (iC T 1)) (oM a):=fun T=>rfl;rw [h,h];exact (tJ hc 1).bnE fun a=>aF hc _ ((tJ hc 1).mapE _) (uM _)
theorem wB4 (hc:Al U V d):∀ g,RE d (eI U g) (eI V g):=fun g=>by
 induction g with
 | zero=>
  have h0:∀ T,eI T 0=dAm T 5 ([]:List Bs):=fun T=>rfl;rw [h0,h0];exact aAk 5 _
 | succ g ih=>
  have h1:∀ T g,eI T (g+1)=bnd (iC T 3) fun a=>yM T [44] (jI (a::·) (eI T g)) (oM [a]):=fun T g=>rfl;rw [h1,h1];exact (tJ hc 3).bnE fun a=>aF hc _ (ih.mapE _) (uM _)
theorem pAt (hc:Al U V d):RE d (oI U) (oI V):=by
 have h:∀ T,oI T=yM T [60] (bnd (eI T 64) fun l=>jI (fun _=>l) (lH T [62])) (oM []):=fun T=>rfl;rw [h,h];exact aF hc _ ((wB4 hc 64).bnE fun l=>(kH hc _).mapE _) (uM _)
theorem dBc (hc:Al U V d) {one' one:St→D×St} (ho:RE d one' one) (sep:Bs):∀ g,RE d (gO U one' sep g) (gO V one sep g):=fun g=>by
 induction g with
 | zero=>
  have h0:∀ T one,gO T one sep 0=dAm T 5 ([]:List D):=fun T one=>rfl;rw [h0,h0];exact aAk 5 _
 | succ g ih=>
  have h1:∀ T one g,gO T one sep (g+1)=bnd one fun a=>yM T sep (jI (a::·) (gO T one sep g)) (oM [a]):=fun T one g=>rfl;rw [h1,h1];exact ho.bnE fun a=>aF hc _ (ih.mapE _) (uM _)
theorem yV (hc:Al U V d) {one' one:St→D×St} (ho:RE d one' one) (sep:Bs):RE d (bE U one' sep) (bE V one sep):=RE.of (fun i=>dBc hc ho sep 64 _ _ (Rt.n i)) fun i c a a'=>⟨rfl,Rt.e i c a a'⟩
theorem eBc (hc:Al U V d):RE d (mA1 U) (mA1 V):=by
 have h:∀ T,mA1 T=fun σ=>if (fun k:Int=>decide (k=3)) (tk T σ.1).1=true then jI (fun x=>[x]) (iC T 3) σ else oM [] σ:=fun T=>by
  funext σ
  simp only [mA1,jI,oM,decide_eq_true_eq]
 rw [h,h];exact mAz hc (fun k:Int=>decide (k=3)) ((tJ hc 3).mapE _) (uM _)
theorem gAx (hc:Al U V d):∀ g,RE d (yL U g) (yL V g):=fun g=>by
 induction g with
 | zero=>
  have h0:∀ T,yL T 0=dAm T 6 (tyD 0 [] [] []):=fun T=>rfl;rw [h0,h0];exact aAk 6 _
 | succ g ih=>
  let F:=fun T:List Tok=>yM T [105,110,116] (oM (tyD 1 [] [] [])) (yM T [98,111,111,108] (oM (tyD 2 [] [] []))
   (yM T [38] (bnd (mA1 T) fun d=>bnd (kB T [109,117,116]) fun m=>jI (fun t=>tyD (if m=true then 5 else 4) [] d [t]) (yL T g))
    (bnd (lI T) fun n=>jI (fun l=>tyD 3 n l []) (oI T))))
  have hF:RE d (F U) (F V):=aF hc _ (uM _) (aF hc _ (uM _) (aF hc _ ((eBc hc).bnE fun x=>(tA8 hc _).bnE fun m=>ih.mapE _) ((oAt hc).bnE fun n=>(pAt hc).mapE _)));have he:∀ (T:List Tok) (i:Nat),yL T (g+1) (i,none)=F T (i,none):=fun T i=>by
   simp only [yL,F,yM,bnd,jI,oM]
  exact RE.of (fun i=>by rw [he,he];exact hF _ _ (Rt.n i)) fun i c a a'=>by rw [aAj,aAj];exact ⟨rfl,Rt.e i c a a'⟩
theorem yB4 (hc:Al U V d):RE d (pG U) (pG V):=by
 have h:∀ T,pG T=bnd (iC T 1) fun a=>bnd (lH T [58]) fun _=>jI (fun r=>fdD false a r) (yL T 64):=fun T=>rfl;rw [h,h];exact (tJ hc 1).bnE fun a=>(kH hc _).bnE fun _=>(gAx hc 64).mapE _
theorem aB5 (hc:Al U V d):RE d (tA1 U 3) (tA1 V 3):=(tJ hc 3).mapE D.s
theorem qBg (hc:Al U V d):RE d (wX U) (wX V):=by
 have h:∀ T,wX T=bnd (iC T 3) fun a=>yM T [58] (jI (fun l=>rA1 a l) (bE T (tA1 T 3) [43])) (oM (rA1 a [])):=fun T=>rfl;rw [h,h];exact (tJ hc 3).bnE fun a=>aF hc _ ((yV hc (aB5 hc) _).mapE _) (uM _)
theorem bB5 (hc:Al U V d):RE d (uF U) (uF V):=by
 have h:∀ T,uF T=bnd (kB T [109,117,116]) fun m=>bnd (iC T 1) fun a=>bnd (lH T [58]) fun _=>jI (fun r=>fdD m a r) (yL T 64):=fun T=>rfl;rw [h,h];exact (tA8 hc _).bnE fun m=>(tJ hc 1).bnE fun a=>(kH hc _).bnE fun _=>(gAx hc 64).mapE _
theorem fBc (hc:Al U V d):∀ g,RE d (lK U g) (lK V g):=fun g=>by
 induction g with
 | zero=>
  have h:∀ T,lK T 0=yM T [46] (dAm T 5 ([]:List Bs)) (oM []):=fun T=>rfl;rw [h,h];exact aF hc _ (aAk 5 _) (uM _)
 | succ g ih=>
  have h:∀ T,lK T (g+1)=yM T [46] (yM T [42] (jI ([42]::·) (lK T g)) (bnd (iC T 1) fun x=>jI (x::·) (lK T g))) (oM []):=fun T=>rfl;rw [h,h];exact aF hc _ (aF hc _ (ih.mapE _) ((tJ hc 1).bnE fun x=>ih.mapE _)) (uM _)
theorem uA8 (hc:Al U V d):RE d (qG U) (qG V):=by
 have h:∀ T,qG T=bnd (iC T 1) fun a=>jI (fun p=>rA1 a (p.map D.s)) (lK T 64):=fun T=>rfl;rw [h,h];exact (tJ hc 1).bnE fun a=>(fBc hc 64).mapE _
theorem aA3 (hc:Al U V d):RE d (kF U) (kF V):=by
 have h:∀ T,kF T=yM T [116,114,117,101] (oM (opD 2 1 pl0)) (yM T [102,97,108,115,101] (oM (opD 2 0 pl0)) (fun σ=>if (fun k:Int=>decide (k=4)) (tk T σ.1).1=true then jI (fun x=>opD 1 ((tU x 0:Nat):Int) pl0) (iC T 4) σ else jI (fun p=>opD 3 0 p) (qG T) σ)):=fun T=>by
  funext σ
  simp only [kF,yM,jI,oM,decide_eq_true_eq]
 rw [h,h];exact aF hc _ (uM _) (aF hc _ (uM _) (mAz hc (fun k:Int=>decide (k=4)) ((tJ hc 4).mapE _) ((uA8 hc).mapE _)))
theorem nAz (hc:Al U V d):RE d (bU U) (bU V):=by
 have h:∀ T,bU T=bnd (lH T [40]) fun _=>yM T [41] (oM []) (bnd (bE T (kF T) [44]) fun l=>jI (fun _=>l) (lH T [41])):=fun T=>by
  funext σ
  rfl
 rw [h,h];exact (kH hc _).bnE fun _=>aF hc [41] (uM ([]:List D)) ((yV hc (aA3 hc) [44]).bnE fun l=>(kH hc [41]).mapE fun _=>l)
theorem gBc (hc:Al U V d):RE d (yX U) (yX V):=by
 have h:∀ T,yX T=bnd (iC T 1) fun a=>bnd (lH T [58]) fun _=>jI (fun o=>D.t [.s a,o]) (kF T):=fun T=>rfl;rw [h,h];exact (tJ hc 1).bnE fun a=>(kH hc _).bnE fun _=>(aA3 hc).mapE _
theorem iBc (hc:Al U V d):RE d (cU U) (cU V):=by
 have h:∀ T,cU T=bnd (lH T [123]) fun _=>yM T [125] (oM []) (bnd (bE T (yX T) [44]) fun l=>jI (fun _=>l) (lH T [125])):=fun T=>by
  funext σ
  rfl
 rw [h,h];exact (kH hc _).bnE fun _=>aF hc [125] (uM ([]:List D)) ((yV hc (gBc hc) [44]).bnE fun l=>(kH hc [125]).mapE fun _=>l)
theorem cB5 (hc:Al U V d):RE d (vQ U) (vQ V):=by
 have h:∀ T,vQ T=bnd (lI T) fun a=>fun σ=>if (kB T [123] σ).1=true then jI (fun l:List D=>vaD 7 op0 op0 0 pl0 a (l.map d1) (l.map d2)) (cU T) σ else jI (fun l=>vaD 6 op0 op0 0 pl0 a [] l) (bU T) σ:=fun T=>by
  funext σ
  rfl
 rw [h,h];exact (oAt hc).bnE fun a=>cBc hc _ ((iBc hc).mapE _) ((nAz hc).mapE _)
theorem cBi (hc:Al U V d):∀ (l:List Bs) (k:Int),RE d (opS U l k) (opS V l k)
 | [],k=>uM none
 | s::r,k=>by
  have h:∀ T,opS T (s::r) k=yM T s (jI (fun o=>some (k,o)) (kF T)) (opS T r (k+1)):=fun T=>rfl;rw [h,h];exact aF hc _ ((aA3 hc).mapE _) (cBi hc r (k+1))
theorem oAg (hc:Al U V d):RE d (iI U) (iI V):=by
 have h:∀ T,iI T=yM T [38] (bnd (kB T [109,117,116]) fun m=>jI (fun p=>vaD (if m=true then 3 else 2) op0 op0 0 p [] [] []) (qG T))
   (yM T [33] (jI (fun o=>vaD 4 o op0 0 pl0 [] [] []) (kF T)) (fun σ=>if (yF T σ||dF T [123] σ)=true then vQ T σ else (bnd (kF T) fun o=>jI (fun s=>opV o s) (opS T iO 1)) σ)):=fun T=>by
  funext σ
  rfl
 rw [h,h];exact aF hc _ ((tA8 hc _).bnE fun m=>(uA8 hc).mapE _) (aF hc _ ((aA3 hc).mapE _) (mAt (c':=fun σ=>yF U σ||dF U [123] σ) (c:=fun σ=>yF V σ||dF V [123] σ) (fun s' s h=>by show (yF U s'||dF U [123] s')=_;rw [nAt hc h,bAk hc _ h]) (cB5 hc) ((aA3 hc).bnE fun o=>(cBi hc _ _).mapE _)))
def Qs (n:Nat) (x y:D):Prop:=nK n x=nK n y
end
end Qp
namespace Qp
def nA3 (T:List Tok) (pub:Bool) (j:Nat):ItS:=
 let a:Int:=((tk T j).2.2:Int)
 if isS T [115,116,114,117,99,116] j=true then ⟨some (true,(jF T pub a (j+1,none)).1),(jF T pub a (j+1,none)).2.1,inS a (jF T pub a (j+1,none)).2.2,0⟩
 else if isS T [102,110] j=true then ⟨some (false,(wI T pub a (j+1,none)).1),(wI T pub a (j+1,none)).2.1.1,inS a (wI T pub a (j+1,none)).2.1.2,(wI T pub a (j+1,none)).2.2⟩
 else ⟨none,j,some (21,a,none),0⟩
theorem pAg (T:List Tok) (i:Nat):cN T (i,none)=if isS T [112,117,98] i=true then nA3 T true (i+1) else nA3 T false i:=by
 have h:∀ (pub:Bool) (j:Nat),(let at_:Int:=((tk T j).2.2:Int)
   let b:=kB T [115,116,114,117,99,116] (j,none)
   if b.1=true then (⟨some (true,(jF T pub at_ b.2).1),(jF T pub at_ b.2).2.1,inS at_ (jF T pub at_ b.2).2.2,0⟩:ItS) else
   let f:=kB T [102,110] b.2
   if f.1=true then ⟨some (false,(wI T pub at_ f.2).1),(wI T pub at_ f.2).2.1.1,inS at_ (wI T pub at_ f.2).2.1.2,(wI T pub at_ f.2).2.2⟩
   else ⟨none,(iF T 21 f.2).1,gAs (iF T 21 f.2).2,0⟩)=nA3 T pub j:=by
  intro pub j;unfold nA3
  by_cases h1:isS T [115,116,114,117,99,116] j=true
  ·simp only [kB,h1,if_true]
  ·by_cases h2:isS T [102,110] j=true
   ·simp only [kB,h1,Bool.false_eq_true,if_false,h2,if_true]
   ·simp only [kB,h1,Bool.false_eq_true,if_false,h2,iF,gAs]
 unfold cN
 by_cases h1:isS T [112,117,98] i=true
 ·have e:kB T [112,117,98] (i,none)=(true,(i+1,none)):=by simp only [kB,h1,if_true]
  rw [if_pos h1,← h true (i+1),e]
 ·have e:kB T [112,117,98] (i,none)=(false,(i,none)):=by simp only [kB,h1,Bool.false_eq_true,if_false]
  rw [if_neg h1,← h false i,e]
section
variable {T' T:List Tok} {E:Nat} {Bd:Int×Int→Prop}
end
theorem eZ:∀ {t:Bs} {m:Nat},runN t≤m→runN (t.take m)=runN t
 | [],m,_=>by simp
 | c::r,m,h=>by
  simp only [runN] at h ⊢
  split at h
  ·rename_i hc
   obtain ⟨m,rfl⟩:∃ k,m=k+1:=⟨m-1,by omega⟩;simp only [List.take_succ_cons,runN,hc,if_true];rw [eZ (by omega)]
  ·rename_i hc
   cases m with
   | zero=>simp only [List.take_zero,runN,hc,Bool.false_eq_true,if_false]
   | succ m=>simp only [List.take_succ_cons,runN,hc,Bool.false_eq_true,if_false]
theorem iAx {p t:Bs} {m:Nat} (h:nH p (t.take m)=true):nH p t=true:=by
 simp only [nH,Bool.and_eq_true,decide_eq_true_eq,eE,beq_iff_eq,List.length_take,List.take_take] at h ⊢;obtain ⟨h1,h2⟩:=h;exact ⟨by omega,by rw [Nat.min_eq_left (by omega)] at h2;exact h2⟩
theorem qAt {p t:Bs} {m:Nat} (hm:p.length≤m) (h:nH p t=true):nH p (t.take m)=true:=by
 simp only [nH,Bool.and_eq_true,decide_eq_true_eq,eE,beq_iff_eq,List.length_take,List.take_take] at h ⊢;obtain ⟨h1,h2⟩:=h;exact ⟨by omega,by rw [Nat.min_eq_left (by omega)];exact h2⟩
theorem aW {t:Bs} {n m:Nat} (h:n≤m):(t.take m).take n=t.take n:=by rw [List.take_take,Nat.min_eq_left h]
theorem jAc {t x:Bs} {k:Int} {n m:Nat} (h:uC t=some (k,x,n)) (hm:n≤m):uC (t.take m)=some (k,x,n):=by
 cases t with
 | nil=>cases h
 | cons c r=>
  have hn:=rF h;obtain ⟨m,rfl⟩:∃ k,m=k+1:=⟨m-1,by omega⟩;rw [List.take_succ_cons];rw [uC] at h ⊢
  split at h
  ·rename_i h1
   rw [if_pos h1];have hr:runN (c::r)≤m+1:=by
    simp only [pJ] at h
    split at h
    ·simp only [Option.some.injEq,Prod.mk.injEq] at h;omega
    ·split at h
     ·simp only [Option.some.injEq,Prod.mk.injEq] at h;omega
     ·cases h
   have e:=eZ hr;rw [List.take_succ_cons] at e;simp only [pJ,e] at h ⊢;have e2:(c::List.take m r).take (runN (c::r))=(c::r).take (runN (c::r)):=by rw [← List.take_succ_cons,aW hr]
   rw [e2];exact h
  ·rename_i h1
   rw [if_neg h1]
   split at h
   ·rename_i h2
    rw [if_pos h2];have hr:runN (c::r)≤m+1:=by
     simp only [jQ] at h
     split at h
     ·simp only [Option.some.injEq,Prod.mk.injEq] at h;omega
     ·cases h
    have e:=eZ hr;rw [List.take_succ_cons] at e;simp only [jQ,e] at h ⊢;have e2:(c::List.take m r).take (runN (c::r))=(c::r).take (runN (c::r)):=by rw [← List.take_succ_cons,aW hr]
    rw [e2];exact h
   ·rename_i h2
    rw [if_neg h2]
    split at h
    ·rename_i h3
     rw [if_pos h3];simp only [wL] at h ⊢
     split at h
     ·rename_i h4
      split at h
      ·rename_i h5
       simp only [Option.some.injEq,Prod.mk.injEq] at h;have hr:runN r≤m:=by omega
       have h6:dI yB (r.take m)=true:=by
        cases r with
        | nil=>cases h4
        | cons d r=>
         have h4':yB d=true:=h4
         have:1≤runN (d::r):=by simp [runN,uL,h4']
         obtain ⟨m,rfl⟩:∃ k,m=k+1:=⟨m-1,by omega⟩;exact h4'
       rw [if_pos h6,eZ hr,if_pos h5,aW hr];simp only [h,Option.some.injEq,Prod.mk.injEq,and_self]
      ·cases h
     ·cases h
    ·rename_i h3
     rw [if_neg h3];simp only [cG] at h ⊢;have hne:∀ p:Bs,nH p (c::r)=false→nH p (c::r.take m)=false:=fun p hp=>by
      cases e:nH p (c::r.take m) with
      | false=>rfl
      | true=>rw [iAx (m:=m+1) (by rw [List.take_succ_cons];exact e)] at hp;cases hp
     have hye:∀ p:Bs,p.length≤m+1→nH p (c::r)=true→nH p (c::r.take m)=true:=fun p hl hp=>by
      have:=qAt (m:=m+1) hl hp
      rwa [List.take_succ_cons] at this
     have hf:oJ (c::r.take m) two=oJ (c::r) two:=by
      by_cases q:1≤m
      ·have key:∀ p∈two,nH p (c::r.take m)=nH p (c::r):=fun p hp=>by
        have hl:p.length≤m+1:=by
         simp only [two,List.mem_cons,List.not_mem_nil,or_false] at hp;rcases hp with rfl | rfl | rfl <;> simp <;> omega
        cases e:nH p (c::r) with
        | false=>exact hne p e
        | true=>exact hye p hl e
       simp only [two,oJ,key [58,58] (by simp [two]),key [45,62] (by simp [two]),key [61,61] (by simp [two])]
      ·have hm0:m=0:=by omega
       subst hm0;have hn1:n=1:=by omega
       subst hn1;have e0:oJ (c::r.take 0) two=none:=by simp [two,oJ,nH]
       rw [e0]
       split at h
       ·simp at h
       ·rename_i hf;exact hf.symm
     rw [hf]
     split at h
     ·rename_i p hp;exact h
     ·exact h
end Qp
namespace Qp
def Qs2 (n:Nat) (x y:D):Prop:=∀ m,n≤m→nK m x=nK m y
def Ql (n:Nat) (l' l:List D):Prop:=∀ m,n≤m→l'.map (nK m)=l.map (nK m)
def Rs (d:Nat) (s' s:SC):Prop:=Rt d s'.1 s.1∧s'.2=s.2
section
variable {U V:List Tok} {d n:Nat} {α β:Type}
theorem nU {k a' a:Int} {m:Bool} {nm:Bs} {ty:D} {hs:Bool} {pl va co:D}:Qs2 (n+1) (smT k a' m nm ty hs pl va co [] []) (smT k a m nm ty hs pl va co [] []):=fun m' hm=>by
 obtain ⟨m',rfl⟩:∃ q,m'=q+1:=⟨m'-1,by omega⟩;rfl
theorem rAt {k a' a:Int} {m:Bool} {nm:Bs} {ty:D} {hs:Bool} {pl va co:D} {th' th el' el:List D} (h1:Ql n th' th) (h2:Ql n el' el):Qs2 (n+1) (smT k a' m nm ty hs pl va co th' el') (smT k a m nm ty hs pl va co th el):=fun m' hm=>by
 obtain ⟨m',rfl⟩:∃ q,m'=q+1:=⟨m'-1,by omega⟩;rw [mU,mU,h1 m' (by omega),h2 m' (by omega)]
theorem Ql.refl (l:List D):Ql n l l:=fun _ _=>rfl
theorem kAc {Q:α→α→Prop} {F' F:St→α×St} (h:RF (Rt d) Q F' F):RF (Rs d) Q (tA7 F') (tA7 F):=fun s' s q=>by
 obtain ⟨h1,h2⟩:=h s'.1 s.1 q.1;exact ⟨h1,h2,q.2⟩
theorem lAc (hc:Al U V d) (w:Bs) {Q:α→α→Prop} {Y' Y X' X:SC→α×SC} (hY:RF (Rs d) Q Y' Y) (hX:RF (Rs d) Q X' X):RF (Rs d) Q (qAw U w Y' X') (qAw V w Y X):=fun s' s h=>by
 obtain ⟨h1,h2⟩:=tA8 hc w s'.1 s.1 h.1;unfold qAw;rw [h1]
 split
 ·exact hY _ _ ⟨h2,h.2⟩
 ·exact hX _ _ ⟨h2,h.2⟩
theorem rBg (hc:Al U V d) (w:Bs) {Q:α→α→Prop} {Y' Y X' X:SC→α×SC} (hY:RF (Rs d) Q Y' Y) (hX:RF (Rs d) Q X' X):RF (Rs d) Q (isJ U w Y' X') (isJ V w Y X):=fun s' s h=>by
 obtain ⟨h1,h2⟩:=tA8 hc w s'.1 s.1 h.1;unfold isJ;rw [h1]
 split
 ·exact hY _ _ h
 ·exact hX _ _ h
theorem tBg (hc:Al U V d) (a' a:Int):RF (Rt d) (Qs2 (n+1)) (eAn U a') (eAn V a):=by
 have h:∀ T a,eAn T a=bnd (kB T [109,117,116]) fun m=>bnd (iC T 1) fun n=>bnd (lH T [58]) fun _=>bnd (yL T 64) fun t=>yM T [61] (bnd (iI T) fun v=>jI (fun _=>smD { aG a with k:=1,m:=m,nm:=n,has:=true } { dN with ty:=t,va:=v }) (lH T [59])) (jI (fun _=>smD { aG a with k:=1,m:=m,nm:=n } { dN with ty:=t }) (lH T [59])):=fun T a=>by
  funext σ
  rfl
 rw [h,h];exact (tA8 hc _).bnE fun m=>(tJ hc 1).bnE fun x=>(kH hc _).bnE fun _=>(gAx hc 64).bnE fun t=>aF hc _ ((oAg hc).bnE fun v=>(kH hc _).map fun _ _ _=>nU) ((kH hc _).map fun _ _ _=>nU)
theorem dB5 (hc:Al U V d) (a' a:Int):RF (Rt d) (Qs2 (n+1)) (fH U a') (fH V a):=by
 have h:∀ T a,fH T a=yM T [98,114,101,97,107] (oM (smD { aG a with k:=8 } dN)) (yM T [99,111,110,116,105,110,117,101] (oM (smD { aG a with k:=9 } dN))
   (yM T [114,101,116,117,114,110] (fun σ=>if (kB T [59] σ).1=true then oM (smD { aG a with k:=10 } dN) σ else jI (fun v=>smD { aG a with k:=10,has:=true } { dN with va:=v }) (iI T) σ)
   (yM T [100,114,111,112] (jI (fun p=>smD { aG a with k:=11 } { dN with pl:=p }) (qG T)) (fun σ=>if yF T σ=true then (bnd (lI T) fun n=>jI (fun l=>smD { aG a with k:=3 } { dN with va:=vaD 6 op0 op0 0 pl0 n [] l }) (bU T)) σ
    else (bnd (qG T) fun p=>bnd (lH T [61]) fun _=>jI (fun v=>smD { aG a with k:=2 } { dN with pl:=p,va:=v }) (iI T)) σ)))):=fun T a=>by
  funext σ
  rfl
 rw [h,h];exact aF hc _ (iAc nU) (aF hc _ (iAc nU) (aF hc _ (mAt (c':=fun σ=>(kB U [59] σ).1) (c:=fun σ=>(kB V [59] σ).1) (fun s' s h=>(tA8 hc _ s' s h).1) (iAc nU) ((oAg hc).map fun _ _ e=>by subst e;exact nU))
  (aF hc _ ((uA8 hc).map fun _ _ e=>by subst e;exact nU) (mAt (c':=yF U) (c:=yF V) (fun s' s h=>nAt hc h) ((oAt hc).bnE fun x=>(nAz hc).map fun _ _ e=>by subst e;exact nU)
   ((uA8 hc).bnE fun p=>(kH hc _).bnE fun _=>(oAg hc).map fun _ _ e=>by subst e;exact nU)))))
def Qi (n:Nat) (x y:List D×Option (List D)):Prop:=Ql n x.1 y.1∧((x.2=none∧y.2=none)∨∃ f' f,x.2=some f'∧y.2=some f∧Ql n f' f)
theorem uBg {a' a:Int} {o:D} {x y:List D×Option (List D)} (h:Qi n x y):Qs2 (n+1) (ifV a' o x) (ifV a o y):=by
 obtain ⟨t',f'⟩:=x;obtain ⟨t,f⟩:=y;obtain ⟨h1,h2⟩:=h;rcases h2 with ⟨h3,h4⟩ | ⟨g',g,h3,h4,h5⟩
 ·have h3:f'=none:=h3
  have h4:f=none:=h4;subst h3 h4;exact rAt h1 (Ql.refl [])
 ·have h3:f'=some g':=h3
  have h4:f=some g:=h4;subst h3 h4;exact rAt h1 h5
theorem eB5 (hc:Al U V d) {blk' blk:SC→List D×SC} (hb:RF (Rs d) (Ql n) blk' blk) (a' a:Int):RF (Rs d) (Qs2 (n+1)) (rAw U blk' a') (rAw V blk a):=by
 have hif:RF (Rs d) (Qi n) (ifF U blk') (ifF V blk):=hb.bnd fun t' t ht=>lAc hc _ (hb.map fun f' f hf=>⟨ht,.inr ⟨f',f,rfl,rfl,hf⟩⟩) (iAc ⟨ht,.inl ⟨rfl,rfl⟩⟩);exact lAc hc _ (kAc (tBg hc _ _)) (lAc hc _ ((kAc (aA3 hc)).bnd fun o' o ho=>by subst ho;exact hif.map fun _ _ h=>uBg h)
  (lAc hc _ ((kAc (aA3 hc)).bnd fun o' o ho=>by subst ho;exact hb.map fun _ _ h=>rAt h (Ql.refl []))
   (lAc hc _ (hb.map fun _ _ h=>rAt h (Ql.refl []))
    (rBg hc _ (hb.map fun _ _ h=>rAt h (Ql.refl [])) (kAc ((dB5 hc _ _).bnd fun x' x hx=>(kH hc _).map fun _ _ _=>hx))))))
theorem jBc (hc:Al U V d) {blk' blk:SC→List D×SC} (hb:RF (Rs d) (Ql n) blk' blk):RF (Rs d) (Qs2 (n+1)) (nM U blk') (nM V blk):=fun s' s h=>by
 rw [kAs,kAs];exact eB5 hc hb _ _ s' s h
theorem Rs.cases {s' s:SC} (h:Rs d s' s):(∃ i c,s=((i,none),c)∧s'=((i+d,none),c))∨∃ i c k a a',s=((i,some (k,a)),c)∧s'=((i+d,some (k,a')),c):=by
 obtain ⟨σ',c'⟩:=s';obtain ⟨σ,c⟩:=s;obtain ⟨h1,h2⟩:=h;have h2:c'=c:=h2;subst h2;rcases h1.cases with ⟨i,h3,h4⟩ | ⟨i,k,a,a',h3,h4⟩
 ·have h3:σ=_:=h3
  have h4:σ'=_:=h4;subst h3 h4;exact .inl ⟨i,c',rfl,rfl⟩
 ·have h3:σ=_:=h3
  have h4:σ'=_:=h4;subst h3 h4;exact .inr ⟨i,c',k,a,a',rfl,rfl⟩
theorem fB5 (hc:Al U V d) {one' one:SC→D×SC} (ho:RF (Rs d) (Qs2 n) one' one):∀ f,RF (Rs d) (fun x y:List D×Bool=>Ql n x.1 y.1∧x.2=y.2) (iE U one' f) (iE V one f):=by
 intro f
 induction f with
 | zero=>intro s' s h;exact ⟨⟨Ql.refl [],rfl⟩,h⟩
 | succ f ih=>
  intro s' s h;rcases h.cases with ⟨i,c,rfl,rfl⟩ | ⟨i,c,k,a,a',rfl,rfl⟩
  ·rw [jAj,jAj,hc.is,(hc i).1]
   by_cases q1:isS V [125] i=true
   ·rw [if_pos q1,if_pos q1];exact ⟨⟨Ql.refl [],rfl⟩,Rt.n1 i,rfl⟩
   ·rw [if_neg q1,if_neg q1]
    by_cases q2:c=2000∧(tk V i).1≠0
    ·rw [if_pos q2,if_pos q2];exact ⟨⟨Ql.refl [],rfl⟩,Rt.e i _ _ _,rfl⟩
    ·rw [if_neg q2,if_neg q2]
     obtain ⟨h1,h2⟩:=ho ((i+d,none),c+1) ((i,none),c+1) ⟨Rt.n i,rfl⟩;obtain ⟨⟨h3,h4⟩,h5⟩:=ih _ _ h2;exact ⟨⟨fun m hm=>by simp only [List.map_cons];rw [h1 m hm,h3 m hm],h4⟩,h5⟩
  ·rw [yAb,yAb];exact ⟨⟨Ql.refl [],rfl⟩,Rt.e i _ _ _,rfl⟩
theorem gB5 (hc:Al U V d):∀ g,RF (Rs d) (Ql g) (yE U g) (yE V g):=by
 intro g
 induction g with
 | zero=>
  intro s' s h;rcases h.cases with ⟨i,c,rfl,rfl⟩ | ⟨i,c,k,a,a',rfl,rfl⟩
  ·exact ⟨Ql.refl [],Rt.e i _ _ _,rfl⟩
  ·exact ⟨Ql.refl [],Rt.e i _ _ _,rfl⟩
 | succ g ih=>
  intro s' s h;rw [yA1,yA1];refine RF.map (Q:=fun x y:List D×Bool=>Ql (g+1) x.1 y.1∧x.2=y.2) ((kAc (kH hc [123])).bnE fun _=>fB5 hc (jBc hc ih) 2001) (fun x' x hx=>?_) s' s h;obtain ⟨h1,h2⟩:=hx;unfold wA1;rw [h2]
  split
  ·exact Ql.refl []
  ·exact h1
theorem jAx (hc:Al U V d) (pub:Bool) (a' a:Int):RF (Rt d) (fun x y=>iK x=iK y) (jF U pub a') (jF V pub a):=by
 have h:∀ T a,jF T pub a=bnd (iC T 1) fun n=>bnd (oI T) fun l=>bnd (lH T [123]) fun _=>yM T [125] (oM (iAw pub n l [] a)) (bnd (bE T (pG T) [44]) fun fs=>jI (fun _=>iAw pub n l fs a) (lH T [125])):=fun T a=>rfl;rw [h,h];exact (tJ hc 1).bnE fun x=>(pAt hc).bnE fun l=>(kH hc _).bnE fun _=>aF hc _ (iAc rfl) ((yV hc (yB4 hc) _).bnE fun fs=>(kH hc _).map fun _ _ _=>rfl)
theorem kBc (hc:Al U V d):RE d (tR U) (tR V):=
 (tJ hc 1).bnE fun x=>(aF hc _ ((yV hc (qBg hc) _).bnE fun l=>(kH hc _).mapE _) (uM _)).bnE fun l=>(kH hc _).bnE fun _=>(aF hc _ (uM _) ((yV hc (bB5 hc) _).bnE fun p=>(kH hc _).mapE _)).bnE fun p=>(aF hc _ (gAx hc 64) (uM _)).bnE fun t=>uM _
theorem oAz (pub:Bool) (a:Int) (x:HdR) (b:List D):bareFu (fnD pub a x b)=fnD pub 0 x (b.map (nK 65)):=rfl
theorem lBc (hc:Al U V d) (pub:Bool) (a' a:Int) {s' s:St} (h:Rt d s' s):bareFu (wI U pub a' s').1=bareFu (wI V pub a s).1∧Rs d (wI U pub a' s').2 (wI V pub a s).2:=by
 rw [uA7,uA7];obtain ⟨h1,h2⟩:=kBc hc s' s h;obtain ⟨h3,h4⟩:=gB5 hc 64 ((tR U s').2,0) ((tR V s).2,0) ⟨h2,rfl⟩;dsimp only;exact ⟨by rw [oAz,oAz,h1,h3 65 (by omega)],h4⟩
def Qd (x' x:Option (Bool×D)):Prop:=(x'=none∧x=none)∨(∃ y' y,x'=some (true,y')∧x=some (true,y)∧iK y'=iK y)∨∃ y' y,x'=some (false,y')∧x=some (false,y)∧bareFu y'=bareFu y
def IR (d:Nat) (x' x:ItS):Prop:=x'.i=x.i+d∧x'.e.map Prod.fst=x.e.map Prod.fst∧Qd x'.d x.d
theorem cAk (a' a:Int) {e' e:Er} (h:e'.map Prod.fst=e.map Prod.fst):(inS a' e').map Prod.fst=(inS a e).map Prod.fst:=by
 cases e with
 | none=>cases e' with
  | none=>rfl
  | some e'=>simp at h
 | some e=>cases e' with
  | none=>simp at h
  | some e'=>
   obtain ⟨c',b'⟩:=e';obtain ⟨c,b⟩:=e;simpa [inS] using h
theorem tAt (hc:Al U V d) (pub:Bool) (j:Nat):IR d (nA3 U pub (j+d)) (nA3 V pub j):=by
 unfold nA3;simp only [hc.is]
 by_cases q1:isS V [115,116,114,117,99,116] j=true
 ·simp only [q1,if_true]
  obtain ⟨h1,h2⟩:=jAx hc pub ((tk U (j+d)).2.2:Int) ((tk V j).2.2:Int) (j+d+1,none) (j+1,none) (Rt.n1 j);exact ⟨h2.1,cAk _ _ h2.2,.inr (.inl ⟨_,_,rfl,rfl,h1⟩)⟩
 ·simp only [q1,Bool.false_eq_true,if_false]
  by_cases q2:isS V [102,110] j=true
  ·simp only [q2,if_true]
   obtain ⟨h1,h2⟩:=lBc hc pub ((tk U (j+d)).2.2:Int) ((tk V j).2.2:Int) (Rt.n1 j);exact ⟨h2.1.1,cAk _ _ h2.1.2,.inr (.inr ⟨_,_,rfl,rfl,h1⟩)⟩
  ·simp only [q2,Bool.false_eq_true,if_false]
   exact ⟨rfl,rfl,.inl ⟨rfl,rfl⟩⟩
theorem mBc (hc:Al U V d) (i:Nat):IR d (cN U (i+d,none)) (cN V (i,none)):=by
 rw [pAg,pAg,hc.is]
 split
 ·have:=tAt hc true (i+1)
  rwa [show i+1+d=i+d+1 by omega] at this
 ·exact tAt hc false i
theorem Qd.add {x' x:Option (Bool×D)} (h:Qd x' x):(rAc x' []).map iK=(rAc x []).map iK∧(tAc x' []).map bareFu=(tAc x []).map bareFu:=by
 rcases h with ⟨rfl,rfl⟩ | ⟨y',y,rfl,rfl,e⟩ | ⟨y',y,rfl,rfl,e⟩
 ·exact ⟨rfl,rfl⟩
 ·exact ⟨by simp [rAc,e],rfl⟩
 ·exact ⟨rfl,by simp [tAc,e]⟩
theorem iB5 (hc:Al U V d):∀ (f i:Nat),(nE U f (i+d)).2.map Prod.fst=(nE V f i).2.map Prod.fst∧(nE U f (i+d)).1.1.map iK=(nE V f i).1.1.map iK∧(nE U f (i+d)).1.2.map bareFu=(nE V f i).1.2.map bareFu:=by
 intro f
 induction f with
 | zero=>
  intro i;simp only [nE,(hc i).1]
  split
  ·exact ⟨rfl,rfl,rfl⟩
  ·exact ⟨rfl,rfl,rfl⟩
 | succ f ih=>
  intro i;simp only [nE,(hc i).1]
  split
  ·exact ⟨rfl,rfl,rfl⟩
  ·obtain ⟨h1,h2,h3⟩:=mBc hc i
   generalize cN U (i+d,none)=z' at *;generalize cN V (i,none)=z at *
   cases he:z.e with
   | none=>
    rw [he] at h2;have he':z'.e=none:=by
     cases q:z'.e with
     | none=>rfl
     | some x=>rw [q] at h2;simp at h2
    rw [he'];dsimp only;rw [h1];obtain ⟨a1,a2⟩:=h3.add;obtain ⟨b1,b2,b3⟩:=ih z.i;exact ⟨b1,by rw [List.map_append,List.map_append,a1,b2],by rw [List.map_append,List.map_append,a2,b3]⟩
   | some x=>
    rw [he] at h2;obtain ⟨x',he'⟩:∃ x',z'.e=some x':=by
     cases q:z'.e with
     | none=>rw [q] at h2;simp at h2
     | some x'=>exact ⟨x',rfl⟩
    rw [he'];rw [he'] at h2;exact ⟨h2,rfl,rfl⟩
end
end Qp
namespace Qp
section
variable {T:List Tok}
theorem pAz {P:D→Prop} {one:St→D×St} (h:∀ σ,P (one σ).1) (sep:Bs):∀ (g:Nat) (σ:St),(∀ x∈(gO T one sep g σ).1,P x)∧(gO T one sep g σ).1.length≤g
 | 0,σ=>⟨by simp [gO],by simp [gO]⟩
 | g+1,σ=>by
  simp only [gO]
  split
  ·obtain ⟨h1,h2⟩:=pAz h sep g (kB T sep (one σ).2).2
   refine ⟨fun x hx=>?_,by simp only [List.length_cons];omega⟩;rcases List.mem_cons.1 hx with rfl | hx
   ·exact h σ
   ·exact h1 x hx
  ·refine ⟨fun x hx=>?_,by simp⟩
   rw [List.mem_singleton.1 hx];exact h σ
theorem bW {P:D→Prop} {one:St→D×St} (h:∀ σ,P (one σ).1) (sep:Bs) (σ:St):(∀ x∈(bE T one sep σ).1,P x)∧(bE T one sep σ).1.length≤64:=by
 unfold bE
 split
 ·exact pAz h sep 64 _
 ·exact ⟨by simp,by simp⟩
theorem qAg:∀ {l:List D},(∀ x∈l,∃ b:Bs,x=D.s b)→∃ xs:List Bs,l=xs.map D.s
 | [],_=>⟨[],rfl⟩
 | x::r,h=>by
  obtain ⟨b,hb⟩:=h x (by simp);obtain ⟨xs,hx⟩:=qAg (l:=r) (fun y hy=>h y (by simp [hy]));exact ⟨b::xs,by rw [hb,hx];rfl⟩
theorem uJ:isLf pl0:=⟨[],[],rfl,by simp⟩
theorem vJ:isOp op0:=⟨0,0,_,rfl,uJ⟩
theorem cW:uA4 65 ty0D:=⟨0,[],[],[],rfl,by simp,by simp,by simp⟩
theorem uAt {k op:Int} {a b pl:D} {nm:Bs} (h1:isOp a) (h2:isOp b) (h3:isLf pl):isVa (vaD k a b op pl nm [] []):=⟨k,a,b,op,pl,nm,[],[],rfl,h1,h2,h3,by simp,by simp,by simp⟩
theorem oA3:isVa va00:=uAt vJ vJ uJ
theorem bA3 (σ:St):uA4 65 (yL T 64 σ).1:=bAr T 64 σ
theorem jB5 (σ:St):isFd (pG T σ).1:=⟨_,_,_,rfl,bA3 _⟩
theorem kB5 (σ:St):isFd (uF T σ).1:=⟨_,_,_,rfl,bA3 _⟩
theorem vBg (σ:St):isLf (wX T σ).1:=by
 simp only [wX]
 split
 ·obtain ⟨h1,h2⟩:=bW (T:=T) (one:=tA1 T 3) (P:=fun x=>∃ b:Bs,x=D.s b) (fun σ=>⟨_,rfl⟩) [43] (kB T [58] (iC T 3 σ).2).2
  obtain ⟨xs,hx⟩:=qAg h1;rw [hx] at h2 ⊢;rw [List.length_map] at h2;exact ⟨_,xs,rfl,by omega⟩
 ·exact ⟨_,[],rfl,by simp⟩
theorem cA3:∀ (g:Nat) (σ:St),(lK T g σ).1.length≤g
 | 0,σ=>by simp only [lK];split <;> simp
 | g+1,σ=>by
  simp only [lK]
  split
  ·split
   ·have:=cA3 g (kB T [42] (kB T [46] σ).2).2
    simp only [List.length_cons];omega
   ·have:=cA3 g (iC T 1 (kB T [42] (kB T [46] σ).2).2).2
    simp only [List.length_cons];omega
  ·simp
theorem vA8 (σ:St):isLf (qG T σ).1:=⟨_,_,rfl,by have:=cA3 (T:=T) 64 (iC T 1 σ).2;omega⟩
theorem oU (σ:St):isOp (kF T σ).1:=by
 simp only [kF]
 split
 ·exact ⟨_,_,_,rfl,uJ⟩
 ·split
  ·exact ⟨_,_,_,rfl,uJ⟩
  ·split
   ·exact ⟨_,_,_,rfl,uJ⟩
   ·exact ⟨_,_,_,rfl,vA8 _⟩
theorem qAz (σ:St):(∀ x∈(bU T σ).1,isOp x)∧(bU T σ).1.length≤64:=by
 simp only [bU]
 split
 ·exact ⟨by simp,by simp⟩
 ·exact bW oU _ _
theorem nBc (σ:St):(∀ x∈(cU T σ).1,∃ b:Bs,∃ o,x=.t [.s b,o]∧isOp o)∧(cU T σ).1.length≤64:=by
 simp only [cU]
 split
 ·exact ⟨by simp,by simp⟩
 ·exact bW (one:=yX T) (fun σ=>⟨_,_,rfl,oU _⟩) _ _
theorem lB5 (σ:St):isVa (vQ T σ).1:=by
 simp only [vQ]
 split
 ·obtain ⟨h1,h2⟩:=nBc (T:=T) (lI T σ).2
  obtain ⟨xs,hx⟩:=qAg (l:=((cU T (lI T σ).2).1.map d1)) (fun y hy=>by
   obtain ⟨z,hz,rfl⟩:=List.mem_map.1 hy;obtain ⟨b,o,rfl,_⟩:=h1 z hz;exact ⟨b,rfl⟩)
  rw [hx];have hl:xs.length=(cU T (lI T σ).2).1.length:=by rw [← List.length_map (f:=D.s),← hx,List.length_map]
  exact ⟨_,_,_,_,_,_,xs,_,rfl,vJ,vJ,uJ,by omega,by rw [List.length_map];omega,fun o ho=>by
   obtain ⟨z,hz,rfl⟩:=List.mem_map.1 ho;obtain ⟨b,o,rfl,h⟩:=h1 z hz;exact h⟩
 ·obtain ⟨h1,h2⟩:=qAz (T:=T) (lI T σ).2
  exact ⟨_,_,_,_,_,_,[],_,rfl,vJ,vJ,uJ,by simp,by omega,h1⟩
theorem dBi:∀ (l:List Bs) (k:Int) (σ:St),(opS T l k σ).1=none∨∃ q o,(opS T l k σ).1=some (q,o)∧isOp o
 | [],k,σ=>.inl rfl
 | s::r,k,σ=>by
  simp only [opS]
  split
  ·exact .inr ⟨_,_,rfl,oU _⟩
  ·exact dBi r (k+1) _
theorem rAg (σ:St):isVa (iI T σ).1:=by
 simp only [iI]
 split
 ·exact uAt vJ vJ (vA8 _)
 ·split
  ·exact uAt (oU _) vJ uJ
  ·split
   ·exact lB5 _
   ·rcases dBi (T:=T) iO 1 (kF T (kB T [33] (kB T [38] σ).2).2).2 with h | ⟨q,o,h,ho⟩
    ·rw [h];exact uAt (oU _) vJ uJ
    ·rw [h];exact uAt (oU _) ho uJ
theorem pU {n:Nat} {k a:Int} {m:Bool} {nm:Bs} {ty:D} {hs:Bool} {pl va co:D} (h1:uA4 65 ty) (h2:isLf pl) (h3:isVa va) (h4:isOp co):isSm (n+1) (smT k a m nm ty hs pl va co [] []):=⟨k,a,m,nm,ty,hs,pl,va,co,[],[],rfl,h1,h2,h3,h4,by simp,by simp,by simp,by simp⟩
theorem vAt {n:Nat} {k a:Int} {m:Bool} {nm:Bs} {ty:D} {hs:Bool} {pl va co:D} {th el:List D} (h1:uA4 65 ty) (h2:isLf pl) (h3:isVa va) (h4:isOp co) (h5:(∀ s∈th,isSm n s)∧th.length≤3000) (h6:(∀ s∈el,isSm n s)∧el.length≤3000):isSm (n+1) (smT k a m nm ty hs pl va co th el):=⟨k,a,m,nm,ty,hs,pl,va,co,th,el,rfl,h1,h2,h3,h4,h5.2,h6.2,h5.1,h6.1⟩
theorem wBg {n:Nat} (a:Int) (σ:St):isSm (n+1) (eAn T a σ).1:=by
 simp only [eAn]
 split
 ·exact pU (bA3 _) uJ (rAg _) vJ
 ·exact pU (bA3 _) uJ oA3 vJ
theorem mB5 {n:Nat} (a:Int) (σ:St):isSm (n+1) (fH T a σ).1:=by
 simp only [fH]
 split
 ·exact pU cW uJ oA3 vJ
 ·split
  ·exact pU cW uJ oA3 vJ
  ·split
   ·split
    ·exact pU cW uJ oA3 vJ
    ·exact pU cW uJ (rAg _) vJ
   ·split
    ·exact pU cW (vA8 _) oA3 vJ
    ·split
     ·rename_i hq
      obtain ⟨h1,h2⟩:=qAz (T:=T) (lI T (kB T [100,114,111,112] (kB T [114,101,116,117,114,110] (kB T [99,111,110,116,105,110,117,101] (kB T [98,114,101,97,107] σ).2).2).2).2).2;exact pU cW uJ ⟨_,_,_,_,_,_,[],_,rfl,vJ,vJ,uJ,by simp,by omega,h1⟩ vJ
     ·exact pU cW (vA8 _) (rAg _) vJ
theorem wAt {n:Nat}:(∀ s∈([]:List D),isSm n s)∧([]:List D).length≤3000:=⟨by simp,by simp⟩
theorem oBc {n:Nat} {blk:SC→List D×SC} (hb:∀ s,(∀ x∈(blk s).1,isSm n x)∧(blk s).1.length≤3000) (s:SC):isSm (n+1) (nM T blk s).1:=by
 simp only [nM]
 split
 ·exact wBg _ _
 ·split
  ·split
   ·exact vAt cW uJ oA3 (oU _) (hb _) (hb _)
   ·exact vAt cW uJ oA3 (oU _) (hb _) wAt
  ·split
   ·exact vAt cW uJ oA3 (oU _) (hb _) wAt
   ·split
    ·exact vAt cW uJ oA3 vJ (hb _) wAt
    ·split
     ·exact vAt cW uJ oA3 vJ (hb _) wAt
     ·exact mB5 _ _
theorem yAt {P:D→Prop} {one:SC→D×SC} (h:∀ s,P (one s).1):∀ (f:Nat) (s:SC),(∀ x∈(iE T one f s).1.1,P x)∧(iE T one f s).1.1.length≤f
 | 0,s=>⟨by simp [iE],by simp [iE]⟩
 | f+1,s=>by
  simp only [iE]
  split
  ·exact ⟨by simp,by simp⟩
  ·split
   ·exact ⟨by simp,by simp⟩
   ·split
    ·exact ⟨by simp,by simp⟩
    ·obtain ⟨h1,h2⟩:=yAt h f (one (s.1,s.2+1)).2
     refine ⟨fun x hx=>?_,by simp only [List.length_cons];omega⟩;rcases List.mem_cons.1 hx with rfl | hx
     ·exact h _
     ·exact h1 x hx
theorem aAu:∀ (g:Nat) (s:SC),(∀ x∈(yE T g s).1,isSm g x)∧(yE T g s).1.length≤3000
 | 0,s=>⟨by simp [yE],by simp [yE]⟩
 | g+1,s=>by
  obtain ⟨h1,h2⟩:=yAt (T:=T) (one:=nM T (yE T g)) (P:=isSm (g+1)) (oBc (aAu g)) 2001 (gD T [123] s.1,s.2);rw [kAj T g s _ rfl];unfold wA1
  split
  ·exact wAt
  ·exact ⟨h1,Nat.le_trans h2 (by decide)⟩
theorem isSm.up:∀ {n:Nat} {d:D},isSm n d→isSm (n+1) d
 | 0,d,h=>h.elim
 | n+1,d,⟨k,a,m,nm,ty,hs,pl,va,co,th,el,h0,h1,h2,h3,h4,h5,h6,h7,h8⟩=>⟨k,a,m,nm,ty,hs,pl,va,co,th,el,h0,h1,h2,h3,h4,h5,h6,fun s hs=>(h7 s hs).up,fun s hs=>(h8 s hs).up⟩
theorem kAx (pub:Bool) (a:Int) (σ:St):isSt (jF T pub a σ).1:=by
 simp only [jF];have hl:=wA4 T (iC T 1 σ).2
 split
 ·exact ⟨_,_,_,_,_,rfl,by omega,by simp,by simp⟩
 ·obtain ⟨h1,h2⟩:=bW (T:=T) jB5 [44] (kB T [125] (gD T [123] (oI T (iC T 1 σ).2).2)).2
  exact ⟨_,_,_,_,_,rfl,by omega,by omega,h1⟩
theorem bAu {α:Type} {P:α→Prop} {w:Bs} {Y X:St→α×St} (hY:∀ σ,P (Y σ).1) (hX:∀ σ,P (X σ).1) (σ:St):P (yM T w Y X σ).1:=by
 unfold yM
 split
 ·exact hY _
 ·exact hX _
theorem pBc (pub:Bool) (a:Int) (σ:St):isFu (wI T pub a σ).1:=by
 rw [uA7];obtain ⟨h1,h2⟩:=aAu (T:=T) 64 ((tR T σ).2,0);dsimp only;generalize (yE T 64 ((tR T σ).2,0)).1=b at *;have hh:(∀ l∈(tR T σ).1.2.1,isLf l)∧(tR T σ).1.2.1.length≤1000∧(∀ p∈(tR T σ).1.2.2.1,isFd p)∧(tR T σ).1.2.2.1.length≤1000∧uA4 65 (tR T σ).1.2.2.2:=by
  have l1:∀ σ,(fun l:List D=>(∀ x∈l,isLf x)∧l.length≤1000) (yM T [60] (bnd (bE T (wX T) [44]) fun l=>jI (fun _=>l) (lH T [62])) (oM []) σ).1:=bAu (P:=fun l:List D=>(∀ x∈l,isLf x)∧l.length≤1000) (fun σ=>by
   obtain ⟨q1,q2⟩:=bW (T:=T) vBg [44] σ;exact ⟨q1,Nat.le_trans q2 (by decide)⟩) (fun σ=>⟨by simp [oM],by simp [oM]⟩)
  have p1:∀ σ,(fun l:List D=>(∀ x∈l,isFd x)∧l.length≤1000) (yM T [41] (oM []) (bnd (bE T (uF T) [44]) fun p=>jI (fun _=>p) (lH T [41])) σ).1:=bAu (P:=fun l:List D=>(∀ x∈l,isFd x)∧l.length≤1000) (fun σ=>⟨by simp [oM],by simp [oM]⟩) (fun σ=>by
   obtain ⟨q1,q2⟩:=bW (T:=T) kB5 [44] σ;exact ⟨q1,Nat.le_trans q2 (by decide)⟩)
  have t1:∀ σ,uA4 65 (yM T [45,62] (yL T 64) (oM ty0D) σ).1:=bAu bA3 (fun σ=>cW);exact ⟨(l1 _).1,(l1 _).2,(p1 _).1,(p1 _).2,t1 _⟩
 obtain ⟨q1,q2,q3,q4,q5⟩:=hh;exact ⟨pub,_,_,_,_,b,a,rfl,q2,q1,q4,q3,q5,h2,fun s hs=>(h1 s hs).up⟩
theorem qBc (i:Nat):(∀ x∈rAc (cN T (i,none)).d [],isSt x)∧∀ y∈tAc (cN T (i,none)).d [],isFu y:=by
 have h:∀ pub j,(∀ x∈rAc (nA3 T pub j).d [],isSt x)∧∀ y∈tAc (nA3 T pub j).d [],isFu y:=fun pub j=>by
  unfold nA3;dsimp only
  split
  ·exact ⟨fun x hx=>by simp [rAc] at hx;rw [hx];exact kAx _ _ _,by simp [tAc]⟩
  ·split
   ·exact ⟨by simp [rAc],fun x hx=>by simp [tAc] at hx;rw [hx];exact pBc _ _ _⟩
   ·exact ⟨by simp [rAc],by simp [tAc]⟩
 rw [pAg]
 split
 ·exact h _ _
 ·exact h _ _
theorem cAu:∀ (f i:Nat),(∀ x∈(nE T f i).1.1,isSt x)∧(∀ y∈(nE T f i).1.2,isFu y)∧(nE T f i).1.1.length≤f∧(nE T f i).1.2.length≤f
 | 0,i=>by simp only [nE];split <;> exact ⟨by simp,by simp,by simp,by simp⟩
 | f+1,i=>by
  simp only [nE]
  split
  ·exact ⟨by simp,by simp,by simp,by simp⟩
  ·split
   ·exact ⟨by simp,by simp,by simp,by simp⟩
   ·obtain ⟨h1,h2⟩:=qBc (T:=T) i
    obtain ⟨h3,h4,h5,h6⟩:=cAu f (cN T (i,none)).i;have l1:=fAj (cN T (i,none)).d [];have l2:=gAj (cN T (i,none)).d [];refine ⟨fun x hx=>?_,fun x hx=>?_,?_,?_⟩
    ·rcases List.mem_append.1 hx with q | q
     ·exact h1 x q
     ·exact h3 x q
    ·rcases List.mem_append.1 hx with q | q
     ·exact h2 x q
     ·exact h4 x q
    ·rw [List.length_append];simp only [List.length_nil] at l1;omega
    ·rw [List.length_append];simp only [List.length_nil] at l2;omega
end
theorem tAg (N:Nat) (s:Bs):(∀ x∈(bG N s).1.1,isSt x)∧(∀ y∈(bG N s).1.2,isFu y)∧(bG N s).1.1.length≤256∧(bG N s).1.2.length≤256:=by
 unfold bG
 split
 ·exact ⟨by simp,by simp,by simp,by simp⟩
 ·rename_i T hT
  unfold eAj;dsimp only
  split
  ·exact ⟨by simp,by simp,by simp,by simp⟩
  ·exact cAu 256 0
end Qp
namespace Qp
section
variable {r x:Bs} {a m:Nat} {l:List Tok} {c d:UInt8}
end
end Qp
namespace Qp
section
variable {T r:List Tok} {i a c:Nat}
end
end Qp
namespace Qp
section
variable {N:Nat}
end
end Qp
namespace Qp
theorem lAx {N:Nat} {s:Bs} {T:List Tok} (h:gAb N s=.inl T):∃ l,qY N (s.drop (aC false s)) (aC false s)=.inl l∧T=l++[(0,[],s.length)]:=by
 unfold gAb at h
 split at h
 ·rename_i l hl
  simp only [Sum.inl.injEq] at h;exact ⟨l,hl,h.symm⟩
 ·cases h
theorem nB5 {l r:List Tok} {i:Nat} (h:i<l.length):tk (l++r) i=l[i]:=by
 rw [qAq (by rw [List.length_append];omega),List.getElem_append_left h]
end Qp
namespace Qp
def dA3 (q:Tok):Bs:=if q.1=3 then 39::q.2.1 else q.2.1
def bA9:Nat→Bs
 | 0=>[32]
 | 1=>[10]
 | 2=>[9,32]
 | _=>[32,47,47,32,123,32,125,10]
def bT (j:Nat→Nat):Nat→List Tok→Bs
 | _,[]=>[]
 | i,t::r=>bA9 (j i)++(dA3 t++bT j (i+1) r)
def bl1 (r:Bs):Prop:=r=[]∨∃ c q,r=c::q∧oF c=true
theorem oB5 {r:Bs} (h:bl1 r):brk r:=by
 rcases h with rfl | ⟨c,q,rfl,hb⟩
 ·rfl
 ·simp only [oF,Bool.or_eq_true,decide_eq_true_eq] at hb
  have h1:yB c=false:=by simp only [yB,Bool.or_eq_false_iff,decide_eq_false_iff_not];omega
  have h2:qC c=false:=by simp only [qC,decide_eq_false_iff_not];omega
  show (yB c||qC c)=false;rw [h1,h2];rfl
theorem wA8:∀ {t r:Bs},brk r→runN (t++r)=runN t
 | [],r,h=>by
  cases r with
  | nil=>rfl
  | cons c q=>
   have:uL c=false:=h
   simp [runN,this]
 | c::t,r,h=>by
  simp only [List.cons_append,runN]
  split
  ·rw [wA8 (t:=t) h]
  ·rfl
theorem fZ:∀ (t:Bs),runN t≤t.length
 | []=>Nat.le_refl _
 | c::t=>by
  simp only [runN,List.length_cons]
  have:=fZ t
  split <;> omega
theorem rBc {c:UInt8} {n:Nat} (h:c.toNat=n) (hn:n<256):c=UInt8.ofNat n:=by
 apply UInt8.toNat_inj.1
 rw [h,UInt8.toNat_ofNat'];omega
theorem mAc {u x:Bs} {k:Int} {n:Nat} (h:uC u=some (k,x,n)):u.take n=dA3 (k,x,0)∧n=(dA3 (k,x,0)).length:=by
 cases u with
 | nil=>cases h
 | cons c r=>
  have hl:=(rF h).2;have key:(c::r).take n=dA3 (k,x,0)→(c::r).take n=dA3 (k,x,0)∧n=(dA3 (k,x,0)).length:=fun e=>⟨e,by rw [← e,List.length_take];omega⟩
  apply key
  rw [uC] at h
  split at h
  ·simp only [pJ] at h
   split at h
   ·simp only [Option.some.injEq,Prod.mk.injEq] at h
    obtain ⟨rfl,rfl,rfl⟩:=h;rfl
   ·split at h
    ·simp only [Option.some.injEq,Prod.mk.injEq] at h
     obtain ⟨rfl,rfl,rfl⟩:=h;rfl
    ·cases h
  ·split at h
   ·simp only [jQ] at h
    split at h
    ·simp only [Option.some.injEq,Prod.mk.injEq] at h
     obtain ⟨rfl,rfl,rfl⟩:=h;rfl
    ·cases h
   ·split at h
    ·rename_i h3
     simp only [wL] at h
     split at h
     ·split at h
      ·simp only [Option.some.injEq,Prod.mk.injEq] at h
       obtain ⟨rfl,rfl,rfl⟩:=h
       have:c=39:=rBc h3 (by decide)
       subst this;rfl
      ·cases h
     ·cases h
    ·simp only [cG] at h
     split at h
     ·rename_i p hp
      simp only [Option.some.injEq,Prod.mk.injEq] at h;obtain ⟨rfl,rfl,rfl⟩:=h;simp only [two,oJ] at hp;show (c::r).take 2=p;have hh:∀ q:Bs,q.length=2→nH q (c::r)=true→(c::r).take 2=q:=fun q hq e=>by
       have:=(wN e).1
       rwa [hq] at this
      cases e1:nH [58,58] (c::r) with
      | true=>rw [e1] at hp;simp only [cond_true,Option.some.injEq] at hp;rw [← hp];exact hh _ rfl e1
      | false=>
       rw [e1] at hp;simp only [cond_false] at hp
       cases e2:nH [45,62] (c::r) with
       | true=>rw [e2] at hp;simp only [cond_true,Option.some.injEq] at hp;rw [← hp];exact hh _ rfl e2
       | false=>
        rw [e2] at hp;simp only [cond_false] at hp
        cases e3:nH [61,61] (c::r) with
        | true=>rw [e3] at hp;simp only [cond_true,Option.some.injEq] at hp;rw [← hp];exact hh _ rfl e3
        | false=>rw [e3] at hp;cases hp
     ·split at h
      ·simp only [Option.some.injEq,Prod.mk.injEq] at h
       obtain ⟨rfl,rfl,rfl⟩:=h;rfl
      ·cases h
theorem aAn {c:UInt8} {r x:Bs} {k:Int} {n:Nat} (h:uC (c::r)=some (k,x,n)):oF c=false∧c.toNat≠47:=by
 have key:∀ m:Nat,c.toNat=m→(m=32∨m=9∨m=10∨m=47)→False:=fun m hm hh=>by
  have hc:c=UInt8.ofNat m:=rBc hm (by omega);rw [uC] at h;have l1:yB c=false:=by simp only [yB,Bool.or_eq_false_iff,decide_eq_false_iff_not];omega
  have l2:qC c=false:=by simp only [qC,decide_eq_false_iff_not];omega
  rw [l1,l2,if_neg (by simp),if_neg (by simp),if_neg (by omega)] at h;have hf:∀ p:Bs,(∃ a q,p=a::q∧a.toNat≠m)→nH p (c::r)=false:=fun p ⟨a,q,hp,ha⟩=>by
   cases e:nH p (c::r) with
   | false=>rfl
   | true=>
    have:=(wN e).1
    rw [hp,List.length_cons,List.take_succ_cons] at this;exact absurd (by rw [← (List.cons.inj this).1];exact hm) ha
  have f1:=hf [58,58] ⟨58,_,rfl,by show (58:Nat)≠m;omega⟩;have f2:=hf [45,62] ⟨45,_,rfl,by show (45:Nat)≠m;omega⟩;have f3:=hf [61,61] ⟨61,_,rfl,by show (61:Nat)≠m;omega⟩;have hm2:oAu c cAq=false:=by rcases hh with rfl | rfl | rfl | rfl <;> (rw [hc];rfl)
  simp only [cG,two,oJ,f1,f2,f3,cond_false,hm2,Bool.false_eq_true,if_false] at h;cases h
 refine ⟨?_,fun h47=>key 47 h47 (by omega)⟩;simp only [oF,Bool.or_eq_false_iff,decide_eq_false_iff_not];exact ⟨⟨fun e=>key 32 e (by omega),fun e=>key 9 e (by omega)⟩,fun e=>key 10 e (by omega)⟩
theorem mAx {t r x:Bs} {k:Int} {n:Nat} (h:uC t=some (k,x,n)) (hr:bl1 r):uC (t++r)=some (k,x,n):=by
 have hb:=oB5 hr
 cases t with
 | nil=>cases h
 | cons c q=>
  have tk1:∀ m,m≤(c::q).length→(c::(q++r)).take m=(c::q).take m:=fun m hm=>by
   have:=List.take_append_of_le_length (l₂:=r) hm
   rwa [List.cons_append] at this
  have er:runN (c::(q++r))=runN (c::q):=by
   have:=wA8 (t:=c::q) hb
   rwa [List.cons_append] at this
  rw [List.cons_append];rw [uC] at h ⊢
  split at h
  ·rename_i h1
   rw [if_pos h1];simp only [pJ,er,tk1 _ (fZ _)] at h ⊢;exact h
  ·rename_i h1
   rw [if_neg h1]
   split at h
   ·rename_i h2
    rw [if_pos h2];simp only [jQ,er,tk1 _ (fZ _)] at h ⊢;exact h
   ·rename_i h2
    rw [if_neg h2]
    split at h
    ·rename_i h3
     rw [if_pos h3];simp only [wL] at h ⊢;have hq:dI yB (q++r)=dI yB q:=by
      cases q with
      | nil=>
       split at h
       ·rename_i h4;cases h4
       ·cases h
      | cons d q=>rfl
     rw [hq,wA8 hb,List.take_append_of_le_length (fZ _)];exact h
    ·rename_i h3
     rw [if_neg h3];have hf:∀ p:Bs,(∃ a b,p=[a,b]∧oF b=false)→nH p (c::(q++r))=nH p (c::q):=fun p ⟨a,b,hp,hbb⟩=>by
      subst hp
      cases q with
      | cons d q=>simp [nH]
      | nil=>
       have e2:nH [a,b] [c]=false:=by simp [nH]
       rw [e2];rcases hr with rfl | ⟨e,w,rfl,he⟩
       ·simp [nH]
       ·cases e3:nH [a,b] (c::([]++e::w)) with
        | false=>rfl
        | true=>
         have:=(wN e3).1
         simp only [List.nil_append,List.length_cons,List.length_nil,List.take_succ_cons,List.take_zero,List.cons.injEq,and_true] at this;rw [this.2,hbb] at he;cases he
     have f1:=hf [58,58] ⟨_,_,rfl,rfl⟩;have f2:=hf [45,62] ⟨_,_,rfl,rfl⟩;have f3:=hf [61,61] ⟨_,_,rfl,rfl⟩;simp only [cG,two,oJ,f1,f2,f3] at h ⊢;exact h
def yBg (q:Tok):Prop:=∀ r,bl1 r→uC (dA3 q++r)=some (q.1,q.2.1,(dA3 q).length)
theorem dAu (k:Int) (x:Bs) (a:Nat):dA3 (k,x,a)=dA3 (k,x,0):=rfl
theorem aBh {u x:Bs} {k:Int} {n a:Nat} (h:uC u=some (k,x,n)):yBg (k,x,a):=fun r hr=>by
 obtain ⟨h1,h2⟩:=mAc h;have h3:=jAc h (Nat.le_refl n);rw [h1] at h3;rw [dAu,← h2];exact mAx h3 hr
theorem eAu:∀ (M:Nat) (t:Bs) (a:Nat) (l:List Tok),qY M t a=.inl l→∀ q∈l,yBg q
 | 0,t,a,l,h=>by cases h
 | M+1,t,a,l,h=>by
  cases t with
  | nil=>
   simp only [qY,Sum.inl.injEq] at h;subst h;simp
  | cons c r=>
   simp only [qY] at h
   split at h
   ·cases h
   ·rename_i k x n hx
    split at h
    ·rename_i l' hl
     simp only [Sum.inl.injEq] at h;subst h;intro q hq;rcases List.mem_cons.1 hq with rfl | hq
     ·exact aBh hx
     ·exact eAu M _ _ _ hl q hq
    ·cases h
theorem pB5 {u:Bs} (h:noB u) (j:Nat):aC false (bA9 j++u)=(bA9 j).length:=by
 have h:aC false u=0:=h;unfold bA9
 split <;> simp [aC,oF,nH,eE,h]
theorem qB5 (j:Nat) (u:Bs):bl1 (bA9 j++u):=by
 unfold bA9
 split <;> exact .inr ⟨_,_,rfl,rfl⟩
theorem tBc (j:Nat→Nat) (i:Nat) (l:List Tok):bl1 (bT j i l):=by
 cases l with
 | nil=>exact .inl rfl
 | cons t r=>exact qB5 _ _
theorem rAz (j:Nat→Nat):∀ (l:List Tok) (i:Nat),(∀ q∈l,yBg q)→LxB (bT j i l) (l.map kt)
 | [],i,h=>Lx.nil
 | q::r,i,h=>by
  have hq:=h q (by simp) (bT j (i+1) r) (tBc _ _ _);have ih:=rAz j r (i+1) (fun y hy=>h y (by simp [hy]));have hn:noB (dA3 q++bT j (i+1) r):=by
   cases e:dA3 q++bT j (i+1) r with
   | nil=>rw [e] at hq;cases hq
   | cons c w=>
    rw [e] at hq;obtain ⟨h1,h2⟩:=aAn hq;exact pAw h1 h2
  unfold LxB;show Lx ((bA9 (j i)++(dA3 q++bT j (i+1) r)).drop (aC false (bA9 (j i)++(dA3 q++bT j (i+1) r)))) _;rw [pB5 hn,List.drop_left' rfl];refine Lx.cons hq ?_;rw [List.drop_left' rfl];exact ih
theorem bBh {l' l:List Tok} {m' m:Nat} (h:l'.map kt=l.map kt):Al (l'++[(0,[],m')]) (l++[(0,[],m)]) 0:=fun i=>by
 have e:(l'++[(0,[],m')]).map kt=(l++[(0,[],m)]).map kt:=by rw [List.map_append,List.map_append,h];rfl
 have e2:kt (tk (l'++[(0,[],m')]) i)=kt (tk (l++[(0,[],m)]) i):=by
  have:=congrArg (fun q=>q.getD i (0,[])) e
  simp only [List.getD_eq_getElem?_getD,List.getElem?_map] at this;simp only [tk,List.getD_eq_getElem?_getD]
  cases h1:(l'++[(0,[],m')])[i]? with
  | none=>cases h2:(l++[(0,[],m)])[i]? with
   | none=>rfl
   | some y=>rw [h1,h2] at this;exact this
  | some x=>cases h2:(l++[(0,[],m)])[i]? with
   | none=>rw [h1,h2] at this;exact this
   | some y=>rw [h1,h2] at this;exact this
 rw [Nat.add_zero];have e3:=congrArg Prod.fst e2;have e4:=congrArg Prod.snd e2;exact ⟨e3,e4⟩
theorem nAc {N:Nat} {s:Bs} {T l:List Tok} (hg:qY N (s.drop (aC false s)) (aC false s)=.inl l) (j:Nat→Nat) (hN:(bT j 0 l).length<N) :
  (bG N (bT j 0 l)).2.map Prod.fst=(bG N s).2.map Prod.fst∧(bG N (bT j 0 l)).1.1.map iK=(bG N s).1.1.map iK∧(bG N (bT j 0 l)).1.2.map bareFu=(bG N s).1.2.map bareFu:=by
 have h1:=rAz j l 0 (eAu N _ _ l hg);obtain ⟨l',h2,h3⟩:=h1 N (aC false (bT j 0 l)) (by rw [List.length_drop];omega);have e1:gAb N (bT j 0 l)=.inl (l'++[(0,[],(bT j 0 l).length)]):=by unfold gAb;rw [h2]
 have e2:gAb N s=.inl (l++[(0,[],s.length)]):=by unfold gAb;rw [hg]
 unfold bG;rw [e1,e2];have r:=iB5 (bBh (m':=(bT j 0 l).length) (m:=s.length) h3) 256 0;simp only [Nat.zero_add] at r;obtain ⟨r1,r2,r3⟩:=r;simp only [eAj]
 cases hb:(nE (l++[(0,[],s.length)]) 256 0).2 with
 | none=>
  rw [hb] at r1;have ha:(nE (l'++[(0,[],(bT j 0 l).length)]) 256 0).2=none:=by
   cases q:(nE (l'++[(0,[],(bT j 0 l).length)]) 256 0).2 with
   | none=>rfl
   | some x=>rw [q] at r1;simp at r1
  rw [ha];exact ⟨rfl,r2,r3⟩
 | some x=>
  rw [hb] at r1;obtain ⟨y,ha⟩:∃ y,(nE (l'++[(0,[],(bT j 0 l).length)]) 256 0).2=some y:=by
   cases q:(nE (l'++[(0,[],(bT j 0 l).length)]) 256 0).2 with
   | none=>rw [q] at r1;simp at r1
   | some y=>exact ⟨y,rfl⟩
  rw [ha];rw [ha] at r1;exact ⟨r1,rfl,rfl⟩
end Qp
set_option maxRecDepth 100000
namespace Qp
end Qp
open Go.RowKit (Below)
namespace Qy
open Qa
def h0:Heap:={ t:=Tr.set (Tr.set .nil 0 (.row [hdl] .ro)) 2 (.row [Qw.sen] .ro),next:=4,pins:=[(0,dAp),(1,loc1),(2,Qw.dB6)] }
def mu0 (l:Ai.Loc):Mu:=fun A=>if A=0 then some dAp else if A=1 then some loc1 else if A=2 then some Qw.dB6 else if A=3 then some l else none
theorem mu0_inv {l:Ai.Loc} {A:Nat} {m:Ai.Loc} (h:mu0 l A=some m):(A=0∧m=dAp)∨(A=1∧m=loc1)∨(A=2∧m=Qw.dB6)∨(A=3∧m=l):=by
 unfold mu0 at h
 split at h
 ·cases h;exact .inl ⟨by assumption,rfl⟩
 ·split at h
  ·cases h;exact .inr (.inl ⟨by assumption,rfl⟩)
  ·split at h
   ·cases h;exact .inr (.inr (.inl ⟨by assumption,rfl⟩))
   ·split at h
    ·cases h;exact .inr (.inr (.inr ⟨by assumption,rfl⟩))
    ·cases h
theorem rN {A:Nat} {b:Blk} (h:h0.t.get A=some b):(A=0∧b=.row [hdl] .ro)∨(A=2∧b=.row [Qw.sen] .ro):=by
 rcases Tr.get_set h with h | ⟨_,h⟩
 ·exact .inr h
 ·rcases Tr.get_set h with h | ⟨_,h⟩
  ·exact .inl h
  ·simp [Tr.get_nil] at h
theorem h0_rof:Rof h0:=by
 refine ⟨fun A b hA=>?_,fun A hA=>?_⟩
 ·rcases rN hA with ⟨_,rfl⟩ | ⟨_,rfl⟩ <;> exact ⟨_,rfl⟩
 ·cases hb:h0.t.get A with
  | none=>rfl
  | some b=>
   have h1:(4:Nat)≤A:=hA;rcases rN hb with ⟨h,_⟩ | ⟨h,_⟩ <;> omega
theorem dAy {w:World} {l:Ai.Loc} (hs:7<w.heap.size) {e e':TypeId} (hsh:w.shape? 1=some (e,1)) (hc:w.cell? ⟨1,0,none⟩=some (.iface 232 (.agg #[.pointer (some ⟨7,29,none⟩)])))
  (hsh3:w.shape? 3=some (e',1)) (hc3:w.cell? ⟨3,0,none⟩=some (.iface 275 (.pointer (some ⟨l.b,l.sh,none⟩)))) (hl:l.b<w.heap.size):HR (mu0 l) h0 w:=by
 refine ⟨fun A m hA=>?_,fun A B la lb ba bb hA hB gA gB _ _ hne hb=>?_,fun A m b hA hb=>?_,fun x hx=>?_⟩
 ·rcases mu0_inv hA with ⟨rfl,rfl⟩ | ⟨rfl,rfl⟩ | ⟨rfl,rfl⟩ | ⟨rfl,rfl⟩
  ·exact ⟨by show 0<4;omega,by show 1<w.heap.size;omega⟩
  ·exact ⟨by show 1<4;omega,hs⟩
  ·exact ⟨by show 2<4;omega,by show 3<w.heap.size;omega⟩
  ·exact ⟨by show 3<4;omega,hl⟩
 ·rcases rN gA with ⟨_,rfl⟩ | ⟨_,rfl⟩ <;> rcases rN gB with ⟨_,rfl⟩ | ⟨_,rfl⟩ <;> exact ⟨rfl,rfl⟩
 ·rcases rN hb with ⟨rfl,rfl⟩ | ⟨rfl,rfl⟩
  ·rcases mu0_inv hA with ⟨_,rfl⟩ | ⟨h,_⟩ | ⟨h,_⟩ | ⟨h,_⟩
   ·refine ⟨⟨e,hsh⟩,Nat.le_refl _,fun i x hx=>?_⟩
    cases i with
    | zero=>
     have:x=hdl:=by simpa using hx.symm
     subst this;refine ⟨_,hc,?_⟩;simp only [hdl,VR,VRs];exact ⟨_,rfl,_,rfl,_,[],rfl,⟨loc1,rfl,rfl⟩,rfl⟩
    | succ i=>simp at hx
   ·cases h
   ·cases h
   ·cases h
  ·rcases mu0_inv hA with ⟨h,_⟩ | ⟨h,_⟩ | ⟨_,rfl⟩ | ⟨h,_⟩
   ·cases h
   ·cases h
   ·refine ⟨⟨e',hsh3⟩,Nat.le_refl _,fun i x hx=>?_⟩
    cases i with
    | zero=>
     have:x=Qw.sen:=by simpa using hx.symm
     subst this;refine ⟨_,hc3,?_⟩;simp only [Qw.sen,VR];exact ⟨_,rfl,l,rfl,rfl⟩
    | succ i=>simp at hx
   ·cases h
 ·simp only [h0,List.mem_cons,List.not_mem_nil,or_false] at hx
  rcases hx with rfl | rfl | rfl <;> rfl
theorem fAu:Qw.pinned h0=true:=by kernel_rfl
theorem gAu {h:Heap} (hl:HLe h0 h):Qw.pinned h=true∧4≤h.next:=by
 refine ⟨?_,hl.next⟩;have h1:=fAu;have g0:h0.t.get 0=some (.row [hdl] .ro):=by kernel_rfl
 have g2:h0.t.get 2=some (.row [Qw.sen] .ro):=by kernel_rfl
 have e0:h.t.get 0=h0.t.get 0:=(hl.get 0 _ g0).trans g0.symm;have e2:h.t.get 2=h0.t.get 2:=(hl.get 2 _ g2).trans g2.symm;unfold Qw.pinned Qx.pinned at h1 ⊢;rw [hl.pins,e0,e2];exact h1
end Qy
namespace Qp
theorem yA8 {a b:Bs} (h:a.length+b.length≤1000000) {β:Type} (K:Bs→Option β):iA (.val zR2) (pF .add a b) K=K (a++b):=by
 rw [tAq (by omega)];rfl
section
variable {N:Nat} {h:Heap} {b:Bool} {n:Nat}
end
theorem nAx (h:Heap) (a b:SL):∃ h',(∀ {β:Type} (K:Heap→Option β),rA ((h.push (.row [(.slice none 0 0 0),(.slice none 0 0 0)] .own)).store (h.next,0) [(.slice a.a a.len a.cap a.sz),(.slice b.a b.len b.cap b.sz)]) K=K h')∧Chg [] h h'∧h'.own h.next [SL.av a,SL.av b]:=by
 have o:=vA h [SL.av sl0,SL.av sl0];have c:=qA h (.row [SL.av sl0,SL.av sl0] .own);have hst:(h.push (.row [SL.av sl0,SL.av sl0] .own)).store (h.next,0) [SL.av a,SL.av b]=some ((h.push (.row [SL.av sl0,SL.av sl0] .own)).put h.next (.row [SL.av a,SL.av b] .own)):=o.store rfl;refine ⟨_,fun K=>?_,c.put (.inr (Nat.le_refl _)) _,yA o _⟩;have e:h.push (.row [(.slice none 0 0 0),(.slice none 0 0 0)] .own)=h.push (.row [SL.av sl0,SL.av sl0] .own):=rfl;have e2:[(AV.slice a.a a.len a.cap a.sz),(.slice b.a b.len b.cap b.sz)]=[SL.av a,SL.av b]:=rfl;rw [e,e2,hst,dA]
theorem ErrW.keep {h h':Heap} {v:AV} {e:Er3} (x:ErrW h v e) (c:Chg [] h h'):ErrW h' v e:=x.chg c (by simp)
section
variable {h:Heap}
end
end Qp
namespace Qp
theorem rB5 {x:Int} {m:Nat} (hm:0<m):gN .rem .i64 x (m:Int)=some (.int .i64 (x.tmod m)):=by
 have:dB (m:Int) 0=false:=by rw [eqI];exact decide_eq_false (by omega)
 simp only [gN,this,cond_false]
theorem tB5 {x:Int} {m:Nat} (hm:0<m):-(m:Int)<x.tmod m∧x.tmod m<m:=by
 have h1:=Int.tmod_lt_of_pos x (b:=(m:Int)) (by omega);have h2:=Int.tmod_lt_of_pos (-x) (b:=(m:Int)) (by omega);rw [Int.neg_tmod] at h2;omega
section
variable {h:Heap}
end
end Qp
namespace Qp
noncomputable section
def qU (N:Nat) (go:AV→SL→Int→Heap→Option (Out×zU1×Heap)) (v0:AV) (v3:SL) (v4:Int) (h:Heap):Option (Out×zU1×Heap):=let x1:=qB v4 200;(bif x1 then(iA (.tup [zP2,zS2]) (iJ E v0 127 true) fun (x2:zO1)=>let x3:=!x2.2.1;(bif x3 then some ((Out.exit 0),(v3,()),h)else(bif x2.1.isNone then some ((Out.exit 0),(v3,()),h)else(rA x2.1 fun q4=>(iA (.val zT2) (h.cell (q4.1,q4.2+1)) fun (x5:Int)=>let h6:=h.push (.row [(.int .i64 x5)] .own);(tD (.val zQ2) (fB E 63 63 (.slice v3.a v3.len v3.cap v3.sz) (.slice (some (h.next,0)) 1 1 1) h6) fun (x7:SL) h8=>(rA x2.1 fun q9=>(iA (.val zU2) (h8.cell (q9.1,q9.2+2)) fun (x10:AV)=>let x11:=wA .i64 (v4+1);go x10 x7 x11 h8))))))))else some ((Out.exit 0),(v3,()),h))
def iAu (N M:Nat) (v0:AV) (v3:SL) (v4:Int) (h:Heap):Option (Out×zU1×Heap):=iter (fun go s h=>qU N (fun v0 v3 v4 h=>go (v0,v3,v4,()) h) s.1 s.2.1 s.2.2.1 h) M (v0,v3,v4,()) h
theorem bS (N M v0 v3 v4 h):iAu N (M+1) v0 v3 v4 h=qU N (iAu N M) v0 v3 v4 h:=rfl
def f53 (N:Nat) (a0:AV) (h:Heap):Option (SL×Heap):=(pD (iAu N N a0 ⟨none,0,0,0⟩ 0 h) fun _ (j13:zU1) h14=>some (j13.1,h14))
def cBh:Ann:=(.two .n (.two .n (.two (.two .n (.two (.loop [(0,zU2),(3,zQ2),(4,zT2)] [(.exit 0)] [(3,zQ2)] .n) .n)) .n)))
theorem uBc (N:Nat):jD Tryz.prog 53 [zU2] (.val zQ2) (fun x h=>f53 N x.1 h):=qD kA N cBh Tryz.f53
def rU (N:Nat) (go:SL→SL→Bool→Int→Heap→Option (Out×zY×Heap)) (v0 v1:SL) (v4:Bool) (v5:Int) (h:Heap):Option (Out×zY×Heap):=let x2:=qB v5 (Int.ofNat v0.len);(bif x2 then(ixK v0.a v0.len v5 1 fun q3=>(iA (.val zT2) (h.cell q3) fun (x4:Int)=>(ixK v1.a v1.len v5 1 fun q5=>(iA (.val zT2) (h.cell q5) fun (x6:Int)=>let x7:=!dB x4 x6;(bif x7 then some (Out.ret,(false,()),h)else let x8:=wA .i64 (v5+1);go v0 v1 v4 x8 h)))))else some ((Out.exit 0),(v4,()),h))
def jAu (N M:Nat) (v0 v1:SL) (v4:Bool) (v5:Int) (h:Heap):Option (Out×zY×Heap):=iter (fun go s h=>rU N (fun v0 v1 v4 v5 h=>go (v0,v1,v4,v5,()) h) s.1 s.2.1 s.2.2.1 s.2.2.2.1 h) M (v0,v1,v4,v5,()) h
theorem dS (N M v0 v1 v4 v5 h):jAu N (M+1) v0 v1 v4 v5 h=rU N (jAu N M) v0 v1 v4 v5 h:=rfl
def f52 (N:Nat) (a0 a1:SL) (h:Heap):Option (Bool×Heap):=let x1:=!dB (Int.ofNat a0.len) (Int.ofNat a1.len);(bif x1 then some (false,h)else(pD (jAu N N a0 a1 false 0 h) fun o9 (j10:zY) h11=>(bif uD o9 (.exit 0) then some (true,h11)else some (j10.1,h11))))
def dBh:Ann:=(.two .n (.two .n (.two (.two .n (.two (.loop [(0,zQ2),(1,zQ2),(4,zS2),(5,zT2)] [(.exit 0),.ret] [(4,zS2)] .n) .n)) .n)))
theorem vBc (N:Nat):jD Tryz.prog 52 [zQ2,zQ2] (.val zS2) (fun x h=>f52 N x.1 x.2.1 h):=qD kA N dBh Tryz.f52
def g22 (N:Nat)  (h:Heap):Option (Bool×Heap):=(lA (f27 N [102,110,32,102,40,120,58,32,105,110,116,41,32,45,62,32,105,110,116,32,123,32,114,101,116,117,114,110,32,120,32,43,32,49,59,32,125] h) fun (x1:(zE1×AV×Unit)) h2=>let h3:=h2.push (.row yZH .own);(rA (h3.store (h2.next,0) (yRJ x1.1)) fun h4=>(lA (f27 N [32,102,110,32,102,40,32,123] h4) fun (x5:(zE1×AV×Unit)) h6=>let h7:=h6.push (.row yZH .own);(rA (h7.store (h6.next,0) (yRJ x5.1)) fun h8=>(lA (f23 N [38,39,97,32,109,117,116,32,83,60,39,98,62] h8) fun (x9:(zM×AV×Unit)) h10=>let h11:=h10.push (.row yZD .own);(rA (h11.store (h10.next,0) (yRD x9.1)) fun h12=>(iA (.val zS2) (oK E .eql 29 (.tmp 19) (.const .nilIface) x1.2.1 AV.nilIface) fun (x13:Bool)=>(bif x13 then(iA (.val zQ2) (h12.cell ((h2.next,0).1,(h2.next,0).2+1)) fun (x14:SL)=>let x15:=dB (Int.ofNat x14.len) 1;(bif x15 then(iA (.val zQ2) (h12.cell ((h2.next,0).1,(h2.next,0).2+1)) fun (x16:SL)=>(ixK x16.a x16.len 0 10 fun q17=>(iA (.val zQ2) (h12.cell (q17.1,q17.2+8)) fun (x18:SL)=>let x19:=dB (Int.ofNat x18.len) 1;(bif x19 then(iA (.val zQ2) (h12.cell ((h2.next,0).1,(h2.next,0).2+1)) fun (x20:SL)=>(ixK x20.a x20.len 0 10 fun q21=>(iA (.val zQ2) (h12.cell (q21.1,q21.2+8)) fun (x22:SL)=>(ixK x22.a x22.len 0 32 fun q23=>(iA (.val zT2) (h12.cell (q23.1,q23.2+1)) fun (x24:Int)=>let x25:=dB x24 22;(bif x25 then(lA (f18 N x5.2.1 21 7 h12) fun (x26:Bool) h27=>(bif x26 then(lA (f53 N x5.2.1 h27) fun (x28:SL) h29=>let h30:=h29.push (.row [(.int .i64 1),(.int .i64 7)] .own)
 (lA (f52 N x28 ⟨(some (h29.next,0)),2,2,1⟩ h30) fun (x31:Bool) h32=>(bif x31 then(iA (.val zS2) (oK E .eql 29 (.tmp 58) (.const .nilIface) x9.2.1 AV.nilIface) fun (x33:Bool)=>(bif x33 then(iA (.val zT2) (h32.cell ((h10.next,0).1,(h10.next,0).2+0)) fun (x34:Int)=>let x35:=dB x34 5;(bif x35 then(iA (.val zQ2) (h32.cell ((h10.next,0).1,(h10.next,0).2+3)) fun (x36:SL)=>let x37:=dB (Int.ofNat x36.len) 1;(bif x37 then(iA (.val zQ2) (h32.cell ((h10.next,0).1,(h10.next,0).2+3)) fun (x38:SL)=>(ixK x38.a x38.len 0 4 fun q39=>(iA (.val zR2) (h32.cell (q39.1,q39.2+1)) fun (x40:zV2)=>let x41:=jB x40 [83];some (x41,h32))))else some (false,h32)))else some (false,h32)))else some (false,h32)))else some (false,h32))))else some (false,h27)))else some (false,h12)))))))else some (false,h12)))))else some (false,h12)))else some (false,h12)))))))))
def eBh:Ann:=.n
theorem wBc (N:Nat):jD Tryz.prog 22 [] (.val zS2) (fun x h=>g22 N  h):=qD (bA (uBc N) (bA (vBc N) (bA (cAz N) (bA (fB8 N) (bA (mB8 N) kA))))) N eBh Tryz.f22
end
end Qp
namespace Qp
noncomputable section
def aA9 (N:Nat) (go:zV2→SL→SL→zV2→Int→Heap→Option (Out×zT1×Heap)) (v0:zV2) (v1 v5:SL) (v8:zV2) (v9:Int) (h:Heap):Option (Out×zT1×Heap):=let x9:=wA .i64 (v9+1);let x10:=qB x9 (Int.ofNat v5.len);(bif x10 then let x11:=qB v9 (Int.ofNat v1.len);(bif x11 then(ixK v1.a v1.len v9 1 fun q12=>(iA (.val zT2) (h.cell q12) fun (x13:Int)=>let h14:=h.push (.row [(.str [32]),(.str [10]),(.str [9,32]),(.str [32,47,47,32,123,32,125,10])] .own);(iA (.val zT2) (gN .rem .i64 x13 4) fun (x15:Int)=>let x16:=wA .i64 (x15+4);(iA (.val zT2) (gN .rem .i64 x16 4) fun (x17:Int)=>(ixK (some (h.next,0)) 4 x17 1 fun q18=>(iA (.val zR2) (h14.cell q18) fun (x19:zV2)=>(iA (.val zR2) (pF .add v8 x19) fun (x20:zV2)=>(ixK v5.a v5.len v9 3 fun q21=>(iA (.val zT2) (h14.cell (q21.1,q21.2+0)) fun (x22:Int)=>let x23:=dB x22 3;(bif x23 then(iA (.val zR2) (pF .add x20 [39]) fun (x24:zV2)=>(ixK v5.a v5.len v9 3 fun q25=>(iA (.val zR2) (h14.cell (q25.1,q25.2+1)) fun (x26:zV2)=>(iA (.val zR2) (pF .add x24 x26) fun (x27:zV2)=>let x28:=wA .i64 (v9+1);go v0 v1 v5 x27 x28 h14))))else(ixK v5.a v5.len v9 3 fun q29=>(iA (.val zR2) (h14.cell (q29.1,q29.2+1)) fun (x30:zV2)=>(iA (.val zR2) (pF .add x20 x30) fun (x31:zV2)=>let x32:=wA .i64 (v9+1);go v0 v1 v5 x31 x32 h14)))))))))))))else let h33:=h.push (.row [(.str [32]),(.str [10]),(.str [9,32]),(.str [32,47,47,32,123,32,125,10])] .own);(iA (.val zT2) (gN .rem .i64 0 4) fun (x34:Int)=>let x35:=wA .i64 (x34+4)
 (iA (.val zT2) (gN .rem .i64 x35 4) fun (x36:Int)=>(ixK (some (h.next,0)) 4 x36 1 fun q37=>(iA (.val zR2) (h33.cell q37) fun (x38:zV2)=>(iA (.val zR2) (pF .add v8 x38) fun (x39:zV2)=>(ixK v5.a v5.len v9 3 fun q40=>(iA (.val zT2) (h33.cell (q40.1,q40.2+0)) fun (x41:Int)=>let x42:=dB x41 3;(bif x42 then(iA (.val zR2) (pF .add x39 [39]) fun (x43:zV2)=>(ixK v5.a v5.len v9 3 fun q44=>(iA (.val zR2) (h33.cell (q44.1,q44.2+1)) fun (x45:zV2)=>(iA (.val zR2) (pF .add x43 x45) fun (x46:zV2)=>let x47:=wA .i64 (v9+1);go v0 v1 v5 x46 x47 h33))))else(ixK v5.a v5.len v9 3 fun q48=>(iA (.val zR2) (h33.cell (q48.1,q48.2+1)) fun (x49:zV2)=>(iA (.val zR2) (pF .add x39 x49) fun (x50:zV2)=>let x51:=wA .i64 (v9+1);go v0 v1 v5 x50 x51 h33))))))))))))else some ((Out.exit 0),(v0,v8,()),h))
def uAg (N M:Nat) (v0:zV2) (v1 v5:SL) (v8:zV2) (v9:Int) (h:Heap):Option (Out×zT1×Heap):=iter (fun go s h=>aA9 N (fun v0 v1 v5 v8 v9 h=>go (v0,v1,v5,v8,v9,()) h) s.1 s.2.1 s.2.2.1 s.2.2.2.1 s.2.2.2.2.1 h) M (v0,v1,v5,v8,v9,()) h
theorem pA5 (N M v0 v1 v5 v8 v9 h):uAg N (M+1) v0 v1 v5 v8 v9 h=aA9 N (uAg N M) v0 v1 v5 v8 v9 h:=rfl
def f9 (N:Nat) (a0:zV2) (a1:SL) (h:Heap):Option (Bool×Heap):=let x1:=qB 1500 (Int.ofNat a0.length);(bif x1 then(lA (g22 N  h) fun (x2:Bool) h3=>some (x2,h3))else(lA (f28 N a0 h) fun (x4:(SL×Int×Int×Unit)) h5=>let x6:=!dB x4.2.1 0;(bif x6 then(lA (g22 N  h5) fun (x7:Bool) h8=>some (x7,h8))else(pD (uAg N N a0 a1 x4.1 [] 0 h5) fun _ (j53:zT1) h54=>(lA (f27 N j53.1 h54) fun (x55:(zE1×AV×Unit)) h56=>let h57:=h56.push (.row yZH .own);(rA (h57.store (h56.next,0) (yRJ x55.1)) fun h58=>(lA (f27 N j53.2.1 h58) fun (x59:(zE1×AV×Unit)) h60=>let h61:=h60.push (.row yZH .own);(rA (h61.store (h60.next,0) (yRJ x59.1)) fun h62=>(lA (f29 N x55.2.1 h62) fun (x63:zL1) h64=>(lA (f29 N x59.2.1 h64) fun (x65:zL1) h66=>(lA (g22 N  h66) fun (x67:Bool) h68=>(bif x67 then let x69:=dB x63.1 x65.1;(bif x69 then(iA (.val zK) (h68.cells (h56.next,0) 2) fun (x70:zE1)=>(lA (f31 N (x70.1,x70.2.1,()) h68) fun (x71:zE1) h72=>(iA (.val zK) (h72.cells (h60.next,0) 2) fun (x73:zE1)=>(lA (f31 N (x73.1,x73.2.1,()) h72) fun (x74:zE1) h75=>(lA (f30 N (x71.1,x71.2.1,()) (x74.1,x74.2.1,()) h75) fun (x76:Bool) h77=>(cE (bif (mB (h72.cells (h60.next,0) 2) (.agg (yRJ x73))) then (bif (mB (h68.cells (h60.next,0) 2) (.agg (yRJ x73))) then (bif (mB (h68.cells (h56.next,0) 2) (.agg (yRJ x70))) then true else false) else false) else false) ( some (x76,h77))))))))else(cE true ( some (false,h68))))else(cE true ( some (false,h68)))))))))))))))
def bBj:Ann:=(.two .n (.two .n (.two .n (.two .n (.two .n (.two (.two .n (.two (.loop [(0,zR2),(1,zQ2),(5,zQ2),(8,zR2),(9,zT2)] [(.exit 0)] [(0,zR2),(8,zR2)] .n) .n)) .n))))))
theorem f9_ok (N:Nat):jD Tryz.prog 9 [zR2,zQ2] (.val zS2) (fun x h=>f9 N x.1 x.2.1 h):=qD (bA (gBb N) (bA (tBb N) (bA (lAy N) (bA (lB8 N) (bA (cAz N) (bA (wBc N) kA)))))) N bBj Tryz.f9
end
end Qp
namespace Qp
theorem fBh:AppN E 63 3 1 100:=AppN.of (by kernel_rfl)
theorem qA5 {h0 H:Heap} {M:List Nat} {v:SL} {xs:List Int} (c:Chg M h0 H) (x:Ow h0.next H v 1 (xs.map D.i)) (hl:xs.length≤2000000) (t:Int) :
  ∃ v' H',(∀ {β:Type} (K:SL→Heap→Option β),tD (.val zQ2) (fB E 63 63 (.slice v.a v.len v.cap v.sz) (.slice (some (H.next,0)) 1 1 1) (H.push (.row [(.int .i64 t)] .own))) K=K v' H')∧Ow h0.next H' v' 1 ((xs++[t]).map D.i)∧Chg v.blk.toList H H':=by
 obtain ⟨s',h',e,o,c',_⟩:=pT (cs:=[AV.int .i64 t]) fBh (by decide) x (wAi H _ t) rfl c.next (by rw [List.length_map];omega);refine ⟨s',h',fun K=>?_,?_,c'⟩
 ·have e':fB E 63 63 (.slice v.a v.len v.cap v.sz) (.slice (some (H.next,0)) 1 1 1) (H.push (.row [(.int .i64 t)] .own))=some (.slice s'.a s'.len s'.cap s'.sz,h'):=e
  rw [e'];simp only [wF,uA]
 ·rw [List.map_append];exact o
theorem yBc {h:Heap} {V:Nat→Prop} {v:SL} {xs:List Int} (x:Sl h V v (xs.map D.i)) {i:Nat} (hi:i<xs.length):h.cell (v.at i 1)=some (.int .i64 xs[i]):=by
 obtain ⟨cs,e⟩:=x.elt (i:=i) (by rw [List.length_map];exact hi);have hd:=e.dt;rw [List.getElem_map] at hd;simp only [Dt] at hd;subst hd;have hz:v.sz=1:=e.len.symm
 have:=e.cell 0 (by omega)
 rw [hz] at this;simpa using this
section
variable {N:Nat} {h:Heap}
theorem uB5 {A B:Nat} {c a b:Int} (hN:10≤N) (oA:h.own A [.int .i64 c,.int .i64 a,AV.iface 127 (.ptr (some (B,0)))]) (oB:h.own B [.int .i64 c,.int .i64 b,AV.iface 78 (.int .i64 c)]) :
  ∃ v h',f53 N (AV.iface 127 (.ptr (some (A,0)))) h=some (v,h')∧Chg [] h h'∧Sl h' (fun C=>h.next≤C) v ([a,b].map D.i):=by
 obtain ⟨N,rfl⟩:∃ m,N=m+3:=⟨N-3,by omega⟩;unfold f53;have k1:h.cell (A,1)=some (.int .i64 a):=oA.cell 1;obtain ⟨v1,H1,e1,w1,c1⟩:=qA5 (xs:=[]) (Chg.refl [] h) (Ow.nil h.next h 0 1) (by simp) a;have c01:Chg [] h H1:=c1.mono (by simp [SL.blk]);have oA1:=oA.chg c01 (by simp);have oB1:=oB.chg c01 (by simp);have k2:H1.cell (A,2)=some (AV.iface 127 (.ptr (some (B,0)))):=oA1.cell 2;have k3:H1.cell (B,1)=some (.int .i64 b):=oB1.cell 1;obtain ⟨v2,H2,e2,w2,c2⟩:=qA5 (xs:=[a]) c01 w1 (by simp) b;have c02:Chg [] h H2:=c01.step c2 fun X hX hlt=>by
  have:=w1.ge X (by simpa using hX);omega
 have oB2:=oB.chg c02 (by simp);have k4:H2.cell (B,2)=some (AV.iface 78 (.int .i64 c)):=oB2.cell 2;rw [bS];unfold qU;rw [show qB 0 200=true from rfl];simp only [cond_true];rw [rT];simp only [Bool.not_true,cond_false,Option.isNone_some,dA,Nat.zero_add,k1,fA,yC];have e1':∀ {β:Type} (K:SL→Heap→Option β),tD (.val zQ2) (fB E 63 63 (.slice none 0 0 0) (.slice (some (h.next,0)) 1 1 1) (h.push (.row [(.int .i64 a)] .own))) K=K v1 H1:=e1;rw [e1'];simp only [k2,fA,aE];rw [show wA .i64 (0+1)=1 from rfl,bS];unfold qU;rw [show qB 1 200=true from rfl];simp only [cond_true];rw [rT];simp only [Bool.not_true,cond_false,Option.isNone_some,dA,Nat.zero_add,k3,fA,yC];rw [e2];simp only [k4,fA,aE];rw [show wA .i64 (1+1)=2 from rfl,bS];unfold qU;rw [show qB 2 200=true from rfl];simp only [cond_true];rw [pAi];simp only [Bool.not_false,cond_true];exact ⟨v2,H2,rfl,c02,w2.sl⟩
theorem vB5 {V:Nat→Prop} {v:SL} {A:Nat} {a b:Int} (hN:10≤N) (x:Sl h V v ([a,b].map D.i)) (o:h.own A [.int .i64 a,.int .i64 b]):f52 N v ⟨some (A,0),2,2,1⟩ h=some (true,h):=by
 obtain ⟨N,rfl⟩:∃ m,N=m+3:=⟨N-3,by omega⟩;have hl:v.len=2:=x.len;have c0:=yBc x (i:=0) (by simp);have c1:=yBc x (i:=1) (by simp);have d0:h.cell (A,0)=some (.int .i64 a):=o.cell 0;have d1:h.cell (A,1)=some (.int .i64 b):=o.cell 1;unfold f52;dsimp only;have q:dB (Int.ofNat v.len) (Int.ofNat 2)=true:=by rw [hl];rfl
 rw [q,Bool.not_true,cond_false,dS];unfold rU;have lt0:qB 0 (Int.ofNat v.len)=true:=by rw [hl];rfl
 have lt1:qB 1 (Int.ofNat v.len)=true:=by rw [hl];rfl
 have lt2:qB 2 (Int.ofNat v.len)=false:=by rw [hl];rfl
 have hs:v.a.isSome=true:=x.isSome (by simp);have i0:∀ {β:Type} (K:Nat×Nat→Option β),ixK v.a v.len 0 1 K=K (v.at 0 1):=fun K=>iQ (i:=0) hs (by omega) K;have i1:∀ {β:Type} (K:Nat×Nat→Option β),ixK v.a v.len 1 1 K=K (v.at 1 1):=fun K=>iQ (i:=1) hs (by omega) K;have j0:∀ {β:Type} (K:Nat×Nat→Option β),ixK (some (A,0)) 2 0 1 K=K (A,0):=fun K=>jT (A,0) 2 0 1 K (by decide);have j1:∀ {β:Type} (K:Nat×Nat→Option β),ixK (some (A,0)) 2 1 1 K=K (A,1):=fun K=>jT (A,0) 2 1 1 K (by decide);have ee:∀ x:Int,dB x x=true:=fun x=>by rw [eqI];exact decide_eq_true rfl
 simp only [lt0,cond_true,i0,j0,c0,d0,fA,yC,List.getElem_cons_zero,ee,Bool.not_true,cond_false];rw [show wA .i64 (0+1)=1 from rfl,dS];unfold rU;simp only [lt1,cond_true,i1,j1,c1,d1,fA,yC,List.getElem_cons_succ,List.getElem_cons_zero,ee,Bool.not_true,cond_false];rw [show wA .i64 (1+1)=2 from rfl,dS];unfold rU;simp only [lt2,cond_false];rfl
end
end Qp
namespace Qp
abbrev tA:Bs:=[102,110,32,102,40,120,58,32,105,110,116,41,32,45,62,32,105,110,116,32,123,32,114,101,116,117,114,110,32,120,32,43,32,49,59,32,125]
abbrev tB:Bs:=[32,102,110,32,102,40,32,123]
abbrev tC:Bs:=[38,39,97,32,109,117,116,32,83,60,39,98,62]
def cBj:D→List D
 | .t [_,_,_,_,_,.l bd,_]=>bd
 | _=>[]
def eBi:D→Int
 | .t (_::.i a::_)=>a
 | _=>0
theorem cA1:(bG 20000 tA).2=none:=by kernel_rfl
theorem cA2:(bG 20000 tA).1.2.map (fun d=>(cBj d).map eBi)=[[22]]:=by kernel_rfl
theorem cB:(bG 20000 tB).2=some (21,1,some 7):=by kernel_rfl
theorem cC:dAw 20000 tC=(tyD 5 [] [[97]] [tyD 3 [83] [[98]] []],none):=by kernel_rfl
theorem ix0 {β:Type} {h:Heap} {V:Nat→Prop} {s:SL} {xs:List D} (x:Sl h V s xs) (hi:0<xs.length) (n:Nat) (K:Nat×Nat→Option β):ixK s.a s.len 0 n K=K (s.at 0 n):=x.ix (i:=0) hi n K
theorem kAu {h:Heap} (hp:Qw.pinned h=true) (h4:4≤h.next):∃ h',g22 20000 h=some (true,h')∧Chg [] h h':=by
 unfold g22;obtain ⟨va,wa,ea,h2,ra,ca,sva,swa,xa⟩:=iAj (N:=20000) (s:=tA) (by decide) (by decide) (by decide) hp h4;rw [ra,aA];dsimp only;obtain ⟨h4',p4,d4,o4⟩:=nAx h2 va wa;rw [p4];have c4:=ca.trans d4;obtain ⟨vb,wb,eb,h6,rb,cb,svb,swb,xb⟩:=iAj (N:=20000) (s:=tB) (by decide) (by decide) (by decide) (rJ c4 (by simp) h4 hp) (Nat.le_trans h4 c4.next);rw [rb,aA];dsimp only;obtain ⟨h8,p8,d8,o8⟩:=nAx h6 vb wb;rw [p8];obtain ⟨rc,h10,rc',cc,sc,xc⟩:=wB8 (N:=20000) (s:=tC) (by decide) (by decide) (by decide) h8;rw [rc',aA];have oA0:=vA h10 zt;have cA0:=qA h10 (.row zt .own);have eA:h10.push (.row [(.int .i64 0),(.str []),(.slice none 0 0 0),(.slice none 0 0 0)] .own)=h10.push (.row zt .own):=rfl;have hstA:=tA4 oA0 rc.1;rw [eA,hstA,dA];have oC:=yA oA0 (tyc rc.1);have cA:Chg [] h10 ((h10.push (.row zt .own)).put h10.next (.row (tyc rc.1) .own)):=cA0.put (.inr (Nat.le_refl _)) _;generalize (h10.push (.row zt .own)).put h10.next (.row (tyc rc.1) .own)=h12 at *;have c812:=cc.trans cA;have c412:=cb.trans (d8.trans c812);have c12:=c4.trans c412;rw [xa.eq 19,cA1];simp only [fA,wB,Option.isNone_none,cond_true];have o4:=o4.chg c412 (by simp);have k1:h12.cell (h2.next,0+1)=some (SL.av wa):=o4.cell 1
 -- the function's body
 have swa:=swa.chg (d4.trans c412) (by simp);have hfu:=(tAg 20000 tA).2.1;have e2:=cA2;generalize (bG 20000 tA).1.2=F at *;obtain ⟨f,rfl⟩:∃ f,F=[f]:=by
  have:=congrArg List.length e2
  rw [List.length_map] at this
  match F,this with
  | [f],_=>exact ⟨f,rfl⟩
 simp only [List.map_cons,List.map_nil,List.cons.injEq,and_true] at e2;obtain ⟨cs,e⟩:=swa.elt (i:=0) (by simp);obtain ⟨pub,nm,lv,ps,ty,bd,a,hf,_,_,_,_,t1,_,t2⟩:=hfu f (by simp);subst hf;have hd:=e.dt;obtain ⟨s1,s2,s3,r,hcs,_,_,_,sb⟩:=fAc t1 hd;subst hcs;have hz:wa.sz=10:=e.len.symm;rw [hz] at e;have k2:h12.cell ((wa.at 0 10).1,(wa.at 0 10).2+8)=some (SL.av s3):=e.cell 8 (by omega);have e3:bd.map eBi=[22]:=e2;obtain ⟨b,rfl⟩:∃ b,bd=[b]:=by
  have:=congrArg List.length e3
  rw [List.length_map] at this
  match bd,this with
  | [b],_=>exact ⟨b,rfl⟩
 simp only [List.map_cons,List.map_nil,List.cons.injEq,and_true] at e3;obtain ⟨cs2,eb2⟩:=sb.elt (i:=0) (by simp);obtain ⟨k,a',m,nm',ty',hs,pl,vl,co,th,el,hb,u1,u2,u3,u4,_⟩:=t2 b (by simp);subst hb;have e3:a'=22:=e3;subst e3;have hd2:=eb2.dt;obtain ⟨r',p',v',o',s1',s2',hcs2,_⟩:=eAc u1 u2 u3 u4 hd2;subst hcs2;have hz2:s3.sz=32:=eb2.len.symm;rw [hz2] at eb2;have k3:h12.cell ((s3.at 0 32).1,(s3.at 0 32).2+1)=some (.int .i64 22):=eb2.cell 1 (by omega);have l1:dB (Int.ofNat wa.len) 1=true:=by rw [swa.len];rfl
 have l2:dB (Int.ofNat s3.len) 1=true:=by rw [sb.len];rfl
 simp only [k1,SL.av,fA,uA,l1,cond_true,ix0 swa (by simp),k2,l2,ix0 sb (by simp),k3,yC];rw [show dB 22 22=true from rfl,cond_true]
 -- the fault
 rw [cB] at xb;have xb:=xb.chg (d8.trans c812) (by simp);rw [gBg xb (by decide),aA];rw [show decide (dU (some (21,1,some 7))=(21,7))=true from rfl,cond_true];obtain ⟨A,B,hv,oA,oB⟩:=xb;subst hv;obtain ⟨w,h29,e29,c29,s29⟩:=uB5 (N:=20000) (by decide) oA oB;rw [e29,aA];have o30:=vA h29 [(.int .i64 1),(.int .i64 7)];have c30:=qA h29 (.row [(.int .i64 1),(.int .i64 7)] .own);rw [vB5 (N:=20000) (by decide) (s29.chg c30 (by simp)) o30,aA,cond_true];have c1230:=c29.trans c30;generalize h29.push (.row [(.int .i64 1),(.int .i64 7)] .own)=h30 at *
 -- the type
 rw [cC] at xc sc;have xc:rc.2.1=AV.nilIface:=xc;obtain ⟨t1,t2,hct,_,st2⟩:=lA3.1 sc;rw [hct] at oC;have oC:=oC.chg c1230 (by simp);have j0:h30.cell (h10.next,0+0)=some (.int .i64 5):=oC.cell 0;have j3:h30.cell (h10.next,0+3)=some (SL.av t2):=oC.cell 3;have st2:=st2.chg (cA.trans c1230) (by simp);have l3:dB (Int.ofNat t2.len) 1=true:=by rw [st2.len];rfl
 obtain ⟨cs3,e3⟩:=st2.elt (i:=0) (by simp);obtain ⟨q1,q2,hc3,_⟩:=lA3.1 e3.dt;subst hc3;have hz3:t2.sz=4:=e3.len.symm;rw [hz3] at e3;have j4:h30.cell ((t2.at 0 4).1,(t2.at 0 4).2+1)=some (.str [83]):=e3.cell 1 (by omega);rw [xc,eq_nil];simp only [fA,wB,cond_true,j0,yC,show dB 5 5=true from rfl,j3,SL.av,uA,l3,ix0 st2 (by simp),j4,rB,show jB [83] [83]=true from rfl];exact ⟨_,rfl,c12.trans c1230⟩
end Qp
namespace Qp
theorem oAc {h h':Heap} {s:SL} {vs:List AV} (c:Chg [] h h') (x:Sees h s vs):Sees h' s vs:=by
 obtain ⟨g1,g2,g3⟩:=x;refine ⟨g1,g2,fun A off ha=>?_⟩;obtain ⟨h1,cs,h2,h3⟩:=g3 A off ha;exact ⟨Nat.lt_of_lt_of_le h1 c.next,cs,by rw [c.g A h1 (by simp)];exact h2,h3⟩
theorem oAx {h:Heap} {V:Nat→Prop} {v:SL} {T:List Tok} (hs:Sl h V v (T.map pY)) (h3:v.sz=3) {i:Nat} (hi:i<T.length):h.cell ((v.at i 3).1,(v.at i 3).2+0)=some (.int .i64 (tk T i).1)∧h.cell ((v.at i 3).1,(v.at i 3).2+1)=some (.str (tk T i).2.1):=by
 obtain ⟨cs,e⟩:=hs.elt (i:=i) (by rw [List.length_map];exact hi);rw [h3] at e;have hd:=e.dt;rw [List.getElem_map] at hd;have a:=e.cell 0 (by omega);have b:=e.cell 1 (by omega);rw [jA7 hd] at a b;rw [qAq hi,a,b];exact ⟨rfl,rfl⟩
def jOf (n:Int):Nat:=((n.tmod 4+4).tmod 4).toNat
theorem aBd (n:Int):∃ u:Nat,n.tmod 4+4=(u:Int)∧jOf n=u % 4∧u<8:=by
 obtain ⟨h1,h2⟩:=tB5 (x:=n) (m:=4) (by decide);have h1:-4<n.tmod 4:=h1;have h2:n.tmod 4<4:=h2;obtain ⟨u,hu⟩:∃ u:Nat,n.tmod 4+4=(u:Int):=⟨(n.tmod 4+4).toNat,by omega⟩;refine ⟨u,hu,?_,by omega⟩;unfold jOf;rw [hu,show (u:Int).tmod 4=((u % 4:Nat):Int) by rw [Int.tmod_eq_emod_of_nonneg (by omega)];rfl];rfl
theorem fBi (x:Int):gN .rem .i64 x 4=some (.int .i64 (x.tmod 4)):=rB5 (m:=4) (by decide)
def mO:List AV:=[(.str [32]),(.str [10]),(.str [9,32]),(.str [32,47,47,32,123,32,125,10])]
theorem lAu {j:Nat} (hj:j<4):mO[j]? = some (.str (bA9 j)):=by
 match j,hj with
 | 0,_=>rfl
 | 1,_=>rfl
 | 2,_=>rfl
 | 3,_=>rfl
def jAt (ns:List Int) (i:Nat):Nat:=if i<ns.length then jOf (ns.getD i 0) else 0
theorem mAu {q:Tok}:dA3 q=if q.1=3 then [39]++q.2.1 else q.2.1:=rfl
section
variable {N:Nat} {s:Bs} {v1 v5:SL} {ns:List Int} {l:List Tok}
theorem vAg {e:Tok} (hz:v5.sz=3) (hn:v1.sz=1∨v1.len=0) (hnl:ns.length=v1.len) (hlen:l.length≤100000):∀ (k M i:Nat) (t:Bs) (h:Heap) (V:Nat→Prop),i+k=l.length→k<M→Sl h V v5 ((l++[e]).map pY)→Sees h v1 (ns.map (AV.int .i64))→(t++bT (jAt ns) i (l.drop i)).length≤500000→
  ∃ h',uAg N M s v1 v5 t (i:Int) h=some (.exit 0,(s,t++bT (jAt ns) i (l.drop i),()),h')∧Chg [] h h':=by
 intro k
 induction k with
 | zero=>
  intro M i t h V hi hM x y hb;obtain ⟨M,rfl⟩:∃ m,M=m+1:=⟨M-1,by omega⟩;rw [pA5];unfold aA9;have hl5:v5.len=l.length+1:=by rw [x.len];simp
  rw [iB (by omega),hl5]
  try dsimp only
  rw [oG,decide_eq_false (by omega),cond_false,show l.drop i=[] from List.drop_eq_nil_of_le (by omega)];exact ⟨h,by simp [bT],Chg.refl _ _⟩
 | succ k ih=>
  intro M i t h V hi hM x y hb;obtain ⟨M,rfl⟩:∃ m,M=m+1:=⟨M-1,by omega⟩;have hil:i<l.length:=by omega
  have hl5:v5.len=l.length+1:=by rw [x.len];simp
  have hT:tk (l++[e]) i=l[i]:=nB5 hil;have hdrop:l.drop i=l[i]::l.drop (i+1):=List.drop_eq_getElem_cons hil;rw [hdrop] at hb ⊢;have hbt:bT (jAt ns) i (l[i]::l.drop (i+1))=bA9 (jAt ns i)++(dA3 l[i]++bT (jAt ns) (i+1) (l.drop (i+1))):=rfl;rw [hbt] at hb ⊢;simp only [List.length_append] at hb;have o:=vA h mO;have c:=qA h (.row mO .own);have e1:h.push (.row [(.str [32]),(.str [10]),(.str [9,32]),(.str [32,47,47,32,123,32,125,10])] .own)=h.push (.row mO .own):=rfl
  -- what comes behind the blank
  have tail:∀ (j:Nat),j=jAt ns i→∃ h',
    (iA (.val zR2) (pF .add t (bA9 j)) fun (x39:zV2)=>
    (ixK v5.a v5.len (i:Int) 3 fun q40=>
    (iA (.val zT2) ((h.push (.row mO .own)).cell (q40.1,q40.2+0)) fun (x41:Int)=>
    (bif dB x41 3 then
     (iA (.val zR2) (pF .add x39 [39]) fun (x43:zV2)=>
     (ixK v5.a v5.len (i:Int) 3 fun q44=>
     (iA (.val zR2) ((h.push (.row mO .own)).cell (q44.1,q44.2+1)) fun (x45:zV2)=>
     (iA (.val zR2) (pF .add x43 x45) fun (x46:zV2)=>
     uAg N M s v1 v5 x46 (wA .i64 ((i:Int)+1)) (h.push (.row mO .own))))))
    else
     (ixK v5.a v5.len (i:Int) 3 fun q48=>
     (iA (.val zR2) ((h.push (.row mO .own)).cell (q48.1,q48.2+1)) fun (x49:zV2)=>
     (iA (.val zR2) (pF .add x39 x49) fun (x50:zV2)=>
     uAg N M s v1 v5 x50 (wA .i64 ((i:Int)+1)) (h.push (.row mO .own)))))))))
    = some (.exit 0,(s,t++(bA9 (jAt ns i)++(dA3 l[i]++bT (jAt ns) (i+1) (l.drop (i+1)))),()),h')∧Chg [] h h':=by
   intro j hj;subst hj;have x':=x.chg c (by simp);obtain ⟨k0,k1⟩:=oAx x' hz (i:=i) (by simp;omega);rw [hT] at k0 k1;rw [yA8 (by omega),x'.ix (by simp;omega),k0];simp only [fA,yC,eqI];rw [iB (by omega)];have fin:∀ w:Bs,w=t++(bA9 (jAt ns i)++dA3 l[i])→∃ h',uAg N M s v1 v5 w ((i+1:Nat):Int) (h.push (.row mO .own))=some (.exit 0,(s,t++(bA9 (jAt ns i)++(dA3 l[i]++bT (jAt ns) (i+1) (l.drop (i+1)))),()),h')∧Chg [] h h':=fun w hw=>by
    obtain ⟨h',e',c'⟩:=ih M (i+1) w _ V (by omega) (by omega) x' (oAc c y) (by rw [hw];simp only [List.length_append];omega);refine ⟨h',?_,c.trans c'⟩;rw [e',hw];simp only [List.append_assoc]
   by_cases q:(l[i]).1=3
   ·have ht:dA3 l[i]=[39]++(l[i]).2.1:=by rw [mAu,if_pos q]
    rw [ht] at hb fin ⊢;simp only [List.length_append,List.length_cons,List.length_nil] at hb;simp only [q,decide_true,cond_true];rw [yA8 (by simp only [List.length_append,List.length_cons,List.length_nil];omega),x'.ix (by simp;omega),k1];simp only [fA,rB];rw [yA8 (by simp only [List.length_append,List.length_cons,List.length_nil];omega)];exact fin _ (by simp only [List.append_assoc])
   ·have ht:dA3 l[i]=(l[i]).2.1:=by rw [mAu,if_neg q]
    rw [ht] at hb fin ⊢;simp only [q,decide_false,cond_false];rw [x'.ix (by simp;omega),k1];simp only [fA,rB];rw [yA8 (by simp only [List.length_append];omega)];exact fin _ (by simp only [List.append_assoc])
  rw [pA5];unfold aA9;rw [show wA .i64 ((i:Int)+1)=((i+1:Nat):Int) from iB (by omega),hl5]
  try dsimp only
  rw [oG,decide_eq_true (by omega),cond_true,oG];rw [e1];have cellJ:∀ j:Nat,j<4→(h.push (.row mO .own)).cell (h.next,0+j * 1)=some (.str (bA9 j)):=fun j hj=>by
   rw [Nat.zero_add,Nat.mul_one,o.cell j,lAu hj]
  have tail':=tail (jAt ns i) rfl;rw [hl5,show wA .i64 ((i:Int)+1)=((i+1:Nat):Int) from iB (by omega)] at tail'
  by_cases q:i<v1.len
  ·rw [decide_eq_true q,cond_true]
   have h1:v1.sz=1:=hn.elim id (fun h=>by omega);have hs:v1.a.isSome=true:=y.isSome (by omega);rw [iQ hs q,y.cell h1 q];have hg:(ns.map (AV.int .i64))[i]? = some (.int .i64 (ns.getD i 0)):=by
    rw [List.getElem?_map,List.getD_eq_getElem?_getD]
    have:i<ns.length:=by omega
    simp [this]
   rw [hg];obtain ⟨u,hu1,hu2,hu3⟩:=aBd (ns.getD i 0);simp only [fA,yC,fBi,hu1];rw [tL (by omega)];rw [show (u:Int).tmod 4=((u % 4:Nat):Int) by rw [Int.tmod_eq_emod_of_nonneg (by omega)];rfl];have hj4:u % 4<4:=Nat.mod_lt _ (by decide);rw [show ((u % 4:Nat):Int)=Int.ofNat (u % 4) from rfl,jT (h.next,0) 4 (u % 4) 1 _ hj4]
   try dsimp only
   rw [cellJ _ hj4];simp only [fA,rB];have hja:jAt ns i=u % 4:=by unfold jAt;rw [if_pos (by omega),hu2]
   rw [hja] at tail' ⊢;exact tail'
  ·rw [decide_eq_false q,cond_false]
   have e0:(0:Int).tmod 4=0:=rfl;have e4:wA .i64 (0+4)=4:=by rw [fD (by decide) (by decide)];rfl
   have e44:(4:Int).tmod 4=0:=rfl;simp only [fBi,e0,fA,yC,e4,e44];rw [show (0:Int)=Int.ofNat 0 from rfl,jT (h.next,0) 4 0 1 _ (by decide)]
   try dsimp only
   rw [cellJ 0 (by decide)];simp only [fA,rB];have hja:jAt ns i=0:=by unfold jAt;rw [if_neg (by omega)]
   rw [hja] at tail' ⊢;exact tail'
end
theorem tAz:∀ (M:Nat) (t:Bs) (a:Nat) (l:List Tok),qY M t a=.inl l→∀ (j:Nat→Nat) (i:Nat),(bT j i l).length≤9 * t.length∧l.length≤t.length
 | 0,t,a,l,h,j,i=>by cases h
 | M+1,t,a,l,h,j,i=>by
  cases t with
  | nil=>
   simp only [qY,Sum.inl.injEq] at h;subst h;simp [bT]
  | cons c r=>
   simp only [qY] at h
   split at h
   ·cases h
   ·rename_i k x n hx
    split at h
    ·rename_i l' hl
     simp only [Sum.inl.injEq] at h;subst h;obtain ⟨h1,h2⟩:=tAz M _ _ _ hl j (i+1);have hn:=rF hx;have ht:=(mAc hx).2;rw [List.length_drop] at h1 h2;have hsep:(bA9 (j i)).length≤8:=by unfold bA9;split <;> simp
     have e:bT j i ((k,x,a)::l')=bA9 (j i)++(dA3 (k,x,a)++bT j (i+1) l'):=rfl;rw [e,List.length_append,List.length_append,dAu,← ht];simp only [List.length_cons] at *;omega
    ·cases h
theorem wAg:∀ {n:Nat} {d:D},isSm n d→isSm n (nK n d)
 | 0,d,h=>h.elim
 | n+1,d,⟨k,a,m,nm,ty,hs,pl,va,co,th,el,h0,h1,h2,h3,h4,h5,h6,h7,h8⟩=>by
  subst h0;rw [mU];refine ⟨k,0,m,nm,ty,hs,pl,va,co,_,_,rfl,h1,h2,h3,h4,by rw [List.length_map];exact h5,by rw [List.length_map];exact h6,fun s hs=>?_,fun s hs=>?_⟩
  ·obtain ⟨y,hy,rfl⟩:=List.mem_map.1 hs
   exact wAg (h7 y hy)
  ·obtain ⟨y,hy,rfl⟩:=List.mem_map.1 hs
   exact wAg (h8 y hy)
theorem pAx {d:D} (h:isSt d):isSt (iK d):=by
 obtain ⟨pub,nm,lv,fs,a,rfl,h1,h2,h3⟩:=h;exact ⟨pub,nm,lv,fs,0,rfl,h1,h2,h3⟩
theorem qAx {d:D} (h:isFu d):isFu (bareFu d):=by
 obtain ⟨pub,nm,lv,ps,ty,bd,a,rfl,h1,h2,h3,h4,h5,h6,h7⟩:=h;exact ⟨pub,nm,lv,ps,ty,bd.map (nK 65),0,rfl,h1,h2,h3,h4,h5,by rw [List.length_map];exact h6,fun s hs=>by
  obtain ⟨y,hy,rfl⟩:=List.mem_map.1 hs;exact wAg (h7 y hy)⟩
theorem rAx {e' e:Er3} (h:e'.map Prod.fst=e.map Prod.fst):(dU e').1=(dU e).1:=by
 have k:∀ e:Er3,(dU e).1=(e.map Prod.fst).getD 0:=fun e=>by
  match e with
  | none=>rfl
  | some (c,a,none)=>rfl
  | some (c,a,some b)=>rfl
 rw [k,k,h]
section
variable {h:Heap}
theorem gBh (hp:Qw.pinned h=true) (h4:4≤h.next) (s:Bs) {v1:SL} {ns:List Int} (hn:v1.sz=1∨v1.len=0) (hnl:ns.length=v1.len) (hns:Sees h v1 (ns.map (AV.int .i64))):∃ h',f9 20000 s v1 h=some (true,h'):=by
 unfold f9;have z:qB 1500 (Int.ofNat s.length)=decide (1500<s.length):=oG 1500 _;simp only [z]
 by_cases q:1500<s.length
 ·obtain ⟨w0,e0,_⟩:=kAu hp h4
  simp only [q,decide_true,cond_true,e0,aA];exact ⟨_,rfl⟩
 simp only [q,decide_false,cond_false];obtain ⟨r8,h5,e5,c5,k5⟩:=tB8 (N:=20000) (s:=s) (by omega) (by omega) (by omega) h;rw [e5,aA];have hp5:=rJ c5 (by simp) h4 hp
 cases hl:gAb 20000 s with
 | inr a=>
  rw [hl] at k5;have n1:dB r8.2.1 0=false:=by rw [k5.1];rfl
  obtain ⟨w0,e0,_⟩:=kAu hp5 (Nat.le_trans h4 c5.next);simp only [n1,Bool.not_false,cond_true,e0,aA];exact ⟨_,rfl⟩
 | inl T=>
 rw [hl] at k5;obtain ⟨k1,k2,k3⟩:=k5;obtain ⟨l,hg,rfl⟩:=lAx hl;have n1:dB r8.2.1 0=true:=by rw [k1];rfl
 simp only [n1,Bool.not_true,cond_false];have hz:r8.1.sz=3:=by
  rcases k2 with ⟨_,_,_,g4⟩ | ⟨A,cs,st',vs,_,g2,_⟩
  ·simp at g4
  ·exact g2
 obtain ⟨b1,b2⟩:=tAz _ _ _ _ hg (jAt ns) 0;rw [List.length_drop] at b1 b2;obtain ⟨h54,e54,c54⟩:=vAg (N:=20000) (s:=s) (e:=(0,[],s.length)) hz hn hnl (by omega) l.length 20000 0 [] h5 _ (by omega) (by omega) k2.sl (oAc c5 hns) (by simp only [List.drop_zero,List.nil_append];omega);rw [show ((0:Nat):Int)=0 from rfl,List.drop_zero,List.nil_append] at e54;rw [e54,pB]
 try dsimp only
 have c054:=c5.trans c54;obtain ⟨p1,p2,p3⟩:=nAc hg (jAt ns) (N:=20000) (T:=[]) (by omega);generalize bT (jAt ns) 0 l=t at *;have hp54:=rJ c054 (by simp) h4 hp;obtain ⟨va,wa,ea,h56,ra,ca,sva,swa,xa⟩:=iAj (N:=20000) (s:=s) (by omega) (by omega) (by omega) hp54 (Nat.le_trans h4 c054.next);rw [ra,aA]
 try dsimp only
 obtain ⟨h58,p58,d58,o58⟩:=nAx h56 va wa;rw [p58];have ca58:=ca.trans d58;have c058:=c054.trans ca58;obtain ⟨vb,wb,eb,h60,rb,cb,svb,swb,xb⟩:=iAj (N:=20000) (s:=t) (by omega) (by omega) (by omega) (rJ c058 (by simp) h4 hp) (Nat.le_trans h4 c058.next);rw [rb,aA]
 try dsimp only
 obtain ⟨h62,p62,d62,o62⟩:=nAx h60 vb wb;rw [p62];have cb62:=cb.trans d62;have c062:=c058.trans cb62;have hp62:=rJ c062 (by simp) h4 hp;have ya:=xa.keep (d58.trans cb62);have yb:=xb.keep d62;rw [qB3 ya (by omega),aA,qB3 yb (by omega),aA];obtain ⟨h63,e63,c63⟩:=kAu hp62 (Nat.le_trans h4 c062.next);rw [e63,aA,cond_true];have d62:=d62.trans c63;have cb62:=cb62.trans c63;have o62:=o62.chg c63 (by simp);have hcode:dB (dU (bG 20000 s).2).1 (dU (bG 20000 t).2).1=true:=by
  rw [eqI];exact decide_eq_true (rAx p1).symm
 try dsimp only
 rw [hcode,cond_true];have o58:=o58.chg cb62 (by simp);rw [cX o58];obtain ⟨q1,q2,q3,q4⟩:=tAg 20000 s;obtain ⟨g1,g2,g3,g4⟩:=tAg 20000 t;obtain ⟨xa',ya',h72,e72,c72,sx72,sy72⟩:=lAz (N:=20000) (by decide) q1 q2 (by omega) (by omega) (sva.chg (d58.trans cb62) (by simp)) (swa.chg (d58.trans cb62) (by simp));have e72':f31 20000 (va,wa,()) h63=some ((xa',ya',()),h72):=e72
 try dsimp only
 rw [e72',aA];have o62':=o62.chg c72 (by simp);rw [cX o62'];have cc:=d62.trans c72;obtain ⟨xb',yb',h75,e75,c75,sx75,sy75⟩:=lAz (N:=20000) (by decide) g1 g2 (by omega) (by omega) (svb.chg cc (by simp)) (swb.chg cc (by simp))
 try dsimp only
 rw [e75,aA];rw [p2] at sx75;rw [p3] at sy75;obtain ⟨h77,e77,c77⟩:=uBb (N:=20000) (fun o ho=>by obtain ⟨y,hy,rfl⟩:=List.mem_map.1 ho;exact pAx (q1 y hy)) (fun o ho=>by obtain ⟨y,hy,rfl⟩:=List.mem_map.1 ho;exact qAx (q2 y hy)) (by rw [List.length_map];omega) (by rw [List.length_map];omega)
  (sx72.chg c75 (by simp)) (sx75.weak (W:=fun _=>True) (fun _ _ _=>trivial)) (sy72.chg c75 (by simp)) (sy75.weak (W:=fun _=>True) (fun _ _ _=>trivial)) (by decide)
 try dsimp only
 rw [e77,aA];have w1:h72.cells (h60.next,0) 2=some (.agg [SL.av vb,SL.av wb]):=o62'.cells (j:=0) (m:=2) (Nat.le_refl _);have w2:h63.cells (h60.next,0) 2=some (.agg [SL.av vb,SL.av wb]):=o62.cells (j:=0) (m:=2) (Nat.le_refl _);have w3:h63.cells (h56.next,0) 2=some (.agg [SL.av va,SL.av wa]):=o58.cells (j:=0) (m:=2) (Nat.le_refl _);have s1:mB (some (.agg [SL.av vb,SL.av wb])) (.agg [(.slice vb.a vb.len vb.cap vb.sz),(.slice wb.a wb.len wb.cap wb.sz)])=true:=yI _;have s2:mB (some (.agg [SL.av va,SL.av wa])) (.agg [(.slice va.a va.len va.cap va.sz),(.slice wa.a wa.len wa.cap wa.sz)])=true:=yI _;simp only [w1,w2,w3,s1,s2,cond_true,mC];exact ⟨_,rfl⟩
end
theorem blankslaw_true {H:Type} (h:Heap) (hp:Qw.pinned h=true) (h2:4≤h.next) (vs:List AV) (ds:List (DataW H)) (hr:RdArgs Tryz.prog h [9,63] vs ds):∃ xs h',VTy.tos [.one .str,.one .slice] xs=vs∧(fun (x:yG [.one .str,.one .slice]) h=>f9 20000 x.1 x.2.1 h) xs h=some (true,h'):=by
 obtain ⟨cs1,d1,vs1,ds1,rfl,rfl,r1,hr⟩:=hr.cons_inv;obtain ⟨cs2,d2,vs2,ds2,rfl,rfl,r2,hr⟩:=hr.cons_inv;obtain ⟨rfl,rfl⟩:=hr.nil_inv;obtain ⟨s,rfl,rfl,_⟩:=r1.str_inv Tryz.underlying9;obtain ⟨v,ns,rfl,g1,g2,g3,g4,_⟩:=Rd.ints Tryz.underlying63 Tryz.underlying3 (by kernel_rfl) r2;obtain ⟨h',e⟩:=gBh hp h2 s g1 g3 g4;refine ⟨(s,v,()),h',?_,e⟩;have a1:∀ v,tA0 Tryz.prog 9 [v]=v:=by intro v;kernel_rfl
 have a2:∀ v,tA0 Tryz.prog 63 [v]=v:=by intro v;kernel_rfl
 rw [a1,a2];rfl
end Qp
open Go.ChangeShapes Go.WideShapes
namespace Qp
open Go.Proofs.YtkcjphhjmlienaaGreatDoor
theorem et:Tryz.prog.globalNamed "errors.errorType" = some 1:=by kernel_rfl
theorem gS:Tryz.prog.globalNamed "strconv.ErrSyntax" = some 3:=by kernel_rfl
theorem gSt:(Tryz.prog.globals[3]?).map (·.type)=some 29:=by kernel_rfl
theorem rt:(Tryz.prog.cutTypes.find? (·.1 == "internal/reflectlite.rtype")).map (·.2)=some 232:=by kernel_rfl
theorem bBd:((List.range 306).filter fun t=>Tryz.prog.rowNamed t [101,114,114,111,114])=[29]:=by kernel_rfl
theorem iBh:Tryz.prog.types.size=306:=by kernel_rfl
theorem hand:typeHandle Tryz.prog 29=.pointer (some ⟨7,29,none⟩):=by kernel_rfl
theorem star : "*" ++ "errors.errorString" = "*errors.errorString":=by decide
theorem cBd (u:TypeId) (h:Tryz.prog.typeName? 3 u=some "*errors.errorString"):u=275:=
 typeName_ptr_named (nm:= "errors.errorString") (by rw [star];kernel_rfl) (by kernel_rfl) (by decide) u (by rw [star];exact h)
theorem jBh:∃ ms,Tryz.prog.underlying 29=some (.interface ms):=by
 have:(match Tryz.prog.underlying 29 with | some (.interface _)=>true | _=>false)=true:=by kernel_rfl
 split at this
 ·exact ⟨_,by assumption⟩
 ·cases this
theorem dBd:Tryz.prog.underlying 275=some (.pointer 277):=by kernel_rfl
theorem eBd:∃ f:Field,Tryz.prog.underlying 277=some (.struct #[f])∧f.type=9∧f.offset=0:=by
 have:(match Tryz.prog.underlying 277 with | some (.struct fs)=>(match fs.toList with | [f]=>Nat.beq f.type 9&&Nat.beq f.offset 0 | _=>false) | _=>false)=true:=by kernel_rfl
 split at this
 ·rename_i fs hfs
  split at this
  ·rename_i f hf
   simp only [Bool.and_eq_true] at this
   have:fs = #[f]:=by rw [← Array.toList_inj,hf]
   subst this;exact ⟨f,hfs,Nat.eq_of_beq_eq_true (by simp_all),Nat.eq_of_beq_eq_true (by simp_all)⟩
  ·cases this
 ·cases this
theorem kBh:Tryz.prog.underlying 9=some .string:=by kernel_rfl
theorem dBj:Tryz.prog.cellsOf 277=1:=by kernel_rfl
theorem cS9:Tryz.prog.cellsOf 9=1:=by kernel_rfl
theorem fBd {W:World} (h:laidMetH Tryz.prog Rows.parseDeepRow.laid W):W.var? Tryz.prog "errors.errorType" = some #[.iface 232 (.agg #[.pointer (some ⟨7,29,none⟩)])]:=by
 have h':laidMet Tryz.prog (Rows.parseDeepRow.laid.filter fun x=>x.2.handleName?.isNone) W∧handlesMet Tryz.prog [("errors.errorType",Rows.laid_errors_errorType)] W:=h;have h2:=h'.2 _ (List.mem_singleton.2 rfl);obtain ⟨name,u,ty,e1,e2,e3,e4,e5⟩:=h2;have en:name=[101,114,114,111,114]:=(Option.some.inj e1).symm;subst en;obtain rfl:=Option.some.inj (rt.symm.trans e2);have hm:ty∈(List.range 306).filter fun t=>Tryz.prog.rowNamed t [101,114,114,111,114]:=List.mem_filter.2 ⟨List.mem_range.2 (by rw [← iBh];exact e3),e4⟩;rw [bBd] at hm;obtain rfl:=List.mem_singleton.1 hm;rw [hand] at e5;exact e5
theorem gBd {W:World} (h:laidMetH Tryz.prog Rows.parseDeepRow.laid W):∃ (a:Addr) (s:ByteArray),W.var? Tryz.prog "strconv.ErrSyntax" = some #[.iface 275 (.pointer (some a))]∧W.cell? a=some (.string s):=by
 have h':laidMet Tryz.prog [("math/bits.deBruijn32tab",Rows.laid_math_bits_deBruijn32tab),("math/bits.deBruijn64tab",Rows.laid_math_bits_deBruijn64tab),("internal/strconv.uint64pow10",Rows.laid_internal_strconv_uint64pow10),("strconv.ErrRange",Rows.laid_strconv_ErrRange),("strconv.ErrSyntax",Rows.laid_strconv_ErrSyntax)] W∧handlesMet Tryz.prog [("errors.errorType",Rows.laid_errors_errorType)] W:=h;obtain ⟨ms,hms⟩:=jBh;obtain ⟨f,hf,hft,hfo⟩:=eBd;obtain ⟨a,s,h1,h2,_⟩:=laid_sentinel h'.1.tail.tail.tail.tail gS gSt hms cBd dBd hf hft hfo kBh dBj cS9;exact ⟨a,s,h1,h2⟩
theorem big:7<(begin Tryz.prog (fun _ _=>0) default).world.heap.size:=by
 have:Nat.blt 7 (begin Tryz.prog (fun _ _=>0) default).world.heap.size=true:=by kernel_rfl
 simpa [Nat.blt_eq] using this
theorem lBh:Tryz.prog.globals.size=7:=by kernel_rfl
theorem pAc {W:World} {n:String} {g:Nat} {v:Value} (hg:Tryz.prog.globalNamed n=some g) (hv:W.var? Tryz.prog n=some #[v]):∃ e,W.shape? g=some (e,1):=by
 unfold World.var? at hv;rw [hg] at hv;have hv:(match W.heap[g]? with | some (Obj.cells cs _ _)=>some cs | _=>(Option.none:Option (Array Value)))=some #[v]:=hv
 cases hq:W.heap[g]? with
 | none=>rw [hq] at hv;cases hv
 | some o=>
  rw [hq] at hv
  cases o with
  | cells cs e fz=>
   simp only [Option.some.injEq] at hv;subst hv;exact ⟨e,by simp only [World.shape?,hq];rfl⟩
  | _=>cases hv
def wB5 (W:World):Ai.Loc:=match W.cell? ⟨3,0,none⟩ with
 | some (.iface _ (.pointer (some a)))=>⟨a.block,a.off,0,false⟩
 | _=>⟨0,0,0,false⟩
theorem start_hr {W:World} (h:laidMetH Tryz.prog Rows.parseDeepRow.laid W) (hs:W.ShapedOpen Tryz.prog):HR (Qy.mu0 (wB5 W)) Qy.h0 W:=by
 have hv:=fBd h;have hc:W.cell? ⟨1,0,none⟩=some (.iface 232 (.agg #[.pointer (some ⟨7,29,none⟩)])):=by simpa using World.var?_cell et hv 0
 obtain ⟨o,_,ho,_⟩:=hs.2 7 (by rw [lBh];omega) big;have h7:7<W.heap.size:=(Array.getElem?_eq_some_iff.1 ho).1;obtain ⟨e1,s1⟩:=pAc et hv;obtain ⟨a,s,hv3,hca⟩:=gBd h;have hc3:W.cell? ⟨3,0,none⟩=some (.iface 275 (.pointer (some a))):=by simpa using World.var?_cell gS hv3 0
 obtain ⟨e3,s3⟩:=pAc gS hv3;have hl:wB5 W=⟨a.block,a.off,0,false⟩:=by unfold wB5;rw [hc3]
 have ha:a=⟨a.block,a.off,none⟩∧a.block<W.heap.size:=by
  unfold World.cell? at hca
  cases hq:W.heap[a.block]? with
  | none=>rw [hq] at hca;cases hca
  | some o=>
   rw [hq] at hca
   cases o with
   | cells cs e fz=>
    obtain ⟨ab,ao,sp⟩:=a
    cases sp with
    | some x=>simp at hca
    | none=>exact ⟨rfl,(Array.getElem?_eq_some_iff.1 hq).1⟩
   | _=>cases hca
 rw [hl];exact Qy.dAy h7 s1 hc s3 (by rw [hc3];simp only;rw [← ha.1]) ha.2
theorem start_pinned {h:Heap} (hl:HLe Qy.h0 h):Qw.pinned h=true∧4≤h.next:=Qy.gAu hl
end Qp
end Go.Proofs.YtkcjphhjmlienaaGreatDoor

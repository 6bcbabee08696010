import Derived.Test.YtkcjphhjmlienaaGreatDoorXQp2
import Derived.Test.YtkcjphhjmlienaaGreatDoorXQp1
import Derived.Test.YtkcjphhjmlienaaGreatDoorProg
import Derived.Test.YtkcjphhjmlienaaGreatDoorAi2
/- Functions of the program as plain functions, and what they come to; part 3. -/
namespace Go.Proofs.YtkcjphhjmlienaaGreatDoor
set_option linter.unusedVariables false
set_option linter.unusedSimpArgs false
open Go Ai Go.Proofs
namespace Qp
section
variable {T' T:List Tok} {E:Nat} {Bd:Int×Int→Prop} {α β γ:Type}
def yB4 (s:SC):Prop:=s.2≤2000
abbrev Gs (E:Nat) (Bd:Int×Int→Prop) (F' F:SC→α×SC):Prop:=G Prod.fst yB4 E Bd F' F
abbrev GDs (E:Nat) (Bd:Int×Int→Prop) (F' F:SC→α×SC):Prop:=GD Prod.fst yB4 E Bd F' F
def yU (F:St→α×St):SC→α×SC:=fun s=>((F s.1).1,((F s.1).2,s.2))
theorem qA6 {F' F:St→α×St} (h:Gt E Bd F' F):Gs E Bd (yU F') (yU F):=
 G.mk' (fun s q=>h.e' s.1 q) (fun s q=>h.e s.1 q) (fun s q=>by
  rcases h.c1 s.1 ⟨q.1,trivial⟩ with r | r
  ·exact .inl ⟨r.1,q.2⟩
  ·exact .inr r) (fun s h1 h2 h3=>by
  rcases h.a s.1 h1 h2 trivial with ⟨r1,r2,r3,_⟩ | r | r
  ·exact .inl ⟨by unfold yU;rw [r1],r2,r3,h3⟩
  ·exact .inr (.inl r)
  ·exact .inr (.inr ⟨r.1,h3⟩))
theorem aBc {F':St→α×St} (h:TE id E Bd F'):TE Prod.fst E Bd (yU F'):=fun s q=>h s.1 q
def aAd (T:List Tok) (w:Bs) (Y X:SC→α×SC):SC→α×SC:=fun s=>if (jB T w s.1).1=true then Y ((jB T w s.1).2,s.2) else X ((jB T w s.1).2,s.2)
def isJ (T:List Tok) (w:Bs) (Y X:SC→α×SC):SC→α×SC:=fun s=>if (jB T w s.1).1=true then Y s else X s
theorem wAs {w:Bs} {Y X:SC→α×SC} {i c:Nat}:aAd T w Y X ((i,none),c)=if isS T w i=true then Y ((i+1,none),c) else X ((i,none),c):=by
 by_cases h:isS T w i=true <;> simp [aAd,jB,h]
theorem aB0 {w:Bs} {Y X:SC→α×SC} {i c:Nat}:isJ T w Y X ((i,none),c)=if isS T w i=true then Y ((i,none),c) else X ((i,none),c):=by
 by_cases h:isS T w i=true <;> simp [isJ,jB,h]
theorem fAk (hc:Cut T' T E Bd) {w:Bs} {Y X:SC→α×SC} {c:Nat}:aAd T' w Y X ((E,none),c)=X ((E,none),c):=by
 simp only [aAd,uF hc.k,Bool.false_eq_true,if_false]
theorem yAs (hc:Cut T' T E Bd) {w:Bs} {Y X:SC→α×SC} {c:Nat}:isJ T' w Y X ((E,none),c)=X ((E,none),c):=by
 simp only [isJ,uF hc.k,Bool.false_eq_true,if_false]
theorem rAg {s:SC} (h:(Prod.fst s).2=none):∃ i c,s=((i,none),c):=by
 obtain ⟨⟨i,o⟩,c⟩:=s;have h:o=none:=h;subst h;exact ⟨i,c,rfl⟩
theorem bAd {s:SC} (h:(Prod.fst s).2.isSome=true):∃ i e c,s=((i,some e),c):=by
 obtain ⟨⟨i,o⟩,c⟩:=s
 cases o with
 | none=>cases h
 | some e=>exact ⟨i,e,c,rfl⟩
theorem bB0 {w:Bs} {Y X:SC→α×SC} (hX:∀ s:SC,(Prod.fst s).2.isSome=true→Prod.fst (X s).2=Prod.fst s):∀ s:SC,(Prod.fst s).2.isSome=true→Prod.fst (aAd T w Y X s).2=Prod.fst s:=fun s h=>by
 obtain ⟨i,e,c,rfl⟩:=bAd h;simp only [aAd,eG,Bool.false_eq_true,if_false];exact hX _ rfl
theorem bBc {w:Bs} {Y X:SC→α×SC} (hX:∀ s:SC,(Prod.fst s).2.isSome=true→Prod.fst (X s).2=Prod.fst s):∀ s:SC,(Prod.fst s).2.isSome=true→Prod.fst (isJ T w Y X s).2=Prod.fst s:=fun s h=>by
 obtain ⟨i,e,c,rfl⟩:=bAd h;simp only [isJ,eG,Bool.false_eq_true,if_false];exact hX _ rfl
theorem cAd (hc:Cut T' T E Bd) (w:Bs) {Y' Y X' X:SC→α×SC} (hY:GDs E Bd Y' Y) (hX:Gs E Bd X' X):Gs E Bd (aAd T' w Y' X') (aAd T w Y X):=by
 refine G.mk' (bB0 hX.e') (bB0 hX.e) (fun s h=>?_) (fun s h1 h2 h3=>?_)
 ·obtain ⟨⟨i,o⟩,c⟩:=s
  have q:(i,o)=(E,none):=h.1;rw [q] at h ⊢;rw [fAk hc];exact hX.c1 _ h
 ·obtain ⟨i,c,rfl⟩:=rAg h1
  have h2:i<E:=h2;unfold RA RB;rw [wAs,wAs,hc.is h2]
  cases isS T w i with
  | false=>exact hX.a ((i,none),c) rfl h2 h3
  | true=>
   simp only [if_true]
   by_cases q:i+1<E
   ·exact hY.a ((i+1,none),c) rfl q h3
   ·have:i+1=E:=by omega
    rw [this];rcases hY.c ((E,none),c) ⟨rfl,h3⟩ with r | ⟨j,e,r1,r2⟩ | ⟨r,rd⟩
    ·exact .inr (.inr r)
    ·exact .inr (.inl ⟨j,e,r1,.inr r2⟩)
    ·obtain ⟨j,e,r1⟩:=rM r
     exact .inr (.inl ⟨j,e,r1,.inl (rd _)⟩)
theorem nBh (hc:Cut T' T E Bd) (w:Bs) {Y' Y X' X:SC→α×SC} (hY:GDs E Bd Y' Y) (hX:Gs E Bd X' X):Gs E Bd (isJ T' w Y' X') (isJ T w Y X):=by
 refine G.mk' (bBc hX.e') (bBc hX.e) (fun s h=>?_) (fun s h1 h2 h3=>?_)
 ·obtain ⟨⟨i,o⟩,c⟩:=s
  have q:(i,o)=(E,none):=h.1;rw [q] at h ⊢;rw [yAs hc];exact hX.c1 _ h
 ·obtain ⟨i,c,rfl⟩:=rAg h1
  have h2:i<E:=h2;unfold RA RB;rw [aB0,aB0,hc.is h2]
  cases isS T w i with
  | false=>exact hX.a ((i,none),c) rfl h2 h3
  | true=>exact hY.a ((i,none),c) rfl h2 h3
def ifF (T:List Tok) (blk:SC→List D×SC):SC→(List D×Option (List D))×SC:=bnd blk fun t=>aAd T [101,108,115,101] (eE (fun f=>(t,some f)) blk) (mG (t,none))
def ifV (a:Int) (o:D):List D×Option (List D)→D
 | (t,some f)=>smD { wF a with k:=4,has:=true } { bK with co:=o,th:=t,el:=f }
 | (t,none)=>smD { wF a with k:=4 } { bK with co:=o,th:=t }
def dAd (T:List Tok) (blk:SC→List D×SC) (a:Int):SC→D×SC:=
 aAd T [108,101,116] (yU (lAg T a)) (aAd T [105,102] (bnd (yU (kE T)) fun o=>eE (ifV a o) (ifF T blk))
  (aAd T [119,104,105,108,101] (bnd (yU (kE T)) fun o=>eE (fun t=>smD { wF a with k:=5 } { bK with co:=o,th:=t }) blk)
   (aAd T [108,111,111,112] (eE (fun t=>smD { wF a with k:=6 } { bK with th:=t }) blk)
    (isJ T [123] (eE (fun t=>smD { wF a with k:=7 } { bK with th:=t }) blk) (yU (bnd (dG T a) fun x=>eE (fun _=>x) (mD T [59])))))))
theorem wO (T:List Tok) (blk:SC→List D×SC) (s:SC):yI T blk s=dAd T blk ((tk T s.1.1).2.2:Int) s:=by
 simp only [yI,dAd,aAd,isJ,yU,bnd,eE,mD,ifF,mG]
 split
 ·rfl
 ·split
  ·split
   ·rename_i h;simp only [h,if_true];rfl
   ·rename_i h;simp only [h,Bool.false_eq_true,if_false];rfl
  ·split
   ·rfl
   ·split
    ·rfl
    ·split
     ·rename_i hn hb
      rfl
     ·rfl
theorem bA9 (hc:Cut T' T E Bd) {blk' blk:SC→List D×SC} (hb:GDs E Bd blk' blk) (a:Int):Gs E Bd (dAd T' blk' a) (dAd T blk a):=by
 refine cAd hc _ (qA6 (kBh hc a)).toGD (cAd hc _ ?_ (cAd hc _ ?_ (cAd hc _ (hb.map _) (nBh hc _ (hb.map _) (qA6 ((wB4 hc a).bnd fun x=>(jG hc _).map _))))))
 ·exact GD.seq (qA6 (vA2 hc)).toGD (hb.bndG fun t=>cAd hc _ (hb.map _) (kI _)) (ifV a)
 ·exact GD.seq (qA6 (vA2 hc)).toGD hb _
theorem aB5 (hc:Cut T' T E Bd) (blk':SC→List D×SC) (a:Int):TE Prod.fst E Bd (dAd T' blk' a):=fun s h=>by
 obtain ⟨σ,c⟩:=s;have h:σ=(E,none):=h;subst h;refine ⟨E,_,?_,hc.bad⟩;simp only [dAd,fAk hc,yAs hc,yU,bnd,eE,mD,uAs hc,cF]
theorem cBc (hc:Cut T' T E Bd) {blk' blk:SC→List D×SC} (hb:GDs E Bd blk' blk):Gs E Bd (yI T' blk') (yI T blk):=
 G.mk' (fun s q=>by rw [wO];exact (bA9 hc hb _).e' s q) (fun s q=>by rw [wO];exact (bA9 hc hb _).e s q) (fun s q=>by rw [wO];exact (bA9 hc hb _).c1 s q) (fun s h1 h2 h3=>by
  have h2':s.1.1<E:=h2;unfold RA RB;rw [wO,wO,hc.lt _ h2'];exact (bA9 hc hb _).a s h1 h2 h3)
theorem dBc (hc:Cut T' T E Bd) (blk':SC→List D×SC):TE Prod.fst E Bd (yI T' blk'):=fun s h=>by
 rw [wO];exact aB5 hc blk' _ s h
theorem aV {one:SC→D×SC} {f i c:Nat}:oD T one (f+1) ((i,none),c)=if isS T [125] i=true then (([],false),((i+1,none),c)) else if c=2000∧(tk T i).1≠0 then (([],true),(jE T 5 (i,none),c)) else (((one ((i,none),c+1)).1::(oD T one f (one ((i,none),c+1)).2).1.1,(oD T one f (one ((i,none),c+1)).2).1.2),(oD T one f (one ((i,none),c+1)).2).2):=by
 by_cases h:isS T [125] i=true <;> simp [oD,jB,h]
theorem aA3 {one:SC→D×SC} {f:Nat} {s:SC} (h:(Prod.fst s).2.isSome=true):(oD T one f s).2=s:=by
 obtain ⟨i,e,c,rfl⟩:=bAd h;rw [vO]
theorem tAg (hc:Cut T' T E Bd) {one':SC→D×SC} (ht:TE Prod.fst E Bd one') (f c:Nat):ErrB Prod.fst Bd (oD T' one' (f+1) ((E,none),c)).2:=by
 have h1:isS T' [125] E=false:=by simp [isS,hc.k]
 rw [aV,h1,if_neg (by simp),if_neg (by simp [hc.k])];have h:=ht ((E,none),c+1) rfl;show ErrB Prod.fst Bd (oD T' one' f (one' ((E,none),c+1)).2).2;rw [aA3 h.some];exact h
theorem bB5 (hc:Cut T' T E Bd) (nz:∀ i,i<E→(tk T i).1≠0) {one' one:SC→D×SC} (ho:Gs E Bd one' one) (ht:TE Prod.fst E Bd one') (hm:∀ i c,c≤2000→c≤(one' ((i,none),c)).2.2):∀ (f i c:Nat),i<E→c≤2000→2001≤c+f→RA Prod.fst yB4 E (oD T' one' f) (oD T one f) ((i,none),c)∨RB Prod.fst Bd (oD T' one' f) (oD T one f) ((i,none),c):=by
 intro f
 induction f with
 | zero=>intro i c h1 h2 h3;omega
 | succ f ih=>
  intro i c h1 h2 h3;unfold RA RB;rw [aV,aV,hc.is h1,hc.lt i h1]
  cases isS T [125] i with
  | true=>exact .inl ⟨rfl,rfl,h1,h2⟩
  | false=>
   simp only [Bool.false_eq_true,if_false]
   by_cases q:c=2000
   ·rw [if_pos ⟨q,nz i h1⟩,if_pos ⟨q,nz i h1⟩]
    simp only [jE];exact .inr ⟨i,_,rfl,.inl rfl⟩
   ·rw [if_neg (by omega),if_neg (by omega)]
    have hmm:=hm i (c+1) (by omega);rcases ho.a ((i,none),c+1) rfl h1 (by show c+1≤2000;omega) with ⟨r1,r2,r3,r4⟩ | ⟨j,e,r1,r2⟩ | ⟨r1,r2⟩
    ·rw [r1] at hmm ⊢
     generalize one ((i,none),c+1)=z at *;obtain ⟨x,⟨j,o⟩,c2⟩:=z;have r2:o=none:=r2;subst r2;have r3:j≤E:=r3;have r4:c2≤2000:=r4;have hmm:c+1≤c2:=hmm;dsimp only
     by_cases q2:j<E
     ·rcases ih j c2 q2 r4 (by omega) with ⟨s1,s2⟩ | s
      ·rw [s1];exact .inl ⟨rfl,s2⟩
      ·exact .inr s
     ·have:j=E:=by omega
      subst this;obtain ⟨f,rfl⟩:∃ m,f=m+1:=⟨f-1,by omega⟩;obtain ⟨k,e,s1,s2⟩:=tAg hc ht f c2;exact .inr ⟨k,e,s1,.inr s2⟩
    ·refine .inr ⟨j,e,?_,?_⟩
     ·rw [aA3 (by rw [r1];rfl)];exact r1
     ·rcases r2 with r2 | r2
      ·left;rw [aA3 r2];exact r2
      ·exact .inr r2
    ·generalize hz:one' ((i,none),c+1)=z at *
     obtain ⟨x,σ,c2⟩:=z;have r1:σ=(E,none):=r1;subst r1;have r2:c2≤2000:=r2;have hmm:c+1≤c2:=hmm;obtain ⟨f,rfl⟩:∃ m,f=m+1:=⟨f-1,by omega⟩;obtain ⟨k,e,s1,s2⟩:=tAg hc ht f c2;exact .inr ⟨k,e,s1,.inr s2⟩
theorem gAk (T:List Tok) (g:Nat) (s:SC):(yC T (g+1) s).2=(oD T (yI T (yC T g)) 2001 (uC T [123] s.1,s.2)).2:=by simp only [yC]
theorem jQ:mAx Prod.fst (fun s:SC=>(([]:List D),(jE T 6 s.1,s.2))):=fun s=>by
 obtain ⟨⟨i,o⟩,c⟩:=s;cases o <;> rfl
def aAt (T:List Tok) (one:SC→D×SC) (f:Nat):SC→(List D×Bool)×SC:=oD T one f
def bA3 (r:List D×Bool):List D:=if r.2=true then [] else r.1
theorem oAx (T:List Tok) (F:SC→(List D×Bool)×SC) (s:SC):eE bA3 (bnd (yU (mD T [123])) fun _=>F) s=(bA3 (F (uC T [123] s.1,s.2)).1,(F (uC T [123] s.1,s.2)).2):=rfl
theorem iAk (T:List Tok) (g:Nat) (s:SC) (x:(List D×Bool)×SC) (h:oD T (yI T (yC T g)) 2001 (uC T [123] s.1,s.2)=x):yC T (g+1) s=(bA3 x.1,x.2):=by
 simp only [yC,h,bA3]
theorem tM (T:List Tok) (g:Nat):yC T (g+1)=eE bA3 (bnd (yU (mD T [123])) fun _=>aAt T (yI T (yC T g)) 2001):=by
 funext s
 rw [oAx];exact iAk T g s _ rfl
theorem pAx (hc:Cut T' T E Bd) (nz:∀ i,i<E→(tk T i).1≠0) {one' one:SC→D×SC} (ho:Gs E Bd one' one) (ht:TE Prod.fst E Bd one') (hm:∀ i c,c≤2000→c≤(one' ((i,none),c)).2.2) (f:Nat) (hf:2001≤f):Gs E Bd (aAt T' one' f) (aAt T one f)∧SE Prod.fst yB4 E Bd (aAt T' one' f) (aAt T one f)∧TE Prod.fst E Bd (aAt T' one' f):=by
 have s1:SE Prod.fst yB4 E Bd (aAt T' one' f) (aAt T one f):=fun s h1 h2 h3=>by
  obtain ⟨i,c,rfl⟩:=rAg h1;exact bB5 hc nz ho ht hm f i c h2 h3 (by omega)
 have t1:TE Prod.fst E Bd (aAt T' one' f):=fun s h=>by
  obtain ⟨σ,c⟩:=s;have h:σ=(E,none):=h;subst h;obtain ⟨f,rfl⟩:∃ m,f=m+1:=⟨f-1,by omega⟩;exact tAg hc ht f c
 exact ⟨G.mk' (fun s q=>by unfold aAt;rw [aA3 q]) (fun s q=>by unfold aAt;rw [aA3 q]) (fun s q=>.inr (t1 s q.1)) (fun s h1 h2 h3=>(s1 s h1 h2 h3).elim .inl fun h=>.inr (.inl h)),s1,t1⟩
theorem eAd (hc:Cut T' T E Bd) (nz:∀ i,i<E→(tk T i).1≠0) (g:Nat) (ih:GDs E Bd (yC T' g) (yC T g)):Gs E Bd (yC T' (g+1)) (yC T (g+1))∧SE Prod.fst yB4 E Bd (yC T' (g+1)) (yC T (g+1))∧TE Prod.fst E Bd (yC T' (g+1)):=by
 have hm:∀ i c,c≤2000→c≤(yI T' (yC T' g) ((i,none),c)).2.2:=fun i c h=>(nAg (fun s hs=>yZ g s hs) (.inl (.inl h))).2;obtain ⟨g1,s1,t1⟩:=pAx hc nz (cBc hc ih) (dBc hc _) hm 2001 (Nat.le_refl _);rw [tM,tM];exact ⟨((qA6 (jG hc _)).bnd fun _=>g1).map _,(SE.bnd (qA6 (jG hc _)) (fun _=>g1) (fun _=>s1) (fun _=>t1)).map _,(TE.left (aBc (yAc hc _)) fun _=>g1.e').map _⟩
theorem bAt (hc:Cut T' T E Bd) (nz:∀ i,i<E→(tk T i).1≠0):∀ g,GDs E Bd (yC T' g) (yC T g)∧Gs E Bd (yC T' (g+1)) (yC T (g+1))∧SE Prod.fst yB4 E Bd (yC T' (g+1)) (yC T (g+1))∧TE Prod.fst E Bd (yC T' (g+1)):=by
 have all:∀ g,GDs E Bd (yC T' g) (yC T g):=fun g=>by
  induction g with
  | zero=>exact ⟨fun s h=>by obtain ⟨i,e,c,rfl⟩:=bAd h;rfl,fun s h=>by obtain ⟨i,e,c,rfl⟩:=bAd h;rfl,fun s h=>.inr (.inr ⟨jQ s,jQ⟩),fun s h1 h2 h3=>.inr (.inl (RB.of_dead (jQ s) (jQ s)))⟩
  | succ g ih=>exact (eAd hc nz g ih).1.toGD
 exact fun g=>⟨all g,eAd hc nz g (all g)⟩
theorem fAn (hc:Cut T' T E Bd) (pub:Bool) (a:Int):Gt E Bd (pD T' pub a) (pD T pub a)∧SE id (fun _=>True) E Bd (pD T' pub a) (pD T pub a)∧TE id E Bd (pD T' pub a):=by
 have h:∀ T,pD T pub a=bnd (pB T 1) fun n=>bnd (pG T) fun l=>bnd (mD T [123]) fun _=>yF T [125] (mG (qA8 pub n l [] a)) (bnd (iD T (bF T) [44]) fun fs=>eE (fun _=>qA8 pub n l fs a) (mD T [125])):=fun T=>rfl;rw [h,h];have l1:=yW hc (rB4 hc) [44];have g4:∀ n l,Gt E Bd (bnd (iD T' (bF T') [44]) fun fs=>eE (fun _=>qA8 pub n l fs a) (mD T' [125])) (bnd (iD T (bF T) [44]) fun fs=>eE (fun _=>qA8 pub n l fs a) (mD T [125])):=fun n l=>l1.bnd fun fs=>(jG hc _).map _;have s4:∀ n l,SE id (fun _=>True) E Bd (bnd (iD T' (bF T') [44]) fun fs=>eE (fun _=>qA8 pub n l fs a) (mD T' [125])) (bnd (iD T (bF T) [44]) fun fs=>eE (fun _=>qA8 pub n l fs a) (mD T [125])):=fun n l=>SE.bnd l1 (fun fs=>(jG hc _).map _) (fun fs=>(pBb hc _).map _) (fun fs=>(yAc hc _).map _);have t4:∀ n l,TE id E Bd (bnd (iD T' (bF T') [44]) fun fs=>eE (fun _=>qA8 pub n l fs a) (mD T' [125])):=fun n l=>TE.right (fun _=>trivial) l1 (fun fs=>(yAc hc _).map _) (fun fs=>((jG hc _).map _).e');have g3:=fun n l=>mF hc [125] (kI (qA8 pub n l [] a)).toGD (g4 n l);have s3:=fun n l=>qBb hc [125] (y:=qA8 pub n l [] a) (s4 n l);have t3:=fun n l=>rBb hc [125] (Y':=mG (qA8 pub n l [] a)) (t4 n l);have g2:=fun n l=>(jG hc [123]).bnd fun _=>g3 n l;have s2:=fun n l=>SE.bnd (jG hc [123]) (fun _=>g3 n l) (fun _=>s3 n l) (fun _=>t3 n l);have t2:=fun n l=>TE.left (yAc hc [123]) fun _=>(g3 n l).e';have g1:=fun n=>(wA8 hc).bnd fun l=>g2 n l;have s1:=fun n=>SE.bnd (wA8 hc) (fun l=>g2 n l) (fun l=>s2 n l) (fun l=>t2 n l);have t1:=fun n=>TE.right (fun _=>trivial) (wA8 hc) (fun l=>t2 n l) (fun l=>(g2 n l).e');exact ⟨(lI hc 1 (by decide)).bnd fun n=>g1 n,SE.bnd (lI hc 1 (by decide)) (fun n=>g1 n) (fun n=>s1 n) (fun n=>t1 n),TE.right (fun _=>trivial) (lI hc 1 (by decide)) (fun n=>t1 n) (fun n=>(g1 n).e')⟩
abbrev HdR:=Bs×List D×List D×D
def fH (T:List Tok):St→HdR×St:=
 bnd (pB T 1) fun n=>bnd (yF T [60] (bnd (iD T (aW T) [44]) fun l=>eE (fun _=>l) (mD T [62])) (mG [])) fun l=>bnd (mD T [40]) fun _=>bnd (yF T [41] (mG []) (bnd (iD T (pF T) [44]) fun p=>eE (fun _=>p) (mD T [41]))) fun p=>bnd (yF T [45,62] (oH T 64) (mG ty0D)) fun t=>mG (n,l,p,t)
theorem dB0 (hc:Cut T' T E Bd):Gt E Bd (fH T') (fH T):=
 (lI hc 1 (by decide)).bnd fun n=>(mF hc _ ((yW hc (jBh hc) _).bnd fun l=>(jG hc _).map _).toGD (kI _)).bnd fun l=>(jG hc _).bnd fun _=>(mF hc _ (kI _).toGD ((yW hc (uB4 hc) _).bnd fun p=>(jG hc _).map _)).bnd fun p=>(mF hc _ (yA8 hc).toGD (kI _)).bnd fun t=>kI _
def fnD (pub:Bool) (a:Int) (x:HdR) (b:List D):D:=fuD (jJ pub x.1 a) ⟨x.2.1,x.2.2.1,x.2.2.2,b⟩
theorem bV (T:List Tok) (pub:Bool) (a:Int) (σ:St):aH T pub a σ=(fnD pub a (fH T σ).1 (yC T 64 ((fH T σ).2,0)).1,(yC T 64 ((fH T σ).2,0)).2):=by
 simp only [aH,fH,bnd,eE,mG,mD,yF,fnD]
 split <;> split <;> split <;> rfl
theorem qAx (hc:Cut T' T E Bd) (nz:∀ i,i<E→(tk T i).1≠0) (pub:Bool) (a:Int) {i:Nat} (hi:i<E):(aH T' pub a (i,none)=aH T pub a (i,none)∧(aH T pub a (i,none)).2.1.2=none∧(aH T pub a (i,none)).2.1.1≤E)∨∃ j e,(aH T' pub a (i,none)).2.1=(j,some e)∧((aH T pub a (i,none)).2.1.2.isSome=true∨Bd e):=by
 obtain ⟨_,bg,bs,bt⟩:=bAt hc nz 63;simp only [bV];rcases (dB0 hc).a (i,none) rfl hi trivial with ⟨r1,r2,r3,_⟩ | ⟨j,e,r1,r2⟩ | ⟨r,_⟩
 ·rw [r1]
  generalize fH T (i,none)=z at *;obtain ⟨x,j,o⟩:=z;have r2:o=none:=r2;subst r2;have r3:j≤E:=r3;dsimp only
  by_cases q:j<E
  ·rcases bs ((j,none),0) rfl q (Nat.zero_le _) with ⟨s1,s2,s3,_⟩ | s
   ·left;exact ⟨by rw [s1],s2,s3⟩
   ·exact .inr s
  ·have:j=E:=by omega
   subst this;obtain ⟨k,e,s1,s2⟩:=bt ((j,none),0) rfl;exact .inr ⟨k,e,s1,.inr s2⟩
 ·right
  have r1:(fH T' (i,none)).2=(j,some e):=r1;have e1:=bg.e' ((fH T' (i,none)).2,0) (by show (fH T' (i,none)).2.2.isSome=true;rw [r1];rfl);refine ⟨j,e,e1.trans r1,?_⟩;rcases r2 with r2 | r2
  ·left
   have e2:=bg.e ((fH T (i,none)).2,0) r2;have e2:(yC T 64 ((fH T (i,none)).2,0)).2.1=(fH T (i,none)).2:=e2;rw [e2];exact r2
  ·exact .inr r2
 ·right
  have r:(fH T' (i,none)).2=(E,none):=r;obtain ⟨k,e,s1,s2⟩:=bt ((fH T' (i,none)).2,0) r;exact ⟨k,e,s1,.inr s2⟩
theorem cAt (hc:Cut T' T E Bd) (pub:Bool) (a:Int):∃ e,(aH T' pub a (E,none)).2.1.2=some e∧Bd e:=by
 rw [bV];have nz':∀ i,i<0→(tk T' i).1≠0:=fun i h=>by omega
 rcases (dB0 hc).c1 (E,none) ⟨rfl,trivial⟩ with r | ⟨j,e,r1,r2⟩
 ·have r:(fH T' (E,none)).2=(E,none):=r.1
  show ∃ e,(yC T' 64 ((fH T' (E,none)).2,0)).2.1.2=some e∧Bd e;rw [r];refine ⟨_,?_,hc.bad⟩;rw [show (64:Nat)=63+1 from rfl,gAk];dsimp only;rw [show uC T' [123] (E,none)=(E,some (21,((tk T' E).2.2:Int))) by simp only [uC,uF hc.k,Bool.false_eq_true,if_false,jE],vO]
 ·have r1:(fH T' (E,none)).2=(j,some e):=r1
  show ∃ e,(yC T' 64 ((fH T' (E,none)).2,0)).2.1.2=some e∧Bd e;rw [r1];refine ⟨e,?_,r2⟩;rw [show (64:Nat)=63+1 from rfl,gAk];dsimp only;rw [cF,vO]
end
end Qp
set_option maxRecDepth 100000
namespace Qp
noncomputable section
def f115 (N:Nat) (a0:SL) (h:Heap):Option (SL×Heap):=(aE (.val zL2) (iB E 38 38 (.slice none 0 0 0) (.slice a0.a a0.len a0.cap a0.sz) h) fun (x1:SL) h2=>some (x1,h2))
def eBc:Ann:=.n
theorem cA3 (N:Nat):gD Tryz.prog 115 [zL2] (.val zL2) (fun x h=>f115 N x.1 h):=vD kA N eBc Tryz.f115
def dV (N:Nat) (rec117:zM→Heap→Option (zM×Heap)) (go:zJ2→zJ2→SL→SL→Int→Int→Heap→Option (Out×zY×Heap)) (v1 v2:zJ2) (v3 v11:SL) (v12 v13:Int) (h:Heap):Option (Out×zY×Heap):=let x8:=wB v13 v12;(bif x8 then(ixK v11.a v11.len v13 4 fun q9=>(iA (.val zC) (h.cells q9 4) fun (x10:zM)=>let h11:=h.push (.row yZD .own);(rA (h11.store (h.next,0) (yRD x10)) fun h12=>(iA (.val zC) (h12.cells (h.next,0) 4) fun (x13:zM)=>(lA (rec117 (x13.1,x13.2.1,x13.2.2.1,x13.2.2.2.1,()) h12) fun (x14:zM) h15=>let h16:=h15.push (.row (yRD x14) .own);(aE (.val zL2) (iB E 39 39 (.slice v3.a v3.len v3.cap v3.sz) (.slice (some (h15.next,0)) 1 1 4) h16) fun (x17:SL) h18=>let x19:=dB .i64 (v13+1);go v1 v2 x17 v11 v12 x19 h18))))))else some ((Out.exit 0),(v1,v2,v3,()),h))
def dA3 (N:Nat) (rec117:zM→Heap→Option (zM×Heap)) (M:Nat) (v1 v2:zJ2) (v3 v11:SL) (v12 v13:Int) (h:Heap):Option (Out×zY×Heap):=iter (fun go s h=>dV N rec117 (fun v1 v2 v3 v11 v12 v13 h=>go (v1,v2,v3,v11,v12,v13,()) h) s.1 s.2.1 s.2.2.1 s.2.2.2.1 s.2.2.2.2.1 s.2.2.2.2.2.1 h) M (v1,v2,v3,v11,v12,v13,()) h
theorem oY (N rec117 M v1 v2 v3 v11 v12 v13 h):dA3 N rec117 (M+1) v1 v2 v3 v11 v12 v13 h=dV N rec117 (dA3 N rec117 M) v1 v2 v3 v11 v12 v13 h:=rfl
def dAt (N:Nat) (rec117:zM→Heap→Option (zM×Heap)) (a0:zM) (h:Heap):Option (zM×Heap):=let h1:=h.push (.row (yRD a0) .own);let h2:=h1.push (.row yZD .own);(iA (.val zL2) (h2.cell ((h.next,0).1,(h.next,0).2+2)) fun (x3:SL)=>(lA (f115 N x3 h2) fun (x4:SL) h5=>(rA (h5.store ((h.next,0).1,(h.next,0).2+2) [(.slice x4.a x4.len x4.cap x4.sz)]) fun h6=>(iA (.val zL2) (h6.cell ((h.next,0).1,(h.next,0).2+3)) fun (x7:SL)=>(fE (dA3 N rec117 N (some (h.next,0)) (some (h1.next,0)) ⟨none,0,0,0⟩ x7 (Int.ofNat x7.len) 0 h6) fun _ (j21:zY) h22=>(rA j21.1 fun q23=>(rA (h22.store (q23.1,q23.2+3) [(.slice j21.2.2.1.a j21.2.2.1.len j21.2.2.1.cap j21.2.2.1.sz)]) fun h24=>(rA j21.1 fun q25=>(iA (.val zC) (h24.cells q25 4) fun (x26:zM)=>(rA j21.2.1 fun q28=>(rA (h24.store q28 (yRD x26)) fun h27=>(rA j21.2.1 fun q29=>(iA (.val zC) (h27.cells q29 4) fun (x30:zM)=>some ((x30.1,x30.2.1,x30.2.2.1,x30.2.2.2.1,()),h27))))))))))))))
def fBc:Ann:=(.two .n (.two .n (.two .n (.two (.two .n (.two (.loop [(1,zK2),(2,zK2),(3,zL2),(11,zL2),(12,zO2),(13,zO2)] [(.exit 0)] [(1,zK2),(2,zK2),(3,zL2)] .n) .n)) .n))))
def cB5 (N M:Nat):((zM→Heap→Option (zM×Heap))×Unit):=Nat.rec (fun _ _=>none,()) (fun _ r=>(dAt N r.1,())) M
def f117 (N M:Nat):zM→Heap→Option (zM×Heap):=(cB5 N M).1
theorem eAt (N M a0 h):f117 N (M+1) a0 h=dAt N (f117 N M) a0 h:=rfl
theorem eA3 (N:Nat):∀ M:Nat,(gD Tryz.prog 117 [zC] (.val zC) (fun x h=>f117 N M x.1 h))∧True
 | 0=>⟨(fun xs h r h' hx=>by cases hx),trivial⟩
 | M+1=>⟨vD (bA (eA3 N M).1 (bA (cA3 N) kA)) N fBc Tryz.f117,trivial⟩
theorem uAg (N:Nat):gD Tryz.prog 117 [zC] (.val zC) (fun x h=>f117 N N x.1 h):=(eA3 N N).1
def eV (N:Nat) (go:SL→SL→Int→Int→Heap→Option (Out×zQ1×Heap)) (v3 v6:SL) (v7 v8:Int) (h:Heap):Option (Out×zQ1×Heap):=let x1:=wB v8 v7;(bif x1 then(ixK v6.a v6.len v8 6 fun q2=>(iA (.val zI) (h.cells q2 6) fun (x3:zV)=>let h4:=h.push (.row yZF .own);(rA (h4.store (h.next,0) (yRF x3)) fun h5=>(iA (.val zC) (h5.cells ((h.next,0).1,(h.next,0).2+2) 4) fun (x6:zM)=>(lA (f117 N N (x6.1,x6.2.1,x6.2.2.1,x6.2.2.2.1,()) h5) fun (x7:zM) h8=>(rA (h8.store ((h.next,0).1,(h.next,0).2+2) (yRD x7)) fun h9=>(iA (.val zI) (h9.cells (h.next,0) 6) fun (x10:zV)=>let h11:=h9.push (.row (yRF x10) .own);(aE (.val zL2) (iB E 37 37 (.slice v3.a v3.len v3.cap v3.sz) (.slice (some (h9.next,0)) 1 1 6) h11) fun (x12:SL) h13=>let x14:=dB .i64 (v8+1);go x12 v6 v7 x14 h13))))))))else some ((Out.exit 0),(v3,()),h))
def cA9 (N M:Nat) (v3 v6:SL) (v7 v8:Int) (h:Heap):Option (Out×zQ1×Heap):=iter (fun go s h=>eV N (fun v3 v6 v7 v8 h=>go (v3,v6,v7,v8,()) h) s.1 s.2.1 s.2.2.1 s.2.2.2.1 h) M (v3,v6,v7,v8,()) h
theorem pY (N M v3 v6 v7 v8 h):cA9 N (M+1) v3 v6 v7 v8 h=eV N (cA9 N M) v3 v6 v7 v8 h:=rfl
def f116 (N:Nat) (a0:SL) (h:Heap):Option (SL×Heap):=(fE (cA9 N N ⟨none,0,0,0⟩ a0 (Int.ofNat a0.len) 0 h) fun _ (j16:zQ1) h17=>some (j16.1,h17))
def gBc:Ann:=(.two .n (.two .n (.two (.two .n (.two (.loop [(3,zL2),(6,zL2),(7,zO2),(8,zO2)] [(.exit 0)] [(3,zL2)] .n) .n)) .n)))
theorem fAt (N:Nat):gD Tryz.prog 116 [zL2] (.val zL2) (fun x h=>f116 N x.1 h):=vD (bA (uAg N) kA) N gBc Tryz.f116
def f76 (N:Nat) (a0:zW) (h:Heap):Option (zW×Heap):=let h1:=h.push (.row (yRG a0) .own);let h2:=h1.push (.row yZH .own);(iA (.val zL2) (h2.cell ((h.next,0).1,(h.next,0).2+2)) fun (x3:SL)=>(lA (f115 N x3 h2) fun (x4:SL) h5=>(rA (h5.store ((h.next,0).1,(h.next,0).2+2) [(.slice x4.a x4.len x4.cap x4.sz)]) fun h6=>(iA (.val zL2) (h6.cell ((h.next,0).1,(h.next,0).2+3)) fun (x7:SL)=>(lA (f116 N x7 h6) fun (x8:SL) h9=>(rA (h9.store ((h.next,0).1,(h.next,0).2+3) [(.slice x8.a x8.len x8.cap x8.sz)]) fun h10=>(iA (.val zG) (h10.cells (h.next,0) 5) fun (x11:zW)=>(rA (h10.store (h1.next,0) (yRG x11)) fun h12=>(iA (.val zG) (h12.cells (h1.next,0) 5) fun (x13:zW)=>some ((x13.1,x13.2.1,x13.2.2.1,x13.2.2.2.1,x13.2.2.2.2.1,()),h12))))))))))
def pBh:Ann:=.n
theorem iBc (N:Nat):gD Tryz.prog 76 [zG] (.val zG) (fun x h=>f76 N x.1 h):=vD (bA (fAt N) (bA (cA3 N) kA)) N pBh Tryz.f76
def f167 (N:Nat) (a0:zU) (h:Heap):Option (zU×Heap):=let h1:=h.push (.row (yRH a0) .own);let h2:=h1.push (.row yZJ .own);(iA (.val zL2) (h2.cell ((h.next,0).1,(h.next,0).2+1)) fun (x3:SL)=>(lA (f115 N x3 h2) fun (x4:SL) h5=>(rA (h5.store ((h.next,0).1,(h.next,0).2+1) [(.slice x4.a x4.len x4.cap x4.sz)]) fun h6=>(iA (.val zJ) (h6.cells (h.next,0) 2) fun (x7:zU)=>(rA (h6.store (h1.next,0) (yRH x7)) fun h8=>(iA (.val zJ) (h8.cells (h1.next,0) 2) fun (x9:zU)=>some ((x9.1,x9.2.1,()),h8)))))))
def jBc:Ann:=.n
theorem vAg (N:Nat):gD Tryz.prog 167 [zJ] (.val zJ) (fun x h=>f167 N x.1 h):=vD (bA (cA3 N) kA) N jBc Tryz.f167
def f169 (N:Nat) (a0:zR) (h:Heap):Option (zR×Heap):=let h1:=h.push (.row (yRE a0) .own);let h2:=h1.push (.row yZI .own);(iA (.val zJ) (h2.cells ((h.next,0).1,(h.next,0).2+2) 2) fun (x3:zU)=>(lA (f167 N (x3.1,x3.2.1,()) h2) fun (x4:zU) h5=>(rA (h5.store ((h.next,0).1,(h.next,0).2+2) (yRH x4)) fun h6=>(iA (.val zE) (h6.cells (h.next,0) 4) fun (x7:zR)=>(rA (h6.store (h1.next,0) (yRE x7)) fun h8=>(iA (.val zE) (h8.cells (h1.next,0) 4) fun (x9:zR)=>some ((x9.1,x9.2.1,x9.2.2.1,x9.2.2.2.1,()),h8)))))))
def kBc:Ann:=.n
theorem gAt (N:Nat):gD Tryz.prog 169 [zE] (.val zE) (fun x h=>f169 N x.1 h):=vD (bA (vAg N) kA) N kBc Tryz.f169
def fV (N:Nat) (go:zJ2→zJ2→SL→SL→Int→Int→Heap→Option (Out×zY×Heap)) (v1 v2:zJ2) (v3 v23:SL) (v24 v25:Int) (h:Heap):Option (Out×zY×Heap):=let x20:=wB v25 v24;(bif x20 then(ixK v23.a v23.len v25 4 fun q21=>(iA (.val zE) (h.cells q21 4) fun (x22:zR)=>let h23:=h.push (.row yZI .own);(rA (h23.store (h.next,0) (yRE x22)) fun h24=>(iA (.val zE) (h24.cells (h.next,0) 4) fun (x25:zR)=>(lA (f169 N (x25.1,x25.2.1,x25.2.2.1,x25.2.2.2.1,()) h24) fun (x26:zR) h27=>let h28:=h27.push (.row (yRE x26) .own);(aE (.val zL2) (iB E 102 102 (.slice v3.a v3.len v3.cap v3.sz) (.slice (some (h27.next,0)) 1 1 4) h28) fun (x29:SL) h30=>let x31:=dB .i64 (v25+1);go v1 v2 x29 v23 v24 x31 h30))))))else some ((Out.exit 0),(v1,v2,v3,()),h))
def fA3 (N M:Nat) (v1 v2:zJ2) (v3 v23:SL) (v24 v25:Int) (h:Heap):Option (Out×zY×Heap):=iter (fun go s h=>fV N (fun v1 v2 v3 v23 v24 v25 h=>go (v1,v2,v3,v23,v24,v25,()) h) s.1 s.2.1 s.2.2.1 s.2.2.2.1 s.2.2.2.2.1 s.2.2.2.2.2.1 h) M (v1,v2,v3,v23,v24,v25,()) h
theorem qY (N M v1 v2 v3 v23 v24 v25 h):fA3 N (M+1) v1 v2 v3 v23 v24 v25 h=fV N (fA3 N M) v1 v2 v3 v23 v24 v25 h:=rfl
def f168 (N:Nat) (a0:zN) (h:Heap):Option (zN×Heap):=let h1:=h.push (.row (yRB a0) .own);let h2:=h1.push (.row yZB .own);(iA (.val zE) (h2.cells ((h.next,0).1,(h.next,0).2+1) 4) fun (x3:zR)=>(lA (f169 N (x3.1,x3.2.1,x3.2.2.1,x3.2.2.2.1,()) h2) fun (x4:zR) h5=>(iA (.val zE) (h5.cells ((h.next,0).1,(h.next,0).2+5) 4) fun (x6:zR)=>(lA (f169 N (x6.1,x6.2.1,x6.2.2.1,x6.2.2.2.1,()) h5) fun (x7:zR) h8=>(iA (.val zJ) (h8.cells ((h.next,0).1,(h.next,0).2+10) 2) fun (x9:zU)=>(lA (f167 N (x9.1,x9.2.1,()) h8) fun (x10:zU) h11=>(rA (h11.store ((h.next,0).1,(h.next,0).2+1) (yRE x4)) fun h12=>(rA (h12.store ((h.next,0).1,(h.next,0).2+5) (yRE x7)) fun h13=>(rA (h13.store ((h.next,0).1,(h.next,0).2+10) (yRH x10)) fun h14=>(uD (bif (aB (h8.cells ((h.next,0).1,(h.next,0).2+10) 2) (.agg (yRH x9))) then (bif (aB (h5.cells ((h.next,0).1,(h.next,0).2+10) 2) (.agg (yRH x9))) then (bif (aB (h2.cells ((h.next,0).1,(h.next,0).2+10) 2) (.agg (yRH x9))) then (bif (aB (h5.cells ((h.next,0).1,(h.next,0).2+5) 4) (.agg (yRE x6))) then (bif (aB (h2.cells ((h.next,0).1,(h.next,0).2+5) 4) (.agg (yRE x6))) then (bif (aB (h2.cells ((h.next,0).1,(h.next,0).2+1) 4) (.agg (yRE x3))) then true else false) else false) else false) else false) else false) else false) ((iA (.val zL2) (h14.cell ((h.next,0).1,(h.next,0).2+13)) fun (x15:SL)=>(lA (f115 N x15 h14) fun (x16:SL) h17=>(rA (h17.store ((h.next,0).1,(h.next,0).2+13) [(.slice x16.a x16.len x16.cap x16.sz)]) fun h18=>
 (iA (.val zL2) (h18.cell ((h.next,0).1,(h.next,0).2+14)) fun (x19:SL)=>(fE (fA3 N N (some (h.next,0)) (some (h1.next,0)) ⟨none,0,0,0⟩ x19 (Int.ofNat x19.len) 0 h18) fun _ (j33:zY) h34=>(rA j33.1 fun q35=>(rA (h34.store (q35.1,q35.2+14) [(.slice j33.2.2.1.a j33.2.2.1.len j33.2.2.1.cap j33.2.2.1.sz)]) fun h36=>(rA j33.1 fun q37=>(iA (.val zB) (h36.cells q37 15) fun (x38:zN)=>(rA j33.2.1 fun q40=>(rA (h36.store q40 (yRB x38)) fun h39=>(rA j33.2.1 fun q41=>(iA (.val zB) (h39.cells q41 15) fun (x42:zN)=>some ((x42.1,x42.2.1,x42.2.2.1,x42.2.2.2.1,x42.2.2.2.2.1,x42.2.2.2.2.2.1,x42.2.2.2.2.2.2.1,x42.2.2.2.2.2.2.2.1,x42.2.2.2.2.2.2.2.2.1,x42.2.2.2.2.2.2.2.2.2.1,x42.2.2.2.2.2.2.2.2.2.2.1,x42.2.2.2.2.2.2.2.2.2.2.2.1,x42.2.2.2.2.2.2.2.2.2.2.2.2.1,x42.2.2.2.2.2.2.2.2.2.2.2.2.2.1,x42.2.2.2.2.2.2.2.2.2.2.2.2.2.2.1,()),h39)))))))))))))))))))))))))
def lBc:Ann:=(.two .n (.two .n (.two .n (.two .n (.two (.two .n (.two (.loop [(1,zK2),(2,zK2),(3,zL2),(23,zL2),(24,zO2),(25,zO2)] [(.exit 0)] [(1,zK2),(2,zK2),(3,zL2)] .n) .n)) .n)))))
theorem dB5 (N:Nat):gD Tryz.prog 168 [zB] (.val zB) (fun x h=>f168 N x.1 h):=vD (bA (gAt N) (bA (vAg N) (bA (cA3 N) kA))) N lBc Tryz.f168
def yO (N:Nat) (rec118:SL→Heap→Option (SL×Heap)) (go:SL→SL→Int→Int→Heap→Option (Out×zQ1×Heap)) (v3 v6:SL) (v7 v8:Int) (h:Heap):Option (Out×zQ1×Heap):=let x1:=wB v8 v7;(bif x1 then(ixK v6.a v6.len v8 32 fun q2=>(iA (.val zA) (h.cells q2 32) fun (x3:zL)=>let h4:=h.push (.row yZA .own);(rA (h4.store (h.next,0) (yRA x3)) fun h5=>(iA (.val zC) (h5.cells ((h.next,0).1,(h.next,0).2+4) 4) fun (x6:zM)=>(lA (f117 N N (x6.1,x6.2.1,x6.2.2.1,x6.2.2.2.1,()) h5) fun (x7:zM) h8=>(iA (.val zJ) (h8.cells ((h.next,0).1,(h.next,0).2+9) 2) fun (x9:zU)=>(lA (f167 N (x9.1,x9.2.1,()) h8) fun (x10:zU) h11=>(iA (.val zB) (h11.cells ((h.next,0).1,(h.next,0).2+11) 15) fun (x12:zN)=>(lA (f168 N (x12.1,x12.2.1,x12.2.2.1,x12.2.2.2.1,x12.2.2.2.2.1,x12.2.2.2.2.2.1,x12.2.2.2.2.2.2.1,x12.2.2.2.2.2.2.2.1,x12.2.2.2.2.2.2.2.2.1,x12.2.2.2.2.2.2.2.2.2.1,x12.2.2.2.2.2.2.2.2.2.2.1,x12.2.2.2.2.2.2.2.2.2.2.2.1,x12.2.2.2.2.2.2.2.2.2.2.2.2.1,x12.2.2.2.2.2.2.2.2.2.2.2.2.2.1,x12.2.2.2.2.2.2.2.2.2.2.2.2.2.2.1,()) h11) fun (x13:zN) h14=>(iA (.val zE) (h14.cells ((h.next,0).1,(h.next,0).2+26) 4) fun (x15:zR)=>(lA (f169 N (x15.1,x15.2.1,x15.2.2.1,x15.2.2.2.1,()) h14) fun (x16:zR) h17=>(rA (h17.store ((h.next,0).1,(h.next,0).2+4) (yRD x7)) fun h18=>(rA (h18.store ((h.next,0).1,(h.next,0).2+9) (yRH x10)) fun h19=>(rA (h19.store ((h.next,0).1,(h.next,0).2+11) (yRB x13)) fun h20=>(rA (h20.store ((h.next,0).1,(h.next,0).2+26) (yRE x16)) fun h21=>(uD (bif (aB (h14.cells ((h.next,0).1,(h.next,0).2+26) 4) (.agg (yRE x15))) then (bif (aB (h11.cells ((h.next,0).1,(h.next,0).2+26) 4) (.agg (yRE x15))) then (bif (aB (h8.cells ((h.next,0).1,(h.next,0).2+26) 4) (.agg (yRE x15))) then (bif (aB (h5.cells ((h.next,0).1,(h.next,0).2+26) 4) (.agg (yRE x15))) then (bif (aB (h11.cells ((h.next,0).1,(h.next,0).2+11) 15) (.agg (yRB x12))) then (bif (aB (h8.cells ((h.next,0).1,(h.next,0).2+11) 15) (.agg (yRB x12))) then (bif (aB (h5.cells ((h.next,0).1,(h.next,0).2+11) 15) (.agg (yRB x12))) then (bif (aB (h8.cells ((h.next,0).1,(h.next,0).2+9) 2) (.agg (yRH x9))) then (bif (aB (h5.cells ((h.next,0).1,(h.next,0).2+9) 2) (.agg (yRH x9))) then (bif (aB (h5.cells ((h.next,0).1,(h.next,0).2+4) 4) (.agg (yRD x6))) then true else false) else false) else false) else false) else false) else false) else false) else false) else false) else false) (
 (iA (.val zL2) (h21.cell ((h.next,0).1,(h.next,0).2+30)) fun (x22:SL)=>(lA (rec118 x22 h21) fun (x23:SL) h24=>(iA (.val zL2) (h24.cell ((h.next,0).1,(h.next,0).2+31)) fun (x25:SL)=>(lA (rec118 x25 h24) fun (x26:SL) h27=>(rA (h27.store ((h.next,0).1,(h.next,0).2+30) [(.slice x23.a x23.len x23.cap x23.sz)]) fun h28=>(rA (h28.store ((h.next,0).1,(h.next,0).2+31) [(.slice x26.a x26.len x26.cap x26.sz)]) fun h29=>(uD (bif (aB (h24.cell ((h.next,0).1,(h.next,0).2+31)) (.slice x25.a x25.len x25.cap x25.sz)) then (bif (aB (h21.cell ((h.next,0).1,(h.next,0).2+31)) (.slice x25.a x25.len x25.cap x25.sz)) then (bif (aB (h21.cell ((h.next,0).1,(h.next,0).2+30)) (.slice x22.a x22.len x22.cap x22.sz)) then true else false) else false) else false) ((iA (.val zA) (h29.cells (h.next,0) 32) fun (x30:zL)=>let h31:=h29.push (.row (yRA x30) .own);(aE (.val zL2) (iB E 42 42 (.slice v3.a v3.len v3.cap v3.sz) (.slice (some (h29.next,0)) 1 1 32) h31) fun (x32:SL) h33=>let x34:=dB .i64 (v8+1);go x32 v6 v7 x34 h33)))))))))))))))))))))))))))else some ((Out.exit 0),(v3,()),h))
def dA9 (N:Nat) (rec118:SL→Heap→Option (SL×Heap)) (M:Nat) (v3 v6:SL) (v7 v8:Int) (h:Heap):Option (Out×zQ1×Heap):=iter (fun go s h=>yO N rec118 (fun v3 v6 v7 v8 h=>go (v3,v6,v7,v8,()) h) s.1 s.2.1 s.2.2.1 s.2.2.2.1 h) M (v3,v6,v7,v8,()) h
theorem aP (N rec118 M v3 v6 v7 v8 h):dA9 N rec118 (M+1) v3 v6 v7 v8 h=yO N rec118 (dA9 N rec118 M) v3 v6 v7 v8 h:=rfl
def jAk (N:Nat) (rec118:SL→Heap→Option (SL×Heap)) (a0:SL) (h:Heap):Option (SL×Heap):=(fE (dA9 N rec118 N ⟨none,0,0,0⟩ a0 (Int.ofNat a0.len) 0 h) fun _ (j36:zQ1) h37=>some (j36.1,h37))
def mBc:Ann:=(.two .n (.two .n (.two (.two .n (.two (.loop [(3,zL2),(6,zL2),(7,zO2),(8,zO2)] [(.exit 0)] [(3,zL2)] .n) .n)) .n)))
def eB5 (N M:Nat):((SL→Heap→Option (SL×Heap))×Unit):=Nat.rec (fun _ _=>none,()) (fun _ r=>(jAk N r.1,())) M
def f118 (N M:Nat):SL→Heap→Option (SL×Heap):=(eB5 N M).1
theorem fAd (N M a0 h):f118 N (M+1) a0 h=jAk N (f118 N M) a0 h:=rfl
theorem gA3 (N:Nat):∀ M:Nat,(gD Tryz.prog 118 [zL2] (.val zL2) (fun x h=>f118 N M x.1 h))∧True
 | 0=>⟨(fun xs h r h' hx=>by cases hx),trivial⟩
 | M+1=>⟨vD (bA (gAt N) (bA (dB5 N) (bA (vAg N) (bA (gA3 N M).1 (bA (uAg N) kA))))) N mBc Tryz.f118,trivial⟩
theorem fB5 (N:Nat):gD Tryz.prog 118 [zL2] (.val zL2) (fun x h=>f118 N N x.1 h):=(gA3 N N).1
def aA0 (N:Nat) (go:zJ2→zJ2→SL→SL→Int→Int→Heap→Option (Out×zY×Heap)) (v1 v2:zJ2) (v3 v7:SL) (v8 v9:Int) (h:Heap):Option (Out×zY×Heap):=let x4:=wB v9 v8;(bif x4 then(ixK v7.a v7.len v9 2 fun q5=>(iA (.val zJ) (h.cells q5 2) fun (x6:zU)=>let h7:=h.push (.row yZJ .own);(rA (h7.store (h.next,0) (yRH x6)) fun h8=>(iA (.val zM2) (h8.cell ((h.next,0).1,(h.next,0).2+0)) fun (x9:zQ2)=>(iA (.val zL2) (h8.cell ((h.next,0).1,(h.next,0).2+1)) fun (x10:SL)=>(lA (f115 N x10 h8) fun (x11:SL) h12=>let h13:=h12.push (.row [(.str x9),(.slice x11.a x11.len x11.cap x11.sz)] .own);(aE (.val zL2) (iB E 36 36 (.slice v3.a v3.len v3.cap v3.sz) (.slice (some (h12.next,0)) 1 1 2) h13) fun (x14:SL) h15=>(uD (bif (aB (h8.cell ((h.next,0).1,(h.next,0).2+1)) (.slice x10.a x10.len x10.cap x10.sz)) then (bif (aB (h12.cell ((h.next,0).1,(h.next,0).2+0)) (.str x9)) then (bif (aB (h8.cell ((h.next,0).1,(h.next,0).2+0)) (.str x9)) then true else false) else false) else false) ( let x16:=dB .i64 (v9+1);go v1 v2 x14 v7 v8 x16 h15)))))))))else some ((Out.exit 0),(v1,v2,v3,()),h))
def rA6 (N M:Nat) (v1 v2:zJ2) (v3 v7:SL) (v8 v9:Int) (h:Heap):Option (Out×zY×Heap):=iter (fun go s h=>aA0 N (fun v1 v2 v3 v7 v8 v9 h=>go (v1,v2,v3,v7,v8,v9,()) h) s.1 s.2.1 s.2.2.1 s.2.2.2.1 s.2.2.2.2.1 s.2.2.2.2.2.1 h) M (v1,v2,v3,v7,v8,v9,()) h
theorem iA3 (N M v1 v2 v3 v7 v8 v9 h):rA6 N (M+1) v1 v2 v3 v7 v8 v9 h=aA0 N (rA6 N M) v1 v2 v3 v7 v8 v9 h:=rfl
def f77 (N:Nat) (a0:zS) (h:Heap):Option (zS×Heap):=let h1:=h.push (.row (yRC a0) .own);let h2:=h1.push (.row yZC .own);(iA (.val zL2) (h2.cell ((h.next,0).1,(h.next,0).2+2)) fun (x3:SL)=>(fE (rA6 N N (some (h.next,0)) (some (h1.next,0)) ⟨none,0,0,0⟩ x3 (Int.ofNat x3.len) 0 h2) fun _ (j18:zY) h19=>(rA j18.1 fun q20=>(rA (h19.store (q20.1,q20.2+2) [(.slice j18.2.2.1.a j18.2.2.1.len j18.2.2.1.cap j18.2.2.1.sz)]) fun h21=>(rA j18.1 fun q22=>(iA (.val zL2) (h21.cell (q22.1,q22.2+3)) fun (x23:SL)=>(lA (f116 N x23 h21) fun (x24:SL) h25=>(rA j18.1 fun q26=>(rA (h25.store (q26.1,q26.2+3) [(.slice x24.a x24.len x24.cap x24.sz)]) fun h27=>(rA j18.1 fun q28=>(iA (.val zC) (h27.cells (q28.1,q28.2+4) 4) fun (x29:zM)=>(lA (f117 N N (x29.1,x29.2.1,x29.2.2.1,x29.2.2.2.1,()) h27) fun (x30:zM) h31=>(rA j18.1 fun q32=>(rA (h31.store (q32.1,q32.2+4) (yRD x30)) fun h33=>(rA j18.1 fun q34=>(iA (.val zL2) (h33.cell (q34.1,q34.2+8)) fun (x35:SL)=>(lA (f118 N N x35 h33) fun (x36:SL) h37=>(rA j18.1 fun q38=>(rA (h37.store (q38.1,q38.2+8) [(.slice x36.a x36.len x36.cap x36.sz)]) fun h39=>(rA j18.1 fun q40=>(iA (.val zD) (h39.cells q40 10) fun (x41:zS)=>(rA j18.2.1 fun q43=>(rA (h39.store q43 (yRC x41)) fun h42=>(rA j18.2.1 fun q44=>(iA (.val zD) (h42.cells q44 10) fun (x45:zS)=>some ((x45.1,x45.2.1,x45.2.2.1,x45.2.2.2.1,x45.2.2.2.2.1,x45.2.2.2.2.2.1,x45.2.2.2.2.2.2.1,x45.2.2.2.2.2.2.2.1,x45.2.2.2.2.2.2.2.2.1,x45.2.2.2.2.2.2.2.2.2.1,()),h42))))))))))))))))))))))))))
def qBh:Ann:=(.two .n (.two .n (.two (.two .n (.two (.loop [(1,zK2),(2,zK2),(3,zL2),(7,zL2),(8,zO2),(9,zO2)] [(.exit 0)] [(1,zK2),(2,zK2),(3,zL2)] .n) .n)) .n)))
theorem nBc (N:Nat):gD Tryz.prog 77 [zD] (.val zD) (fun x h=>f77 N x.1 h):=vD (bA (fB5 N) (bA (uAg N) (bA (fAt N) (bA (cA3 N) kA)))) N qBh Tryz.f77
def gV (N:Nat) (rec78:SL→Heap→Option ((Unit)×Heap)) (go:SL→Int→Int→Heap→Option (Out×(Unit)×Heap)) (v0:SL) (v4 v5:Int) (h:Heap):Option (Out×(Unit)×Heap):=let x1:=wB v5 v4;(bif x1 then(ixK v0.a v0.len v5 32 fun q2=>(rA (h.store (q2.1,q2.2+1) yZK) fun h3=>(ixK v0.a v0.len v5 32 fun q4=>(iA (.val zL2) (h3.cell (q4.1,q4.2+30)) fun (x5:SL)=>(lA (rec78 x5 h3) fun (x6:(Unit)) h7=>(ixK v0.a v0.len v5 32 fun q8=>(iA (.val zL2) (h7.cell (q8.1,q8.2+31)) fun (x9:SL)=>(lA (rec78 x9 h7) fun (x10:(Unit)) h11=>let x12:=dB .i64 (v5+1);go v0 v4 x12 h11))))))))else some ((Out.exit 0),(()),h))
def kAk (N:Nat) (rec78:SL→Heap→Option ((Unit)×Heap)) (M:Nat) (v0:SL) (v4 v5:Int) (h:Heap):Option (Out×(Unit)×Heap):=iter (fun go s h=>gV N rec78 (fun v0 v4 v5 h=>go (v0,v4,v5,()) h) s.1 s.2.1 s.2.2.1 h) M (v0,v4,v5,()) h
theorem qS (N rec78 M v0 v4 v5 h):kAk N rec78 (M+1) v0 v4 v5 h=gV N rec78 (kAk N rec78 M) v0 v4 v5 h:=rfl
def rAx (N:Nat) (rec78:SL→Heap→Option ((Unit)×Heap)) (a0:SL) (h:Heap):Option ((Unit)×Heap):=(fE (kAk N rec78 N a0 (Int.ofNat a0.len) 0 h) fun _ (j14:(Unit)) h15=>some ((()),h15))
def rBh:Ann:=(.two .n (.two (.loop [(0,zL2),(4,zO2),(5,zO2)] [(.exit 0)] [] .n) .n))
def oBc (N M:Nat):((SL→Heap→Option ((Unit)×Heap))×Unit):=Nat.rec (fun _ _=>none,()) (fun _ r=>(rAx N r.1,())) M
def f78 (N M:Nat):SL→Heap→Option ((Unit)×Heap):=(oBc N M).1
theorem lAk (N M a0 h):f78 N (M+1) a0 h=rAx N (f78 N M) a0 h:=rfl
theorem tA6 (N:Nat):∀ M:Nat,(gD Tryz.prog 78 [zL2] (.tup []) (fun x h=>f78 N M x.1 h))∧True
 | 0=>⟨(fun xs h r h' hx=>by cases hx),trivial⟩
 | M+1=>⟨vD (bA (tA6 N M).1 kA) N rBh Tryz.f78,trivial⟩
theorem pBc (N:Nat):gD Tryz.prog 78 [zL2] (.tup []) (fun x h=>f78 N N x.1 h):=(tA6 N N).1
def bA0 (N:Nat) (go:zJ2→zJ2→SL→Int→Int→Heap→Option (Out×zO×Heap)) (v2 v3:zJ2) (v26:SL) (v27 v28:Int) (h:Heap):Option (Out×zO×Heap):=let x29:=wB v28 v27;(bif x29 then(ixK v26.a v26.len v28 10 fun q30=>(iA (.val zD) (h.cells q30 10) fun (x31:zS)=>let h32:=h.push (.row yZC .own);(rA (h32.store (h.next,0) (yRC x31)) fun h33=>(iA (.val zD) (h33.cells (h.next,0) 10) fun (x34:zS)=>(lA (f77 N (x34.1,x34.2.1,x34.2.2.1,x34.2.2.2.1,x34.2.2.2.2.1,x34.2.2.2.2.2.1,x34.2.2.2.2.2.2.1,x34.2.2.2.2.2.2.2.1,x34.2.2.2.2.2.2.2.2.1,x34.2.2.2.2.2.2.2.2.2.1,()) h33) fun (x35:zS) h36=>(rA (h36.store (h.next,0) (yRC x35)) fun h37=>(rA (h37.store ((h.next,0).1,(h.next,0).2+9) yZK) fun h38=>(iA (.val zL2) (h38.cell ((h.next,0).1,(h.next,0).2+8)) fun (x39:SL)=>(lA (f78 N N x39 h38) fun (x40:(Unit)) h41=>(rA v3 fun q42=>(iA (.val zL2) (h41.cell (q42.1,q42.2+1)) fun (x43:SL)=>(iA (.val zD) (h41.cells (h.next,0) 10) fun (x44:zS)=>let h45:=h41.push (.row (yRC x44) .own);(aE (.val zL2) (iB E 23 23 (.slice x43.a x43.len x43.cap x43.sz) (.slice (some (h41.next,0)) 1 1 10) h45) fun (x46:SL) h47=>(rA v3 fun q48=>(rA (h47.store (q48.1,q48.2+1) [(.slice x46.a x46.len x46.cap x46.sz)]) fun h49=>let x50:=dB .i64 (v28+1);go v2 v3 v26 v27 x50 h49)))))))))))))))else some ((Out.exit 2),(v2,v3,()),h))
def uA6 (N M:Nat) (v2 v3:zJ2) (v26:SL) (v27 v28:Int) (h:Heap):Option (Out×zO×Heap):=iter (fun go s h=>bA0 N (fun v2 v3 v26 v27 v28 h=>go (v2,v3,v26,v27,v28,()) h) s.1 s.2.1 s.2.2.1 s.2.2.2.1 s.2.2.2.2.1 h) M (v2,v3,v26,v27,v28,()) h
theorem jA3 (N M v2 v3 v26 v27 v28 h):uA6 N (M+1) v2 v3 v26 v27 v28 h=bA0 N (uA6 N M) v2 v3 v26 v27 v28 h:=rfl
def dA0 (N:Nat) (go:zJ2→zJ2→zJ2→SL→Int→Int→Heap→Option (Out×zT×Heap)) (v1 v2 v3:zJ2) (v9:SL) (v10 v11:Int) (h:Heap):Option (Out×zT×Heap):=let x5:=wB v11 v10;(bif x5 then(ixK v9.a v9.len v11 5 fun q6=>(iA (.val zG) (h.cells q6 5) fun (x7:zW)=>let h8:=h.push (.row yZH .own);(rA (h8.store (h.next,0) (yRG x7)) fun h9=>(iA (.val zG) (h9.cells (h.next,0) 5) fun (x10:zW)=>(lA (f76 N (x10.1,x10.2.1,x10.2.2.1,x10.2.2.2.1,x10.2.2.2.2.1,()) h9) fun (x11:zW) h12=>(rA (h12.store (h.next,0) (yRG x11)) fun h13=>(rA (h13.store ((h.next,0).1,(h.next,0).2+4) yZK) fun h14=>(rA v3 fun q15=>(iA (.val zL2) (h14.cell (q15.1,q15.2+0)) fun (x16:SL)=>(iA (.val zG) (h14.cells (h.next,0) 5) fun (x17:zW)=>let h18:=h14.push (.row (yRG x17) .own);(aE (.val zL2) (iB E 22 22 (.slice x16.a x16.len x16.cap x16.sz) (.slice (some (h14.next,0)) 1 1 5) h18) fun (x19:SL) h20=>(rA v3 fun q21=>(rA (h20.store (q21.1,q21.2+0) [(.slice x19.a x19.len x19.cap x19.sz)]) fun h22=>let x23:=dB .i64 (v11+1);go v1 v2 v3 v9 v10 x23 h22)))))))))))))else some ((Out.exit 0),(v1,v2,v3,()),h))
def vA6 (N M:Nat) (v1 v2 v3:zJ2) (v9:SL) (v10 v11:Int) (h:Heap):Option (Out×zT×Heap):=iter (fun go s h=>dA0 N (fun v1 v2 v3 v9 v10 v11 h=>go (v1,v2,v3,v9,v10,v11,()) h) s.1 s.2.1 s.2.2.1 s.2.2.2.1 s.2.2.2.2.1 s.2.2.2.2.2.1 h) M (v1,v2,v3,v9,v10,v11,()) h
theorem kA3 (N M v1 v2 v3 v9 v10 v11 h):vA6 N (M+1) v1 v2 v3 v9 v10 v11 h=dA0 N (vA6 N M) v1 v2 v3 v9 v10 v11 h:=rfl
def f31 (N:Nat) (a0:zE1) (h:Heap):Option (zE1×Heap):=let h1:=h.push (.row (yRJ a0) .own);let h2:=h1.push (.row yZG .own);let h3:=h2.push (.row yZG .own);(iA (.val zL2) (h3.cell ((h.next,0).1,(h.next,0).2+0)) fun (x4:SL)=>(fE (vA6 N N (some (h.next,0)) (some (h1.next,0)) (some (h2.next,0)) x4 (Int.ofNat x4.len) 0 h3) fun _ (j25:zT) h26=>(rA j25.1 fun q27=>(iA (.val zL2) (h26.cell (q27.1,q27.2+1)) fun (x28:SL)=>(fE (uA6 N N j25.2.1 j25.2.2.1 x28 (Int.ofNat x28.len) 0 h26) fun _ (j52:zO) h53=>(rA j52.2.1 fun q54=>(iA (.val zK) (h53.cells q54 2) fun (x55:zE1)=>(rA j52.1 fun q57=>(rA (h53.store q57 (yRJ x55)) fun h56=>(rA j52.1 fun q58=>(iA (.val zK) (h56.cells q58 2) fun (x59:zE1)=>some ((x59.1,x59.2.1,()),h56))))))))))))
def tBh:Ann:=(.two .n (.two .n (.two (.two .n (.two (.loop [(1,zK2),(2,zK2),(3,zK2),(9,zL2),(10,zO2),(11,zO2)] [(.exit 0)] [(1,zK2),(2,zK2),(3,zK2)] .n) .n)) (.two (.two .n (.two (.loop [(2,zK2),(3,zK2),(26,zL2),(27,zO2),(28,zO2)] [(.exit 2)] [(2,zK2),(3,zK2)] .n) .n)) .n))))
theorem qBc (N:Nat):gD Tryz.prog 31 [zK] (.val zK) (fun x h=>f31 N x.1 h):=vD (bA (pBc N) (bA (nBc N) (bA (iBc N) kA))) N tBh Tryz.f31
def lA3 (N:Nat) (go:SL→SL→Bool→Int→Int→Heap→Option (Out×zZ×Heap)) (v0 v1:SL) (v4:Bool) (v12 v13:Int) (h:Heap):Option (Out×zZ×Heap):=let x2:=wB v13 v12;(bif x2 then(ixK v0.a v0.len v13 1 fun q3=>(iA (.val zM2) (h.cell q3) fun (x4:zQ2)=>(ixK v1.a v1.len v13 1 fun q5=>(iA (.val zM2) (h.cell q5) fun (x6:zQ2)=>let x7:=!mB x4 x6;(bif x7 then some (Out.ret,(false,()),h)else let x8:=dB .i64 (v13+1);go v0 v1 v4 v12 x8 h)))))else some ((Out.exit 0),(v4,()),h))
def eA9 (N M:Nat) (v0 v1:SL) (v4:Bool) (v12 v13:Int) (h:Heap):Option (Out×zZ×Heap):=iter (fun go s h=>lA3 N (fun v0 v1 v4 v12 v13 h=>go (v0,v1,v4,v12,v13,()) h) s.1 s.2.1 s.2.2.1 s.2.2.2.1 s.2.2.2.2.1 h) M (v0,v1,v4,v12,v13,()) h
theorem gAd (N M v0 v1 v4 v12 v13 h):eA9 N (M+1) v0 v1 v4 v12 v13 h=lA3 N (eA9 N M) v0 v1 v4 v12 v13 h:=rfl
def f106 (N:Nat) (a0 a1:SL) (h:Heap):Option (Bool×Heap):=let x1:=!kB (Int.ofNat a0.len) (Int.ofNat a1.len);(bif x1 then some (false,h)else(fE (eA9 N N a0 a1 false (Int.ofNat a0.len) 0 h) fun o9 (j10:zZ) h11=>(bif gE o9 (.exit 0) then some (true,h11)else some (j10.1,h11))))
def rBc:Ann:=(.two .n (.two .n (.two (.two .n (.two (.loop [(0,zL2),(1,zL2),(4,zN2),(12,zO2),(13,zO2)] [(.exit 0),.ret] [(4,zN2)] .n) .n)) .n)))
theorem mA3 (N:Nat):gD Tryz.prog 106 [zL2,zL2] (.val zN2) (fun x h=>f106 N x.1 x.2.1 h):=vD kA N rBc Tryz.f106
def mAk (N:Nat) (rec112:zM→zM→Heap→Option (Bool×Heap)) (rec162c112 rec193c112:SL→SL→(Unit)→Heap→Option (Bool×Heap)) (a0 a1:zM) (h:Heap):Option (Bool×Heap):=let h1:=h.push (.row (yRD a0) .own);let h2:=h1.push (.row (yRD a1) .own);(iA (.val zO2) (h2.cell ((h.next,0).1,(h.next,0).2+0)) fun (x3:Int)=>(iA (.val zO2) (h2.cell ((h1.next,0).1,(h1.next,0).2+0)) fun (x4:Int)=>let x5:=kB x3 x4;(bif x5 then(iA (.val zM2) (h2.cell ((h.next,0).1,(h.next,0).2+1)) fun (x6:zQ2)=>(iA (.val zM2) (h2.cell ((h1.next,0).1,(h1.next,0).2+1)) fun (x7:zQ2)=>let x8:=mB x6 x7;(bif x8 then(iA (.val zL2) (h2.cell ((h.next,0).1,(h.next,0).2+2)) fun (x9:SL)=>(iA (.val zL2) (h2.cell ((h1.next,0).1,(h1.next,0).2+2)) fun (x10:SL)=>(lA (f106 N x9 x10 h2) fun (x11:Bool) h12=>(bif x11 then(iA (.val zL2) (h12.cell ((h.next,0).1,(h.next,0).2+3)) fun (x13:SL)=>(iA (.val zL2) (h12.cell ((h1.next,0).1,(h1.next,0).2+3)) fun (x14:SL)=>(lA (rec162c112 x13 x14 (()) h12) fun (x15:Bool) h16=>some (x15,h16))))else some (false,h12)))))else some (false,h2))))else some (false,h2))))
def tBc:Ann:=.n
def bX (N:Nat) (rec112:zM→zM→Heap→Option (Bool×Heap)) (rec162c112 rec193c112:SL→SL→(Unit)→Heap→Option (Bool×Heap)) (a0 a1:SL) (a2:(Unit)) (h:Heap):Option (Bool×Heap):=(lA (rec193c112 a0 a1 (()) h) fun (x1:Bool) h2=>some (x1,h2))
def gAn:Ann:=.n
def fA9 (N:Nat) (rec112:zM→zM→Heap→Option (Bool×Heap)) (rec162c112 rec193c112:SL→SL→(Unit)→Heap→Option (Bool×Heap)) (go:SL→(Unit)→Bool→SL→Int→Int→Heap→Option (Out×zZ×Heap)) (v1:SL) (v2:(Unit)) (v6:Bool) (v15:SL) (v16 v17:Int) (h:Heap):Option (Out×zZ×Heap):=let x2:=wB v17 v16;(bif x2 then(ixK v15.a v15.len v17 4 fun q3=>(iA (.val zC) (h.cells q3 4) fun (x4:zM)=>let h5:=h.push (.row yZD .own);(rA (h5.store (h.next,0) (yRD x4)) fun h6=>(ixK v1.a v1.len v17 4 fun q7=>(iA (.val zC) (h6.cells q7 4) fun (x8:zM)=>let h9:=h6.push (.row yZD .own);(rA (h9.store (h6.next,0) (yRD x8)) fun h10=>(iA (.val zC) (h10.cells (h.next,0) 4) fun (x11:zM)=>(iA (.val zC) (h10.cells (h6.next,0) 4) fun (x12:zM)=>(lA (rec112 (x11.1,x11.2.1,x11.2.2.1,x11.2.2.2.1,()) (x12.1,x12.2.1,x12.2.2.1,x12.2.2.2.1,()) h10) fun (x13:Bool) h14=>let x15:=!x13;(bif x15 then some (Out.ret,(false,()),h14)else let x16:=dB .i64 (v17+1);go v1 (()) v6 v15 v16 x16 h14))))))))))else some ((Out.exit 0),(v6,()),h))
def nA3 (N:Nat) (rec112:zM→zM→Heap→Option (Bool×Heap)) (rec162c112 rec193c112:SL→SL→(Unit)→Heap→Option (Bool×Heap)) (M:Nat) (v1:SL) (v2:(Unit)) (v6:Bool) (v15:SL) (v16 v17:Int) (h:Heap):Option (Out×zZ×Heap):=iter (fun go s h=>fA9 N rec112 rec162c112 rec193c112 (fun v1 v2 v6 v15 v16 v17 h=>go (v1,v2,v6,v15,v16,v17,()) h) s.1 s.2.1 s.2.2.1 s.2.2.2.1 s.2.2.2.2.1 s.2.2.2.2.2.1 h) M (v1,v2,v6,v15,v16,v17,()) h
def iAn (N:Nat) (rec112:zM→zM→Heap→Option (Bool×Heap)) (rec162c112 rec193c112:SL→SL→(Unit)→Heap→Option (Bool×Heap)) (a0 a1:SL) (a2:(Unit)) (h:Heap):Option (Bool×Heap):=let x1:=!kB (Int.ofNat a0.len) (Int.ofNat a1.len);(bif x1 then some (false,h)else(fE (nA3 N rec112 rec162c112 rec193c112 N a1 (()) false a0 (Int.ofNat a0.len) 0 h) fun o17 (j18:zZ) h19=>(bif gE o17 (.exit 0) then some (true,h19)else some (j18.1,h19))))
def jAn:Ann:=(.two .n (.two .n (.two (.two .n (.two (.loop [(1,zL2),(2,(.clo 112 [])),(6,zN2),(15,zL2),(16,zO2),(17,zO2)] [(.exit 0),.ret] [(6,zN2)] .n) .n)) .n)))
def wAg (N M:Nat):((zM→zM→Heap→Option (Bool×Heap))×(SL→SL→(Unit)→Heap→Option (Bool×Heap))×(SL→SL→(Unit)→Heap→Option (Bool×Heap))×Unit):=Nat.rec (fun _ _ _=>none,fun _ _ _ _=>none,fun _ _ _ _=>none,()) (fun _ r=>(mAk N r.1 r.2.1 r.2.2.1,bX N r.1 r.2.1 r.2.2.1,iAn N r.1 r.2.1 r.2.2.1,())) M
def f112 (N M:Nat):zM→zM→Heap→Option (Bool×Heap):=(wAg N M).1
def iV (N M:Nat):SL→SL→(Unit)→Heap→Option (Bool×Heap):=(wAg N M).2.1
def jV (N M:Nat):SL→SL→(Unit)→Heap→Option (Bool×Heap):=(wAg N M).2.2.1
theorem iAt (N M a0 a1 h):f112 N (M+1) a0 a1 h=mAk N (f112 N M) (iV N M) (jV N M) a0 a1 h:=rfl
theorem gA9 (N M a0 a1 a2 h):iV N (M+1) a0 a1 a2 h=bX N (f112 N M) (iV N M) (jV N M) a0 a1 a2 h:=rfl
theorem uM (N:Nat):∀ M:Nat,(gD Tryz.prog 112 [zC,zC] (.val zN2) (fun x h=>f112 N M x.1 x.2.1 h))∧(gD Tryz.prog 162 [zL2,zL2,(.clo 112 [])] (.val zN2) (fun x h=>iV N M x.1 x.2.1 x.2.2.1 h))∧(gD Tryz.prog 193 [zL2,zL2,(.clo 112 [])] (.val zN2) (fun x h=>jV N M x.1 x.2.1 x.2.2.1 h))∧True
 | 0=>⟨(fun xs h r h' hx=>by cases hx),(fun xs h r h' hx=>by cases hx),(fun xs h r h' hx=>by cases hx),trivial⟩
 | M+1=>⟨vD (yB (sel:=fun a=>pJ 2 112 a) (uM N M).2.1 (bA (mA3 N) kA)) N tBc Tryz.f112,vD (yB (sel:=fun a=>pJ 2 112 a) (uM N M).2.2.1 kA) N gAn Tryz.f162,vD (bA (uM N M).1 kA) N jAn Tryz.f193,trivial⟩
theorem yAg (N:Nat):gD Tryz.prog 112 [zC,zC] (.val zN2) (fun x h=>f112 N N x.1 x.2.1 h):=(uM N N).1
def f108 (N:Nat) (a0 a1:zV) (h:Heap):Option (Bool×Heap):=let h1:=h.push (.row (yRF a0) .own);let h2:=h1.push (.row (yRF a1) .own);(iA (.val zN2) (h2.cell ((h.next,0).1,(h.next,0).2+0)) fun (x3:Bool)=>(iA (.val zN2) (h2.cell ((h1.next,0).1,(h1.next,0).2+0)) fun (x4:Bool)=>let x5:Bool:=(bif x3 then x4 else !x4);(bif x5 then(iA (.val zM2) (h2.cell ((h.next,0).1,(h.next,0).2+1)) fun (x6:zQ2)=>(iA (.val zM2) (h2.cell ((h1.next,0).1,(h1.next,0).2+1)) fun (x7:zQ2)=>let x8:=mB x6 x7;(bif x8 then(iA (.val zC) (h2.cells ((h.next,0).1,(h.next,0).2+2) 4) fun (x9:zM)=>(iA (.val zC) (h2.cells ((h1.next,0).1,(h1.next,0).2+2) 4) fun (x10:zM)=>(lA (f112 N N (x9.1,x9.2.1,x9.2.2.1,x9.2.2.2.1,()) (x10.1,x10.2.1,x10.2.2.1,x10.2.2.2.1,()) h2) fun (x11:Bool) h12=>some (x11,h12))))else some (false,h2))))else some (false,h2))))
def uBc:Ann:=.n
theorem gB5 (N:Nat):gD Tryz.prog 108 [zI,zI] (.val zN2) (fun x h=>f108 N x.1 x.2.1 h):=vD (bA (yAg N) kA) N uBc Tryz.f108
def iA9 (N:Nat) (go:SL→(Unit)→Bool→SL→Int→Int→Heap→Option (Out×zZ×Heap)) (v1:SL) (v2:(Unit)) (v6:Bool) (v15:SL) (v16 v17:Int) (h:Heap):Option (Out×zZ×Heap):=let x2:=wB v17 v16;(bif x2 then(ixK v15.a v15.len v17 6 fun q3=>(iA (.val zI) (h.cells q3 6) fun (x4:zV)=>let h5:=h.push (.row yZF .own);(rA (h5.store (h.next,0) (yRF x4)) fun h6=>(ixK v1.a v1.len v17 6 fun q7=>(iA (.val zI) (h6.cells q7 6) fun (x8:zV)=>let h9:=h6.push (.row yZF .own);(rA (h9.store (h6.next,0) (yRF x8)) fun h10=>(iA (.val zI) (h10.cells (h.next,0) 6) fun (x11:zV)=>(iA (.val zI) (h10.cells (h6.next,0) 6) fun (x12:zV)=>(lA (f108 N (x11.1,x11.2.1,x11.2.2.1,x11.2.2.2.1,x11.2.2.2.2.1,x11.2.2.2.2.2.1,()) (x12.1,x12.2.1,x12.2.2.1,x12.2.2.2.1,x12.2.2.2.2.1,x12.2.2.2.2.2.1,()) h10) fun (x13:Bool) h14=>let x15:=!x13;(bif x15 then some (Out.ret,(false,()),h14)else let x16:=dB .i64 (v17+1);go v1 (()) v6 v15 v16 x16 h14))))))))))else some ((Out.exit 0),(v6,()),h))
def oA3 (N M:Nat) (v1:SL) (v2:(Unit)) (v6:Bool) (v15:SL) (v16 v17:Int) (h:Heap):Option (Out×zZ×Heap):=iter (fun go s h=>iA9 N (fun v1 v2 v6 v15 v16 v17 h=>go (v1,v2,v6,v15,v16,v17,()) h) s.1 s.2.1 s.2.2.1 s.2.2.2.1 s.2.2.2.2.1 s.2.2.2.2.2.1 h) M (v1,v2,v6,v15,v16,v17,()) h
def jA9 (N:Nat) (a0 a1:SL) (a2:(Unit)) (h:Heap):Option (Bool×Heap):=let x1:=!kB (Int.ofNat a0.len) (Int.ofNat a1.len);(bif x1 then some (false,h)else(fE (oA3 N N a1 (()) false a0 (Int.ofNat a0.len) 0 h) fun o17 (j18:zZ) h19=>(bif gE o17 (.exit 0) then some (true,h19)else some (j18.1,h19))))
def kAn:Ann:=(.two .n (.two .n (.two (.two .n (.two (.loop [(1,zL2),(2,(.clo 108 [])),(6,zN2),(15,zL2),(16,zO2),(17,zO2)] [(.exit 0),.ret] [(6,zN2)] .n) .n)) .n)))
theorem aAh (N:Nat):gD Tryz.prog 160 [zL2,zL2,(.clo 108 [])] (.val zN2) (fun x h=>jA9 N x.1 x.2.1 x.2.2.1 h):=vD (bA (gB5 N) kA) N kAn Tryz.f160
def qH (N:Nat) (a0 a1:SL) (a2:(Unit)) (h:Heap):Option (Bool×Heap):=(lA (jA9 N a0 a1 (()) h) fun (x1:Bool) h2=>some (x1,h2))
def lAn:Ann:=.n
theorem pA3 (N:Nat):gD Tryz.prog 107 [zL2,zL2,(.clo 108 [])] (.val zN2) (fun x h=>qH N x.1 x.2.1 x.2.2.1 h):=vD (yB (sel:=fun a=>pJ 2 108 a) (aAh N) kA) N lAn Tryz.f107
def f73 (N:Nat) (a0 a1:zW) (h:Heap):Option (Bool×Heap):=let h1:=h.push (.row (yRG a0) .own);let h2:=h1.push (.row (yRG a1) .own);(iA (.val zN2) (h2.cell ((h.next,0).1,(h.next,0).2+0)) fun (x3:Bool)=>(iA (.val zN2) (h2.cell ((h1.next,0).1,(h1.next,0).2+0)) fun (x4:Bool)=>let x5:Bool:=(bif x3 then x4 else !x4);(bif x5 then(iA (.val zM2) (h2.cell ((h.next,0).1,(h.next,0).2+1)) fun (x6:zQ2)=>(iA (.val zM2) (h2.cell ((h1.next,0).1,(h1.next,0).2+1)) fun (x7:zQ2)=>let x8:=mB x6 x7;(bif x8 then(iA (.val zO2) (h2.cell ((h.next,0).1,(h.next,0).2+4)) fun (x9:Int)=>(iA (.val zO2) (h2.cell ((h1.next,0).1,(h1.next,0).2+4)) fun (x10:Int)=>let x11:=kB x9 x10;(bif x11 then(iA (.val zL2) (h2.cell ((h.next,0).1,(h.next,0).2+2)) fun (x12:SL)=>(iA (.val zL2) (h2.cell ((h1.next,0).1,(h1.next,0).2+2)) fun (x13:SL)=>(lA (f106 N x12 x13 h2) fun (x14:Bool) h15=>(bif x14 then(iA (.val zL2) (h15.cell ((h.next,0).1,(h.next,0).2+3)) fun (x16:SL)=>(iA (.val zL2) (h15.cell ((h1.next,0).1,(h1.next,0).2+3)) fun (x17:SL)=>(lA (qH N x16 x17 (()) h15) fun (x18:Bool) h19=>some (x18,h19))))else some (false,h15)))))else some (false,h2))))else some (false,h2))))else some (false,h2))))
def uBh:Ann:=.n
theorem vBc (N:Nat):gD Tryz.prog 73 [zG,zG] (.val zN2) (fun x h=>f73 N x.1 x.2.1 h):=vD (yB (sel:=fun a=>pJ 2 108 a) (pA3 N) (bA (mA3 N) kA)) N uBh Tryz.f73
def iAd (N:Nat) (go:SL→(Unit)→Bool→SL→Int→Int→Heap→Option (Out×zZ×Heap)) (v1:SL) (v2:(Unit)) (v6:Bool) (v15:SL) (v16 v17:Int) (h:Heap):Option (Out×zZ×Heap):=let x2:=wB v17 v16;(bif x2 then(ixK v15.a v15.len v17 5 fun q3=>(iA (.val zG) (h.cells q3 5) fun (x4:zW)=>let h5:=h.push (.row yZH .own);(rA (h5.store (h.next,0) (yRG x4)) fun h6=>(ixK v1.a v1.len v17 5 fun q7=>(iA (.val zG) (h6.cells q7 5) fun (x8:zW)=>let h9:=h6.push (.row yZH .own);(rA (h9.store (h6.next,0) (yRG x8)) fun h10=>(iA (.val zG) (h10.cells (h.next,0) 5) fun (x11:zW)=>(iA (.val zG) (h10.cells (h6.next,0) 5) fun (x12:zW)=>(lA (f73 N (x11.1,x11.2.1,x11.2.2.1,x11.2.2.2.1,x11.2.2.2.2.1,()) (x12.1,x12.2.1,x12.2.2.1,x12.2.2.2.1,x12.2.2.2.2.1,()) h10) fun (x13:Bool) h14=>let x15:=!x13;(bif x15 then some (Out.ret,(false,()),h14)else let x16:=dB .i64 (v17+1);go v1 (()) v6 v15 v16 x16 h14))))))))))else some ((Out.exit 0),(v6,()),h))
def wA6 (N M:Nat) (v1:SL) (v2:(Unit)) (v6:Bool) (v15:SL) (v16 v17:Int) (h:Heap):Option (Out×zZ×Heap):=iter (fun go s h=>iAd N (fun v1 v2 v6 v15 v16 v17 h=>go (v1,v2,v6,v15,v16,v17,()) h) s.1 s.2.1 s.2.2.1 s.2.2.2.1 s.2.2.2.2.1 s.2.2.2.2.2.1 h) M (v1,v2,v6,v15,v16,v17,()) h
def bAh (N:Nat) (a0 a1:SL) (a2:(Unit)) (h:Heap):Option (Bool×Heap):=let x1:=!kB (Int.ofNat a0.len) (Int.ofNat a1.len);(bif x1 then some (false,h)else(fE (wA6 N N a1 (()) false a0 (Int.ofNat a0.len) 0 h) fun o17 (j18:zZ) h19=>(bif gE o17 (.exit 0) then some (true,h19)else some (j18.1,h19))))
def jAt:Ann:=(.two .n (.two .n (.two (.two .n (.two (.loop [(1,zL2),(2,(.clo 73 [])),(6,zN2),(15,zL2),(16,zO2),(17,zO2)] [(.exit 0),.ret] [(6,zN2)] .n) .n)) .n)))
theorem mAn (N:Nat):gD Tryz.prog 105 [zL2,zL2,(.clo 73 [])] (.val zN2) (fun x h=>bAh N x.1 x.2.1 x.2.2.1 h):=vD (bA (vBc N) kA) N jAt Tryz.f105
def qA3 (N:Nat) (a0 a1:SL) (a2:(Unit)) (h:Heap):Option (Bool×Heap):=(lA (bAh N a0 a1 (()) h) fun (x1:Bool) h2=>some (x1,h2))
def tAx:Ann:=.n
theorem kAt (N:Nat):gD Tryz.prog 72 [zL2,zL2,(.clo 73 [])] (.val zN2) (fun x h=>qA3 N x.1 x.2.1 x.2.2.1 h):=vD (yB (sel:=fun a=>pJ 2 73 a) (mAn N) kA) N tAx Tryz.f72
def f111 (N:Nat) (a0 a1:zU) (h:Heap):Option (Bool×Heap):=let h1:=h.push (.row (yRH a0) .own);let h2:=h1.push (.row (yRH a1) .own);(iA (.val zM2) (h2.cell ((h.next,0).1,(h.next,0).2+0)) fun (x3:zQ2)=>(iA (.val zM2) (h2.cell ((h1.next,0).1,(h1.next,0).2+0)) fun (x4:zQ2)=>let x5:=mB x3 x4;(bif x5 then(iA (.val zL2) (h2.cell ((h.next,0).1,(h.next,0).2+1)) fun (x6:SL)=>(iA (.val zL2) (h2.cell ((h1.next,0).1,(h1.next,0).2+1)) fun (x7:SL)=>(lA (f106 N x6 x7 h2) fun (x8:Bool) h9=>some (x8,h9))))else some (false,h2))))
def wBc:Ann:=.n
theorem iB5 (N:Nat):gD Tryz.prog 111 [zJ,zJ] (.val zN2) (fun x h=>f111 N x.1 x.2.1 h):=vD (bA (mA3 N) kA) N wBc Tryz.f111
def kA9 (N:Nat) (go:SL→(Unit)→Bool→SL→Int→Int→Heap→Option (Out×zZ×Heap)) (v1:SL) (v2:(Unit)) (v6:Bool) (v15:SL) (v16 v17:Int) (h:Heap):Option (Out×zZ×Heap):=let x2:=wB v17 v16;(bif x2 then(ixK v15.a v15.len v17 2 fun q3=>(iA (.val zJ) (h.cells q3 2) fun (x4:zU)=>let h5:=h.push (.row yZJ .own);(rA (h5.store (h.next,0) (yRH x4)) fun h6=>(ixK v1.a v1.len v17 2 fun q7=>(iA (.val zJ) (h6.cells q7 2) fun (x8:zU)=>let h9:=h6.push (.row yZJ .own);(rA (h9.store (h6.next,0) (yRH x8)) fun h10=>(iA (.val zJ) (h10.cells (h.next,0) 2) fun (x11:zU)=>(iA (.val zJ) (h10.cells (h6.next,0) 2) fun (x12:zU)=>(lA (f111 N (x11.1,x11.2.1,()) (x12.1,x12.2.1,()) h10) fun (x13:Bool) h14=>let x15:=!x13;(bif x15 then some (Out.ret,(false,()),h14)else let x16:=dB .i64 (v17+1);go v1 (()) v6 v15 v16 x16 h14))))))))))else some ((Out.exit 0),(v6,()),h))
def rA3 (N M:Nat) (v1:SL) (v2:(Unit)) (v6:Bool) (v15:SL) (v16 v17:Int) (h:Heap):Option (Out×zZ×Heap):=iter (fun go s h=>kA9 N (fun v1 v2 v6 v15 v16 v17 h=>go (v1,v2,v6,v15,v16,v17,()) h) s.1 s.2.1 s.2.2.1 s.2.2.2.1 s.2.2.2.2.1 s.2.2.2.2.2.1 h) M (v1,v2,v6,v15,v16,v17,()) h
def lA9 (N:Nat) (a0 a1:SL) (a2:(Unit)) (h:Heap):Option (Bool×Heap):=let x1:=!kB (Int.ofNat a0.len) (Int.ofNat a1.len);(bif x1 then some (false,h)else(fE (rA3 N N a1 (()) false a0 (Int.ofNat a0.len) 0 h) fun o17 (j18:zZ) h19=>(bif gE o17 (.exit 0) then some (true,h19)else some (j18.1,h19))))
def nAn:Ann:=(.two .n (.two .n (.two (.two .n (.two (.loop [(1,zL2),(2,(.clo 111 [])),(6,zN2),(15,zL2),(16,zO2),(17,zO2)] [(.exit 0),.ret] [(6,zN2)] .n) .n)) .n)))
theorem cAh (N:Nat):gD Tryz.prog 161 [zL2,zL2,(.clo 111 [])] (.val zN2) (fun x h=>lA9 N x.1 x.2.1 x.2.2.1 h):=vD (bA (iB5 N) kA) N nAn Tryz.f161
def vM (N:Nat) (a0 a1:SL) (a2:(Unit)) (h:Heap):Option (Bool×Heap):=(lA (lA9 N a0 a1 (()) h) fun (x1:Bool) h2=>some (x1,h2))
def oAn:Ann:=.n
theorem dAh (N:Nat):gD Tryz.prog 110 [zL2,zL2,(.clo 111 [])] (.val zN2) (fun x h=>vM N x.1 x.2.1 x.2.2.1 h):=vD (yB (sel:=fun a=>pJ 2 111 a) (cAh N) kA) N oAn Tryz.f110
def f164 (N:Nat) (a0 a1:zU) (h:Heap):Option (Bool×Heap):=let h1:=h.push (.row (yRH a0) .own);let h2:=h1.push (.row (yRH a1) .own);(iA (.val zM2) (h2.cell ((h.next,0).1,(h.next,0).2+0)) fun (x3:zQ2)=>(iA (.val zM2) (h2.cell ((h1.next,0).1,(h1.next,0).2+0)) fun (x4:zQ2)=>let x5:=mB x3 x4;(bif x5 then(iA (.val zL2) (h2.cell ((h.next,0).1,(h.next,0).2+1)) fun (x6:SL)=>(iA (.val zL2) (h2.cell ((h1.next,0).1,(h1.next,0).2+1)) fun (x7:SL)=>(lA (f106 N x6 x7 h2) fun (x8:Bool) h9=>some (x8,h9))))else some (false,h2))))
def yBc:Ann:=.n
theorem eAh (N:Nat):gD Tryz.prog 164 [zJ,zJ] (.val zN2) (fun x h=>f164 N x.1 x.2.1 h):=vD (bA (mA3 N) kA) N yBc Tryz.f164
def f166 (N:Nat) (a0 a1:zR) (h:Heap):Option (Bool×Heap):=let h1:=h.push (.row (yRE a0) .own);let h2:=h1.push (.row (yRE a1) .own);(iA (.val zO2) (h2.cell ((h.next,0).1,(h.next,0).2+0)) fun (x3:Int)=>(iA (.val zO2) (h2.cell ((h1.next,0).1,(h1.next,0).2+0)) fun (x4:Int)=>let x5:=kB x3 x4;(bif x5 then(iA (.val zO2) (h2.cell ((h.next,0).1,(h.next,0).2+1)) fun (x6:Int)=>(iA (.val zO2) (h2.cell ((h1.next,0).1,(h1.next,0).2+1)) fun (x7:Int)=>let x8:=kB x6 x7;(bif x8 then(iA (.val zJ) (h2.cells ((h.next,0).1,(h.next,0).2+2) 2) fun (x9:zU)=>(iA (.val zJ) (h2.cells ((h1.next,0).1,(h1.next,0).2+2) 2) fun (x10:zU)=>(lA (f164 N (x9.1,x9.2.1,()) (x10.1,x10.2.1,()) h2) fun (x11:Bool) h12=>some (x11,h12))))else some (false,h2))))else some (false,h2))))
def aBd:Ann:=.n
theorem fAh (N:Nat):gD Tryz.prog 166 [zE,zE] (.val zN2) (fun x h=>f166 N x.1 x.2.1 h):=vD (bA (eAh N) kA) N aBd Tryz.f166
def mA9 (N:Nat) (go:SL→(Unit)→Bool→SL→Int→Int→Heap→Option (Out×zZ×Heap)) (v1:SL) (v2:(Unit)) (v6:Bool) (v15:SL) (v16 v17:Int) (h:Heap):Option (Out×zZ×Heap):=let x2:=wB v17 v16;(bif x2 then(ixK v15.a v15.len v17 4 fun q3=>(iA (.val zE) (h.cells q3 4) fun (x4:zR)=>let h5:=h.push (.row yZI .own);(rA (h5.store (h.next,0) (yRE x4)) fun h6=>(ixK v1.a v1.len v17 4 fun q7=>(iA (.val zE) (h6.cells q7 4) fun (x8:zR)=>let h9:=h6.push (.row yZI .own);(rA (h9.store (h6.next,0) (yRE x8)) fun h10=>(iA (.val zE) (h10.cells (h.next,0) 4) fun (x11:zR)=>(iA (.val zE) (h10.cells (h6.next,0) 4) fun (x12:zR)=>(lA (f166 N (x11.1,x11.2.1,x11.2.2.1,x11.2.2.2.1,()) (x12.1,x12.2.1,x12.2.2.1,x12.2.2.2.1,()) h10) fun (x13:Bool) h14=>let x15:=!x13;(bif x15 then some (Out.ret,(false,()),h14)else let x16:=dB .i64 (v17+1);go v1 (()) v6 v15 v16 x16 h14))))))))))else some ((Out.exit 0),(v6,()),h))
def tA3 (N M:Nat) (v1:SL) (v2:(Unit)) (v6:Bool) (v15:SL) (v16 v17:Int) (h:Heap):Option (Out×zZ×Heap):=iter (fun go s h=>mA9 N (fun v1 v2 v6 v15 v16 v17 h=>go (v1,v2,v6,v15,v16,v17,()) h) s.1 s.2.1 s.2.2.1 s.2.2.2.1 s.2.2.2.2.1 s.2.2.2.2.2.1 h) M (v1,v2,v6,v15,v16,v17,()) h
def nA9 (N:Nat) (a0 a1:SL) (a2:(Unit)) (h:Heap):Option (Bool×Heap):=let x1:=!kB (Int.ofNat a0.len) (Int.ofNat a1.len);(bif x1 then some (false,h)else(fE (tA3 N N a1 (()) false a0 (Int.ofNat a0.len) 0 h) fun o17 (j18:zZ) h19=>(bif gE o17 (.exit 0) then some (true,h19)else some (j18.1,h19))))
def pAn:Ann:=(.two .n (.two .n (.two (.two .n (.two (.loop [(1,zL2),(2,(.clo 166 [])),(6,zN2),(15,zL2),(16,zO2),(17,zO2)] [(.exit 0),.ret] [(6,zN2)] .n) .n)) .n)))
theorem gAh (N:Nat):gD Tryz.prog 214 [zL2,zL2,(.clo 166 [])] (.val zN2) (fun x h=>nA9 N x.1 x.2.1 x.2.2.1 h):=vD (bA (fAh N) kA) N pAn Tryz.f214
def wM (N:Nat) (a0 a1:SL) (a2:(Unit)) (h:Heap):Option (Bool×Heap):=(lA (nA9 N a0 a1 (()) h) fun (x1:Bool) h2=>some (x1,h2))
def qAn:Ann:=.n
theorem iAh (N:Nat):gD Tryz.prog 194 [zL2,zL2,(.clo 166 [])] (.val zN2) (fun x h=>wM N x.1 x.2.1 x.2.2.1 h):=vD (yB (sel:=fun a=>pJ 2 166 a) (gAh N) kA) N qAn Tryz.f194
def f165 (N:Nat) (a0 a1:zN) (h:Heap):Option (Bool×Heap):=let h1:=h.push (.row (yRB a0) .own);let h2:=h1.push (.row (yRB a1) .own);(iA (.val zO2) (h2.cell ((h.next,0).1,(h.next,0).2+0)) fun (x3:Int)=>(iA (.val zO2) (h2.cell ((h1.next,0).1,(h1.next,0).2+0)) fun (x4:Int)=>let x5:=kB x3 x4;(bif x5 then(iA (.val zE) (h2.cells ((h.next,0).1,(h.next,0).2+1) 4) fun (x6:zR)=>(iA (.val zE) (h2.cells ((h1.next,0).1,(h1.next,0).2+1) 4) fun (x7:zR)=>(lA (f166 N (x6.1,x6.2.1,x6.2.2.1,x6.2.2.2.1,()) (x7.1,x7.2.1,x7.2.2.1,x7.2.2.2.1,()) h2) fun (x8:Bool) h9=>(bif x8 then(iA (.val zE) (h9.cells ((h.next,0).1,(h.next,0).2+5) 4) fun (x10:zR)=>(iA (.val zE) (h9.cells ((h1.next,0).1,(h1.next,0).2+5) 4) fun (x11:zR)=>(lA (f166 N (x10.1,x10.2.1,x10.2.2.1,x10.2.2.2.1,()) (x11.1,x11.2.1,x11.2.2.1,x11.2.2.2.1,()) h9) fun (x12:Bool) h13=>(bif x12 then(iA (.val zO2) (h13.cell ((h.next,0).1,(h.next,0).2+9)) fun (x14:Int)=>(iA (.val zO2) (h13.cell ((h1.next,0).1,(h1.next,0).2+9)) fun (x15:Int)=>let x16:=kB x14 x15;(bif x16 then(iA (.val zJ) (h13.cells ((h.next,0).1,(h.next,0).2+10) 2) fun (x17:zU)=>(iA (.val zJ) (h13.cells ((h1.next,0).1,(h1.next,0).2+10) 2) fun (x18:zU)=>(lA (f164 N (x17.1,x17.2.1,()) (x18.1,x18.2.1,()) h13) fun (x19:Bool) h20=>(bif x19 then(iA (.val zM2) (h20.cell ((h.next,0).1,(h.next,0).2+12)) fun (x21:zQ2)=>(iA (.val zM2) (h20.cell ((h1.next,0).1,(h1.next,0).2+12)) fun (x22:zQ2)=>let x23:=mB x21 x22;(bif x23 then(iA (.val zL2) (h20.cell ((h.next,0).1,(h.next,0).2+13)) fun (x24:SL)=>
 (iA (.val zL2) (h20.cell ((h1.next,0).1,(h1.next,0).2+13)) fun (x25:SL)=>(lA (f106 N x24 x25 h20) fun (x26:Bool) h27=>(bif x26 then(iA (.val zL2) (h27.cell ((h.next,0).1,(h.next,0).2+14)) fun (x28:SL)=>(iA (.val zL2) (h27.cell ((h1.next,0).1,(h1.next,0).2+14)) fun (x29:SL)=>(lA (wM N x28 x29 (()) h27) fun (x30:Bool) h31=>some (x30,h31))))else some (false,h27)))))else some (false,h20))))else some (false,h20)))))else some (false,h13))))else some (false,h13)))))else some (false,h9)))))else some (false,h2))))
def bBd:Ann:=.n
theorem jB5 (N:Nat):gD Tryz.prog 165 [zB,zB] (.val zN2) (fun x h=>f165 N x.1 x.2.1 h):=vD (yB (sel:=fun a=>pJ 2 166 a) (iAh N) (bA (fAh N) (bA (eAh N) (bA (mA3 N) kA)))) N bBd Tryz.f165
def lQ (N:Nat) (rec113c114:SL→SL→(Unit)→Heap→Option (Bool×Heap)) (rec114:zL→zL→Heap→Option (Bool×Heap)) (rec163c114:SL→SL→(Unit)→Heap→Option (Bool×Heap)) (a0 a1:SL) (a2:(Unit)) (h:Heap):Option (Bool×Heap):=(lA (rec163c114 a0 a1 (()) h) fun (x1:Bool) h2=>some (x1,h2))
def rAn:Ann:=.n
def nAk (N:Nat) (rec113c114:SL→SL→(Unit)→Heap→Option (Bool×Heap)) (rec114:zL→zL→Heap→Option (Bool×Heap)) (rec163c114:SL→SL→(Unit)→Heap→Option (Bool×Heap)) (a0 a1:zL) (h:Heap):Option (Bool×Heap):=let h1:=h.push (.row (yRA a0) .own);let h2:=h1.push (.row (yRA a1) .own);(iA (.val zO2) (h2.cell ((h.next,0).1,(h.next,0).2+0)) fun (x3:Int)=>(iA (.val zO2) (h2.cell ((h1.next,0).1,(h1.next,0).2+0)) fun (x4:Int)=>let x5:=kB x3 x4;(bif x5 then(iA (.val zO2) (h2.cell ((h.next,0).1,(h.next,0).2+1)) fun (x6:Int)=>(iA (.val zO2) (h2.cell ((h1.next,0).1,(h1.next,0).2+1)) fun (x7:Int)=>let x8:=kB x6 x7;(bif x8 then(iA (.val zN2) (h2.cell ((h.next,0).1,(h.next,0).2+2)) fun (x9:Bool)=>(iA (.val zN2) (h2.cell ((h1.next,0).1,(h1.next,0).2+2)) fun (x10:Bool)=>let x11:Bool:=(bif x9 then x10 else !x10);(bif x11 then(iA (.val zM2) (h2.cell ((h.next,0).1,(h.next,0).2+3)) fun (x12:zQ2)=>(iA (.val zM2) (h2.cell ((h1.next,0).1,(h1.next,0).2+3)) fun (x13:zQ2)=>let x14:=mB x12 x13;(bif x14 then(iA (.val zN2) (h2.cell ((h.next,0).1,(h.next,0).2+8)) fun (x15:Bool)=>(iA (.val zN2) (h2.cell ((h1.next,0).1,(h1.next,0).2+8)) fun (x16:Bool)=>let x17:Bool:=(bif x15 then x16 else !x16);(bif x17 then(iA (.val zC) (h2.cells ((h.next,0).1,(h.next,0).2+4) 4) fun (x18:zM)=>(iA (.val zC) (h2.cells ((h1.next,0).1,(h1.next,0).2+4) 4) fun (x19:zM)=>(lA (f112 N N (x18.1,x18.2.1,x18.2.2.1,x18.2.2.2.1,()) (x19.1,x19.2.1,x19.2.2.1,x19.2.2.2.1,()) h2) fun (x20:Bool) h21=>(bif x20 then
 (iA (.val zJ) (h21.cells ((h.next,0).1,(h.next,0).2+9) 2) fun (x22:zU)=>(iA (.val zJ) (h21.cells ((h1.next,0).1,(h1.next,0).2+9) 2) fun (x23:zU)=>(lA (f164 N (x22.1,x22.2.1,()) (x23.1,x23.2.1,()) h21) fun (x24:Bool) h25=>(bif x24 then(iA (.val zB) (h25.cells ((h.next,0).1,(h.next,0).2+11) 15) fun (x26:zN)=>(iA (.val zB) (h25.cells ((h1.next,0).1,(h1.next,0).2+11) 15) fun (x27:zN)=>(lA (f165 N (x26.1,x26.2.1,x26.2.2.1,x26.2.2.2.1,x26.2.2.2.2.1,x26.2.2.2.2.2.1,x26.2.2.2.2.2.2.1,x26.2.2.2.2.2.2.2.1,x26.2.2.2.2.2.2.2.2.1,x26.2.2.2.2.2.2.2.2.2.1,x26.2.2.2.2.2.2.2.2.2.2.1,x26.2.2.2.2.2.2.2.2.2.2.2.1,x26.2.2.2.2.2.2.2.2.2.2.2.2.1,x26.2.2.2.2.2.2.2.2.2.2.2.2.2.1,x26.2.2.2.2.2.2.2.2.2.2.2.2.2.2.1,()) (x27.1,x27.2.1,x27.2.2.1,x27.2.2.2.1,x27.2.2.2.2.1,x27.2.2.2.2.2.1,x27.2.2.2.2.2.2.1,x27.2.2.2.2.2.2.2.1,x27.2.2.2.2.2.2.2.2.1,x27.2.2.2.2.2.2.2.2.2.1,x27.2.2.2.2.2.2.2.2.2.2.1,x27.2.2.2.2.2.2.2.2.2.2.2.1,x27.2.2.2.2.2.2.2.2.2.2.2.2.1,x27.2.2.2.2.2.2.2.2.2.2.2.2.2.1,x27.2.2.2.2.2.2.2.2.2.2.2.2.2.2.1,()) h25) fun (x28:Bool) h29=>(bif x28 then(iA (.val zE) (h29.cells ((h.next,0).1,(h.next,0).2+26) 4) fun (x30:zR)=>(iA (.val zE) (h29.cells ((h1.next,0).1,(h1.next,0).2+26) 4) fun (x31:zR)=>(lA (f166 N (x30.1,x30.2.1,x30.2.2.1,x30.2.2.2.1,()) (x31.1,x31.2.1,x31.2.2.1,x31.2.2.2.1,()) h29) fun (x32:Bool) h33=>(bif x32 then(iA (.val zL2) (h33.cell ((h.next,0).1,(h.next,0).2+30)) fun (x34:SL)=>(iA (.val zL2) (h33.cell ((h1.next,0).1,(h1.next,0).2+30)) fun (x35:SL)=>
 (lA (rec113c114 x34 x35 (()) h33) fun (x36:Bool) h37=>(bif x36 then(iA (.val zL2) (h37.cell ((h.next,0).1,(h.next,0).2+31)) fun (x38:SL)=>(iA (.val zL2) (h37.cell ((h1.next,0).1,(h1.next,0).2+31)) fun (x39:SL)=>(lA (rec113c114 x38 x39 (()) h37) fun (x40:Bool) h41=>some (x40,h41))))else some (false,h37)))))else some (false,h33)))))else some (false,h29)))))else some (false,h25)))))else some (false,h21)))))else some (false,h2))))else some (false,h2))))else some (false,h2))))else some (false,h2))))else some (false,h2))))
def cBd:Ann:=.n
def pA9 (N:Nat) (rec113c114:SL→SL→(Unit)→Heap→Option (Bool×Heap)) (rec114:zL→zL→Heap→Option (Bool×Heap)) (rec163c114:SL→SL→(Unit)→Heap→Option (Bool×Heap)) (go:SL→(Unit)→Bool→SL→Int→Int→Heap→Option (Out×zZ×Heap)) (v1:SL) (v2:(Unit)) (v6:Bool) (v15:SL) (v16 v17:Int) (h:Heap):Option (Out×zZ×Heap):=let x2:=wB v17 v16;(bif x2 then(ixK v15.a v15.len v17 32 fun q3=>(iA (.val zA) (h.cells q3 32) fun (x4:zL)=>let h5:=h.push (.row yZA .own);(rA (h5.store (h.next,0) (yRA x4)) fun h6=>(ixK v1.a v1.len v17 32 fun q7=>(iA (.val zA) (h6.cells q7 32) fun (x8:zL)=>let h9:=h6.push (.row yZA .own);(rA (h9.store (h6.next,0) (yRA x8)) fun h10=>(iA (.val zA) (h10.cells (h.next,0) 32) fun (x11:zL)=>(iA (.val zA) (h10.cells (h6.next,0) 32) fun (x12:zL)=>(lA (rec114 (x11.1,x11.2.1,x11.2.2.1,x11.2.2.2.1,x11.2.2.2.2.1,x11.2.2.2.2.2.1,x11.2.2.2.2.2.2.1,x11.2.2.2.2.2.2.2.1,x11.2.2.2.2.2.2.2.2.1,x11.2.2.2.2.2.2.2.2.2.1,x11.2.2.2.2.2.2.2.2.2.2.1,x11.2.2.2.2.2.2.2.2.2.2.2.1,x11.2.2.2.2.2.2.2.2.2.2.2.2.1,x11.2.2.2.2.2.2.2.2.2.2.2.2.2.1,x11.2.2.2.2.2.2.2.2.2.2.2.2.2.2.1,x11.2.2.2.2.2.2.2.2.2.2.2.2.2.2.2.1,x11.2.2.2.2.2.2.2.2.2.2.2.2.2.2.2.2.1,x11.2.2.2.2.2.2.2.2.2.2.2.2.2.2.2.2.2.1,x11.2.2.2.2.2.2.2.2.2.2.2.2.2.2.2.2.2.2.1,x11.2.2.2.2.2.2.2.2.2.2.2.2.2.2.2.2.2.2.2.1,x11.2.2.2.2.2.2.2.2.2.2.2.2.2.2.2.2.2.2.2.2.1,x11.2.2.2.2.2.2.2.2.2.2.2.2.2.2.2.2.2.2.2.2.2.1,x11.2.2.2.2.2.2.2.2.2.2.2.2.2.2.2.2.2.2.2.2.2.2.1,x11.2.2.2.2.2.2.2.2.2.2.2.2.2.2.2.2.2.2.2.2.2.2.2.1,x11.2.2.2.2.2.2.2.2.2.2.2.2.2.2.2.2.2.2.2.2.2.2.2.2.1,x11.2.2.2.2.2.2.2.2.2.2.2.2.2.2.2.2.2.2.2.2.2.2.2.2.2.1,x11.2.2.2.2.2.2.2.2.2.2.2.2.2.2.2.2.2.2.2.2.2.2.2.2.2.2.1,x11.2.2.2.2.2.2.2.2.2.2.2.2.2.2.2.2.2.2.2.2.2.2.2.2.2.2.2.1,x11.2.2.2.2.2.2.2.2.2.2.2.2.2.2.2.2.2.2.2.2.2.2.2.2.2.2.2.2.1,x11.2.2.2.2.2.2.2.2.2.2.2.2.2.2.2.2.2.2.2.2.2.2.2.2.2.2.2.2.2.1,x11.2.2.2.2.2.2.2.2.2.2.2.2.2.2.2.2.2.2.2.2.2.2.2.2.2.2.2.2.2.2.1,x11.2.2.2.2.2.2.2.2.2.2.2.2.2.2.2.2.2.2.2.2.2.2.2.2.2.2.2.2.2.2.2.1,()) (x12.1,x12.2.1,x12.2.2.1,x12.2.2.2.1,x12.2.2.2.2.1,x12.2.2.2.2.2.1,x12.2.2.2.2.2.2.1,x12.2.2.2.2.2.2.2.1,x12.2.2.2.2.2.2.2.2.1,x12.2.2.2.2.2.2.2.2.2.1,x12.2.2.2.2.2.2.2.2.2.2.1,x12.2.2.2.2.2.2.2.2.2.2.2.1,x12.2.2.2.2.2.2.2.2.2.2.2.2.1,x12.2.2.2.2.2.2.2.2.2.2.2.2.2.1,x12.2.2.2.2.2.2.2.2.2.2.2.2.2.2.1,x12.2.2.2.2.2.2.2.2.2.2.2.2.2.2.2.1,x12.2.2.2.2.2.2.2.2.2.2.2.2.2.2.2.2.1,x12.2.2.2.2.2.2.2.2.2.2.2.2.2.2.2.2.2.1,x12.2.2.2.2.2.2.2.2.2.2.2.2.2.2.2.2.2.2.1,x12.2.2.2.2.2.2.2.2.2.2.2.2.2.2.2.2.2.2.2.1,x12.2.2.2.2.2.2.2.2.2.2.2.2.2.2.2.2.2.2.2.2.1,x12.2.2.2.2.2.2.2.2.2.2.2.2.2.2.2.2.2.2.2.2.2.1,x12.2.2.2.2.2.2.2.2.2.2.2.2.2.2.2.2.2.2.2.2.2.2.1,x12.2.2.2.2.2.2.2.2.2.2.2.2.2.2.2.2.2.2.2.2.2.2.2.1,x12.2.2.2.2.2.2.2.2.2.2.2.2.2.2.2.2.2.2.2.2.2.2.2.2.1,x12.2.2.2.2.2.2.2.2.2.2.2.2.2.2.2.2.2.2.2.2.2.2.2.2.2.1,x12.2.2.2.2.2.2.2.2.2.2.2.2.2.2.2.2.2.2.2.2.2.2.2.2.2.2.1,x12.2.2.2.2.2.2.2.2.2.2.2.2.2.2.2.2.2.2.2.2.2.2.2.2.2.2.2.1,x12.2.2.2.2.2.2.2.2.2.2.2.2.2.2.2.2.2.2.2.2.2.2.2.2.2.2.2.2.1,x12.2.2.2.2.2.2.2.2.2.2.2.2.2.2.2.2.2.2.2.2.2.2.2.2.2.2.2.2.2.1,x12.2.2.2.2.2.2.2.2.2.2.2.2.2.2.2.2.2.2.2.2.2.2.2.2.2.2.2.2.2.2.1,x12.2.2.2.2.2.2.2.2.2.2.2.2.2.2.2.2.2.2.2.2.2.2.2.2.2.2.2.2.2.2.2.1,()) h10) fun (x13:Bool) h14=>
 let x15:=!x13;(bif x15 then some (Out.ret,(false,()),h14)else let x16:=dB .i64 (v17+1);go v1 (()) v6 v15 v16 x16 h14))))))))))else some ((Out.exit 0),(v6,()),h))
def rS (N:Nat) (rec113c114:SL→SL→(Unit)→Heap→Option (Bool×Heap)) (rec114:zL→zL→Heap→Option (Bool×Heap)) (rec163c114:SL→SL→(Unit)→Heap→Option (Bool×Heap)) (M:Nat) (v1:SL) (v2:(Unit)) (v6:Bool) (v15:SL) (v16 v17:Int) (h:Heap):Option (Out×zZ×Heap):=iter (fun go s h=>pA9 N rec113c114 rec114 rec163c114 (fun v1 v2 v6 v15 v16 v17 h=>go (v1,v2,v6,v15,v16,v17,()) h) s.1 s.2.1 s.2.2.1 s.2.2.2.1 s.2.2.2.2.1 s.2.2.2.2.2.1 h) M (v1,v2,v6,v15,v16,v17,()) h
def tAn (N:Nat) (rec113c114:SL→SL→(Unit)→Heap→Option (Bool×Heap)) (rec114:zL→zL→Heap→Option (Bool×Heap)) (rec163c114:SL→SL→(Unit)→Heap→Option (Bool×Heap)) (a0 a1:SL) (a2:(Unit)) (h:Heap):Option (Bool×Heap):=let x1:=!kB (Int.ofNat a0.len) (Int.ofNat a1.len);(bif x1 then some (false,h)else(fE (rS N rec113c114 rec114 rec163c114 N a1 (()) false a0 (Int.ofNat a0.len) 0 h) fun o17 (j18:zZ) h19=>(bif gE o17 (.exit 0) then some (true,h19)else some (j18.1,h19))))
def uAn:Ann:=(.two .n (.two .n (.two (.two .n (.two (.loop [(1,zL2),(2,(.clo 114 [])),(6,zN2),(15,zL2),(16,zO2),(17,zO2)] [(.exit 0),.ret] [(6,zN2)] .n) .n)) .n)))
def uS (N M:Nat):((SL→SL→(Unit)→Heap→Option (Bool×Heap))×(zL→zL→Heap→Option (Bool×Heap))×(SL→SL→(Unit)→Heap→Option (Bool×Heap))×Unit):=Nat.rec (fun _ _ _ _=>none,fun _ _ _=>none,fun _ _ _ _=>none,()) (fun _ r=>(lQ N r.1 r.2.1 r.2.2.1,nAk N r.1 r.2.1 r.2.2.1,tAn N r.1 r.2.1 r.2.2.1,())) M
def tG (N M:Nat):SL→SL→(Unit)→Heap→Option (Bool×Heap):=(uS N M).1
def f114 (N M:Nat):zL→zL→Heap→Option (Bool×Heap):=(uS N M).2.1
def yM (N M:Nat):SL→SL→(Unit)→Heap→Option (Bool×Heap):=(uS N M).2.2.1
theorem lV (N M a0 a1 a2 h):tG N (M+1) a0 a1 a2 h=lQ N (tG N M) (f114 N M) (yM N M) a0 a1 a2 h:=rfl
theorem lAt (N M a0 a1 h):f114 N (M+1) a0 a1 h=nAk N (tG N M) (f114 N M) (yM N M) a0 a1 h:=rfl
theorem rH (N:Nat):∀ M:Nat,(gD Tryz.prog 113 [zL2,zL2,(.clo 114 [])] (.val zN2) (fun x h=>tG N M x.1 x.2.1 x.2.2.1 h))∧(gD Tryz.prog 114 [zA,zA] (.val zN2) (fun x h=>f114 N M x.1 x.2.1 h))∧(gD Tryz.prog 163 [zL2,zL2,(.clo 114 [])] (.val zN2) (fun x h=>yM N M x.1 x.2.1 x.2.2.1 h))∧True
 | 0=>⟨(fun xs h r h' hx=>by cases hx),(fun xs h r h' hx=>by cases hx),(fun xs h r h' hx=>by cases hx),trivial⟩
 | M+1=>⟨vD (yB (sel:=fun a=>pJ 2 114 a) (rH N M).2.2.1 kA) N rAn Tryz.f113,vD (bA (fAh N) (bA (jB5 N) (bA (eAh N) (yB (sel:=fun a=>pJ 2 114 a) (rH N M).1 (bA (yAg N) kA))))) N cBd Tryz.f114,vD (bA (rH N M).2.1 kA) N uAn Tryz.f163,trivial⟩
theorem jAh (N:Nat):gD Tryz.prog 113 [zL2,zL2,(.clo 114 [])] (.val zN2) (fun x h=>tG N N x.1 x.2.1 x.2.2.1 h):=(rH N N).1
def f75 (N:Nat) (a0 a1:zS) (h:Heap):Option (Bool×Heap):=let h1:=h.push (.row (yRC a0) .own);let h2:=h1.push (.row (yRC a1) .own);(iA (.val zN2) (h2.cell ((h.next,0).1,(h.next,0).2+0)) fun (x3:Bool)=>(iA (.val zN2) (h2.cell ((h1.next,0).1,(h1.next,0).2+0)) fun (x4:Bool)=>let x5:Bool:=(bif x3 then x4 else !x4);(bif x5 then(iA (.val zM2) (h2.cell ((h.next,0).1,(h.next,0).2+1)) fun (x6:zQ2)=>(iA (.val zM2) (h2.cell ((h1.next,0).1,(h1.next,0).2+1)) fun (x7:zQ2)=>let x8:=mB x6 x7;(bif x8 then(iA (.val zO2) (h2.cell ((h.next,0).1,(h.next,0).2+9)) fun (x9:Int)=>(iA (.val zO2) (h2.cell ((h1.next,0).1,(h1.next,0).2+9)) fun (x10:Int)=>let x11:=kB x9 x10;(bif x11 then(iA (.val zL2) (h2.cell ((h.next,0).1,(h.next,0).2+2)) fun (x12:SL)=>(iA (.val zL2) (h2.cell ((h1.next,0).1,(h1.next,0).2+2)) fun (x13:SL)=>(lA (vM N x12 x13 (()) h2) fun (x14:Bool) h15=>(bif x14 then(iA (.val zL2) (h15.cell ((h.next,0).1,(h.next,0).2+3)) fun (x16:SL)=>(iA (.val zL2) (h15.cell ((h1.next,0).1,(h1.next,0).2+3)) fun (x17:SL)=>(lA (qH N x16 x17 (()) h15) fun (x18:Bool) h19=>(bif x18 then(iA (.val zC) (h19.cells ((h.next,0).1,(h.next,0).2+4) 4) fun (x20:zM)=>(iA (.val zC) (h19.cells ((h1.next,0).1,(h1.next,0).2+4) 4) fun (x21:zM)=>(lA (f112 N N (x20.1,x20.2.1,x20.2.2.1,x20.2.2.2.1,()) (x21.1,x21.2.1,x21.2.2.1,x21.2.2.2.1,()) h19) fun (x22:Bool) h23=>(bif x22 then(iA (.val zL2) (h23.cell ((h.next,0).1,(h.next,0).2+8)) fun (x24:SL)=>(iA (.val zL2) (h23.cell ((h1.next,0).1,(h1.next,0).2+8)) fun (x25:SL)=>
 (lA (tG N N x24 x25 (()) h23) fun (x26:Bool) h27=>some (x26,h27))))else some (false,h23)))))else some (false,h19)))))else some (false,h15)))))else some (false,h2))))else some (false,h2))))else some (false,h2))))
def vBh:Ann:=.n
theorem dBd (N:Nat):gD Tryz.prog 75 [zD,zD] (.val zN2) (fun x h=>f75 N x.1 x.2.1 h):=vD (yB (sel:=fun a=>pJ 2 114 a) (jAh N) (bA (yAg N) (yB (sel:=fun a=>pJ 2 111 a) (dAh N) (yB (sel:=fun a=>pJ 2 108 a) (pA3 N) kA)))) N vBh Tryz.f75
def jAd (N:Nat) (go:SL→(Unit)→Bool→SL→Int→Int→Heap→Option (Out×zZ×Heap)) (v1:SL) (v2:(Unit)) (v6:Bool) (v15:SL) (v16 v17:Int) (h:Heap):Option (Out×zZ×Heap):=let x2:=wB v17 v16;(bif x2 then(ixK v15.a v15.len v17 10 fun q3=>(iA (.val zD) (h.cells q3 10) fun (x4:zS)=>let h5:=h.push (.row yZC .own);(rA (h5.store (h.next,0) (yRC x4)) fun h6=>(ixK v1.a v1.len v17 10 fun q7=>(iA (.val zD) (h6.cells q7 10) fun (x8:zS)=>let h9:=h6.push (.row yZC .own);(rA (h9.store (h6.next,0) (yRC x8)) fun h10=>(iA (.val zD) (h10.cells (h.next,0) 10) fun (x11:zS)=>(iA (.val zD) (h10.cells (h6.next,0) 10) fun (x12:zS)=>(lA (f75 N (x11.1,x11.2.1,x11.2.2.1,x11.2.2.2.1,x11.2.2.2.2.1,x11.2.2.2.2.2.1,x11.2.2.2.2.2.2.1,x11.2.2.2.2.2.2.2.1,x11.2.2.2.2.2.2.2.2.1,x11.2.2.2.2.2.2.2.2.2.1,()) (x12.1,x12.2.1,x12.2.2.1,x12.2.2.2.1,x12.2.2.2.2.1,x12.2.2.2.2.2.1,x12.2.2.2.2.2.2.1,x12.2.2.2.2.2.2.2.1,x12.2.2.2.2.2.2.2.2.1,x12.2.2.2.2.2.2.2.2.2.1,()) h10) fun (x13:Bool) h14=>let x15:=!x13;(bif x15 then some (Out.ret,(false,()),h14)else let x16:=dB .i64 (v17+1);go v1 (()) v6 v15 v16 x16 h14))))))))))else some ((Out.exit 0),(v6,()),h))
def yA6 (N M:Nat) (v1:SL) (v2:(Unit)) (v6:Bool) (v15:SL) (v16 v17:Int) (h:Heap):Option (Out×zZ×Heap):=iter (fun go s h=>jAd N (fun v1 v2 v6 v15 v16 v17 h=>go (v1,v2,v6,v15,v16,v17,()) h) s.1 s.2.1 s.2.2.1 s.2.2.2.1 s.2.2.2.2.1 s.2.2.2.2.2.1 h) M (v1,v2,v6,v15,v16,v17,()) h
def kAh (N:Nat) (a0 a1:SL) (a2:(Unit)) (h:Heap):Option (Bool×Heap):=let x1:=!kB (Int.ofNat a0.len) (Int.ofNat a1.len);(bif x1 then some (false,h)else(fE (yA6 N N a1 (()) false a0 (Int.ofNat a0.len) 0 h) fun o17 (j18:zZ) h19=>(bif gE o17 (.exit 0) then some (true,h19)else some (j18.1,h19))))
def mAt:Ann:=(.two .n (.two .n (.two (.two .n (.two (.loop [(1,zL2),(2,(.clo 75 [])),(6,zN2),(15,zL2),(16,zO2),(17,zO2)] [(.exit 0),.ret] [(6,zN2)] .n) .n)) .n)))
theorem vAn (N:Nat):gD Tryz.prog 109 [zL2,zL2,(.clo 75 [])] (.val zN2) (fun x h=>kAh N x.1 x.2.1 x.2.2.1 h):=vD (bA (dBd N) kA) N mAt Tryz.f109
def uA3 (N:Nat) (a0 a1:SL) (a2:(Unit)) (h:Heap):Option (Bool×Heap):=(lA (kAh N a0 a1 (()) h) fun (x1:Bool) h2=>some (x1,h2))
def uAx:Ann:=.n
theorem nAt (N:Nat):gD Tryz.prog 74 [zL2,zL2,(.clo 75 [])] (.val zN2) (fun x h=>uA3 N x.1 x.2.1 x.2.2.1 h):=vD (yB (sel:=fun a=>pJ 2 75 a) (vAn N) kA) N uAx Tryz.f74
def f30 (N:Nat) (a0 a1:zE1) (h:Heap):Option (Bool×Heap):=let h1:=h.push (.row (yRJ a0) .own);let h2:=h1.push (.row (yRJ a1) .own);(iA (.val zL2) (h2.cell ((h.next,0).1,(h.next,0).2+0)) fun (x3:SL)=>(iA (.val zL2) (h2.cell ((h1.next,0).1,(h1.next,0).2+0)) fun (x4:SL)=>(lA (qA3 N x3 x4 (()) h2) fun (x5:Bool) h6=>(bif x5 then(iA (.val zL2) (h6.cell ((h.next,0).1,(h.next,0).2+1)) fun (x7:SL)=>(iA (.val zL2) (h6.cell ((h1.next,0).1,(h1.next,0).2+1)) fun (x8:SL)=>(lA (uA3 N x7 x8 (()) h6) fun (x9:Bool) h10=>some (x9,h10))))else some (false,h6)))))
def wBh:Ann:=.n
theorem eBd (N:Nat):gD Tryz.prog 30 [zK,zK] (.val zN2) (fun x h=>f30 N x.1 x.2.1 h):=vD (yB (sel:=fun a=>pJ 2 75 a) (nAt N) (yB (sel:=fun a=>pJ 2 73 a) (kAt N) kA)) N wBh Tryz.f30
end
end Qp
namespace Qp
def oAt (tys:List CTy) (n:Nat) (c:gN tys→List AV) (z:List AV) (F:gN tys→gN tys→Heap→Option (Bool×Heap)) (go:SL→Unit→Bool→SL→Int→Int→Heap→Option (Out×zZ×Heap)) (v1:SL) (v6:Bool) (v15:SL) (v16 v17:Int) (h:Heap):Option (Out×zZ×Heap):=
 bif wB v17 v16 then
  (ixK v15.a v15.len v17 n fun q3=>
  (iA (.val (.agg tys)) (h.cells q3 n) fun x4=>
  (rA ((h.push (.row z .own)).store (h.next,0) (c x4)) fun h6=>
  (ixK v1.a v1.len v17 n fun q7=>
  (iA (.val (.agg tys)) (h6.cells q7 n) fun x8=>
  (rA ((h6.push (.row z .own)).store (h6.next,0) (c x8)) fun h10=>
  (iA (.val (.agg tys)) (h10.cells (h.next,0) n) fun x11=>
  (iA (.val (.agg tys)) (h10.cells (h6.next,0) n) fun x12=>
  (lA (F x11 x12 h10) fun x13 h14=>
  (bif !x13 then some (Out.ret,(false,()),h14) else go v1 () v6 v15 v16 (dB .i64 (v17+1)) h14))))))))))
 else some ((Out.exit 0),(v6,()),h)
structure Rec (tys:List CTy) (n:Nat) (c:gN tys→List AV) (P:D→Prop):Prop where
 len:∀ r,(c r).length=n
 agg:∀ {β:Type} (r:gN tys) (K:gN tys→Option β),iA (.val (.agg tys)) (some (.agg (c r))) K=K r
 inv:∀ {h:Heap} {V:Nat→Prop} {x:D} {cs:List AV},P x→Dt h V x cs→∃ r,cs=c r
section
variable {tys:List CTy} {n:Nat} {c:gN tys→List AV} {z:List AV} {P:D→Prop}
theorem Rec.elt (R:Rec tys n c P) {h:Heap} {V:Nat→Prop} {s:SL} {xs:List D} (x:Sl h V s xs) {i:Nat} (hi:i<xs.length) (hP:P xs[i]):∃ r,h.cells (s.at i n) n=some (.agg (c r))∧Dt h V xs[i] (c r):=by
 obtain ⟨cs,e⟩:=x.elt hi;obtain ⟨r,rfl⟩:=R.inv hP e.dt;have hz:s.sz=n:=by rw [← e.len,R.len]
 have hw:=e.whole;rw [hz] at hw;exact ⟨r,hw,e.dt⟩
theorem Rec.cells (R:Rec tys n c P) {H:Heap} {A:Nat} {r:gN tys} (o:H.own A (c r)) {β:Type} (K:gN tys→Option β):iA (.val (.agg tys)) (H.cells (A,0) n) K=K r:=by
 have:H.cells (A,0) n=some (.agg (c r)):=by
  rw [o.cells (j:=0) (m:=n) (by rw [R.len];omega),List.drop_zero,List.take_of_length_le (by rw [R.len];exact Nat.le_refl _)]
 rw [this,R.agg]
theorem Rec.park (R:Rec tys n c P) (hz:z.length=n) (h:Heap) (r:gN tys):∃ h',(∀ {β:Type} (K:Heap→Option β),rA ((h.push (.row z .own)).store (h.next,0) (c r)) K=K h')∧Chg [] h h'∧h'.own h.next (c r):=by
 have o:=vA h z;have ch:=qA h (.row z .own);have hst:(h.push (.row z .own)).store (h.next,0) (c r)=some ((h.push (.row z .own)).put h.next (.row (c r) .own)):=o.store (by rw [R.len,hz]);exact ⟨_,fun K=>by rw [hst,dA],ch.put (.inr (Nat.le_refl _)) _,yA o _⟩
theorem kB5 (R:Rec tys n c P) (hz:z.length=n) {F:gN tys→gN tys→Heap→Option (Bool×Heap)} {L:Nat→SL→Unit→Bool→SL→Int→Int→Heap→Option (Out×zZ×Heap)} (hs:∀ M v1 v6 v15 v16 v17 h,L (M+1) v1 () v6 v15 v16 v17 h=oAt tys n c z F (L M) v1 v6 v15 v16 v17 h)
  {xs:List D} (hP:∀ x∈xs,P x) (hF:∀ x∈xs,∀ r1 r2 H V W,Dt H V x (c r1)→Dt H W x (c r2)→∃ H',F r1 r2 H=some (true,H')∧Chg [] H H') (hl:xs.length≤2000000) :
  ∀ (M i:Nat) (h:Heap) (V W:Nat→Prop) (s1 s2:SL),i≤xs.length→xs.length-i<M→Sl h V s1 xs→Sl h W s2 xs→∃ h',L M s2 () false s1 (xs.length:Int) (i:Int) h=some (.exit 0,(false,()),h')∧Chg [] h h':=by
 intro M
 induction M with
 | zero=>intro i _ _ _ _ _ _ h;omega
 | succ M ih=>
  intro i h V W s1 s2 hi hM x1 x2;rw [hs];unfold oAt;rw [eF]
  by_cases q:i<xs.length
  ·rw [decide_eq_true q,cond_true]
   have hm:=List.getElem_mem q;obtain ⟨r1,g1,d1⟩:=R.elt x1 q (hP _ hm);rw [x1.ix q n,g1,R.agg];obtain ⟨h6,p6,c6,o6⟩:=R.park hz h r1;rw [p6];have x2':=x2.chg c6 (by simp);obtain ⟨r2,g2,d2⟩:=R.elt x2' q (hP _ hm);rw [x2'.ix q n,g2,R.agg];obtain ⟨h10,p10,c10,o10⟩:=R.park hz h6 r2;rw [p10,R.cells (o6.chg c10 (by simp)),R.cells o10];obtain ⟨h14,e14,c14⟩:=hF _ hm r1 r2 h10 V W (Dt.chg (c6.trans c10) (by simp) d1) (Dt.chg c10 (by simp) d2);rw [e14,aA];simp only [Bool.not_true,cond_false];have c0:=(c6.trans c10).trans c14;rw [dC (by omega)];obtain ⟨h',e',c'⟩:=ih (i+1) h14 V W s1 s2 q (by omega) (x1.chg c0 (by simp)) (x2.chg c0 (by simp));exact ⟨h',e',c0.trans c'⟩
  ·rw [decide_eq_false q,cond_false]
   exact ⟨h,rfl,Chg.refl _ _⟩
theorem eB0 {h:Heap} {V W:Nat→Prop} {s1 s2:SL} {xs:List D} (x1:Sl h V s1 xs) (x2:Sl h W s2 xs):kB (Int.ofNat s1.len) (Int.ofNat s2.len)=true:=by
 rw [x1.len,x2.len,eqI];simp
end
section
variable {N:Nat} {h:Heap} {V W:Nat→Prop}
theorem lAh {s1 s2:SL} {xs:List Bs} (x1:Sl h V s1 (xs.map D.s)) (x2:Sl h W s2 (xs.map D.s)) (hl:xs.length≤2000000):∀ (M i:Nat),i≤xs.length→xs.length-i<M→eA9 N M s1 s2 false (xs.length:Int) (i:Int) h=some (.exit 0,(false,()),h):=by
 intro M
 induction M with
 | zero=>intro i _ h;omega
 | succ M ih=>
  intro i hi hM;rw [gAd];unfold lA3;simp only [eF]
  by_cases q:i<xs.length
  ·simp only [q,decide_true,cond_true]
   have q':i<(xs.map D.s).length:=by rw [List.length_map];exact q
   rw [x1.ix q' 1,jAz x1 q];simp only [fA,cD];rw [x2.ix q' 1,jAz x2 q];simp only [fA,cD,eqB.2,Bool.not_true,cond_false];rw [dC (by omega)];exact ih (i+1) q (by omega)
  ·simp only [q,decide_false,cond_false]
theorem pAt {s1 s2:SL} {xs:List Bs} (x1:Sl h V s1 (xs.map D.s)) (x2:Sl h W s2 (xs.map D.s)) (hl:xs.length≤2000000) (hN:xs.length<N):f106 N s1 s2 h=some (true,h):=by
 unfold f106;simp only [eB0 x1 x2,Bool.not_true,cond_false]
 have:=lAh (N:=N) x1 x2 hl N 0 (Nat.zero_le _) (by omega)
 have l1:s1.len=xs.length:=by rw [x1.len,List.length_map]
 rw [l1];rw [show ((0:Nat):Int)=0 from rfl] at this;rw [show Int.ofNat xs.length=(xs.length:Int) from rfl,this];rfl
theorem lB5 {nm:Bs} {s1 s2:SL} {xs:List Bs} (x1:Sl h V s1 (xs.map D.s)) (x2:Sl h W s2 (xs.map D.s)) (hl:xs.length≤2000000) (hN:xs.length<N):∃ h',f164 N (nm,s1,()) (nm,s2,()) h=some (true,h')∧Chg [] h h':=by
 unfold f164;have o1:=vA h (lfc (nm,s1,()));have c1:=qA h (.row (lfc (nm,s1,())) .own);have e1:h.push (.row [(.str nm),(.slice s1.a s1.len s1.cap s1.sz)] .own)=h.push (.row (lfc (nm,s1,())) .own):=rfl;dsimp only;rw [e1];generalize h.push (.row (lfc (nm,s1,())) .own)=h1 at *;have o2:=vA h1 (lfc (nm,s2,()));have c2:=qA h1 (.row (lfc (nm,s2,())) .own);have e2:h1.push (.row [(.str nm),(.slice s2.a s2.len s2.cap s2.sz)] .own)=h1.push (.row (lfc (nm,s2,())) .own):=rfl;rw [e2];have o1:=o1.chg c2 (by simp);generalize h1.push (.row (lfc (nm,s2,())) .own)=h2 at *;have c02:=c1.trans c2;have a0:h2.cell (h.next,0)=some (.str nm):=o1.cell 0;have a1:h2.cell (h.next,1)=some (SL.av s1):=o1.cell 1;have b0:h2.cell (h1.next,0)=some (.str nm):=o2.cell 0;have b1:h2.cell (h1.next,1)=some (SL.av s2):=o2.cell 1;simp only [Nat.zero_add,a0,a1,b0,b1,fA,cD,eqB.2,cond_true,SL.av,uA];rw [pAt (x1.chg c02 (by simp)) (x2.chg c02 (by simp)) hl hN,aA];exact ⟨_,rfl,c02⟩
end
end Qp
namespace Qp
theorem qA9 (b:Bool):(bif b then b else !b)=true:=by cases b <;> rfl
theorem mBf {N:Nat} {H h:Heap} {V W:Nat→Prop} {s1 s2:SL} {xs:List Bs} (c:Chg [] H h) (x1:Sl H V s1 (xs.map D.s)) (x2:Sl H W s2 (xs.map D.s)) (hl:xs.length≤2000000) (hN:xs.length<N):∃ h',f106 N s1 s2 h=some (true,h')∧Chg [] h h':=
 ⟨h,pAt (x1.chg c (by simp)) (x2.chg c (by simp)) hl hN,Chg.refl _ _⟩
section
variable {N:Nat} {h:Heap} {V W:Nat→Prop}
theorem vAx {k n:Int} {p1 p2:LfV} (hp:∀ H,Chg [] h H→∃ H',f164 N (p1.1,p1.2.1,()) (p2.1,p2.2.1,()) H=some (true,H')∧Chg [] H H'):∃ h',f166 N (k,n,p1.1,p1.2.1,()) (k,n,p2.1,p2.2.1,()) h=some (true,h')∧Chg [] h h':=by
 unfold f166;dsimp only;have o1:=vA h [(.int .i64 k),(.int .i64 n),(.str p1.1),(.slice p1.2.1.a p1.2.1.len p1.2.1.cap p1.2.1.sz)];have c1:=qA h (.row [(.int .i64 k),(.int .i64 n),(.str p1.1),(.slice p1.2.1.a p1.2.1.len p1.2.1.cap p1.2.1.sz)] .own);generalize h.push (.row [(.int .i64 k),(.int .i64 n),(.str p1.1),(.slice p1.2.1.a p1.2.1.len p1.2.1.cap p1.2.1.sz)] .own)=h1 at *;have o2:=vA h1 [(.int .i64 k),(.int .i64 n),(.str p2.1),(.slice p2.2.1.a p2.2.1.len p2.2.1.cap p2.2.1.sz)];have c2:=qA h1 (.row [(.int .i64 k),(.int .i64 n),(.str p2.1),(.slice p2.2.1.a p2.2.1.len p2.2.1.cap p2.2.1.sz)] .own);have o1:=o1.chg c2 (by simp);generalize h1.push (.row [(.int .i64 k),(.int .i64 n),(.str p2.1),(.slice p2.2.1.a p2.2.1.len p2.2.1.cap p2.2.1.sz)] .own)=H0 at *;have c0:=c1.trans c2
 clear c1 c2
 have qa0:H0.cell (h.next,0)=some (.int .i64 k):=o1.cell 0;have qb0:H0.cell (h1.next,0)=some (.int .i64 k):=o2.cell 0;have qa1:H0.cell (h.next,1)=some (.int .i64 n):=o1.cell 1;have qb1:H0.cell (h1.next,1)=some (.int .i64 n):=o2.cell 1;have qa2:H0.cells (h.next,2) 2=some (.agg (lfc p1)):=o1.cells (j:=2) (m:=2) (show 4≤4 by decide);have qb2:H0.cells (h1.next,2) 2=some (.agg (lfc p2)):=o2.cells (j:=2) (m:=2) (show 4≤4 by decide);simp only [Nat.zero_add,qa0,qb0,bD,dH,cond_true,qa1,qb1,fA];rw [qa2,fAo,qb2,fAo];obtain ⟨H1,qe1,qk1⟩:∃ H',f164 N (p1.1,p1.2.1,()) (p2.1,p2.2.1,()) H0=some (true,H')∧Chg [] H0 H':=hp H0 c0;rw [qe1,aA];have o1:=o1.chg qk1 (by simp);have o2:=o2.chg qk1 (by simp);have c1:=c0.trans qk1;exact ⟨_,rfl,c1⟩
theorem wAx {k o:Int} {a1 a2 b1 b2:OpV} {p1 p2:LfV} {nm:Bs} {n1 n2 g1 g2:SL} (ha:∀ H,Chg [] h H→∃ H',f166 N (a1.1,a1.2.1,a1.2.2.1,a1.2.2.2.1,()) (a2.1,a2.2.1,a2.2.2.1,a2.2.2.2.1,()) H=some (true,H')∧Chg [] H H') (hb:∀ H,Chg [] h H→∃ H',f166 N (b1.1,b1.2.1,b1.2.2.1,b1.2.2.2.1,()) (b2.1,b2.2.1,b2.2.2.1,b2.2.2.2.1,()) H=some (true,H')∧Chg [] H H') (hp:∀ H,Chg [] h H→∃ H',f164 N (p1.1,p1.2.1,()) (p2.1,p2.2.1,()) H=some (true,H')∧Chg [] H H')
  (hn:∀ H,Chg [] h H→∃ H',f106 N n1 n2 H=some (true,H')∧Chg [] H H') (hg:∀ H,Chg [] h H→∃ H',wM N g1 g2 () H=some (true,H')∧Chg [] H H'):∃ h',f165 N (k,a1.1,a1.2.1,a1.2.2.1,a1.2.2.2.1,b1.1,b1.2.1,b1.2.2.1,b1.2.2.2.1,o,p1.1,p1.2.1,nm,n1,g1,()) (k,a2.1,a2.2.1,a2.2.2.1,a2.2.2.2.1,b2.1,b2.2.1,b2.2.2.1,b2.2.2.2.1,o,p2.1,p2.2.1,nm,n2,g2,()) h=some (true,h')∧Chg [] h h':=by
 unfold f165;dsimp only;have o1:=vA h [(.int .i64 k),(.int .i64 a1.1),(.int .i64 a1.2.1),(.str a1.2.2.1),(.slice a1.2.2.2.1.a a1.2.2.2.1.len a1.2.2.2.1.cap a1.2.2.2.1.sz),(.int .i64 b1.1),(.int .i64 b1.2.1),(.str b1.2.2.1),(.slice b1.2.2.2.1.a b1.2.2.2.1.len b1.2.2.2.1.cap b1.2.2.2.1.sz),(.int .i64 o),(.str p1.1),(.slice p1.2.1.a p1.2.1.len p1.2.1.cap p1.2.1.sz),(.str nm),(.slice n1.a n1.len n1.cap n1.sz),(.slice g1.a g1.len g1.cap g1.sz)];have c1:=qA h (.row [(.int .i64 k),(.int .i64 a1.1),(.int .i64 a1.2.1),(.str a1.2.2.1),(.slice a1.2.2.2.1.a a1.2.2.2.1.len a1.2.2.2.1.cap a1.2.2.2.1.sz),(.int .i64 b1.1),(.int .i64 b1.2.1),(.str b1.2.2.1),(.slice b1.2.2.2.1.a b1.2.2.2.1.len b1.2.2.2.1.cap b1.2.2.2.1.sz),(.int .i64 o),(.str p1.1),(.slice p1.2.1.a p1.2.1.len p1.2.1.cap p1.2.1.sz),(.str nm),(.slice n1.a n1.len n1.cap n1.sz),(.slice g1.a g1.len g1.cap g1.sz)] .own);generalize h.push (.row [(.int .i64 k),(.int .i64 a1.1),(.int .i64 a1.2.1),(.str a1.2.2.1),(.slice a1.2.2.2.1.a a1.2.2.2.1.len a1.2.2.2.1.cap a1.2.2.2.1.sz),(.int .i64 b1.1),(.int .i64 b1.2.1),(.str b1.2.2.1),(.slice b1.2.2.2.1.a b1.2.2.2.1.len b1.2.2.2.1.cap b1.2.2.2.1.sz),(.int .i64 o),(.str p1.1),(.slice p1.2.1.a p1.2.1.len p1.2.1.cap p1.2.1.sz),(.str nm),(.slice n1.a n1.len n1.cap n1.sz),(.slice g1.a g1.len g1.cap g1.sz)] .own)=h1 at *;have o2:=vA h1 [(.int .i64 k),(.int .i64 a2.1),(.int .i64 a2.2.1),(.str a2.2.2.1),(.slice a2.2.2.2.1.a a2.2.2.2.1.len a2.2.2.2.1.cap a2.2.2.2.1.sz),(.int .i64 b2.1),(.int .i64 b2.2.1),(.str b2.2.2.1),(.slice b2.2.2.2.1.a b2.2.2.2.1.len b2.2.2.2.1.cap b2.2.2.2.1.sz),(.int .i64 o),(.str p2.1),(.slice p2.2.1.a p2.2.1.len p2.2.1.cap p2.2.1.sz),(.str nm),(.slice n2.a n2.len n2.cap n2.sz),(.slice g2.a g2.len g2.cap g2.sz)];have c2:=qA h1 (.row [(.int .i64 k),(.int .i64 a2.1),(.int .i64 a2.2.1),(.str a2.2.2.1),(.slice a2.2.2.2.1.a a2.2.2.2.1.len a2.2.2.2.1.cap a2.2.2.2.1.sz),(.int .i64 b2.1),(.int .i64 b2.2.1),(.str b2.2.2.1),(.slice b2.2.2.2.1.a b2.2.2.2.1.len b2.2.2.2.1.cap b2.2.2.2.1.sz),(.int .i64 o),(.str p2.1),(.slice p2.2.1.a p2.2.1.len p2.2.1.cap p2.2.1.sz),(.str nm),(.slice n2.a n2.len n2.cap n2.sz),(.slice g2.a g2.len g2.cap g2.sz)] .own);have o1:=o1.chg c2 (by simp);generalize h1.push (.row [(.int .i64 k),(.int .i64 a2.1),(.int .i64 a2.2.1),(.str a2.2.2.1),(.slice a2.2.2.2.1.a a2.2.2.2.1.len a2.2.2.2.1.cap a2.2.2.2.1.sz),(.int .i64 b2.1),(.int .i64 b2.2.1),(.str b2.2.2.1),(.slice b2.2.2.2.1.a b2.2.2.2.1.len b2.2.2.2.1.cap b2.2.2.2.1.sz),(.int .i64 o),(.str p2.1),(.slice p2.2.1.a p2.2.1.len p2.2.1.cap p2.2.1.sz),(.str nm),(.slice n2.a n2.len n2.cap n2.sz),(.slice g2.a g2.len g2.cap g2.sz)] .own)=H0 at *;have c0:=c1.trans c2
 clear c1 c2
 have qa0:H0.cell (h.next,0)=some (.int .i64 k):=o1.cell 0;have qb0:H0.cell (h1.next,0)=some (.int .i64 k):=o2.cell 0;have qa1:H0.cells (h.next,1) 4=some (.agg (opc a1)):=o1.cells (j:=1) (m:=4) (show 5≤15 by decide);have qb1:H0.cells (h1.next,1) 4=some (.agg (opc a2)):=o2.cells (j:=1) (m:=4) (show 5≤15 by decide);simp only [Nat.zero_add,qa0,qb0,bD,dH,cond_true,fA];rw [qa1,gAo,qb1,gAo];obtain ⟨H1,qe1,qk1⟩:∃ H',f166 N (a1.1,a1.2.1,a1.2.2.1,a1.2.2.2.1,()) (a2.1,a2.2.1,a2.2.2.1,a2.2.2.2.1,()) H0=some (true,H')∧Chg [] H0 H':=ha H0 c0;rw [qe1,aA];have o1:=o1.chg qk1 (by simp);have o2:=o2.chg qk1 (by simp);have c1:=c0.trans qk1;have qa5:H1.cells (h.next,5) 4=some (.agg (opc b1)):=o1.cells (j:=5) (m:=4) (show 9≤15 by decide);have qb5:H1.cells (h1.next,5) 4=some (.agg (opc b2)):=o2.cells (j:=5) (m:=4) (show 9≤15 by decide);simp only [Nat.zero_add,cond_true,fA];rw [qa5,gAo,qb5,gAo];obtain ⟨H2,qe2,qk2⟩:∃ H',f166 N (b1.1,b1.2.1,b1.2.2.1,b1.2.2.2.1,()) (b2.1,b2.2.1,b2.2.2.1,b2.2.2.2.1,()) H1=some (true,H')∧Chg [] H1 H':=hb H1 c1;rw [qe2,aA];have o1:=o1.chg qk2 (by simp);have o2:=o2.chg qk2 (by simp);have c2:=c1.trans qk2;have qa9:H2.cell (h.next,9)=some (.int .i64 o):=o1.cell 9;have qb9:H2.cell (h1.next,9)=some (.int .i64 o):=o2.cell 9;have qa10:H2.cells (h.next,10) 2=some (.agg (lfc p1)):=o1.cells (j:=10) (m:=2) (show 12≤15 by decide);have qb10:H2.cells (h1.next,10) 2=some (.agg (lfc p2)):=o2.cells (j:=10) (m:=2) (show 12≤15 by decide);simp only [Nat.zero_add,qa9,qb9,bD,dH,cond_true,fA];rw [qa10,fAo,qb10,fAo];obtain ⟨H3,qe3,qk3⟩:∃ H',f164 N (p1.1,p1.2.1,()) (p2.1,p2.2.1,()) H2=some (true,H')∧Chg [] H2 H':=hp H2 c2;rw [qe3,aA];have o1:=o1.chg qk3 (by simp);have o2:=o2.chg qk3 (by simp);have c3:=c2.trans qk3;have qa12:H3.cell (h.next,12)=some (.str nm):=o1.cell 12;have qb12:H3.cell (h1.next,12)=some (.str nm):=o2.cell 12;have qa13:H3.cell (h.next,13)=some (.slice n1.a n1.len n1.cap n1.sz):=o1.cell 13;have qb13:H3.cell (h1.next,13)=some (.slice n2.a n2.len n2.cap n2.sz):=o2.cell 13;simp only [Nat.zero_add,qa12,qb12,cD,eqB.2,cond_true,qa13,qb13,uA,fA];obtain ⟨H4,qe4,qk4⟩:∃ H',f106 N n1 n2  H3=some (true,H')∧Chg [] H3 H':=hn H3 c3;show ∃ h',(lA (f106 N n1 n2  H3) _)=_∧_;rw [qe4,aA];have o1:=o1.chg qk4 (by simp);have o2:=o2.chg qk4 (by simp);have c4:=c3.trans qk4;have qa14:H4.cell (h.next,14)=some (.slice g1.a g1.len g1.cap g1.sz):=o1.cell 14;have qb14:H4.cell (h1.next,14)=some (.slice g2.a g2.len g2.cap g2.sz):=o2.cell 14;simp only [Nat.zero_add,qa14,qb14,uA,cond_true,fA];obtain ⟨H5,qe5,qk5⟩:∃ H',wM N g1 g2 () H4=some (true,H')∧Chg [] H4 H':=hg H4 c4;show ∃ h',(lA (wM N g1 g2 () H4) _)=_∧_;rw [qe5,aA];have o1:=o1.chg qk5 (by simp);have o2:=o2.chg qk5 (by simp);have c5:=c4.trans qk5;exact ⟨_,rfl,c5⟩
theorem yAx {rec112 rec162c112 rec193c112} {k:Int} {x:Bs} {l1 l2 e1 e2:SL} (hl:∀ H,Chg [] h H→∃ H',f106 N l1 l2 H=some (true,H')∧Chg [] H H') (he:∀ H,Chg [] h H→∃ H',rec162c112 e1 e2 () H=some (true,H')∧Chg [] H H'):∃ h',mAk N rec112 rec162c112 rec193c112 (k,x,l1,e1,()) (k,x,l2,e2,()) h=some (true,h')∧Chg [] h h':=by
 unfold mAk;dsimp only;have o1:=vA h [(.int .i64 k),(.str x),(.slice l1.a l1.len l1.cap l1.sz),(.slice e1.a e1.len e1.cap e1.sz)];have c1:=qA h (.row [(.int .i64 k),(.str x),(.slice l1.a l1.len l1.cap l1.sz),(.slice e1.a e1.len e1.cap e1.sz)] .own);generalize h.push (.row [(.int .i64 k),(.str x),(.slice l1.a l1.len l1.cap l1.sz),(.slice e1.a e1.len e1.cap e1.sz)] .own)=h1 at *;have o2:=vA h1 [(.int .i64 k),(.str x),(.slice l2.a l2.len l2.cap l2.sz),(.slice e2.a e2.len e2.cap e2.sz)];have c2:=qA h1 (.row [(.int .i64 k),(.str x),(.slice l2.a l2.len l2.cap l2.sz),(.slice e2.a e2.len e2.cap e2.sz)] .own);have o1:=o1.chg c2 (by simp);generalize h1.push (.row [(.int .i64 k),(.str x),(.slice l2.a l2.len l2.cap l2.sz),(.slice e2.a e2.len e2.cap e2.sz)] .own)=H0 at *;have c0:=c1.trans c2
 clear c1 c2
 have qa0:H0.cell (h.next,0)=some (.int .i64 k):=o1.cell 0;have qb0:H0.cell (h1.next,0)=some (.int .i64 k):=o2.cell 0;have qa1:H0.cell (h.next,1)=some (.str x):=o1.cell 1;have qb1:H0.cell (h1.next,1)=some (.str x):=o2.cell 1;have qa2:H0.cell (h.next,2)=some (.slice l1.a l1.len l1.cap l1.sz):=o1.cell 2;have qb2:H0.cell (h1.next,2)=some (.slice l2.a l2.len l2.cap l2.sz):=o2.cell 2;simp only [Nat.zero_add,qa0,qb0,bD,dH,cond_true,qa1,qb1,cD,eqB.2,qa2,qb2,uA,fA];obtain ⟨H1,qe1,qk1⟩:∃ H',f106 N l1 l2  H0=some (true,H')∧Chg [] H0 H':=hl H0 c0;show ∃ h',(lA (f106 N l1 l2  H0) _)=_∧_;rw [qe1,aA];have o1:=o1.chg qk1 (by simp);have o2:=o2.chg qk1 (by simp);have c1:=c0.trans qk1;have qa3:H1.cell (h.next,3)=some (.slice e1.a e1.len e1.cap e1.sz):=o1.cell 3;have qb3:H1.cell (h1.next,3)=some (.slice e2.a e2.len e2.cap e2.sz):=o2.cell 3;simp only [Nat.zero_add,qa3,qb3,uA,cond_true,fA];obtain ⟨H2,qe2,qk2⟩:∃ H',rec162c112 e1 e2 () H1=some (true,H')∧Chg [] H1 H':=he H1 c1;show ∃ h',(lA (rec162c112 e1 e2 () H1) _)=_∧_;rw [qe2,aA];have o1:=o1.chg qk2 (by simp);have o2:=o2.chg qk2 (by simp);have c2:=c1.trans qk2;exact ⟨_,rfl,c2⟩
theorem aAy {m:Bool} {nm:Bs} {t1 t2:TyV} (ht:∀ H,Chg [] h H→∃ H',f112 N N (t1.1,t1.2.1,t1.2.2.1,t1.2.2.2.1,()) (t2.1,t2.2.1,t2.2.2.1,t2.2.2.2.1,()) H=some (true,H')∧Chg [] H H'):∃ h',f108 N (m,nm,t1.1,t1.2.1,t1.2.2.1,t1.2.2.2.1,()) (m,nm,t2.1,t2.2.1,t2.2.2.1,t2.2.2.2.1,()) h=some (true,h')∧Chg [] h h':=by
 unfold f108;dsimp only;have o1:=vA h [(.bool m),(.str nm),(.int .i64 t1.1),(.str t1.2.1),(.slice t1.2.2.1.a t1.2.2.1.len t1.2.2.1.cap t1.2.2.1.sz),(.slice t1.2.2.2.1.a t1.2.2.2.1.len t1.2.2.2.1.cap t1.2.2.2.1.sz)];have c1:=qA h (.row [(.bool m),(.str nm),(.int .i64 t1.1),(.str t1.2.1),(.slice t1.2.2.1.a t1.2.2.1.len t1.2.2.1.cap t1.2.2.1.sz),(.slice t1.2.2.2.1.a t1.2.2.2.1.len t1.2.2.2.1.cap t1.2.2.2.1.sz)] .own);generalize h.push (.row [(.bool m),(.str nm),(.int .i64 t1.1),(.str t1.2.1),(.slice t1.2.2.1.a t1.2.2.1.len t1.2.2.1.cap t1.2.2.1.sz),(.slice t1.2.2.2.1.a t1.2.2.2.1.len t1.2.2.2.1.cap t1.2.2.2.1.sz)] .own)=h1 at *;have o2:=vA h1 [(.bool m),(.str nm),(.int .i64 t2.1),(.str t2.2.1),(.slice t2.2.2.1.a t2.2.2.1.len t2.2.2.1.cap t2.2.2.1.sz),(.slice t2.2.2.2.1.a t2.2.2.2.1.len t2.2.2.2.1.cap t2.2.2.2.1.sz)];have c2:=qA h1 (.row [(.bool m),(.str nm),(.int .i64 t2.1),(.str t2.2.1),(.slice t2.2.2.1.a t2.2.2.1.len t2.2.2.1.cap t2.2.2.1.sz),(.slice t2.2.2.2.1.a t2.2.2.2.1.len t2.2.2.2.1.cap t2.2.2.2.1.sz)] .own);have o1:=o1.chg c2 (by simp);generalize h1.push (.row [(.bool m),(.str nm),(.int .i64 t2.1),(.str t2.2.1),(.slice t2.2.2.1.a t2.2.2.1.len t2.2.2.1.cap t2.2.2.1.sz),(.slice t2.2.2.2.1.a t2.2.2.2.1.len t2.2.2.2.1.cap t2.2.2.2.1.sz)] .own)=H0 at *;have c0:=c1.trans c2
 clear c1 c2
 have qa0:H0.cell (h.next,0)=some (.bool m):=o1.cell 0;have qb0:H0.cell (h1.next,0)=some (.bool m):=o2.cell 0;have qa1:H0.cell (h.next,1)=some (.str nm):=o1.cell 1;have qb1:H0.cell (h1.next,1)=some (.str nm):=o2.cell 1;have qa2:H0.cells (h.next,2) 4=some (.agg (tyc t1)):=o1.cells (j:=2) (m:=4) (show 6≤6 by decide);have qb2:H0.cells (h1.next,2) 4=some (.agg (tyc t2)):=o2.cells (j:=2) (m:=4) (show 6≤6 by decide);simp only [Nat.zero_add,qa0,qb0,rB,qA9,cond_true,qa1,qb1,cD,eqB.2,fA];rw [qa2,jAm,qb2,jAm];obtain ⟨H1,qe1,qk1⟩:∃ H',f112 N N (t1.1,t1.2.1,t1.2.2.1,t1.2.2.2.1,()) (t2.1,t2.2.1,t2.2.2.1,t2.2.2.2.1,()) H0=some (true,H')∧Chg [] H0 H':=ht H0 c0;rw [qe1,aA];have o1:=o1.chg qk1 (by simp);have o2:=o2.chg qk1 (by simp);have c1:=c0.trans qk1;exact ⟨_,rfl,c1⟩
theorem mB5 {m:Bool} {nm:Bs} {a:Int} {l1 l2 g1 g2:SL} (hl:∀ H,Chg [] h H→∃ H',f106 N l1 l2 H=some (true,H')∧Chg [] H H') (hg:∀ H,Chg [] h H→∃ H',qH N g1 g2 () H=some (true,H')∧Chg [] H H'):∃ h',f73 N (m,nm,l1,g1,a,()) (m,nm,l2,g2,a,()) h=some (true,h')∧Chg [] h h':=by
 unfold f73;dsimp only;have o1:=vA h [(.bool m),(.str nm),(.slice l1.a l1.len l1.cap l1.sz),(.slice g1.a g1.len g1.cap g1.sz),(.int .i64 a)];have c1:=qA h (.row [(.bool m),(.str nm),(.slice l1.a l1.len l1.cap l1.sz),(.slice g1.a g1.len g1.cap g1.sz),(.int .i64 a)] .own);generalize h.push (.row [(.bool m),(.str nm),(.slice l1.a l1.len l1.cap l1.sz),(.slice g1.a g1.len g1.cap g1.sz),(.int .i64 a)] .own)=h1 at *;have o2:=vA h1 [(.bool m),(.str nm),(.slice l2.a l2.len l2.cap l2.sz),(.slice g2.a g2.len g2.cap g2.sz),(.int .i64 a)];have c2:=qA h1 (.row [(.bool m),(.str nm),(.slice l2.a l2.len l2.cap l2.sz),(.slice g2.a g2.len g2.cap g2.sz),(.int .i64 a)] .own);have o1:=o1.chg c2 (by simp);generalize h1.push (.row [(.bool m),(.str nm),(.slice l2.a l2.len l2.cap l2.sz),(.slice g2.a g2.len g2.cap g2.sz),(.int .i64 a)] .own)=H0 at *;have c0:=c1.trans c2
 clear c1 c2
 have qa0:H0.cell (h.next,0)=some (.bool m):=o1.cell 0;have qb0:H0.cell (h1.next,0)=some (.bool m):=o2.cell 0;have qa1:H0.cell (h.next,1)=some (.str nm):=o1.cell 1;have qb1:H0.cell (h1.next,1)=some (.str nm):=o2.cell 1;have qa4:H0.cell (h.next,4)=some (.int .i64 a):=o1.cell 4;have qb4:H0.cell (h1.next,4)=some (.int .i64 a):=o2.cell 4;have qa2:H0.cell (h.next,2)=some (.slice l1.a l1.len l1.cap l1.sz):=o1.cell 2;have qb2:H0.cell (h1.next,2)=some (.slice l2.a l2.len l2.cap l2.sz):=o2.cell 2;simp only [Nat.zero_add,qa0,qb0,rB,qA9,cond_true,qa1,qb1,cD,eqB.2,qa4,qb4,bD,dH,qa2,qb2,uA,fA];obtain ⟨H1,qe1,qk1⟩:∃ H',f106 N l1 l2  H0=some (true,H')∧Chg [] H0 H':=hl H0 c0;show ∃ h',(lA (f106 N l1 l2  H0) _)=_∧_;rw [qe1,aA];have o1:=o1.chg qk1 (by simp);have o2:=o2.chg qk1 (by simp);have c1:=c0.trans qk1;have qa3:H1.cell (h.next,3)=some (.slice g1.a g1.len g1.cap g1.sz):=o1.cell 3;have qb3:H1.cell (h1.next,3)=some (.slice g2.a g2.len g2.cap g2.sz):=o2.cell 3;simp only [Nat.zero_add,qa3,qb3,uA,cond_true,fA];obtain ⟨H2,qe2,qk2⟩:∃ H',qH N g1 g2 () H1=some (true,H')∧Chg [] H1 H':=hg H1 c1;show ∃ h',(lA (qH N g1 g2 () H1) _)=_∧_;rw [qe2,aA];have o1:=o1.chg qk2 (by simp);have o2:=o2.chg qk2 (by simp);have c2:=c1.trans qk2;exact ⟨_,rfl,c2⟩
theorem bAy {nm:Bs} {l1 l2:SL} (hl:∀ H,Chg [] h H→∃ H',f106 N l1 l2 H=some (true,H')∧Chg [] H H'):∃ h',f111 N (nm,l1,()) (nm,l2,()) h=some (true,h')∧Chg [] h h':=by
 unfold f111;dsimp only;have o1:=vA h [(.str nm),(.slice l1.a l1.len l1.cap l1.sz)];have c1:=qA h (.row [(.str nm),(.slice l1.a l1.len l1.cap l1.sz)] .own);generalize h.push (.row [(.str nm),(.slice l1.a l1.len l1.cap l1.sz)] .own)=h1 at *;have o2:=vA h1 [(.str nm),(.slice l2.a l2.len l2.cap l2.sz)];have c2:=qA h1 (.row [(.str nm),(.slice l2.a l2.len l2.cap l2.sz)] .own);have o1:=o1.chg c2 (by simp);generalize h1.push (.row [(.str nm),(.slice l2.a l2.len l2.cap l2.sz)] .own)=H0 at *;have c0:=c1.trans c2
 clear c1 c2
 have qa0:H0.cell (h.next,0)=some (.str nm):=o1.cell 0;have qb0:H0.cell (h1.next,0)=some (.str nm):=o2.cell 0;have qa1:H0.cell (h.next,1)=some (.slice l1.a l1.len l1.cap l1.sz):=o1.cell 1;have qb1:H0.cell (h1.next,1)=some (.slice l2.a l2.len l2.cap l2.sz):=o2.cell 1;simp only [Nat.zero_add,qa0,qb0,cD,eqB.2,cond_true,qa1,qb1,uA,fA];obtain ⟨H1,qe1,qk1⟩:∃ H',f106 N l1 l2  H0=some (true,H')∧Chg [] H0 H':=hl H0 c0;show ∃ h',(lA (f106 N l1 l2  H0) _)=_∧_;rw [qe1,aA];have o1:=o1.chg qk1 (by simp);have o2:=o2.chg qk1 (by simp);have c1:=c0.trans qk1;exact ⟨_,rfl,c1⟩
theorem nB5 {m:Bool} {nm:Bs} {a:Int} {l1 l2 p1 p2 b1 b2:SL} {t1 t2:TyV} (hl:∀ H,Chg [] h H→∃ H',vM N l1 l2 () H=some (true,H')∧Chg [] H H') (hp:∀ H,Chg [] h H→∃ H',qH N p1 p2 () H=some (true,H')∧Chg [] H H') (ht:∀ H,Chg [] h H→∃ H',f112 N N (t1.1,t1.2.1,t1.2.2.1,t1.2.2.2.1,()) (t2.1,t2.2.1,t2.2.2.1,t2.2.2.2.1,()) H=some (true,H')∧Chg [] H H') (hb:∀ H,Chg [] h H→∃ H',tG N N b1 b2 () H=some (true,H')∧Chg [] H H'):∃ h',f75 N (m,nm,l1,p1,t1.1,t1.2.1,t1.2.2.1,t1.2.2.2.1,b1,a,()) (m,nm,l2,p2,t2.1,t2.2.1,t2.2.2.1,t2.2.2.2.1,b2,a,()) h=some (true,h')∧Chg [] h h':=by
 unfold f75;dsimp only;have o1:=vA h [(.bool m),(.str nm),(.slice l1.a l1.len l1.cap l1.sz),(.slice p1.a p1.len p1.cap p1.sz),(.int .i64 t1.1),(.str t1.2.1),(.slice t1.2.2.1.a t1.2.2.1.len t1.2.2.1.cap t1.2.2.1.sz),(.slice t1.2.2.2.1.a t1.2.2.2.1.len t1.2.2.2.1.cap t1.2.2.2.1.sz),(.slice b1.a b1.len b1.cap b1.sz),(.int .i64 a)];have c1:=qA h (.row [(.bool m),(.str nm),(.slice l1.a l1.len l1.cap l1.sz),(.slice p1.a p1.len p1.cap p1.sz),(.int .i64 t1.1),(.str t1.2.1),(.slice t1.2.2.1.a t1.2.2.1.len t1.2.2.1.cap t1.2.2.1.sz),(.slice t1.2.2.2.1.a t1.2.2.2.1.len t1.2.2.2.1.cap t1.2.2.2.1.sz),(.slice b1.a b1.len b1.cap b1.sz),(.int .i64 a)] .own);generalize h.push (.row [(.bool m),(.str nm),(.slice l1.a l1.len l1.cap l1.sz),(.slice p1.a p1.len p1.cap p1.sz),(.int .i64 t1.1),(.str t1.2.1),(.slice t1.2.2.1.a t1.2.2.1.len t1.2.2.1.cap t1.2.2.1.sz),(.slice t1.2.2.2.1.a t1.2.2.2.1.len t1.2.2.2.1.cap t1.2.2.2.1.sz),(.slice b1.a b1.len b1.cap b1.sz),(.int .i64 a)] .own)=h1 at *;have o2:=vA h1 [(.bool m),(.str nm),(.slice l2.a l2.len l2.cap l2.sz),(.slice p2.a p2.len p2.cap p2.sz),(.int .i64 t2.1),(.str t2.2.1),(.slice t2.2.2.1.a t2.2.2.1.len t2.2.2.1.cap t2.2.2.1.sz),(.slice t2.2.2.2.1.a t2.2.2.2.1.len t2.2.2.2.1.cap t2.2.2.2.1.sz),(.slice b2.a b2.len b2.cap b2.sz),(.int .i64 a)];have c2:=qA h1 (.row [(.bool m),(.str nm),(.slice l2.a l2.len l2.cap l2.sz),(.slice p2.a p2.len p2.cap p2.sz),(.int .i64 t2.1),(.str t2.2.1),(.slice t2.2.2.1.a t2.2.2.1.len t2.2.2.1.cap t2.2.2.1.sz),(.slice t2.2.2.2.1.a t2.2.2.2.1.len t2.2.2.2.1.cap t2.2.2.2.1.sz),(.slice b2.a b2.len b2.cap b2.sz),(.int .i64 a)] .own);have o1:=o1.chg c2 (by simp);generalize h1.push (.row [(.bool m),(.str nm),(.slice l2.a l2.len l2.cap l2.sz),(.slice p2.a p2.len p2.cap p2.sz),(.int .i64 t2.1),(.str t2.2.1),(.slice t2.2.2.1.a t2.2.2.1.len t2.2.2.1.cap t2.2.2.1.sz),(.slice t2.2.2.2.1.a t2.2.2.2.1.len t2.2.2.2.1.cap t2.2.2.2.1.sz),(.slice b2.a b2.len b2.cap b2.sz),(.int .i64 a)] .own)=H0 at *;have c0:=c1.trans c2
 clear c1 c2
 have qa0:H0.cell (h.next,0)=some (.bool m):=o1.cell 0;have qb0:H0.cell (h1.next,0)=some (.bool m):=o2.cell 0;have qa1:H0.cell (h.next,1)=some (.str nm):=o1.cell 1;have qb1:H0.cell (h1.next,1)=some (.str nm):=o2.cell 1;have qa9:H0.cell (h.next,9)=some (.int .i64 a):=o1.cell 9;have qb9:H0.cell (h1.next,9)=some (.int .i64 a):=o2.cell 9;have qa2:H0.cell (h.next,2)=some (.slice l1.a l1.len l1.cap l1.sz):=o1.cell 2;have qb2:H0.cell (h1.next,2)=some (.slice l2.a l2.len l2.cap l2.sz):=o2.cell 2;simp only [Nat.zero_add,qa0,qb0,rB,qA9,cond_true,qa1,qb1,cD,eqB.2,qa9,qb9,bD,dH,qa2,qb2,uA,fA];obtain ⟨H1,qe1,qk1⟩:∃ H',vM N l1 l2 () H0=some (true,H')∧Chg [] H0 H':=hl H0 c0;show ∃ h',(lA (vM N l1 l2 () H0) _)=_∧_;rw [qe1,aA];have o1:=o1.chg qk1 (by simp);have o2:=o2.chg qk1 (by simp);have c1:=c0.trans qk1;have qa3:H1.cell (h.next,3)=some (.slice p1.a p1.len p1.cap p1.sz):=o1.cell 3;have qb3:H1.cell (h1.next,3)=some (.slice p2.a p2.len p2.cap p2.sz):=o2.cell 3;simp only [Nat.zero_add,qa3,qb3,uA,cond_true,fA];obtain ⟨H2,qe2,qk2⟩:∃ H',qH N p1 p2 () H1=some (true,H')∧Chg [] H1 H':=hp H1 c1;show ∃ h',(lA (qH N p1 p2 () H1) _)=_∧_;rw [qe2,aA];have o1:=o1.chg qk2 (by simp);have o2:=o2.chg qk2 (by simp);have c2:=c1.trans qk2;have qa4:H2.cells (h.next,4) 4=some (.agg (tyc t1)):=o1.cells (j:=4) (m:=4) (show 8≤10 by decide);have qb4:H2.cells (h1.next,4) 4=some (.agg (tyc t2)):=o2.cells (j:=4) (m:=4) (show 8≤10 by decide);simp only [Nat.zero_add,cond_true,fA];rw [qa4,jAm,qb4,jAm];obtain ⟨H3,qe3,qk3⟩:∃ H',f112 N N (t1.1,t1.2.1,t1.2.2.1,t1.2.2.2.1,()) (t2.1,t2.2.1,t2.2.2.1,t2.2.2.2.1,()) H2=some (true,H')∧Chg [] H2 H':=ht H2 c2;rw [qe3,aA];have o1:=o1.chg qk3 (by simp);have o2:=o2.chg qk3 (by simp);have c3:=c2.trans qk3;have qa8:H3.cell (h.next,8)=some (.slice b1.a b1.len b1.cap b1.sz):=o1.cell 8;have qb8:H3.cell (h1.next,8)=some (.slice b2.a b2.len b2.cap b2.sz):=o2.cell 8;simp only [Nat.zero_add,qa8,qb8,uA,cond_true,fA];obtain ⟨H4,qe4,qk4⟩:∃ H',tG N N b1 b2 () H3=some (true,H')∧Chg [] H3 H':=hb H3 c3;show ∃ h',(lA (tG N N b1 b2 () H3) _)=_∧_;rw [qe4,aA];have o1:=o1.chg qk4 (by simp);have o2:=o2.chg qk4 (by simp);have c4:=c3.trans qk4;exact ⟨_,rfl,c4⟩
theorem cAy {rec113c114 rec114 rec163c114} {k a:Int} {m hs:Bool} {nm:Bs} {t1 t2:TyV} {p1 p2:LfV} {v1 v2:VaV} {o1 o2:OpV} {th1 th2 el1 el2:SL} (ht:∀ H,Chg [] h H→∃ H',f112 N N (t1.1,t1.2.1,t1.2.2.1,t1.2.2.2.1,()) (t2.1,t2.2.1,t2.2.2.1,t2.2.2.2.1,()) H=some (true,H')∧Chg [] H H') (hp:∀ H,Chg [] h H→∃ H',f164 N (p1.1,p1.2.1,()) (p2.1,p2.2.1,()) H=some (true,H')∧Chg [] H H') (hv:∀ H,Chg [] h H→∃ H',f165 N (v1.1,v1.2.1,v1.2.2.1,v1.2.2.2.1,v1.2.2.2.2.1,v1.2.2.2.2.2.1,v1.2.2.2.2.2.2.1,v1.2.2.2.2.2.2.2.1,v1.2.2.2.2.2.2.2.2.1,v1.2.2.2.2.2.2.2.2.2.1,v1.2.2.2.2.2.2.2.2.2.2.1,v1.2.2.2.2.2.2.2.2.2.2.2.1,v1.2.2.2.2.2.2.2.2.2.2.2.2.1,v1.2.2.2.2.2.2.2.2.2.2.2.2.2.1,v1.2.2.2.2.2.2.2.2.2.2.2.2.2.2.1,()) (v2.1,v2.2.1,v2.2.2.1,v2.2.2.2.1,v2.2.2.2.2.1,v2.2.2.2.2.2.1,v2.2.2.2.2.2.2.1,v2.2.2.2.2.2.2.2.1,v2.2.2.2.2.2.2.2.2.1,v2.2.2.2.2.2.2.2.2.2.1,v2.2.2.2.2.2.2.2.2.2.2.1,v2.2.2.2.2.2.2.2.2.2.2.2.1,v2.2.2.2.2.2.2.2.2.2.2.2.2.1,v2.2.2.2.2.2.2.2.2.2.2.2.2.2.1,v2.2.2.2.2.2.2.2.2.2.2.2.2.2.2.1,()) H=some (true,H')∧Chg [] H H') (ho:∀ H,Chg [] h H→∃ H',f166 N (o1.1,o1.2.1,o1.2.2.1,o1.2.2.2.1,()) (o2.1,o2.2.1,o2.2.2.1,o2.2.2.2.1,()) H=some (true,H')∧Chg [] H H')
  (hth:∀ H,Chg [] h H→∃ H',rec113c114 th1 th2 () H=some (true,H')∧Chg [] H H') (hel:∀ H,Chg [] h H→∃ H',rec113c114 el1 el2 () H=some (true,H')∧Chg [] H H'):∃ h',nAk N rec113c114 rec114 rec163c114 (k,a,m,nm,t1.1,t1.2.1,t1.2.2.1,t1.2.2.2.1,hs,p1.1,p1.2.1,v1.1,v1.2.1,v1.2.2.1,v1.2.2.2.1,v1.2.2.2.2.1,v1.2.2.2.2.2.1,v1.2.2.2.2.2.2.1,v1.2.2.2.2.2.2.2.1,v1.2.2.2.2.2.2.2.2.1,v1.2.2.2.2.2.2.2.2.2.1,v1.2.2.2.2.2.2.2.2.2.2.1,v1.2.2.2.2.2.2.2.2.2.2.2.1,v1.2.2.2.2.2.2.2.2.2.2.2.2.1,v1.2.2.2.2.2.2.2.2.2.2.2.2.2.1,v1.2.2.2.2.2.2.2.2.2.2.2.2.2.2.1,o1.1,o1.2.1,o1.2.2.1,o1.2.2.2.1,th1,el1,()) (k,a,m,nm,t2.1,t2.2.1,t2.2.2.1,t2.2.2.2.1,hs,p2.1,p2.2.1,v2.1,v2.2.1,v2.2.2.1,v2.2.2.2.1,v2.2.2.2.2.1,v2.2.2.2.2.2.1,v2.2.2.2.2.2.2.1,v2.2.2.2.2.2.2.2.1,v2.2.2.2.2.2.2.2.2.1,v2.2.2.2.2.2.2.2.2.2.1,v2.2.2.2.2.2.2.2.2.2.2.1,v2.2.2.2.2.2.2.2.2.2.2.2.1,v2.2.2.2.2.2.2.2.2.2.2.2.2.1,v2.2.2.2.2.2.2.2.2.2.2.2.2.2.1,v2.2.2.2.2.2.2.2.2.2.2.2.2.2.2.1,o2.1,o2.2.1,o2.2.2.1,o2.2.2.2.1,th2,el2,()) h=some (true,h')∧Chg [] h h':=by
 unfold nAk;dsimp only;have O1:=vA h [(.int .i64 k),(.int .i64 a),(.bool m),(.str nm),(.int .i64 t1.1),(.str t1.2.1),(.slice t1.2.2.1.a t1.2.2.1.len t1.2.2.1.cap t1.2.2.1.sz),(.slice t1.2.2.2.1.a t1.2.2.2.1.len t1.2.2.2.1.cap t1.2.2.2.1.sz),(.bool hs),(.str p1.1),(.slice p1.2.1.a p1.2.1.len p1.2.1.cap p1.2.1.sz),(.int .i64 v1.1),(.int .i64 v1.2.1),(.int .i64 v1.2.2.1),(.str v1.2.2.2.1),(.slice v1.2.2.2.2.1.a v1.2.2.2.2.1.len v1.2.2.2.2.1.cap v1.2.2.2.2.1.sz),(.int .i64 v1.2.2.2.2.2.1),(.int .i64 v1.2.2.2.2.2.2.1),(.str v1.2.2.2.2.2.2.2.1),(.slice v1.2.2.2.2.2.2.2.2.1.a v1.2.2.2.2.2.2.2.2.1.len v1.2.2.2.2.2.2.2.2.1.cap v1.2.2.2.2.2.2.2.2.1.sz),(.int .i64 v1.2.2.2.2.2.2.2.2.2.1),(.str v1.2.2.2.2.2.2.2.2.2.2.1),(.slice v1.2.2.2.2.2.2.2.2.2.2.2.1.a v1.2.2.2.2.2.2.2.2.2.2.2.1.len v1.2.2.2.2.2.2.2.2.2.2.2.1.cap v1.2.2.2.2.2.2.2.2.2.2.2.1.sz),(.str v1.2.2.2.2.2.2.2.2.2.2.2.2.1),(.slice v1.2.2.2.2.2.2.2.2.2.2.2.2.2.1.a v1.2.2.2.2.2.2.2.2.2.2.2.2.2.1.len v1.2.2.2.2.2.2.2.2.2.2.2.2.2.1.cap v1.2.2.2.2.2.2.2.2.2.2.2.2.2.1.sz),(.slice v1.2.2.2.2.2.2.2.2.2.2.2.2.2.2.1.a v1.2.2.2.2.2.2.2.2.2.2.2.2.2.2.1.len v1.2.2.2.2.2.2.2.2.2.2.2.2.2.2.1.cap v1.2.2.2.2.2.2.2.2.2.2.2.2.2.2.1.sz),(.int .i64 o1.1),(.int .i64 o1.2.1),(.str o1.2.2.1),(.slice o1.2.2.2.1.a o1.2.2.2.1.len o1.2.2.2.1.cap o1.2.2.2.1.sz),(.slice th1.a th1.len th1.cap th1.sz),(.slice el1.a el1.len el1.cap el1.sz)];have c1:=qA h (.row [(.int .i64 k),(.int .i64 a),(.bool m),(.str nm),(.int .i64 t1.1),(.str t1.2.1),(.slice t1.2.2.1.a t1.2.2.1.len t1.2.2.1.cap t1.2.2.1.sz),(.slice t1.2.2.2.1.a t1.2.2.2.1.len t1.2.2.2.1.cap t1.2.2.2.1.sz),(.bool hs),(.str p1.1),(.slice p1.2.1.a p1.2.1.len p1.2.1.cap p1.2.1.sz),(.int .i64 v1.1),(.int .i64 v1.2.1),(.int .i64 v1.2.2.1),(.str v1.2.2.2.1),(.slice v1.2.2.2.2.1.a v1.2.2.2.2.1.len v1.2.2.2.2.1.cap v1.2.2.2.2.1.sz),(.int .i64 v1.2.2.2.2.2.1),(.int .i64 v1.2.2.2.2.2.2.1),(.str v1.2.2.2.2.2.2.2.1),(.slice v1.2.2.2.2.2.2.2.2.1.a v1.2.2.2.2.2.2.2.2.1.len v1.2.2.2.2.2.2.2.2.1.cap v1.2.2.2.2.2.2.2.2.1.sz),(.int .i64 v1.2.2.2.2.2.2.2.2.2.1),(.str v1.2.2.2.2.2.2.2.2.2.2.1),(.slice v1.2.2.2.2.2.2.2.2.2.2.2.1.a v1.2.2.2.2.2.2.2.2.2.2.2.1.len v1.2.2.2.2.2.2.2.2.2.2.2.1.cap v1.2.2.2.2.2.2.2.2.2.2.2.1.sz),(.str v1.2.2.2.2.2.2.2.2.2.2.2.2.1),(.slice v1.2.2.2.2.2.2.2.2.2.2.2.2.2.1.a v1.2.2.2.2.2.2.2.2.2.2.2.2.2.1.len v1.2.2.2.2.2.2.2.2.2.2.2.2.2.1.cap v1.2.2.2.2.2.2.2.2.2.2.2.2.2.1.sz),(.slice v1.2.2.2.2.2.2.2.2.2.2.2.2.2.2.1.a v1.2.2.2.2.2.2.2.2.2.2.2.2.2.2.1.len v1.2.2.2.2.2.2.2.2.2.2.2.2.2.2.1.cap v1.2.2.2.2.2.2.2.2.2.2.2.2.2.2.1.sz),(.int .i64 o1.1),(.int .i64 o1.2.1),(.str o1.2.2.1),(.slice o1.2.2.2.1.a o1.2.2.2.1.len o1.2.2.2.1.cap o1.2.2.2.1.sz),(.slice th1.a th1.len th1.cap th1.sz),(.slice el1.a el1.len el1.cap el1.sz)] .own);generalize h.push (.row [(.int .i64 k),(.int .i64 a),(.bool m),(.str nm),(.int .i64 t1.1),(.str t1.2.1),(.slice t1.2.2.1.a t1.2.2.1.len t1.2.2.1.cap t1.2.2.1.sz),(.slice t1.2.2.2.1.a t1.2.2.2.1.len t1.2.2.2.1.cap t1.2.2.2.1.sz),(.bool hs),(.str p1.1),(.slice p1.2.1.a p1.2.1.len p1.2.1.cap p1.2.1.sz),(.int .i64 v1.1),(.int .i64 v1.2.1),(.int .i64 v1.2.2.1),(.str v1.2.2.2.1),(.slice v1.2.2.2.2.1.a v1.2.2.2.2.1.len v1.2.2.2.2.1.cap v1.2.2.2.2.1.sz),(.int .i64 v1.2.2.2.2.2.1),(.int .i64 v1.2.2.2.2.2.2.1),(.str v1.2.2.2.2.2.2.2.1),(.slice v1.2.2.2.2.2.2.2.2.1.a v1.2.2.2.2.2.2.2.2.1.len v1.2.2.2.2.2.2.2.2.1.cap v1.2.2.2.2.2.2.2.2.1.sz),(.int .i64 v1.2.2.2.2.2.2.2.2.2.1),(.str v1.2.2.2.2.2.2.2.2.2.2.1),(.slice v1.2.2.2.2.2.2.2.2.2.2.2.1.a v1.2.2.2.2.2.2.2.2.2.2.2.1.len v1.2.2.2.2.2.2.2.2.2.2.2.1.cap v1.2.2.2.2.2.2.2.2.2.2.2.1.sz),(.str v1.2.2.2.2.2.2.2.2.2.2.2.2.1),(.slice v1.2.2.2.2.2.2.2.2.2.2.2.2.2.1.a v1.2.2.2.2.2.2.2.2.2.2.2.2.2.1.len v1.2.2.2.2.2.2.2.2.2.2.2.2.2.1.cap v1.2.2.2.2.2.2.2.2.2.2.2.2.2.1.sz),(.slice v1.2.2.2.2.2.2.2.2.2.2.2.2.2.2.1.a v1.2.2.2.2.2.2.2.2.2.2.2.2.2.2.1.len v1.2.2.2.2.2.2.2.2.2.2.2.2.2.2.1.cap v1.2.2.2.2.2.2.2.2.2.2.2.2.2.2.1.sz),(.int .i64 o1.1),(.int .i64 o1.2.1),(.str o1.2.2.1),(.slice o1.2.2.2.1.a o1.2.2.2.1.len o1.2.2.2.1.cap o1.2.2.2.1.sz),(.slice th1.a th1.len th1.cap th1.sz),(.slice el1.a el1.len el1.cap el1.sz)] .own)=h1 at *;have O2:=vA h1 [(.int .i64 k),(.int .i64 a),(.bool m),(.str nm),(.int .i64 t2.1),(.str t2.2.1),(.slice t2.2.2.1.a t2.2.2.1.len t2.2.2.1.cap t2.2.2.1.sz),(.slice t2.2.2.2.1.a t2.2.2.2.1.len t2.2.2.2.1.cap t2.2.2.2.1.sz),(.bool hs),(.str p2.1),(.slice p2.2.1.a p2.2.1.len p2.2.1.cap p2.2.1.sz),(.int .i64 v2.1),(.int .i64 v2.2.1),(.int .i64 v2.2.2.1),(.str v2.2.2.2.1),(.slice v2.2.2.2.2.1.a v2.2.2.2.2.1.len v2.2.2.2.2.1.cap v2.2.2.2.2.1.sz),(.int .i64 v2.2.2.2.2.2.1),(.int .i64 v2.2.2.2.2.2.2.1),(.str v2.2.2.2.2.2.2.2.1),(.slice v2.2.2.2.2.2.2.2.2.1.a v2.2.2.2.2.2.2.2.2.1.len v2.2.2.2.2.2.2.2.2.1.cap v2.2.2.2.2.2.2.2.2.1.sz),(.int .i64 v2.2.2.2.2.2.2.2.2.2.1),(.str v2.2.2.2.2.2.2.2.2.2.2.1),(.slice v2.2.2.2.2.2.2.2.2.2.2.2.1.a v2.2.2.2.2.2.2.2.2.2.2.2.1.len v2.2.2.2.2.2.2.2.2.2.2.2.1.cap v2.2.2.2.2.2.2.2.2.2.2.2.1.sz),(.str v2.2.2.2.2.2.2.2.2.2.2.2.2.1),(.slice v2.2.2.2.2.2.2.2.2.2.2.2.2.2.1.a v2.2.2.2.2.2.2.2.2.2.2.2.2.2.1.len v2.2.2.2.2.2.2.2.2.2.2.2.2.2.1.cap v2.2.2.2.2.2.2.2.2.2.2.2.2.2.1.sz),(.slice v2.2.2.2.2.2.2.2.2.2.2.2.2.2.2.1.a v2.2.2.2.2.2.2.2.2.2.2.2.2.2.2.1.len v2.2.2.2.2.2.2.2.2.2.2.2.2.2.2.1.cap v2.2.2.2.2.2.2.2.2.2.2.2.2.2.2.1.sz),(.int .i64 o2.1),(.int .i64 o2.2.1),(.str o2.2.2.1),(.slice o2.2.2.2.1.a o2.2.2.2.1.len o2.2.2.2.1.cap o2.2.2.2.1.sz),(.slice th2.a th2.len th2.cap th2.sz),(.slice el2.a el2.len el2.cap el2.sz)];have c2:=qA h1 (.row [(.int .i64 k),(.int .i64 a),(.bool m),(.str nm),(.int .i64 t2.1),(.str t2.2.1),(.slice t2.2.2.1.a t2.2.2.1.len t2.2.2.1.cap t2.2.2.1.sz),(.slice t2.2.2.2.1.a t2.2.2.2.1.len t2.2.2.2.1.cap t2.2.2.2.1.sz),(.bool hs),(.str p2.1),(.slice p2.2.1.a p2.2.1.len p2.2.1.cap p2.2.1.sz),(.int .i64 v2.1),(.int .i64 v2.2.1),(.int .i64 v2.2.2.1),(.str v2.2.2.2.1),(.slice v2.2.2.2.2.1.a v2.2.2.2.2.1.len v2.2.2.2.2.1.cap v2.2.2.2.2.1.sz),(.int .i64 v2.2.2.2.2.2.1),(.int .i64 v2.2.2.2.2.2.2.1),(.str v2.2.2.2.2.2.2.2.1),(.slice v2.2.2.2.2.2.2.2.2.1.a v2.2.2.2.2.2.2.2.2.1.len v2.2.2.2.2.2.2.2.2.1.cap v2.2.2.2.2.2.2.2.2.1.sz),(.int .i64 v2.2.2.2.2.2.2.2.2.2.1),(.str v2.2.2.2.2.2.2.2.2.2.2.1),(.slice v2.2.2.2.2.2.2.2.2.2.2.2.1.a v2.2.2.2.2.2.2.2.2.2.2.2.1.len v2.2.2.2.2.2.2.2.2.2.2.2.1.cap v2.2.2.2.2.2.2.2.2.2.2.2.1.sz),(.str v2.2.2.2.2.2.2.2.2.2.2.2.2.1),(.slice v2.2.2.2.2.2.2.2.2.2.2.2.2.2.1.a v2.2.2.2.2.2.2.2.2.2.2.2.2.2.1.len v2.2.2.2.2.2.2.2.2.2.2.2.2.2.1.cap v2.2.2.2.2.2.2.2.2.2.2.2.2.2.1.sz),(.slice v2.2.2.2.2.2.2.2.2.2.2.2.2.2.2.1.a v2.2.2.2.2.2.2.2.2.2.2.2.2.2.2.1.len v2.2.2.2.2.2.2.2.2.2.2.2.2.2.2.1.cap v2.2.2.2.2.2.2.2.2.2.2.2.2.2.2.1.sz),(.int .i64 o2.1),(.int .i64 o2.2.1),(.str o2.2.2.1),(.slice o2.2.2.2.1.a o2.2.2.2.1.len o2.2.2.2.1.cap o2.2.2.2.1.sz),(.slice th2.a th2.len th2.cap th2.sz),(.slice el2.a el2.len el2.cap el2.sz)] .own);have O1:=O1.chg c2 (by simp);generalize h1.push (.row [(.int .i64 k),(.int .i64 a),(.bool m),(.str nm),(.int .i64 t2.1),(.str t2.2.1),(.slice t2.2.2.1.a t2.2.2.1.len t2.2.2.1.cap t2.2.2.1.sz),(.slice t2.2.2.2.1.a t2.2.2.2.1.len t2.2.2.2.1.cap t2.2.2.2.1.sz),(.bool hs),(.str p2.1),(.slice p2.2.1.a p2.2.1.len p2.2.1.cap p2.2.1.sz),(.int .i64 v2.1),(.int .i64 v2.2.1),(.int .i64 v2.2.2.1),(.str v2.2.2.2.1),(.slice v2.2.2.2.2.1.a v2.2.2.2.2.1.len v2.2.2.2.2.1.cap v2.2.2.2.2.1.sz),(.int .i64 v2.2.2.2.2.2.1),(.int .i64 v2.2.2.2.2.2.2.1),(.str v2.2.2.2.2.2.2.2.1),(.slice v2.2.2.2.2.2.2.2.2.1.a v2.2.2.2.2.2.2.2.2.1.len v2.2.2.2.2.2.2.2.2.1.cap v2.2.2.2.2.2.2.2.2.1.sz),(.int .i64 v2.2.2.2.2.2.2.2.2.2.1),(.str v2.2.2.2.2.2.2.2.2.2.2.1),(.slice v2.2.2.2.2.2.2.2.2.2.2.2.1.a v2.2.2.2.2.2.2.2.2.2.2.2.1.len v2.2.2.2.2.2.2.2.2.2.2.2.1.cap v2.2.2.2.2.2.2.2.2.2.2.2.1.sz),(.str v2.2.2.2.2.2.2.2.2.2.2.2.2.1),(.slice v2.2.2.2.2.2.2.2.2.2.2.2.2.2.1.a v2.2.2.2.2.2.2.2.2.2.2.2.2.2.1.len v2.2.2.2.2.2.2.2.2.2.2.2.2.2.1.cap v2.2.2.2.2.2.2.2.2.2.2.2.2.2.1.sz),(.slice v2.2.2.2.2.2.2.2.2.2.2.2.2.2.2.1.a v2.2.2.2.2.2.2.2.2.2.2.2.2.2.2.1.len v2.2.2.2.2.2.2.2.2.2.2.2.2.2.2.1.cap v2.2.2.2.2.2.2.2.2.2.2.2.2.2.2.1.sz),(.int .i64 o2.1),(.int .i64 o2.2.1),(.str o2.2.2.1),(.slice o2.2.2.2.1.a o2.2.2.2.1.len o2.2.2.2.1.cap o2.2.2.2.1.sz),(.slice th2.a th2.len th2.cap th2.sz),(.slice el2.a el2.len el2.cap el2.sz)] .own)=H0 at *;have c0:=c1.trans c2
 clear c1 c2
 have qa0:H0.cell (h.next,0)=some (.int .i64 k):=O1.cell 0;have qb0:H0.cell (h1.next,0)=some (.int .i64 k):=O2.cell 0;have qa1:H0.cell (h.next,1)=some (.int .i64 a):=O1.cell 1;have qb1:H0.cell (h1.next,1)=some (.int .i64 a):=O2.cell 1;have qa2:H0.cell (h.next,2)=some (.bool m):=O1.cell 2;have qb2:H0.cell (h1.next,2)=some (.bool m):=O2.cell 2;have qa3:H0.cell (h.next,3)=some (.str nm):=O1.cell 3;have qb3:H0.cell (h1.next,3)=some (.str nm):=O2.cell 3;have qa8:H0.cell (h.next,8)=some (.bool hs):=O1.cell 8;have qb8:H0.cell (h1.next,8)=some (.bool hs):=O2.cell 8;have qa4:H0.cells (h.next,4) 4=some (.agg (tyc t1)):=O1.cells (j:=4) (m:=4) (show 8≤32 by decide);have qb4:H0.cells (h1.next,4) 4=some (.agg (tyc t2)):=O2.cells (j:=4) (m:=4) (show 8≤32 by decide);simp only [Nat.zero_add,qa0,qb0,bD,dH,cond_true,qa1,qb1,qa2,qb2,rB,qA9,qa3,qb3,cD,eqB.2,qa8,qb8,fA];rw [qa4,jAm,qb4,jAm];obtain ⟨H1,qe1,qk1⟩:∃ H',f112 N N (t1.1,t1.2.1,t1.2.2.1,t1.2.2.2.1,()) (t2.1,t2.2.1,t2.2.2.1,t2.2.2.2.1,()) H0=some (true,H')∧Chg [] H0 H':=ht H0 c0;rw [qe1,aA];have O1:=O1.chg qk1 (by simp);have O2:=O2.chg qk1 (by simp);have c1:=c0.trans qk1;have qa9:H1.cells (h.next,9) 2=some (.agg (lfc p1)):=O1.cells (j:=9) (m:=2) (show 11≤32 by decide);have qb9:H1.cells (h1.next,9) 2=some (.agg (lfc p2)):=O2.cells (j:=9) (m:=2) (show 11≤32 by decide);simp only [Nat.zero_add,cond_true,fA];rw [qa9,fAo,qb9,fAo];obtain ⟨H2,qe2,qk2⟩:∃ H',f164 N (p1.1,p1.2.1,()) (p2.1,p2.2.1,()) H1=some (true,H')∧Chg [] H1 H':=hp H1 c1;rw [qe2,aA];have O1:=O1.chg qk2 (by simp);have O2:=O2.chg qk2 (by simp);have c2:=c1.trans qk2;have qa11:H2.cells (h.next,11) 15=some (.agg (vac v1)):=O1.cells (j:=11) (m:=15) (show 26≤32 by decide);have qb11:H2.cells (h1.next,11) 15=some (.agg (vac v2)):=O2.cells (j:=11) (m:=15) (show 26≤32 by decide);simp only [Nat.zero_add,cond_true,fA];rw [qa11,iB4,qb11,iB4];obtain ⟨H3,qe3,qk3⟩:∃ H',f165 N (v1.1,v1.2.1,v1.2.2.1,v1.2.2.2.1,v1.2.2.2.2.1,v1.2.2.2.2.2.1,v1.2.2.2.2.2.2.1,v1.2.2.2.2.2.2.2.1,v1.2.2.2.2.2.2.2.2.1,v1.2.2.2.2.2.2.2.2.2.1,v1.2.2.2.2.2.2.2.2.2.2.1,v1.2.2.2.2.2.2.2.2.2.2.2.1,v1.2.2.2.2.2.2.2.2.2.2.2.2.1,v1.2.2.2.2.2.2.2.2.2.2.2.2.2.1,v1.2.2.2.2.2.2.2.2.2.2.2.2.2.2.1,()) (v2.1,v2.2.1,v2.2.2.1,v2.2.2.2.1,v2.2.2.2.2.1,v2.2.2.2.2.2.1,v2.2.2.2.2.2.2.1,v2.2.2.2.2.2.2.2.1,v2.2.2.2.2.2.2.2.2.1,v2.2.2.2.2.2.2.2.2.2.1,v2.2.2.2.2.2.2.2.2.2.2.1,v2.2.2.2.2.2.2.2.2.2.2.2.1,v2.2.2.2.2.2.2.2.2.2.2.2.2.1,v2.2.2.2.2.2.2.2.2.2.2.2.2.2.1,v2.2.2.2.2.2.2.2.2.2.2.2.2.2.2.1,()) H2=some (true,H')∧Chg [] H2 H':=hv H2 c2;rw [qe3,aA];have O1:=O1.chg qk3 (by simp);have O2:=O2.chg qk3 (by simp);have c3:=c2.trans qk3;have qa26:H3.cells (h.next,26) 4=some (.agg (opc o1)):=O1.cells (j:=26) (m:=4) (show 30≤32 by decide);have qb26:H3.cells (h1.next,26) 4=some (.agg (opc o2)):=O2.cells (j:=26) (m:=4) (show 30≤32 by decide);simp only [Nat.zero_add,cond_true,fA];rw [qa26,gAo,qb26,gAo];obtain ⟨H4,qe4,qk4⟩:∃ H',f166 N (o1.1,o1.2.1,o1.2.2.1,o1.2.2.2.1,()) (o2.1,o2.2.1,o2.2.2.1,o2.2.2.2.1,()) H3=some (true,H')∧Chg [] H3 H':=ho H3 c3;rw [qe4,aA];have O1:=O1.chg qk4 (by simp);have O2:=O2.chg qk4 (by simp);have c4:=c3.trans qk4;have qa30:H4.cell (h.next,30)=some (.slice th1.a th1.len th1.cap th1.sz):=O1.cell 30;have qb30:H4.cell (h1.next,30)=some (.slice th2.a th2.len th2.cap th2.sz):=O2.cell 30;simp only [Nat.zero_add,qa30,qb30,uA,cond_true,fA];obtain ⟨H5,qe5,qk5⟩:∃ H',rec113c114 th1 th2 () H4=some (true,H')∧Chg [] H4 H':=hth H4 c4;show ∃ h',(lA (rec113c114 th1 th2 () H4) _)=_∧_;rw [qe5,aA];have O1:=O1.chg qk5 (by simp);have O2:=O2.chg qk5 (by simp);have c5:=c4.trans qk5;have qa31:H5.cell (h.next,31)=some (.slice el1.a el1.len el1.cap el1.sz):=O1.cell 31;have qb31:H5.cell (h1.next,31)=some (.slice el2.a el2.len el2.cap el2.sz):=O2.cell 31;simp only [Nat.zero_add,qa31,qb31,uA,cond_true,fA];obtain ⟨H6,qe6,qk6⟩:∃ H',rec113c114 el1 el2 () H5=some (true,H')∧Chg [] H5 H':=hel H5 c5;show ∃ h',(lA (rec113c114 el1 el2 () H5) _)=_∧_;rw [qe6,aA];have O1:=O1.chg qk6 (by simp);have O2:=O2.chg qk6 (by simp);have c6:=c5.trans qk6;exact ⟨_,rfl,c6⟩
theorem oB5 {x1 x2 y1 y2:SL} (hx:∀ H,Chg [] h H→∃ H',qA3 N x1 x2 () H=some (true,H')∧Chg [] H H') (hy:∀ H,Chg [] h H→∃ H',uA3 N y1 y2 () H=some (true,H')∧Chg [] H H'):∃ h',f30 N (x1,y1,()) (x2,y2,()) h=some (true,h')∧Chg [] h h':=by
 unfold f30;dsimp only;have o1:=vA h [(.slice x1.a x1.len x1.cap x1.sz),(.slice y1.a y1.len y1.cap y1.sz)];have c1:=qA h (.row [(.slice x1.a x1.len x1.cap x1.sz),(.slice y1.a y1.len y1.cap y1.sz)] .own);generalize h.push (.row [(.slice x1.a x1.len x1.cap x1.sz),(.slice y1.a y1.len y1.cap y1.sz)] .own)=h1 at *;have o2:=vA h1 [(.slice x2.a x2.len x2.cap x2.sz),(.slice y2.a y2.len y2.cap y2.sz)];have c2:=qA h1 (.row [(.slice x2.a x2.len x2.cap x2.sz),(.slice y2.a y2.len y2.cap y2.sz)] .own);have o1:=o1.chg c2 (by simp);generalize h1.push (.row [(.slice x2.a x2.len x2.cap x2.sz),(.slice y2.a y2.len y2.cap y2.sz)] .own)=H0 at *;have c0:=c1.trans c2
 clear c1 c2
 have qa0:H0.cell (h.next,0)=some (.slice x1.a x1.len x1.cap x1.sz):=o1.cell 0;have qb0:H0.cell (h1.next,0)=some (.slice x2.a x2.len x2.cap x2.sz):=o2.cell 0;simp only [Nat.zero_add,qa0,qb0,uA,cond_true,fA];obtain ⟨H1,qe1,qk1⟩:∃ H',qA3 N x1 x2 () H0=some (true,H')∧Chg [] H0 H':=hx H0 c0;show ∃ h',(lA (qA3 N x1 x2 () H0) _)=_∧_;rw [qe1,aA];have o1:=o1.chg qk1 (by simp);have o2:=o2.chg qk1 (by simp);have c1:=c0.trans qk1;have qa1:H1.cell (h.next,1)=some (.slice y1.a y1.len y1.cap y1.sz):=o1.cell 1;have qb1:H1.cell (h1.next,1)=some (.slice y2.a y2.len y2.cap y2.sz):=o2.cell 1;simp only [Nat.zero_add,qa1,qb1,uA,cond_true,fA];obtain ⟨H2,qe2,qk2⟩:∃ H',uA3 N y1 y2 () H1=some (true,H')∧Chg [] H1 H':=hy H1 c1;show ∃ h',(lA (uA3 N y1 y2 () H1) _)=_∧_;rw [qe2,aA];have o1:=o1.chg qk2 (by simp);have o2:=o2.chg qk2 (by simp);have c2:=c1.trans qk2;exact ⟨_,rfl,c2⟩
end
end Qp
namespace Qp
def isFd (d:D):Prop:=∃ m nm ty,d=fdD m nm ty∧iA6 65 ty
def isSt (d:D):Prop:=∃ pub nm lv fs a,d=qA8 pub nm lv fs a∧lv.length≤1000∧fs.length≤1000∧∀ f∈fs,isFd f
def isLf (d:D):Prop:=∃ (nm:Bs) (xs:List Bs),d=tU nm (xs.map D.s)∧xs.length≤1000
def isOp (d:D):Prop:=∃ k n pl,d=opD k n pl∧isLf pl
def isVa (d:D):Prop:=∃ k a b op pl nm,∃ (ns:List Bs) (ag:List D),d=vaD k a b op pl nm (ns.map D.s) ag∧isOp a∧isOp b∧isLf pl∧ns.length≤1000∧ag.length≤1000∧∀ o∈ag,isOp o
def smT (k a:Int) (m:Bool) (nm:Bs) (ty:D) (hs:Bool) (pl va co:D) (th el:List D):D:=.t [.i k,.i a,.b m,.s nm,ty,.b hs,pl,va,co,.l th,.l el]
def isSm:Nat→D→Prop
 | 0,_=>False
 | n+1,d=>∃ k a m nm ty hs pl va co th el,d=smT k a m nm ty hs pl va co th el∧iA6 65 ty∧isLf pl∧isVa va∧isOp co∧th.length≤3000∧el.length≤3000∧(∀ s∈th,isSm n s)∧∀ s∈el,isSm n s
def fuT (pub:Bool) (nm:Bs) (lv ps:List D) (ty:D) (bd:List D) (a:Int):D:=.t [.b pub,.s nm,.l lv,.l ps,ty,.l bd,.i a]
def isFu (d:D):Prop:=∃ pub nm lv ps ty bd a,d=fuT pub nm lv ps ty bd a∧lv.length≤1000∧(∀ l∈lv,isLf l)∧ps.length≤1000∧(∀ p∈ps,isFd p)∧iA6 65 ty∧bd.length≤3000∧∀ s∈bd,isSm 65 s
section
variable {h:Heap} {V W:Nat→Prop} {cs:List AV}
theorem lAv {xs:List D} (x:∃ (s:SL) (vs:List AV),cs=[s.av]∧s.len=xs.length∧s.len≤s.cap∧(∀ A,s.blk=some A→V A)∧Sees h s vs∧De h V s.sz xs vs):∃ s:SL,cs=[s.av]∧Sl h V s xs:=by
 have:Dt h V (.l xs) cs:=by simp only [Dt];exact x
 exact uBi.1 this
theorem oAk {n:Nat} {d:D} (t:iA6 n d) (x:Dt h V d cs):∃ r:TyV,cs=tyc r:=by
 cases n with
 | zero=>cases t
 | succ n=>
  obtain ⟨k,y,lv,el,rfl,_⟩:=t;obtain ⟨s1,s2,hc,_⟩:=oA4.1 x;exact ⟨_,hc⟩
theorem vA3 {nm:Bs} {l:List D} (x:Dt h V (tU nm l) cs):∃ s:SL,cs=lfc (nm,s,())∧Sl h V s l:=by
 simp only [tU,Dt,Dp] at x;obtain ⟨_,_,rfl,e1,_,_,rfl,x2,rfl⟩:=x;subst e1;obtain ⟨s,rfl,hs⟩:=lAv x2;exact ⟨s,rfl,hs⟩
theorem rA9 {d:D} (t:isLf d) (x:Dt h V d cs):∃ r:LfV,cs=lfc r:=by
 obtain ⟨nm,xs,rfl,_⟩:=t;obtain ⟨s,hc,_⟩:=vA3 x;exact ⟨_,hc⟩
theorem pAk {m:Bool} {nm:Bs} {ty:D} {n:Nat} (t:iA6 n ty) (x:Dt h V (fdD m nm ty) cs):∃ r:TyV,cs=fdc (mS m nm r)∧Dt h V ty (tyc r):=by
 simp only [fdD,Dt,Dp] at x;obtain ⟨_,_,rfl,e1,_,_,rfl,e2,_,_,rfl,x3,rfl⟩:=x;subst e1 e2;obtain ⟨r,rfl⟩:=oAk t x3;exact ⟨r,rfl,x3⟩
theorem aA7 {pub:Bool} {nm:Bs} {lv:List Bs} {fs:List D} {a:Int} (x:Dt h V (qA8 pub nm lv fs a) cs):∃ s1 s2:SL,cs=stc (pub,nm,s1,s2,a,())∧Sl h V s1 (lv.map D.s)∧Sl h V s2 fs:=by
 have x':=x;unfold qA8 at x';simp only [Dt,Dp] at x';obtain ⟨_,_,rfl,e1,_,_,rfl,e2,_,_,rfl,x3,_,_,rfl,x4,_,_,rfl,e5,rfl⟩:=x';subst e1 e2 e5;obtain ⟨s1,rfl,h1⟩:=lAv x3;obtain ⟨s2,rfl,h2⟩:=lAv x4;exact ⟨s1,s2,rfl,h1,h2⟩
theorem qAk {k n:Int} {pl:D} (t:isLf pl) (x:Dt h V (opD k n pl) cs):∃ p:LfV,cs=opc (k,n,p.1,p.2.1,())∧Dt h V pl (lfc p):=by
 simp only [opD,Dt,Dp] at x;obtain ⟨_,_,rfl,e1,_,_,rfl,e2,_,_,rfl,x3,rfl⟩:=x;subst e1 e2;obtain ⟨r,rfl⟩:=rA9 t x3;exact ⟨r,rfl,x3⟩
theorem tA9 {d:D} (t:isOp d) (x:Dt h V d cs):∃ r:OpV,cs=opc r:=by
 obtain ⟨k,n,pl,rfl,ht⟩:=t;obtain ⟨p,hc,_⟩:=qAk ht x;exact ⟨_,hc⟩
theorem rAk {k op:Int} {a b pl:D} {nm:Bs} {ns ag:List D} (ta:isOp a) (tb:isOp b) (tp:isLf pl) (x:Dt h V (vaD k a b op pl nm ns ag) cs):∃ (ra rb:OpV) (rp:LfV) (s1 s2:SL),cs=vac (iF k ra rb op rp nm s1 s2)∧Dt h V a (opc ra)∧Dt h V b (opc rb)∧Dt h V pl (lfc rp)∧Sl h V s1 ns∧Sl h V s2 ag:=by
 simp only [vaD,Dt,Dp] at x;obtain ⟨_,_,rfl,e1,_,_,rfl,x2,_,_,rfl,x3,_,_,rfl,e4,_,_,rfl,x5,_,_,rfl,e6,_,_,rfl,x7,_,_,rfl,x8,rfl⟩:=x;subst e1 e4 e6;obtain ⟨ra,rfl⟩:=tA9 ta x2;obtain ⟨rb,rfl⟩:=tA9 tb x3;obtain ⟨rp,rfl⟩:=rA9 tp x5;obtain ⟨s1,rfl,h1⟩:=lAv x7;obtain ⟨s2,rfl,h2⟩:=lAv x8;exact ⟨ra,rb,rp,s1,s2,rfl,x2,x3,x5,h1,h2⟩
theorem qAt {d:D} (t:isVa d) (x:Dt h V d cs):∃ r:VaV,cs=vac r:=by
 obtain ⟨k,a,b,op,pl,nm,ns,ag,rfl,ta,tb,tp,_⟩:=t;obtain ⟨ra,rb,rp,s1,s2,hc,_⟩:=rAk ta tb tp x;exact ⟨_,hc⟩
theorem kAd {k a:Int} {m hs:Bool} {nm:Bs} {ty pl va co:D} {th el:List D} (tt:iA6 65 ty) (tp:isLf pl) (tv:isVa va) (to:isOp co) (x:Dt h V (smT k a m nm ty hs pl va co th el) cs):∃ (r:TyV) (p:LfV) (v:VaV) (o:OpV) (s1 s2:SL),cs=smc ⟨k,a,m,nm,r,hs,p,v,o,s1,s2⟩∧Dt h V ty (tyc r)∧Dt h V pl (lfc p)∧Dt h V va (vac v)∧Dt h V co (opc o)∧Sl h V s1 th∧Sl h V s2 el:=by
 simp only [smT,Dt,Dp] at x;obtain ⟨_,_,rfl,e1,_,_,rfl,e2,_,_,rfl,e3,_,_,rfl,e4,_,_,rfl,x5,_,_,rfl,e6,_,_,rfl,x7,_,_,rfl,x8,_,_,rfl,x9,_,_,rfl,x10,_,_,rfl,x11,rfl⟩:=x;subst e1 e2 e3 e4 e6;obtain ⟨r,rfl⟩:=oAk tt x5;obtain ⟨p,rfl⟩:=rA9 tp x7;obtain ⟨v,rfl⟩:=qAt tv x8;obtain ⟨o,rfl⟩:=tA9 to x9;obtain ⟨s1,rfl,h1⟩:=lAv x10;obtain ⟨s2,rfl,h2⟩:=lAv x11;exact ⟨r,p,v,o,s1,s2,rfl,x5,x7,x8,x9,h1,h2⟩
theorem lAd {pub:Bool} {nm:Bs} {lv ps bd:List D} {ty:D} {a:Int} (tt:iA6 65 ty) (x:Dt h V (fuT pub nm lv ps ty bd a) cs):∃ (s1 s2 s3:SL) (r:TyV),cs=fuc ⟨pub,nm,s1,s2,r,s3,a⟩∧Sl h V s1 lv∧Sl h V s2 ps∧Dt h V ty (tyc r)∧Sl h V s3 bd:=by
 simp only [fuT,Dt,Dp] at x;obtain ⟨_,_,rfl,e1,_,_,rfl,e2,_,_,rfl,x3,_,_,rfl,x4,_,_,rfl,x5,_,_,rfl,x6,_,_,rfl,e7,rfl⟩:=x;subst e1 e2 e7;obtain ⟨r,rfl⟩:=oAk tt x5;obtain ⟨s1,rfl,h1⟩:=lAv x3;obtain ⟨s2,rfl,h2⟩:=lAv x4;obtain ⟨s3,rfl,h3⟩:=lAv x6;exact ⟨s1,s2,s3,r,rfl,h1,h2,x5,h3⟩
end
theorem wAn (n:Nat):Rec [(.int .i64),.str,.slice,.slice] 4 tyc (iA6 n):=⟨fun _=>rfl,fun r K=>jAm r K,fun t x=>oAk t x⟩
theorem yAn:Rec [.bool,.str,(.int .i64),.str,.slice,.slice] 6 fdc isFd:=⟨fun _=>rfl,fun r K=>aBh r K,fun t x=>by
 obtain ⟨m,nm,ty,rfl,ht⟩:=t;obtain ⟨r,hc,_⟩:=pAk ht x;exact ⟨_,hc⟩⟩
theorem wA3:Rec [.bool,.str,.slice,.slice,(.int .i64)] 5 stc isSt:=⟨fun _=>rfl,fun r K=>bBh r K,fun t x=>by
 obtain ⟨pub,nm,lv,fs,a,rfl,_⟩:=t;obtain ⟨s1,s2,hc,_⟩:=aA7 x;exact ⟨_,hc⟩⟩
theorem rA4:Rec [.str,.slice] 2 lfc isLf:=⟨fun _=>rfl,fun r K=>fAo r K,fun t x=>rA9 t x⟩
theorem mAh:Rec [(.int .i64),(.int .i64),.str,.slice] 4 opc isOp:=⟨fun _=>rfl,fun r K=>gAo r K,fun t x=>tA9 t x⟩
theorem nAh (n:Nat):Rec [(.int .i64),(.int .i64),.bool,.str,(.int .i64),.str,.slice,.slice,.bool,.str,.slice,(.int .i64),(.int .i64),(.int .i64),.str,.slice,(.int .i64),(.int .i64),.str,.slice,(.int .i64),.str,.slice,.str,.slice,.slice,(.int .i64),(.int .i64),.str,.slice,.slice,.slice] 32 smx (isSm n):=⟨fun _=>rfl,fun r K=>fBh r K,fun t x=>by
 cases n with
 | zero=>cases t
 | succ n=>
  obtain ⟨k,a,m,nm,ty,hs,pl,va,co,th,el,rfl,t1,t2,t3,t4,_⟩:=t;obtain ⟨r,p,v,o,s1,s2,hc,_⟩:=kAd t1 t2 t3 t4 x;exact ⟨_,hc⟩⟩
theorem uA9:Rec [.bool,.str,.slice,.slice,(.int .i64),.str,.slice,.slice,.slice,(.int .i64)] 10 fux isFu:=⟨fun _=>rfl,fun r K=>gBh r K,fun t x=>by
 obtain ⟨pub,nm,lv,ps,ty,bd,a,rfl,_,_,_,_,ht,_⟩:=t;obtain ⟨s1,s2,s3,r,hc,_⟩:=lAd ht x;exact ⟨_,hc⟩⟩
theorem Rec.inj {tys:List CTy} {n:Nat} {c:gN tys→List AV} {P:D→Prop} (R:Rec tys n c P) {r r':gN tys} (h:c r=c r'):r=r':=by
 have h1:=R.agg r (fun x=>some x);rw [h,R.agg] at h1;exact (Option.some.inj h1).symm
section
variable {N:Nat} {tys:List CTy} {n:Nat} {c:gN tys→List AV} {z:List AV} {P:D→Prop}
theorem rY (R:Rec tys n c P) (hz:z.length=n) {F:gN tys→gN tys→Heap→Option (Bool×Heap)} {L:Nat→SL→Unit→Bool→SL→Int→Int→Heap→Option (Out×zZ×Heap)} (hs:∀ M v1 v6 v15 v16 v17 h,L (M+1) v1 () v6 v15 v16 v17 h=oAt tys n c z F (L M) v1 v6 v15 v16 v17 h)
  {xs:List D} (hP:∀ x∈xs,P x) (hF:∀ x∈xs,∀ r1 r2 H V W,Dt H V x (c r1)→Dt H W x (c r2)→∃ H',F r1 r2 H=some (true,H')∧Chg [] H H') (hl:xs.length≤2000000) (hN:xs.length<N) {G:Option (Bool×Heap)} {h:Heap} {V W:Nat→Prop} {s1 s2:SL} (x1:Sl h V s1 xs) (x2:Sl h W s2 xs)
  (hG:G=(bif !kB (Int.ofNat s1.len) (Int.ofNat s2.len) then some (false,h) else fE (L N s2 () false s1 (Int.ofNat s1.len) 0 h) fun o17 (j18:zZ) h19=>bif gE o17 (.exit 0) then some (true,h19) else some (j18.1,h19))):∃ h',G=some (true,h')∧Chg [] h h':=by
 obtain ⟨h',e,c'⟩:=kB5 R hz hs hP hF hl N 0 h V W s1 s2 (Nat.zero_le _) (by omega) x1 x2;rw [show ((0:Nat):Int)=0 from rfl] at e;refine ⟨h',?_,c'⟩;rw [hG,eB0 x1 x2,Bool.not_true,cond_false,x1.len,show Int.ofNat xs.length=(xs.length:Int) from rfl,e];rfl
end
section
variable {N:Nat} {h:Heap} {V W:Nat→Prop}
theorem oAh {d:D} (t:isLf d) {p1 p2:LfV} (x1:Dt h V d (lfc p1)) (x2:Dt h W d (lfc p2)) (hN:3001≤N) {H:Heap} (c:Chg [] h H):∃ H',f164 N (p1.1,p1.2.1,()) (p2.1,p2.2.1,()) H=some (true,H')∧Chg [] H H':=by
 obtain ⟨nm,xs,rfl,hl⟩:=t;obtain ⟨s1,hc1,y1⟩:=vA3 x1;obtain ⟨s2,hc2,y2⟩:=vA3 x2;have e1:=rA4.inj hc1;have e2:=rA4.inj hc2;subst e1 e2;exact lB5 (y1.chg c (by simp)) (y2.chg c (by simp)) (by omega) (by omega)
theorem vA9 {d:D} (t:isOp d) {r1 r2:OpV} (x1:Dt h V d (opc r1)) (x2:Dt h W d (opc r2)) (hN:3001≤N) {H:Heap} (c:Chg [] h H):∃ H',f166 N (r1.1,r1.2.1,r1.2.2.1,r1.2.2.2.1,()) (r2.1,r2.2.1,r2.2.2.1,r2.2.2.2.1,()) H=some (true,H')∧Chg [] H H':=by
 obtain ⟨k,n,pl,rfl,ht⟩:=t;obtain ⟨p1,hc1,y1⟩:=qAk ht x1;obtain ⟨p2,hc2,y2⟩:=qAk ht x2;have e1:=mAh.inj hc1;have e2:=mAh.inj hc2;subst e1 e2;exact vAx fun H' c'=>oAh ht y1 y2 hN (c.trans c')
theorem pB5 {ag:List D} (t:∀ o∈ag,isOp o) (hl:ag.length≤3000) {s1 s2:SL} (x1:Sl h V s1 ag) (x2:Sl h W s2 ag) (hN:3001≤N) {H:Heap} (c:Chg [] h H):∃ H',wM N s1 s2 () H=some (true,H')∧Chg [] H H':=by
 unfold wM;obtain ⟨H',e,c'⟩:=rY (N:=N) mAh (z:=opc (0,0,[],sl0,())) rfl (L:=tA3 N) (F:=fun a b h=>f166 N (a.1,a.2.1,a.2.2.1,a.2.2.2.1,()) (b.1,b.2.1,b.2.2.1,b.2.2.2.1,()) h) (fun _ _ _ _ _ _ _=>rfl) t (fun x hx r1 r2 H V W y1 y2=>vA9 (t x hx) y1 y2 hN (Chg.refl _ _)) (by omega) (by omega) (x1.chg c (by simp)) (x2.chg c (by simp)) (G:=nA9 N s1 s2 () H) rfl;rw [e];exact ⟨H',rfl,c'⟩
theorem qB5 {d:D} (t:isVa d) {v1 v2:VaV} (x1:Dt h V d (vac v1)) (x2:Dt h W d (vac v2)) (hN:3001≤N) {H:Heap} (c:Chg [] h H):∃ H',f165 N v1 v2 H=some (true,H')∧Chg [] H H':=by
 obtain ⟨k,a,b,op,pl,nm,ns,ag,rfl,ta,tb,tp,hn,hg,tg⟩:=t;obtain ⟨ra1,rb1,rp1,n1,g1,hc1,a1,b1,p1,y1,z1⟩:=rAk ta tb tp x1;obtain ⟨ra2,rb2,rp2,n2,g2,hc2,a2,b2,p2,y2,z2⟩:=rAk ta tb tp x2;have hinj:∀ {r r':VaV},vac r=vac r'→r=r':=fun {r r'} h=>by
  have h1:=iB4 r (fun x=>some x);rw [h,iB4] at h1;exact (Option.some.inj h1).symm
 have e1:=hinj hc1;have e2:=hinj hc2;subst e1 e2;exact wAx (fun H' c'=>vA9 ta a1 a2 hN (c.trans c')) (fun H' c'=>vA9 tb b1 b2 hN (c.trans c')) (fun H' c'=>oAh tp p1 p2 hN (c.trans c'))
  (fun H' c'=>mBf (c.trans c') y1 y2 (by omega) (by omega)) (fun H' c'=>pB5 tg (by omega) z1 z2 hN (c.trans c'))
theorem rB5 (hN:3001≤N):∀ (n M:Nat) (d:D) (r1 r2:TyV) (h:Heap) (V W:Nat→Prop),3 * n≤M→iA6 n d→Dt h V d (tyc r1)→Dt h W d (tyc r2)→∃ H',f112 N M (r1.1,r1.2.1,r1.2.2.1,r1.2.2.2.1,()) (r2.1,r2.2.1,r2.2.2.1,r2.2.2.2.1,()) h=some (true,H')∧Chg [] h H':=by
 intro n
 induction n with
 | zero=>intro M d r1 r2 h V W _ t;cases t
 | succ n ih=>
  intro M d r1 r2 h V W hM t x1 x2;obtain ⟨M,rfl⟩:∃ m,M=m+3:=⟨M-3,by omega⟩;obtain ⟨k,x,lv,el,rfl,hlv,hel,tel⟩:=t;obtain ⟨l1,g1,hc1,y1,z1⟩:=oA4.1 x1;obtain ⟨l2,g2,hc2,y2,z2⟩:=oA4.1 x2;have e1:=(wAn 1).inj hc1;have e2:=(wAn 1).inj hc2;subst e1 e2;rw [iAt];refine yAx (fun H c=>mBf c y1 y2 (by omega) (by omega)) (fun H c=>?_)
  rw [gA9];unfold bX;obtain ⟨H',e,c'⟩:=rY (N:=N) (wAn n) (z:=tyc (0,[],sl0,sl0,())) rfl (L:=nA3 N (f112 N M) (iV N M) (jV N M)) (F:=fun a b h=>f112 N M (a.1,a.2.1,a.2.2.1,a.2.2.2.1,()) (b.1,b.2.1,b.2.2.1,b.2.2.2.1,()) h) (fun _ _ _ _ _ _ _=>rfl) tel (fun x hx r1 r2 H V W y1 y2=>ih M x r1 r2 H V W (by omega) (tel x hx) y1 y2) (by omega) (by omega) (z1.chg c (by simp)) (z2.chg c (by simp)) (G:=jV N (M+1) g1 g2 () H) rfl;rw [e];exact ⟨H',rfl,c'⟩
theorem wA9 {n:Nat} {d:D} (t:iA6 n d) (hn:n≤100) {r1 r2:TyV} (x1:Dt h V d (tyc r1)) (x2:Dt h W d (tyc r2)) (hN:3001≤N) {H:Heap} (c:Chg [] h H):∃ H',f112 N N (r1.1,r1.2.1,r1.2.2.1,r1.2.2.2.1,()) (r2.1,r2.2.1,r2.2.2.1,r2.2.2.2.1,()) H=some (true,H')∧Chg [] H H':=
 rB5 hN n N d r1 r2 H V W (by omega) t (Dt.chg c (by simp) x1) (Dt.chg c (by simp) x2)
theorem tB5 {d:D} (t:isFd d) {r1 r2:FdV} (x1:Dt h V d (fdc r1)) (x2:Dt h W d (fdc r2)) (hN:3001≤N):∃ H',f108 N r1 r2 h=some (true,H')∧Chg [] h H':=by
 obtain ⟨m,nm,ty,rfl,ht⟩:=t;obtain ⟨q1,hc1,y1⟩:=pAk ht x1;obtain ⟨q2,hc2,y2⟩:=pAk ht x2;have e1:=yAn.inj hc1;have e2:=yAn.inj hc2;subst e1 e2;exact aAy fun H c=>wA9 ht (by omega) y1 y2 hN c
theorem rAt {fs:List D} (t:∀ o∈fs,isFd o) (hl:fs.length≤3000) {s1 s2:SL} (x1:Sl h V s1 fs) (x2:Sl h W s2 fs) (hN:3001≤N) {H:Heap} (c:Chg [] h H):∃ H',qH N s1 s2 () H=some (true,H')∧Chg [] H H':=by
 unfold qH;obtain ⟨H',e,c'⟩:=rY (N:=N) yAn (z:=fdc fd0) rfl (L:=oA3 N) (F:=fun a b h=>f108 N a b h) (fun _ _ _ _ _ _ _=>rfl) t (fun x hx r1 r2 H V W y1 y2=>tB5 (t x hx) y1 y2 hN) (by omega) (by omega) (x1.chg c (by simp)) (x2.chg c (by simp)) (G:=jA9 N s1 s2 () H) rfl;rw [e];exact ⟨H',rfl,c'⟩
theorem uB5 {d:D} (t:isSt d) {r1 r2:StV} (x1:Dt h V d (stc r1)) (x2:Dt h W d (stc r2)) (hN:3001≤N):∃ H',f73 N r1 r2 h=some (true,H')∧Chg [] h H':=by
 obtain ⟨pub,nm,lv,fs,a,rfl,hl,hf,tf⟩:=t;obtain ⟨l1,g1,hc1,y1,z1⟩:=aA7 x1;obtain ⟨l2,g2,hc2,y2,z2⟩:=aA7 x2;have e1:=wA3.inj hc1;have e2:=wA3.inj hc2;subst e1 e2;exact mB5 (fun H c=>mBf c y1 y2 (by omega) (by omega)) (fun H c=>rAt tf (by omega) z1 z2 hN c)
theorem vB5 {xs:List D} (t:∀ o∈xs,isSt o) (hl:xs.length≤3000) {s1 s2:SL} (x1:Sl h V s1 xs) (x2:Sl h W s2 xs) (hN:3001≤N) {H:Heap} (c:Chg [] h H):∃ H',qA3 N s1 s2 () H=some (true,H')∧Chg [] H H':=by
 unfold qA3;obtain ⟨H',e,c'⟩:=rY (N:=N) wA3 (z:=stc st0) rfl (L:=wA6 N) (F:=fun a b h=>f73 N a b h) (fun _ _ _ _ _ _ _=>rfl) t (fun x hx r1 r2 H V W y1 y2=>uB5 (t x hx) y1 y2 hN) (by omega) (by omega) (x1.chg c (by simp)) (x2.chg c (by simp)) (G:=bAh N s1 s2 () H) rfl;rw [e];exact ⟨H',rfl,c'⟩
theorem tAt {d:D} (t:isLf d) {r1 r2:LfV} (x1:Dt h V d (lfc r1)) (x2:Dt h W d (lfc r2)) (hN:3001≤N):∃ H',f111 N r1 r2 h=some (true,H')∧Chg [] h H':=by
 obtain ⟨nm,xs,rfl,hl⟩:=t;obtain ⟨s1,hc1,y1⟩:=vA3 x1;obtain ⟨s2,hc2,y2⟩:=vA3 x2;have e1:=rA4.inj hc1;have e2:=rA4.inj hc2;subst e1 e2;exact bAy fun H c=>mBf c y1 y2 (by omega) (by omega)
theorem uAt {xs:List D} (t:∀ o∈xs,isLf o) (hl:xs.length≤3000) {s1 s2:SL} (x1:Sl h V s1 xs) (x2:Sl h W s2 xs) (hN:3001≤N) {H:Heap} (c:Chg [] h H):∃ H',vM N s1 s2 () H=some (true,H')∧Chg [] H H':=by
 unfold vM;obtain ⟨H',e,c'⟩:=rY (N:=N) rA4 (z:=lfc lf0) rfl (L:=rA3 N) (F:=fun a b h=>f111 N a b h) (fun _ _ _ _ _ _ _=>rfl) t (fun x hx r1 r2 H V W y1 y2=>tAt (t x hx) y1 y2 hN) (by omega) (by omega) (x1.chg c (by simp)) (x2.chg c (by simp)) (G:=lA9 N s1 s2 () H) rfl;rw [e];exact ⟨H',rfl,c'⟩
theorem wB5 (hN:3001≤N):∀ (n M:Nat) (xs:List D) (s1 s2:SL) (h:Heap) (V W:Nat→Prop),3 * n+3≤M→(∀ s∈xs,isSm n s)→xs.length≤3000→Sl h V s1 xs→Sl h W s2 xs→∃ H',tG N M s1 s2 () h=some (true,H')∧Chg [] h H':=by
 intro n
 induction n with
 | zero=>
  intro M xs s1 s2 h V W hM t hl x1 x2;obtain ⟨M,rfl⟩:∃ m,M=m+2:=⟨M-2,by omega⟩;rw [lV];unfold lQ;obtain ⟨H',e,c'⟩:=rY (N:=N) (nAh 0) (z:=smx (smv (wF 0))) rfl (L:=rS N (tG N M) (f114 N M) (yM N M)) (F:=fun a b h=>f114 N M a b h) (fun _ _ _ _ _ _ _=>rfl) t (fun x hx r1 r2 H V W y1 y2=>by cases t x hx) (by omega) (by omega) x1 x2 (G:=yM N (M+1) s1 s2 () h) rfl;rw [e];exact ⟨H',rfl,c'⟩
 | succ n ih=>
  intro M xs s1 s2 h V W hM t hl x1 x2;obtain ⟨M,rfl⟩:∃ m,M=m+3:=⟨M-3,by omega⟩;rw [lV];unfold lQ;obtain ⟨H',e,c'⟩:=rY (N:=N) (nAh (n+1)) (z:=smx (smv (wF 0))) rfl (L:=rS N (tG N (M+1)) (f114 N (M+1)) (yM N (M+1))) (F:=fun a b h=>f114 N (M+1) a b h) (fun _ _ _ _ _ _ _=>rfl) t (fun x hx r1 r2 H V W y1 y2=>by
   obtain ⟨k,a,m,nm,ty,hs,pl,va,co,th,el,rfl,t1,t2,t3,t4,h1,h2,t5,t6⟩:=t x hx;obtain ⟨q1,p1,v1,o1,th1,el1,hc1,z1,pl1,va1,co1,u1,w1⟩:=kAd t1 t2 t3 t4 y1;obtain ⟨q2,p2,v2,o2,th2,el2,hc2,z2,pl2,va2,co2,u2,w2⟩:=kAd t1 t2 t3 t4 y2;have e1:=(nAh 1).inj hc1;have e2:=(nAh 1).inj hc2;subst e1 e2;show ∃ H',f114 N (M+1) _ _ H=_∧_;rw [lAt];exact cAy (fun H' c=>wA9 t1 (by omega) z1 z2 hN c) (fun H' c=>oAh t2 pl1 pl2 hN c) (fun H' c=>qB5 t3 va1 va2 hN c) (fun H' c=>vA9 t4 co1 co2 hN c)
    (fun H' c=>ih M th th1 th2 H' V W (by omega) t5 h1 (u1.chg c (by simp)) (u2.chg c (by simp))) (fun H' c=>ih M el el1 el2 H' V W (by omega) t6 h2 (w1.chg c (by simp)) (w2.chg c (by simp)))) (by omega) (by omega) x1 x2 (G:=yM N (M+2) s1 s2 () h) rfl
  rw [e];exact ⟨H',rfl,c'⟩
theorem yB5 {d:D} (t:isFu d) {r1 r2:FuV} (x1:Dt h V d (fux r1)) (x2:Dt h W d (fux r2)) (hN:3001≤N):∃ H',f75 N r1 r2 h=some (true,H')∧Chg [] h H':=by
 obtain ⟨pub,nm,lv,ps,ty,bd,a,rfl,h1,tl,h2,tp,tt,h3,tb⟩:=t;obtain ⟨l1,p1,b1,q1,hc1,y1,z1,u1,w1⟩:=lAd tt x1;obtain ⟨l2,p2,b2,q2,hc2,y2,z2,u2,w2⟩:=lAd tt x2;have e1:=uA9.inj hc1;have e2:=uA9.inj hc2;subst e1 e2;exact nB5 (fun H c=>uAt tl (by omega) y1 y2 hN c) (fun H c=>rAt tp (by omega) z1 z2 hN c) (fun H c=>wA9 tt (by omega) u1 u2 hN c)
  (fun H c=>wB5 hN 65 N bd b1 b2 H V W (by omega) tb (by omega) (w1.chg c (by simp)) (w2.chg c (by simp)))
theorem aB6 {xs:List D} (t:∀ o∈xs,isFu o) (hl:xs.length≤3000) {s1 s2:SL} (x1:Sl h V s1 xs) (x2:Sl h W s2 xs) (hN:3001≤N) {H:Heap} (c:Chg [] h H):∃ H',uA3 N s1 s2 () H=some (true,H')∧Chg [] H H':=by
 unfold uA3;obtain ⟨H',e,c'⟩:=rY (N:=N) uA9 (z:=fux (fuv (jJ false [] 0))) rfl (L:=yA6 N) (F:=fun a b h=>f75 N a b h) (fun _ _ _ _ _ _ _=>rfl) t (fun x hx r1 r2 H V W y1 y2=>yB5 (t x hx) y1 y2 hN) (by omega) (by omega) (x1.chg c (by simp)) (x2.chg c (by simp)) (G:=kAh N s1 s2 () H) rfl;rw [e];exact ⟨H',rfl,c'⟩
theorem fBd {xs ys:List D} (tx:∀ o∈xs,isSt o) (ty:∀ o∈ys,isFu o) (hx:xs.length≤3000) (hy:ys.length≤3000) {x1 x2 y1 y2:SL} (a1:Sl h V x1 xs) (a2:Sl h W x2 xs) (b1:Sl h V y1 ys) (b2:Sl h W y2 ys) (hN:3001≤N):∃ h',f30 N (x1,y1,()) (x2,y2,()) h=some (true,h')∧Chg [] h h':=
 oB5 (fun H c=>vB5 tx hx a1 a2 hN c) (fun H c=>aB6 ty hy b1 b2 hN c)
end
end Qp
namespace Ai
def OwC (h:Heap) (s:SL) (n:Nat) (vs:List AV):Prop:=
 (s.a=none∧s.len=0∧s.cap=0∧vs=[])∨
 ∃ A cs st,s.a=some (A,0)∧s.sz=n∧A<h.next∧h.g A=some (.row cs st)∧vs.length=s.len * n∧cs.take vs.length=vs∧s.len≤s.cap∧(st=.grown∨(st=.own∧s.cap * n=cs.length))
section
variable {E:Env} {h h':Heap} {s:SL} {n:Nat} {vs:List AV} {M:List Nat}
theorem OwC.nil (h:Heap) (z n:Nat):OwC h ⟨none,0,0,z⟩ n []:=.inl ⟨rfl,rfl,rfl,rfl⟩
theorem OwC.len (x:OwC h s n vs):vs.length=s.len * n:=by
 rcases x with ⟨_,h1,_,rfl⟩ | ⟨A,cs,st,_,_,_,_,h1,_⟩
 ·simp [h1]
 ·exact h1
theorem OwC.lt (x:OwC h s n vs):∀ A,s.blk=some A→A<h.next:=by
 intro A hA;rcases x with ⟨h1,_⟩ | ⟨A',cs,st,h1,_,h3,_⟩
 ·simp [SL.blk,h1] at hA
 ·simp [SL.blk,h1] at hA;subst hA;exact h3
theorem OwC.chg (x:OwC h s n vs) (c:Chg M h h') (hM:∀ A,s.blk=some A→A ∉ M):OwC h' s n vs:=by
 rcases x with h1 | ⟨A,cs,st,h1,h2,h3,h4,h5⟩
 ·exact .inl h1
 ·exact .inr ⟨A,cs,st,h1,h2,Nat.lt_of_lt_of_le h3 c.next,by rw [c.g A h3 (hM A (by simp [SL.blk,h1]))];exact h4,h5⟩
theorem OwC.sees (x:OwC h s n vs):Sees h s vs:=by
 rcases x with ⟨h1,h2,h3,rfl⟩ | ⟨A,cs,st,h1,h2,h3,h4,h5,h6,h7,h8⟩
 ·exact ⟨by simp [h2],fun _=>h2,fun A off ha=>by rw [h1] at ha;cases ha⟩
 ·refine ⟨by rw [h5,h2],fun ha=>(by rw [h1] at ha;cases ha),fun A' off ha=>?_⟩
  rw [h1] at ha;simp only [Option.some.injEq,Prod.mk.injEq] at ha;obtain ⟨rfl,rfl⟩:=ha;refine ⟨h3,cs,?_,by rw [List.drop_zero];exact h6⟩;rw [h4];rcases h8 with rfl | ⟨rfl,_⟩ <;> rfl
theorem OwC.cap (x:OwC h s n vs):s.len≤s.cap:=by
 rcases x with ⟨_,h2,h3,_⟩ | ⟨A,cs,st,h1,h2,h3,h4,h5,h6,h7,h8⟩
 ·omega
 ·exact h7
theorem aAo {x:SL} {ws:List AV} (hx:Sees h x ws) (hz:x.len * n=ws.length):nE h n x.len (.slice x.a x.len x.cap x.sz)=some ws:=by
 obtain ⟨g2,g3,g4⟩:=hx
 cases ha:x.a with
 | none=>
  have h0:=g3 ha;rw [h0,Nat.zero_mul] at hz
  have:ws=[]:=List.length_eq_zero_iff.1 hz.symm
  subst this;rfl
 | some q=>
  obtain ⟨A,off⟩:=q;obtain ⟨h1,bs,h5,h6⟩:=g4 A off ha;have hlen:((bs.drop off).take ws.length).length=ws.length:=by rw [h6]
  rw [List.length_take] at hlen;simp only [nE,Heap.read,wAe A h5,hz];rw [vI _ _ (by omega),h6]
theorem yA9 {st e:TypeId} {W:Nat} (ha:AppN E st e n W) {x:SL} {ws:List AV} (hx:Sees h x ws) (hz:x.len * n=ws.length) (hv:∀ w∈ws,AV.single w=true) (ho:OwC h s n vs) (hl:(s.len+x.len) * W≤1073741824) :
  ∃ s' h',iB E st st (.slice s.a s.len s.cap s.sz) (.slice x.a x.len x.cap x.sz) h=some (.slice s'.a s'.len s'.cap s'.sz,h')∧OwC h' s' n (vs++ws)∧s'.len=s.len+x.len∧Chg s.blk.toList h h'∧(∀ A,s'.blk=some A→s.blk=some A∨h.next≤A):=by
 obtain ⟨hu,⟨i,hi,hi1,hi2⟩,⟨z,hzz,hz1⟩⟩:=ha;have hfirst:=aAo hx hz
 by_cases hn:x.len=0
 ·have hws:ws=[]:=List.length_eq_zero_iff.1 (by rw [← hz,hn,Nat.zero_mul])
  subst hws;refine ⟨s,h,?_,by rw [List.append_nil];exact ho,by omega,(Chg.refl [] h).mono (by simp),fun A hA=>.inl hA⟩;rw [hn] at hfirst;simp only [iB,hu,uQ,yA4,cond_false,hi,hzz,dK,hi1,hn,hfirst,show Nat.beq 0 0=true from rfl,cond_true]
 have hn0:Nat.beq x.len 0=false:=by
  cases hq:Nat.beq x.len 0 with
  | false=>rfl
  | true=>exact absurd (Nat.eq_of_beq_eq_true hq) hn
 have hroom:Nat.ble ((s.len+x.len) * (i.bytes+i.size+1)) bT=true:=by
  have h1:(s.len+x.len) * (i.bytes+i.size+1)≤(s.len+x.len) * W:=Nat.mul_le_mul (Nat.le_refl _) (by omega);simp only [bT,Nat.ble_eq];omega
 have hsz:(Nat.beq s.sz i.size||s.a.isNone)=true:=by
  rcases ho with ⟨h1,_⟩ | ⟨A,cs,st',h1,h2,_⟩
  ·simp [h1]
  ·simp [hi1,h2]
 have key:iB E st st (.slice s.a s.len s.cap s.sz) (.slice x.a x.len x.cap x.sz) h=gL h s.a s.len s.cap n x.len ws:=by
  have hall:List.all ws AV.single=true:=by rw [List.all_eq_true];exact hv
  have hz2:Nat.beq z.cells.length i.size=true:=by rw [hz1,hi1];exact Nat.beq_refl _
  have hnl:Nat.beq ws.length (x.len * i.size)=true:=by rw [hi1,hz];exact Nat.beq_refl _
  simp only [iB,hu,uQ,yA4,cond_false,hi,hzz,dK];rw [hi1] at hroom hsz hz2 hnl ⊢;simp only [hfirst,hn0,cond_false,hroom,hsz,hz2,hnl,hall,Bool.and_self,cond_true]
 rw [key];rcases ho with ⟨h1,h2,h3,rfl⟩ | ⟨A,bs,st',h1,h2,h4,h5,h6,h7,h9,h10⟩
 ·have c0:Chg [] h (h.push (.row ws .grown)):=(Chg.refl [] h).push _
  refine ⟨⟨some (h.next,0),x.len,x.len,n⟩,_,by simp only [gL,h1,h2,Nat.zero_add],.inr ⟨h.next,ws,.grown,rfl,rfl,by simp,mH _ rfl,by simp [hz],by simp,Nat.le_refl _,.inl rfl⟩,by show x.len=_;omega,c0.mono (by simp),fun A hA=>.inr (by simp [SL.blk] at hA;omega)⟩
 ·have hbl:s.blk=some A:=by simp [SL.blk,h1]
  have hcl:vs.length≤bs.length:=by
   have:(bs.take vs.length).length=vs.length:=by rw [h7]
   rw [List.length_take] at this;omega
  have hg:h.t.get A=some (.row bs st'):=by unfold Heap.g at h5;exact h5
  have htk:takeN (s.len * n) bs=some vs:=by rw [vI _ _ (by omega),← h6,h7]
  have hlen2:(vs++ws).length=(s.len+x.len) * n:=by rw [List.length_append,h6,← hz,Nat.add_mul]
  have fresh:∀ H:Heap,H.next=h.next→OwC (H.push (.row (vs++ws) .grown)) ⟨some (h.next,0),s.len+x.len,s.len+x.len,n⟩ n (vs++ws):=fun H hH=>
   .inr ⟨h.next,vs++ws,.grown,rfl,rfl,by simp [hH],mH _ hH.symm,hlen2,List.take_of_length_le (Nat.le_refl _),Nat.le_refl _,.inl rfl⟩
  rcases h10 with rfl | ⟨rfl,h10⟩
  ·have cH:Chg [A] h (h.put A (.row bs .dead)):=(Chg.refl [A] h).put (.inl (by simp)) _
   refine ⟨⟨some (h.next,0),s.len+x.len,s.len+x.len,n⟩,(h.put A (.row bs .dead)).push (.row (vs++ws) .grown),?_,fresh _ rfl,rfl,(cH.push _).mono (by simp [hbl]),fun C hC=>.inr (by simp [SL.blk] at hC;omega)⟩;simp only [gL,h1,hg,List.drop_zero,htk]
  ·by_cases hc:s.len+x.len≤s.cap
   ·have hb1:Nat.ble (s.len+x.len) s.cap=true:=by simpa using hc
    have hroom2:s.len * n+ws.length≤bs.length:=by
     rw [← hz,← Nat.add_mul,← h10];exact Nat.mul_le_mul_right _ hc
    have hov:=wA1 bs ws (s.len * n) hroom2;have cH:Chg [A] h (h.put A (.row (bs.take (s.len * n)++ws++bs.drop (s.len * n+ws.length)) .own)):=(Chg.refl [A] h).put (.inl (by simp)) _;have e1:bs.take (s.len * n)=vs:=by rw [← h6,h7]
    refine ⟨⟨some (A,0),s.len+x.len,s.cap,n⟩,_,?_,.inr ⟨A,_,.own,rfl,rfl,by simp;omega,yT _ rfl,hlen2,?_,hc,.inr ⟨rfl,?_⟩⟩,rfl,cH.mono (by simp [hbl]),fun C hC=>.inl (by simp [SL.blk] at hC;rw [hbl,hC])⟩
    ·simp only [gL,h1,hg,List.drop_zero,htk,hb1,cond_true,Nat.zero_add,hov]
    ·rw [e1,List.append_assoc,← List.append_assoc,List.take_append_of_le_length (Nat.le_refl _),List.take_of_length_le (Nat.le_refl _)]
    ·show s.cap * n=_
     rw [h10];simp only [List.length_append,List.length_take,List.length_drop];omega
   ·have hb1:Nat.ble (s.len+x.len) s.cap=false:=by
     cases hx:Nat.ble (s.len+x.len) s.cap with
     | false=>rfl
     | true=>exact absurd (by simpa using hx) hc
    have cH:Chg [A] h h:=Chg.refl [A] h;refine ⟨⟨some (h.next,0),s.len+x.len,s.len+x.len,n⟩,h.push (.row (vs++ws) .grown),?_,fresh _ rfl,rfl,(cH.push _).mono (by simp [hbl]),fun C hC=>.inr (by simp [SL.blk] at hC;omega)⟩;simp only [gL,h1,hg,List.drop_zero,htk,hb1,cond_false]
end
end Ai
namespace Qp
theorem vS {h:Heap} {A:Nat} {cs:List AV} (x:h.own A cs) {j:Nat} {vs:List AV} (hj:j+vs.length≤cs.length) {ds:List AV} (hd:cs.take j++vs++cs.drop (j+vs.length)=ds):h.store (A,j) vs=some (h.put A (.row ds .own)):=by
 have hw:h.t.get A=some (.row cs .own):=x.1;simp only [Heap.store,Heap.rowW,hw,wA1 cs vs j hj,hd]
abbrev Fr0 (h:Heap) (C:Nat):Prop:=h.next≤C
section
variable {h h0:Heap} {V W:Nat→Prop}
theorem vAt:∀ {xs:List Bs} {vs:List AV} {n:Nat},De h V n (xs.map D.s) vs→vs=xs.map AV.str
 | [],vs,n,x=>by simpa [De] using x
 | y::r,vs,n,x=>by
  simp only [List.map_cons,De,Dt] at x;obtain ⟨a,b,rfl,_,rfl,hb⟩:=x;rw [vAt hb];rfl
theorem bA7 (h:Heap) (V:Nat→Prop):∀ (xs:List Bs),De h V 1 (xs.map D.s) (xs.map AV.str)
 | []=>by simp [De]
 | y::r=>by
  simp only [List.map_cons,De,Dt];exact ⟨[.str y],r.map AV.str,rfl,rfl,rfl,bA7 h V r⟩
theorem yA3 {N:Nat} {s:SL} {xs:List Bs} (x:Sl h V s (xs.map D.s)) (hl:xs.length≤3000):∃ v h',f115 N s h=some (v,h')∧Chg [] h h'∧Sl h' (Fr0 h) v (xs.map D.s):=by
 unfold f115;obtain ⟨ws,hs,he⟩:=x.els;have hws:=vAt he;have hlen:=x.len;rw [List.length_map] at hlen;obtain ⟨v,h',e,o,vl,c,hb⟩:=yA9 (E:=E) gAm (h:=h) (s:=sl0) (vs:=[]) hs (by rw [hws,List.length_map];omega) (by rw [hws];intro w hw;obtain ⟨y,_,rfl⟩:=List.mem_map.1 hw;rfl) (OwC.nil h 0 1) (by show (0+s.len) * 100≤_;omega);have e:iB E 38 38 (.slice none 0 0 0) (.slice s.a s.len s.cap s.sz) h=some (.slice v.a v.len v.cap v.sz,h'):=e;rw [e];have c:Chg [] h h':=c;refine ⟨v,h',rfl,c,?_,o.cap,fun A hA=>?_,ws,o.sees,?_⟩
 ·rw [vl,List.length_map];show 0+s.len=_;omega
 ·rcases hb A hA with hh | hh
  ·simp [SL.blk] at hh
  ·exact hh
 ·rw [hws]
  by_cases hz:xs=[]
  ·subst hz;simp [De]
  ·have:v.sz=1:=by
    rcases o with ⟨_,h2,_⟩ | ⟨A,cs,st,_,h2,_⟩
    ·have hp:0<xs.length:=List.length_pos_iff.2 hz
     have:v.len=0+s.len:=vl
     omega
    ·exact h2
   rw [this];exact bA7 _ _ _
theorem aAa {α:Type} {n k:Nat} {xs:List D} {L:Nat→SL→Int→Heap→Option (Out×α×Heap)} {fin:SL→α}
  (hstep:∀ (M i:Nat) (hi:i<xs.length) (out:SL) (h:Heap),OwV (Fr0 h0) h out n (xs.take i)→Chg [] h0 h→∃ out' h',L (M+1) out (i:Int) h=L M out' ((i+1:Nat):Int) h'∧OwV (Fr0 h0) h' out' n (xs.take (i+1))∧Chg [] h0 h')
  (hend:∀ M out h,L (M+1) out (xs.length:Int) h=some (.exit k,fin out,h)):∀ (M i:Nat) (out:SL) (h:Heap),i≤xs.length→xs.length-i<M→OwV (Fr0 h0) h out n (xs.take i)→Chg [] h0 h→∃ out' h',L M out (i:Int) h=some (.exit k,fin out',h')∧OwV (Fr0 h0) h' out' n xs∧Chg [] h0 h':=by
 intro M
 induction M with
 | zero=>intro i _ _ _ h;omega
 | succ M ih=>
  intro i out h hi hM ho hc
  by_cases q:i<xs.length
  ·obtain ⟨out',h',e,o',c'⟩:=hstep M i q out h ho hc
   rw [e];exact ih (i+1) out' h' q (by omega) o' c'
  ·have:i=xs.length:=by omega
   subst this;rw [hend];exact ⟨out,h,rfl,by rw [List.take_length] at ho;exact ho,hc⟩
theorem tAk {st e:TypeId} {n Wd:Nat} (ha:AppN E st e n Wd) (hn:0<n) {out:SL} {xs:List D} {i:Nat} (hi:i<xs.length) (ho:OwV (Fr0 h0) h out n (xs.take i)) (c0:Chg [] h0 h) {H:Heap} (cH:Chg [] h H) {cs:List AV} (hd:Dt H (Fr0 h) xs[i] cs) (hcs:cs.length=n) (hl:(i+1) * Wd≤1073741824) :
  ∃ s' h',(∀ {β:Type} (K:SL→Heap→Option β),aE (.val zL2) (iB E st st (.slice out.a out.len out.cap out.sz) (.slice (some (H.next,0)) 1 1 n) (H.push (.row cs .own))) K=K s' h')∧OwV (Fr0 h0) h' s' n (xs.take (i+1))∧Chg [] h0 h':=by
 have hle:=c0.next;have hle2:=cH.next;have o1:=ho.chg cH (by simp);obtain ⟨s',h',e,o',c',_⟩:=dI ha hn o1 (d:=xs[i]) (cs:=cs) (Dt.weak (fun C hC hl=>⟨by show h0.next≤C;have:h.next≤C:=hC;omega,fun hb=>by have:=(ho.ge C hb).2;have:h.next≤C:=hC;omega⟩) hd) hcs (fun A hA=>by show h0.next≤A;omega) (by rw [List.length_take,Nat.min_eq_left (by omega)];exact hl);refine ⟨s',h',fun K=>by rw [e];rfl,by rw [List.take_succ_eq_append_getElem hi];exact o',(c0.trans cH).step c' fun A hA hlt=>?_⟩;have hb:out.blk=some A:=by simpa using hA
 have:=(ho.ge A hb).1
 exact absurd this (by show ¬ h0.next≤A;omega)
end
theorem yBh:AppN E 39 41 4 1000:=AppN.of (by kernel_rfl)
section
variable {N:Nat}
theorem pAh (hN:3001≤N):∀ (n M:Nat) (d:D) (r:TyV) (h:Heap) (V:Nat→Prop),n≤M→iA6 n d→Dt h V d (tyc r)→∃ r' h',f117 N M r h=some (r',h')∧Chg [] h h'∧Dt h' (Fr0 h) d (tyc r'):=by
 intro n
 induction n with
 | zero=>intro M d r h V _ t;cases t
 | succ n ih=>
  intro M d r h V hM t x;obtain ⟨M,rfl⟩:∃ m,M=m+1:=⟨M-1,by omega⟩;obtain ⟨k,y,lv,el,rfl,hlv,hel,tel⟩:=t;obtain ⟨l1,g1,hc1,y1,z1⟩:=oA4.1 x;have e1:=(wAn 1).inj hc1;subst e1;rw [eAt];unfold dAt;dsimp only;have o1:=vA h (tyc (k,y,l1,g1,()));have c1:=qA h (.row (tyc (k,y,l1,g1,())) .own);have n1:(h.push (.row (tyc (k,y,l1,g1,())) .own)).next=h.next+1:=rfl;have e1:h.push (.row [(.int .i64 k),(.str y),(.slice l1.a l1.len l1.cap l1.sz),(.slice g1.a g1.len g1.cap g1.sz)] .own)=h.push (.row (tyc (k,y,l1,g1,())) .own):=rfl;rw [e1];generalize h.push (.row (tyc (k,y,l1,g1,())) .own)=h1 at *;have o2:=vA h1 zt;have c2:=qA h1 (.row zt .own);have n2:(h1.push (.row zt .own)).next=h1.next+1:=rfl;have e2:h1.push (.row [(.int .i64 0),(.str []),(.slice none 0 0 0),(.slice none 0 0 0)] .own)=h1.push (.row zt .own):=rfl;rw [e2];have o1:=o1.chg c2 (by simp);have c02:=c1.trans c2;generalize h1.push (.row zt .own)=h2 at *;have k2:h2.cell (h.next,2)=some (SL.av l1):=o1.cell 2;simp only [Nat.zero_add,k2,SL.av,fA,uA];obtain ⟨v,h5,e5,c5,sv⟩:=yA3 (N:=N) (y1.chg c02 (by simp)) (by omega);rw [e5,aA];have o1:=o1.chg c5 (by simp);have o2:=o2.chg c5 (by simp);have n5:=c5.next;have hst:h5.store (h.next,2) [(.slice v.a v.len v.cap v.sz)]=some (h5.put h.next (.row (tyc (k,y,v,g1,())) .own)):=vS o1 (show 2+1≤4 by decide) rfl;rw [hst,dA];have c6:=o1.put (tyc (k,y,v,g1,()));have c06:Chg [] h (h5.put h.next (.row (tyc (k,y,v,g1,())) .own)):=(c02.trans c5).put (.inr (Nat.le_refl _)) _;have o2:=o2.chg c6 (by simp;omega);have o1:=yA o1 (tyc (k,y,v,g1,()));have sv:=(sv.weak (W:=fun C=>h.next+1<C) (fun C hC _=>by have:h2.next≤C:=hC;omega)).chg c6 (by intro A hA;simp;omega);have n6:(h5.put h.next (.row (tyc (k,y,v,g1,())) .own)).next=h5.next:=rfl;generalize h5.put h.next (.row (tyc (k,y,v,g1,())) .own)=h6 at *;have k6:h6.cell (h.next,3)=some (SL.av g1):=o1.cell 3;simp only [k6,SL.av,fA,uA];have z6:=z1.chg c06 (by simp);obtain ⟨out,h22,e22,w22,c22⟩:=aAa (h0:=h6) (n:=4) (k:=0) (xs:=el) (L:=fun Q out i H=>dA3 N (f117 N M) Q (some (h.next,0)) (some (h1.next,0)) out g1 (el.length:Int) i H) (fin:=fun out=>(some (h.next,0),some (h1.next,0),out,()))
   (fun Q i hi out H ho hc=>by
    have hlt:wB (i:Int) (el.length:Int)=true:=by rw [eF];exact decide_eq_true hi
    rw [oY];unfold dV;rw [hlt];dsimp only;rw [cond_true];have zH:=z6.chg hc (by simp);obtain ⟨q,g,d⟩:=(wAn n).elt zH hi (tel _ (List.getElem_mem hi));rw [zH.ix hi 4,g,jAm];obtain ⟨Ha,pa,ca,oa⟩:=(wAn n).park (z:=zt) rfl H q;have pa':∀ {β:Type} (K:Heap→Option β),rA ((H.push (.row [(.int .i64 0),(.str []),(.slice none 0 0 0),(.slice none 0 0 0)] .own)).store (H.next,0) [(.int .i64 q.1),(.str q.2.1),(.slice q.2.2.1.a q.2.2.1.len q.2.2.1.cap q.2.2.1.sz),(.slice q.2.2.2.1.a q.2.2.2.1.len q.2.2.2.1.cap q.2.2.2.1.sz)]) K=K Ha:=pa;rw [pa',iY oa];obtain ⟨q',Hb,eb,cb,db⟩:=ih M _ q Ha V (by omega) (tel _ (List.getElem_mem hi)) (Dt.chg ca (by simp) d);have eb':f117 N M (q.1,q.2.1,q.2.2.1,q.2.2.2.1,()) Ha=some (q',Hb):=eb;rw [eb',aA];obtain ⟨s',h',ea,oa',ca'⟩:=tAk yBh (by decide) hi ho hc (ca.trans cb) (cs:=tyc q') (Dt.weak (fun C hC _=>by have:Ha.next≤C:=hC;have:=ca.next;show H.next≤C;omega) db) rfl (by omega);have ea':∀ {β:Type} (K:SL→Heap→Option β),aE (.val zL2) (iB E 39 39 (.slice out.a out.len out.cap out.sz) (.slice (some (Hb.next,0)) 1 1 4) (Hb.push (.row [(.int .i64 q'.1),(.str q'.2.1),(.slice q'.2.2.1.a q'.2.2.1.len q'.2.2.1.cap q'.2.2.1.sz),(.slice q'.2.2.2.1.a q'.2.2.2.1.len q'.2.2.2.1.cap q'.2.2.2.1.sz)] .own))) K=K s' h':=ea;rw [ea',dC (by omega)];exact ⟨s',h',rfl,oa',ca'⟩)
   (fun Q out H=>by
    rw [oY];unfold dV;rw [eF,decide_eq_false (by omega)];rfl) N 0 sl0 h6 (Nat.zero_le _) (by omega) (OwV.nil _ _ _ _) (Chg.refl _ _)
  rw [show ((0:Nat):Int)=0 from rfl] at e22;show ∃ r' h',(fE (dA3 N (f117 N M) N (some (h.next,0)) (some (h1.next,0)) sl0 g1 (Int.ofNat g1.len) 0 h6) _)=_∧_;rw [show Int.ofNat g1.len=(el.length:Int) by rw [z6.len];rfl,e22,uB];simp only [dA,Nat.zero_add];have o1:=o1.chg c22 (by simp);have o2:=o2.chg c22 (by simp);have n22:=c22.next;have hst:h22.store (h.next,3) [(.slice out.a out.len out.cap out.sz)]=some (h22.put h.next (.row (tyc (k,y,v,out,())) .own)):=vS o1 (show 3+1≤4 by decide) rfl;rw [hst,dA];have c24:=o1.put (tyc (k,y,v,out,()));have c024:Chg [] h (h22.put h.next (.row (tyc (k,y,v,out,())) .own)):=(c06.trans c22).put (.inr (Nat.le_refl _)) _;have o2:=o2.chg c24 (by simp;omega);have o1:=yA o1 (tyc (k,y,v,out,()));have sv:=(sv.chg c22 (by simp)).chg c24 (by intro A hA;simp;omega);have so:=(w22.sl.weak (W:=fun C=>h.next+1<C) (fun C hC _=>by have:h6.next≤C:=hC;omega)).chg c24 (by intro A hA;simp;omega);generalize h22.put h.next (.row (tyc (k,y,v,out,())) .own)=h24 at *;rw [iY o1];have hst2:h24.store (h1.next,0) [(.int .i64 k),(.str y),(.slice v.a v.len v.cap v.sz),(.slice out.a out.len out.cap out.sz)]=some (h24.put h1.next (.row (tyc (k,y,v,out,())) .own)):=o2.store rfl;rw [hst2,dA,iY (yA o2 (tyc (k,y,v,out,())))];have c27:=o2.put (tyc (k,y,v,out,()));refine ⟨_,_,rfl,c024.put (.inr (by omega)) _,oA4.2 ⟨v,out,rfl,?_,?_⟩⟩
  ·exact (sv.chg c27 (by intro A hA;simp;omega)).weak fun C hC _=>by show h.next≤C;omega
  ·exact (so.chg c27 (by intro A hA;simp;omega)).weak fun C hC _=>by show h.next≤C;omega
end
end Qp
namespace Qp
abbrev Hi (h:Heap) (C:Nat):Prop:=h.next+1<C
structure WR (h0 H:Heap) (cs1 cs2:List AV):Prop where
 o1:H.own h0.next cs1
 o2:H.own (h0.next+1) cs2
 c:Chg [] h0 H
 nx:h0.next+2≤H.next
section
variable {h0 H H':Heap} {cs1 cs2:List AV}
theorem WR.start (h:Heap) (cs1 cs2:List AV):WR h ((h.push (.row cs1 .own)).push (.row cs2 .own)) cs1 cs2:=
 ⟨(vA h cs1).chg (qA _ _) (by simp),vA (h.push (.row cs1 .own)) cs2,(qA h _).trans (qA _ _),Nat.le_refl _⟩
theorem wAt (h:Heap) (cs1 cs2:List AV):∃ h2,(h.push (.row cs1 .own)).push (.row cs2 .own)=h2∧(h.push (.row cs1 .own)).next=h.next+1∧WR h h2 cs1 cs2:=⟨_,rfl,rfl,WR.start h cs1 cs2⟩
theorem WR.call (w:WR h0 H cs1 cs2) (c:Chg [] H H'):WR h0 H' cs1 cs2:=⟨w.o1.chg c (by simp),w.o2.chg c (by simp),w.c.trans c,Nat.le_trans w.nx c.next⟩
theorem WR.set (w:WR h0 H cs1 cs2) {j:Nat} {vs ds:List AV} (hj:j+vs.length≤cs1.length) (hd:cs1.take j++vs++cs1.drop (j+vs.length)=ds):∃ H',(∀ {β:Type} (K:Heap→Option β),rA (H.store (h0.next,j) vs) K=K H')∧WR h0 H' ds cs2∧Chg [h0.next] H H':=by
 have cp:=w.o1.put ds;exact ⟨_,fun K=>by rw [vS w.o1 hj hd,dA],⟨yA w.o1 ds,w.o2.chg cp (by simp),w.c.put (.inr (Nat.le_refl _)) _,w.nx⟩,cp⟩
theorem WR.hi (w:WR h0 H cs1 cs2) {d:D} {cs:List AV} (x:Dt H' (Fr0 H) d cs):Dt H' (Hi h0) d cs:=Dt.weak (fun C hC _=>by have:H.next≤C:=hC;have:=w.nx;show h0.next+1<C;omega) x
theorem WR.hiS (w:WR h0 H cs1 cs2) {s:SL} {xs:List D} (x:Sl H' (Fr0 H) s xs):Sl H' (Hi h0) s xs:=x.weak (fun C hC _=>by have:H.next≤C:=hC;have:=w.nx;show h0.next+1<C;omega)
theorem rI {d:D} {cs:List AV} (c:Chg [h0.next] H H') (x:Dt H (Hi h0) d cs):Dt H' (Hi h0) d cs:=Dt.chg c (by intro A hA;simp;have:h0.next+1<A:=hA;omega) x
theorem wS {s:SL} {xs:List D} (c:Chg [h0.next] H H') (x:Sl H (Hi h0) s xs):Sl H' (Hi h0) s xs:=x.chg c (by intro A hA;simp;have:h0.next+1<A:=hA;omega)
theorem uAk {d:D} {cs:List AV} (c:Chg [h0.next+1] H H') (x:Dt H (Hi h0) d cs):Dt H' (Fr0 h0) d cs:=Dt.weak (fun C hC _=>by show h0.next≤C;have:h0.next+1<C:=hC;omega) (Dt.chg c (by intro A hA;simp;have:h0.next+1<A:=hA;omega) x)
theorem aA4 {s:SL} {xs:List D} (c:Chg [h0.next+1] H H') (x:Sl H (Hi h0) s xs):Sl H' (Fr0 h0) s xs:=(x.chg c (by intro A hA;simp;have:h0.next+1<A:=hA;omega)).weak (fun C hC _=>by show h0.next≤C;have:h0.next+1<C:=hC;omega)
theorem WR.fin {tys:List CTy} {n:Nat} {c:gN tys→List AV} {P:D→Prop} (R:Rec tys n c P) {r r0:gN tys} (w:WR h0 H (c r) (c r0)):∃ H',(∀ {β:Type} (K:gN tys→Heap→Option β),(iA (.val (.agg tys)) (H.cells (h0.next,0) n) fun x=>rA (H.store (h0.next+1,0) (c x)) fun h'=>iA (.val (.agg tys)) (h'.cells (h0.next+1,0) n) fun y=>K y h')=K r H')∧Chg [h0.next+1] H H'∧Chg [] h0 H':=by
 have hst:H.store (h0.next+1,0) (c r)=some (H.put (h0.next+1) (.row (c r) .own)):=w.o2.store (by rw [R.len,R.len]);refine ⟨_,fun K=>?_,w.o2.put (c r),w.c.put (.inr (Nat.le_succ _)) _⟩;rw [R.cells w.o1,hst,dA,R.cells (yA w.o2 (c r))]
end
section
variable {N:Nat} {h:Heap} {V:Nat→Prop}
theorem qAh {d:D} (t:isLf d) {p:LfV} (x:Dt h V d (lfc p)):∃ p' h',f167 N p h=some (p',h')∧Chg [] h h'∧Dt h' (Fr0 h) d (lfc p'):=by
 obtain ⟨nm,xs,rfl,hl⟩:=t;obtain ⟨s,hc,y⟩:=vA3 x;have e:=rA4.inj hc;subst e;unfold f167;obtain ⟨h2,e2,n2,w⟩:=wAt h [(.str nm),(.slice s.a s.len s.cap s.sz)] [(.str []),(.slice none 0 0 0)];have w:WR h h2 (lfc (nm,s,())) (lfc lf0):=w;dsimp only;rw [e2,n2];have k2:h2.cell (h.next,1)=some (SL.av s):=w.o1.cell 1;simp only [Nat.zero_add,k2,SL.av,fA,uA];obtain ⟨v,h5,e5,c5,sv⟩:=yA3 (N:=N) (y.chg w.c (by simp)) (by omega);show ∃ p' h',(lA (f115 N s h2) _)=_∧_;rw [e5,aA];have sv:=w.hiS sv;obtain ⟨h6,p6,w6,c6⟩:=(w.call c5).set (j:=1) (vs:=[(.slice v.a v.len v.cap v.sz)]) (show 1+1≤2 by decide) (ds:=lfc (nm,v,())) rfl;rw [p6];obtain ⟨h8,p8,c8,c08⟩:=WR.fin rA4 (r0:=lf0) w6;exact ⟨(nm,v,()),h8,p8 (fun y h'=>some (y,h')),c08,vW (aA4 c8 (wS c6 sv))⟩
theorem bAa {d:D} (t:isOp d) {r:OpV} (x:Dt h V d (opc r)):∃ r' h',f169 N r h=some (r',h')∧Chg [] h h'∧Dt h' (Fr0 h) d (opc r'):=by
 obtain ⟨k,n,pl,rfl,ht⟩:=t;obtain ⟨p,hc,y⟩:=qAk ht x;have e:=mAh.inj hc;subst e;unfold f169;obtain ⟨h2,e2,n2,w⟩:=wAt h [(.int .i64 k),(.int .i64 n),(.str p.1),(.slice p.2.1.a p.2.1.len p.2.1.cap p.2.1.sz)] [(.int .i64 0),(.int .i64 0),(.str []),(.slice none 0 0 0)];have w:WR h h2 (opc (k,n,p.1,p.2.1,())) (opc rE):=w;dsimp only;rw [e2,n2];have k2:h2.cells (h.next,2) 2=some (.agg (lfc p)):=w.o1.cells (j:=2) (m:=2) (show 2+2≤4 by decide);simp only [Nat.zero_add];rw [k2,fAo];obtain ⟨p',h5,e5,c5,dp⟩:=qAh (N:=N) ht (Dt.chg w.c (by simp) y);have e5':f167 N (p.1,p.2.1,()) h2=some (p',h5):=e5;rw [e5',aA];have dp:=w.hi dp;obtain ⟨h6,p6,w6,c6⟩:=(w.call c5).set (j:=2) (vs:=[(.str p'.1),(.slice p'.2.1.a p'.2.1.len p'.2.1.cap p'.2.1.sz)]) (show 2+2≤4 by decide) (ds:=opc (k,n,p'.1,p'.2.1,())) rfl;rw [p6];obtain ⟨h8,p8,c8,c08⟩:=WR.fin mAh (r0:=rE) w6;exact ⟨_,h8,p8 (fun y h'=>some (y,h')),c08,vAm (uAk c8 (rI c6 dp))⟩
theorem yAt (hN:3001≤N) {fs:List D} (t:∀ f∈fs,isFd f) (hl:fs.length≤3000) {s:SL} (x:Sl h V s fs):∃ v h',f116 N s h=some (v,h')∧Chg [] h h'∧Sl h' (Fr0 h) v fs:=by
 unfold f116;obtain ⟨out,h17,e17,w17,c17⟩:=aAa (h0:=h) (n:=6) (k:=0) (xs:=fs) (L:=fun Q out i H=>cA9 N Q out s (fs.length:Int) i H) (fin:=fun out=>(out,()))
  (fun Q i hi out H ho hc=>by
   have hlt:wB (i:Int) (fs.length:Int)=true:=by rw [eF];exact decide_eq_true hi
   rw [pY];unfold eV;rw [hlt];dsimp only;rw [cond_true];have zH:=x.chg hc (by simp);have tm:=t _ (List.getElem_mem hi);obtain ⟨q,g,d⟩:=yAn.elt zH hi tm;rw [zH.ix hi 6,g,aBh];obtain ⟨m,nm,ty,hf,ht⟩:=tm;rw [hf] at d;obtain ⟨r,hc1,dr⟩:=pAk ht d;have e:=yAn.inj hc1;subst e;obtain ⟨Ha,pa,ca,oa⟩:=yAn.park (z:=fdc fd0) rfl H (mS m nm r);have pa':∀ {β:Type} (K:Heap→Option β),rA ((H.push (.row [(.bool false),(.str []),(.int .i64 0),(.str []),(.slice none 0 0 0),(.slice none 0 0 0)] .own)).store (H.next,0) [(.bool m),(.str nm),(.int .i64 r.1),(.str r.2.1),(.slice r.2.2.1.a r.2.2.1.len r.2.2.1.cap r.2.2.1.sz),(.slice r.2.2.2.1.a r.2.2.2.1.len r.2.2.2.1.cap r.2.2.2.1.sz)]) K=K Ha:=pa;dsimp only [mS];rw [pa'];have k2:Ha.cells (H.next,0+2) 4=some (.agg (tyc r)):=oa.cells (j:=2) (m:=4) (show 2+4≤6 by decide);rw [k2,jAm];obtain ⟨r',Hb,eb,cb,db⟩:=pAh hN 65 N ty r Ha V (by omega) ht (Dt.chg ca (by simp) dr);have eb':f117 N N (r.1,r.2.1,r.2.2.1,r.2.2.2.1,()) Ha=some (r',Hb):=eb;rw [eb',aA];have ob:=oa.chg cb (by simp);have hst:Hb.store (H.next,0+2) [(.int .i64 r'.1),(.str r'.2.1),(.slice r'.2.2.1.a r'.2.2.1.len r'.2.2.1.cap r'.2.2.1.sz),(.slice r'.2.2.2.1.a r'.2.2.2.1.len r'.2.2.2.1.cap r'.2.2.2.1.sz)]=some (Hb.put H.next (.row (fdc (mS m nm r')) .own)):=vS ob (show 2+4≤6 by decide) rfl;rw [hst,dA];have cp:=ob.put (fdc (mS m nm r'));have db:=Dt.chg cp (by intro A hA;simp;have:Ha.next≤A:=hA;have:=oa.2;omega) db;have cc:Chg [] H (Hb.put H.next (.row (fdc (mS m nm r')) .own)):=(ca.trans cb).put (.inr (Nat.le_refl _)) _;have oc:=yA ob (fdc (mS m nm r'));generalize Hb.put H.next (.row (fdc (mS m nm r')) .own)=Hc at *;rw [vAj oc];obtain ⟨s',h',ea,oa',ca'⟩:=tAk vB3 (by decide) hi ho hc cc (cs:=fdc (mS m nm r')) (by rw [hf];exact uB3 (Dt.weak (fun C hC _=>by have:Ha.next≤C:=hC;have:=ca.next;show H.next≤C;omega) db)) rfl (by omega);have ea':∀ {β:Type} (K:SL→Heap→Option β),aE (.val zL2) (iB E 37 37 (.slice out.a out.len out.cap out.sz) (.slice (some (Hc.next,0)) 1 1 6) (Hc.push (.row [(.bool m),(.str nm),(.int .i64 r'.1),(.str r'.2.1),(.slice r'.2.2.1.a r'.2.2.1.len r'.2.2.1.cap r'.2.2.1.sz),(.slice r'.2.2.2.1.a r'.2.2.2.1.len r'.2.2.2.1.cap r'.2.2.2.1.sz)] .own))) K=K s' h':=ea;dsimp only [mS];rw [ea',dC (by omega)];exact ⟨s',h',rfl,oa',ca'⟩)
  (fun Q out H=>by
   rw [pY];unfold eV;rw [eF,decide_eq_false (by omega)];rfl) N 0 sl0 h (Nat.zero_le _) (by omega) (OwV.nil _ _ _ _) (Chg.refl _ _)
 rw [show ((0:Nat):Int)=0 from rfl] at e17;rw [show Int.ofNat s.len=(fs.length:Int) by rw [x.len];rfl,e17,uB];exact ⟨_,_,rfl,c17,w17.sl⟩
theorem gBd (hN:3001≤N) {d:D} (t:isSt d) {r:StV} (x:Dt h V d (stc r)):∃ r' h',f76 N r h=some (r',h')∧Chg [] h h'∧Dt h' (Fr0 h) d (stc r'):=by
 obtain ⟨pub,nm,lv,fs,a,rfl,hl,hf,tf⟩:=t;obtain ⟨l1,g1,hc,y,z⟩:=aA7 x;have e:=wA3.inj hc;subst e;unfold f76;obtain ⟨h2,e2,n2,w⟩:=wAt h [(.bool pub),(.str nm),(.slice l1.a l1.len l1.cap l1.sz),(.slice g1.a g1.len g1.cap g1.sz),(.int .i64 a)] [(.bool false),(.str []),(.slice none 0 0 0),(.slice none 0 0 0),(.int .i64 0)];have w:WR h h2 (stc (pub,nm,l1,g1,a,())) (stc st0):=w;dsimp only;rw [e2,n2];have k2:h2.cell (h.next,2)=some (SL.av l1):=w.o1.cell 2;simp only [Nat.zero_add,k2,SL.av,fA,uA];obtain ⟨v,h5,e5,c5,sv⟩:=yA3 (N:=N) (y.chg w.c (by simp)) (by omega);show ∃ p' h',(lA (f115 N l1 h2) _)=_∧_;rw [e5,aA];have sv:=w.hiS sv;obtain ⟨h6,p6,w6,c6⟩:=(w.call c5).set (j:=2) (vs:=[(.slice v.a v.len v.cap v.sz)]) (show 2+1≤5 by decide) (ds:=stc (pub,nm,v,g1,a,())) rfl;rw [p6];have sv:=wS c6 sv;have k6:h6.cell (h.next,3)=some (SL.av g1):=w6.o1.cell 3;simp only [k6,SL.av,fA,uA];obtain ⟨u,h9,e9,c9,su⟩:=yAt hN tf (by omega) (z.chg w6.c (by simp));show ∃ p' h',(lA (f116 N g1 h6) _)=_∧_;rw [e9,aA];have su:=w6.hiS su;obtain ⟨h10,p10,w10,c10⟩:=(w6.call c9).set (j:=3) (vs:=[(.slice u.a u.len u.cap u.sz)]) (show 3+1≤5 by decide) (ds:=stc (pub,nm,v,u,a,())) rfl;rw [p10];obtain ⟨h12,p12,c12,c012⟩:=WR.fin wA3 (r0:=st0) w10;exact ⟨_,h12,p12 (fun y h'=>some (y,h')),c012,rA8 (aA4 c12 (wS c10 (sv.chg c9 (by simp)))) (aA4 c12 (wS c10 su))⟩
end
end Qp
namespace Qp
abbrev MP:=Heap→(Nat→Prop)→SL→List D→Prop
structure MeP (M:MP) (h:Heap) (S:Nat→Prop) (r:SmR) (ty pl va co:D) (th el:List D) (S0 S1 S2:Nat→Prop):Prop where
 ty:Dt h S0 ty (tyc r.ty)
 pl:Dt h S0 pl (lfc r.pl)
 va:Dt h S0 va (vac r.va)
 co:Dt h S0 co (opc r.co)
 th:M h S1 r.th th
 el:M h S2 r.el el
 i0:∀ C,S0 C→S C
 i1:∀ C,S1 C→S C
 i2:∀ C,S2 C→S C
 d01:∀ C,S0 C→¬ S1 C
 d02:∀ C,S0 C→¬ S2 C
 d12:∀ C,S1 C→¬ S2 C
def Me (M:MP) (h:Heap) (S:Nat→Prop) (c:List AV) (x:D):Prop:=
 ∃ (r:SmR) (ty pl va co:D) (th el:List D) (S0 S1 S2:Nat→Prop),x=smT r.k r.at_ r.m r.nm ty r.has pl va co th el∧c=smc r∧MeP M h S r ty pl va co th el S0 S1 S2
def Ml (M:MP) (h:Heap):(Nat→Prop)→List AV→List D→Prop
 | _,vs,[]=>vs=[]
 | S,vs,x::r=>∃ c rest S1 S2,vs=c++rest∧Me M h S1 c x∧Ml M h S2 rest r∧(∀ C,S1 C→S C)∧(∀ C,S2 C→S C)∧∀ C,S1 C→¬ S2 C
def Mt:Nat→MP
 | 0=>fun _ _ s xs=>xs=[]∧s.a=none∧s.len=0∧s.cap=0
 | n+1=>fun h S s xs=>∃ vs,OwC h s 32 vs∧(∀ A,s.blk=some A→S A)∧Ml (Mt n) h (fun C=>S C∧s.blk≠some C) vs xs
section
variable {M:MP} {h h':Heap} {S W:Nat→Prop} {c vs:List AV} {x:D} {xs:List D} {L:List Nat}
def bB6 (M:MP):Prop:=∀ (h h':Heap) (S:Nat→Prop) (s:SL) (xs:List D) (L:List Nat),Chg L h h'→(∀ A,S A→A ∉ L)→M h S s xs→M h' S s xs
def dAy (M:MP):Prop:=∀ (h:Heap) (S W:Nat→Prop) (s:SL) (xs:List D),(∀ C,S C→C<h.next→W C)→M h S s xs→M h W s xs
theorem Me.chg (k:bB6 M) (cc:Chg L h h') (hd:∀ A,S A→A ∉ L) (e:Me M h S c x):Me M h' S c x:=by
 obtain ⟨r,ty,pl,va,co,th,el,S0,S1,S2,h1,h2,p⟩:=e;have q0:∀ A,S0 A→A ∉ L:=fun A hA=>hd A (p.i0 A hA);exact ⟨r,ty,pl,va,co,th,el,S0,S1,S2,h1,h2,⟨Dt.chg cc q0 p.ty,Dt.chg cc q0 p.pl,Dt.chg cc q0 p.va,Dt.chg cc q0 p.co,k _ _ _ _ _ _ cc (fun A hA=>hd A (p.i1 A hA)) p.th,k _ _ _ _ _ _ cc (fun A hA=>hd A (p.i2 A hA)) p.el,p.i0,p.i1,p.i2,p.d01,p.d02,p.d12⟩⟩
theorem Me.weak (k:dAy M) (hW:∀ C,S C→C<h.next→W C) (e:Me M h S c x):Me M h W c x:=by
 obtain ⟨r,ty,pl,va,co,th,el,S0,S1,S2,h1,h2,p⟩:=e;have q0:∀ A,S0 A→A<h.next→(S0 A∧A<h.next):=fun A hA hl=>⟨hA,hl⟩;exact ⟨r,ty,pl,va,co,th,el,fun C=>S0 C∧C<h.next,fun C=>S1 C∧C<h.next,fun C=>S2 C∧C<h.next,h1,h2,⟨Dt.weak q0 p.ty,Dt.weak q0 p.pl,Dt.weak q0 p.va,Dt.weak q0 p.co,k _ _ _ _ _ (fun C hC hl=>⟨hC,hl⟩) p.th,k _ _ _ _ _ (fun C hC hl=>⟨hC,hl⟩) p.el,
  fun C hC=>hW C (p.i0 C hC.1) hC.2,fun C hC=>hW C (p.i1 C hC.1) hC.2,fun C hC=>hW C (p.i2 C hC.1) hC.2,fun C a b=>p.d01 C a.1 b.1,fun C a b=>p.d02 C a.1 b.1,fun C a b=>p.d12 C a.1 b.1⟩⟩
theorem Ml.chg (k:bB6 M) (cc:Chg L h h'):∀ {xs:List D} {vs:List AV} {S:Nat→Prop},(∀ A,S A→A ∉ L)→Ml M h S vs xs→Ml M h' S vs xs
 | [],vs,S,hd,e=>e
 | x::r,vs,S,hd,⟨c,rest,S1,S2,h1,h2,h3,h4,h5,h6⟩=>⟨c,rest,S1,S2,h1,h2.chg k cc (fun A hA=>hd A (h4 A hA)),Ml.chg k cc (fun A hA=>hd A (h5 A hA)) h3,h4,h5,h6⟩
theorem Ml.weak (k:dAy M):∀ {xs:List D} {vs:List AV} {S W:Nat→Prop},(∀ C,S C→C<h.next→W C)→Ml M h S vs xs→Ml M h W vs xs
 | [],vs,S,W,hd,e=>e
 | x::r,vs,S,W,hW,⟨c,rest,S1,S2,h1,h2,h3,h4,h5,h6⟩=>⟨c,rest,fun C=>S1 C∧C<h.next,fun C=>S2 C∧C<h.next,h1,h2.weak k (fun C hC hl=>⟨hC,hl⟩),Ml.weak k (fun C hC hl=>⟨hC,hl⟩) h3,fun C hC=>hW C (h4 C hC.1) hC.2,fun C hC=>hW C (h5 C hC.1) hC.2,fun C a b=>h6 C a.1 b.1⟩
theorem Ml.len:∀ {xs:List D} {vs:List AV} {S:Nat→Prop},Ml M h S vs xs→vs.length=xs.length * 32
 | [],vs,S,e=>by rw [show vs=[] from e];rfl
 | x::r,vs,S,⟨c,rest,S1,S2,h1,h2,h3,_⟩=>by
  obtain ⟨r',_,_,_,_,_,_,_,_,_,_,hc,_⟩:=h2
  have:=Ml.len h3
  rw [h1,List.length_append,this,hc,List.length_cons];show 32+_=_;omega
theorem Ml.snoc (k:dAy M) {T:Nat→Prop}:∀ {xs:List D} {vs:List AV} {S:Nat→Prop},Ml M h S vs xs→Me M h T c x→(∀ C,S C→¬ T C)→Ml M h (fun C=>S C∨T C) (vs++c) (xs++[x])
 | [],vs,S,e,m,hd=>by
  rw [show vs=[] from e];exact ⟨c,[],T,fun _=>False,by simp,m,rfl,fun C hC=>.inr hC,fun C hC=>hC.elim,fun C _ hf=>hf⟩
 | y::r,vs,S,⟨c1,rest,S1,S2,h1,h2,h3,h4,h5,h6⟩,m,hd=>by
  have ih:=Ml.snoc k h3 m (fun C hC=>hd C (h5 C hC));refine ⟨c1,rest++c,S1,fun C=>S2 C∨T C,by rw [h1,List.append_assoc],h2,ih,fun C hC=>.inl (h4 C hC),fun C hC=>hC.elim (fun q=>.inl (h5 C q)) .inr,fun C a b=>b.elim (h6 C a) (hd C (h4 C a))⟩
end
theorem Mt.chg:∀ n,bB6 (Mt n)
 | 0=>fun _ _ _ _ _ _ cc hd e=>e
 | n+1=>by
  intro h h' S s xs L cc hd e;obtain ⟨vs,o,hb,m⟩:=e;exact ⟨vs,o.chg cc (fun A hA=>hd A (hb A hA)),hb,m.chg (Mt.chg n) cc (fun A hA=>hd A hA.1)⟩
theorem Mt.weak:∀ n,dAy (Mt n)
 | 0=>fun _ _ _ _ _ hW e=>e
 | n+1=>by
  intro h S W s xs hW e;obtain ⟨vs,o,hb,m⟩:=e;exact ⟨vs,o,fun A hA=>hW A (hb A hA) (o.lt A hA),m.weak (Mt.weak n) (fun C hC hl=>⟨hW C hC.1 hl,hC.2⟩)⟩
theorem fB0 {h:Heap} {V:Nat→Prop} {r:SmR} {ty pl va co:D} {th el:List D} (x1:Dt h V ty (tyc r.ty)) (x2:Dt h V pl (lfc r.pl)) (x3:Dt h V va (vac r.va)) (x4:Dt h V co (opc r.co)) (x5:Sl h V r.th th) (x6:Sl h V r.el el):Dt h V (smT r.k r.at_ r.m r.nm ty r.has pl va co th el) (smc r):=
 kAv ⟨[.int .i64 r.k],_,rfl,wAj _ _ _,[.int .i64 r.at_],_,rfl,wAj _ _ _,[.bool r.m],_,rfl,oAz _ _ _,[.str r.nm],_,rfl,uJ _ _ _,tyc r.ty,_,rfl,x1,[.bool r.has],_,rfl,oAz _ _ _,lfc r.pl,_,rfl,x2,vac r.va,_,rfl,x3,opc r.co,_,rfl,x4,[SL.av r.th],_,rfl,aM.2 x5,[SL.av r.el],[],rfl,aM.2 x6,rfl⟩
theorem Mt.sl:∀ (n:Nat) {h:Heap} {S:Nat→Prop} {s:SL} {xs:List D},Mt n h S s xs→Sl h S s xs
 | 0,h,S,s,xs,⟨h1,h2,h3,h4⟩=>by
  subst h1;exact ⟨h3,by omega,fun A hA=>by simp [SL.blk,h2] at hA,[],⟨by simp [h3],fun _=>h3,fun A off ha=>by rw [h2] at ha;cases ha⟩,by simp [De]⟩
 | n+1,h,S,s,xs,⟨vs,o,hb,m⟩=>by
  have hl:=m.len;have ho:=o.len;have hz:xs≠[]→s.sz=32:=fun hne=>by
   rcases o with ⟨_,h2,_,rfl⟩ | ⟨A,cs,st,_,h2,_⟩
   ·have hp:0<xs.length:=List.length_pos_iff.2 hne
    simp at hl;omega
   ·exact h2
  have de:∀ {ys:List D} {ws:List AV} {T:Nat→Prop},(∀ C,T C→S C)→Ml (Mt n) h T ws ys→De h S 32 ys ws:=by
   intro ys
   induction ys with
   | nil=>intro ws T _ e;rw [show ws=[] from e];simp [De]
   | cons y r ih=>
    intro ws T hT ⟨c,rest,S1,S2,h1,h2,h3,h4,h5,h6⟩;obtain ⟨q,ty,pl,va,co,th,el,T0,T1,T2,e1,e2,p⟩:=h2;have i0:∀ C,T0 C→C<h.next→S C:=fun C hC _=>hT C (h4 C (p.i0 C hC));simp only [De];refine ⟨c,rest,h1,by rw [e2];rfl,?_,ih (fun C hC=>hT C (h5 C hC)) h3⟩;rw [e1,e2];exact fB0 (Dt.weak i0 p.ty) (Dt.weak i0 p.pl) (Dt.weak i0 p.va) (Dt.weak i0 p.co) ((Mt.sl n p.th).weak fun C hC _=>hT C (h4 C (p.i1 C hC))) ((Mt.sl n p.el).weak fun C hC _=>hT C (h4 C (p.i2 C hC)))
  have d:=de (fun C hC=>hC.1) m;refine ⟨by omega,o.cap,hb,vs,o.sees,?_⟩
  by_cases hne:xs=[]
  ·subst hne
   rw [show vs=[] from m];simp [De]
  ·rw [hz hne];exact d
def aL:Nat→D→D
 | n+1,.t [k,_,m,nm,ty,hs,pl,va,co,.l th,.l el]=>.t [k,.i 0,m,nm,ty,hs,pl,va,co,.l (th.map (aL n)),.l (el.map (aL n))]
 | _,d=>d
theorem mV (n:Nat) (k a:Int) (m:Bool) (nm:Bs) (ty:D) (hs:Bool) (pl va co:D) (th el:List D):aL (n+1) (smT k a m nm ty hs pl va co th el)=smT k 0 m nm ty hs pl va co (th.map (aL n)) (el.map (aL n)):=rfl
theorem OwC.set {h:Heap} {s:SL} {n:Nat} {vs:List AV} (o:OwC h s n vs) {A off:Nat} (ha:s.a=some (A,off)) {j:Nat} (hj:j<vs.length) (v:AV):∃ h',h.store (A,off+j) [v]=some h'∧OwC h' s n (vs.set j v)∧Chg [A] h h'∧h'.next=h.next:=by
 rcases o with ⟨h1,_⟩ | ⟨A',cs,st,h1,h2,h3,h4,h5,h6,h7,h8⟩
 ·rw [h1] at ha;cases ha
 ·rw [h1] at ha
  simp only [Option.some.injEq,Prod.mk.injEq] at ha;obtain ⟨rfl,rfl⟩:=ha;have hcl:vs.length≤cs.length:=by
   have:(cs.take vs.length).length=vs.length:=by rw [h6]
   rw [List.length_take] at this;omega
  have hg:h.t.get A'=some (.row cs st):=by unfold Heap.g at h4;exact h4
  have hov:over j cs [v]=some (cs.set j v):=by
   rw [wA1 cs [v] j (by simp only [List.length_cons,List.length_nil];omega)];simp only [List.length_cons,List.length_nil,Option.some.injEq];rw [List.set_eq_take_append_cons_drop,if_pos (by omega)];simp
  have cp:Chg [A'] h (h.put A' (.row (cs.set j v) st)):=(Chg.refl [A'] h).put (.inl (by simp)) _;refine ⟨h.put A' (.row (cs.set j v) st),?_,.inr ⟨A',cs.set j v,st,h1,h2,h3,yT _ rfl,by rw [List.length_set];exact h5,?_,h7,?_⟩,cp,rfl⟩
  ·rcases h8 with rfl | ⟨rfl,_⟩ <;> simp only [Heap.store,Heap.rowW,hg,Nat.zero_add,hov]
  ·rw [List.length_set,List.take_set,h6]
  ·rw [List.length_set];exact h8
theorem OwC.cell {h:Heap} {s:SL} {n:Nat} {vs:List AV} (o:OwC h s n vs) {A off:Nat} (ha:s.a=some (A,off)) {j:Nat} (hj:j<vs.length):h.cell (A,off+j)=vs[j]?:=by
 rcases o with ⟨h1,_⟩ | ⟨A',cs,st,h1,h2,h3,h4,h5,h6,h7,h8⟩
 ·rw [h1] at ha;cases ha
 ·rw [h1] at ha
  simp only [Option.some.injEq,Prod.mk.injEq] at ha;obtain ⟨rfl,rfl⟩:=ha;have e:h.cell (A',0+j)=cs[j]?:=by
   rw [Nat.zero_add,Heap.cell_g,vA1,h4];rcases h8 with rfl | ⟨rfl,_⟩ <;> rfl
  rw [e,← h6,List.getElem?_take,if_pos hj]
end Qp
namespace Qp
theorem eA0 {α:Type} {k len:Nat} {L:Nat→SL→Int→Heap→Option (Out×α×Heap)} {fin:SL→α} {Inv:Nat→SL→Heap→Prop}
  (hstep:∀ (M i:Nat) (hi:i<len) (out:SL) (h:Heap),Inv i out h→∃ out' h',L (M+1) out (i:Int) h=L M out' ((i+1:Nat):Int) h'∧Inv (i+1) out' h')
  (hend:∀ M out h,L (M+1) out (len:Int) h=some (.exit k,fin out,h)):∀ (M i:Nat) (out:SL) (h:Heap),i≤len→len-i<M→Inv i out h→∃ out' h',L M out (i:Int) h=some (.exit k,fin out',h')∧Inv len out' h':=by
 intro M
 induction M with
 | zero=>intro i _ _ _ h;omega
 | succ M ih=>
  intro i out h hi hM ho
  by_cases q:i<len
  ·obtain ⟨out',h',e,o'⟩:=hstep M i q out h ho
   rw [e];exact ih (i+1) out' h' q (by omega) o'
  ·have:i=len:=by omega
   subst this;rw [hend];exact ⟨out,h,rfl,ho⟩
theorem iBd:Rec [(.int .i64),(.int .i64),(.int .i64),.str,.slice,(.int .i64),(.int .i64),.str,.slice,(.int .i64),.str,.slice,.str,.slice,.slice] 15 vac isVa:=⟨fun _=>rfl,fun r K=>iB4 r K,fun t x=>qAt t x⟩
theorem aJ (cs:List AV):aB (some (.agg cs)) (.agg cs)=true:=wC _
section
variable {N:Nat} {h:Heap} {V:Nat→Prop}
theorem cB6 (hN:3001≤N) {d:D} (t:isVa d) {q:VaV} (x:Dt h V d (vac q)):∃ r' h',f168 N q h=some (r',h')∧Chg [] h h'∧Dt h' (Fr0 h) d (vac r'):=by
 obtain ⟨k,a,b,op,pl,nm,ns,ag,rfl,ta,tb,tp,hn,hg,tg⟩:=t;obtain ⟨ra,rb,rp,s1,s2,hc,xa,xb,xp,y,z⟩:=rAk ta tb tp x;have e:=iBd.inj hc;subst e;unfold f168;obtain ⟨h2,e2,n2,w⟩:=wAt h [(.int .i64 k),(.int .i64 ra.1),(.int .i64 ra.2.1),(.str ra.2.2.1),(.slice ra.2.2.2.1.a ra.2.2.2.1.len ra.2.2.2.1.cap ra.2.2.2.1.sz),(.int .i64 rb.1),(.int .i64 rb.2.1),(.str rb.2.2.1),(.slice rb.2.2.2.1.a rb.2.2.2.1.len rb.2.2.2.1.cap rb.2.2.2.1.sz),(.int .i64 op),(.str rp.1),(.slice rp.2.1.a rp.2.1.len rp.2.1.cap rp.2.1.sz),(.str nm),(.slice s1.a s1.len s1.cap s1.sz),(.slice s2.a s2.len s2.cap s2.sz)] [(.int .i64 0),(.int .i64 0),(.int .i64 0),(.str []),(.slice none 0 0 0),(.int .i64 0),(.int .i64 0),(.str []),(.slice none 0 0 0),(.int .i64 0),(.str []),(.slice none 0 0 0),(.str []),(.slice none 0 0 0),(.slice none 0 0 0)];have w:WR h h2 (vac (iF k ra rb op rp nm s1 s2)) (vac va0):=w;dsimp only [iF];rw [e2,n2];have k1:h2.cells (h.next,1) 4=some (.agg (opc ra)):=w.o1.cells (j:=1) (m:=4) (show 1+4≤15 by decide);simp only [Nat.zero_add];rw [k1,gAo];obtain ⟨ra',h5,e5,c5,da⟩:=bAa (N:=N) ta (Dt.chg w.c (by simp) xa);have e5':f169 N (ra.1,ra.2.1,ra.2.2.1,ra.2.2.2.1,()) h2=some (ra',h5):=e5;rw [e5',aA];have w5:=w.call c5;have da:=w.hi da;have k2:h2.cells (h.next,5) 4=some (.agg (opc rb)):=w.o1.cells (j:=5) (m:=4) (show 5+4≤15 by decide);have k5:h5.cells (h.next,5) 4=some (.agg (opc rb)):=w5.o1.cells (j:=5) (m:=4) (show 5+4≤15 by decide);rw [k5,gAo];obtain ⟨rb',h8,e8,c8,db⟩:=bAa (N:=N) tb (Dt.chg w5.c (by simp) xb);have e8':f169 N (rb.1,rb.2.1,rb.2.2.1,rb.2.2.2.1,()) h5=some (rb',h8):=e8;rw [e8',aA];have w8:=w5.call c8;have db:=w5.hi db;have da:=Dt.chg c8 (by simp) da;have g2:h2.cells (h.next,10) 2=some (.agg (lfc rp)):=w.o1.cells (j:=10) (m:=2) (show 10+2≤15 by decide);have g5:h5.cells (h.next,10) 2=some (.agg (lfc rp)):=w5.o1.cells (j:=10) (m:=2) (show 10+2≤15 by decide);have g8:h8.cells (h.next,10) 2=some (.agg (lfc rp)):=w8.o1.cells (j:=10) (m:=2) (show 10+2≤15 by decide);rw [g8,fAo];obtain ⟨rp',h11,e11,c11,dp⟩:=qAh (N:=N) tp (Dt.chg w8.c (by simp) xp);have e11':f167 N (rp.1,rp.2.1,()) h8=some (rp',h11):=e11;rw [e11',aA];have w11:=w8.call c11;have dp:=w8.hi dp;have da:=Dt.chg c11 (by simp) da;have db:=Dt.chg c11 (by simp) db;obtain ⟨h12,p12,w12,c12⟩:=w11.set (j:=1) (vs:=[(.int .i64 ra'.1),(.int .i64 ra'.2.1),(.str ra'.2.2.1),(.slice ra'.2.2.2.1.a ra'.2.2.2.1.len ra'.2.2.2.1.cap ra'.2.2.2.1.sz)]) (show 1+4≤15 by decide) (ds:=vac (iF k ra' rb op rp nm s1 s2)) rfl;rw [p12];obtain ⟨h13,p13,w13,c13⟩:=w12.set (j:=5) (vs:=[(.int .i64 rb'.1),(.int .i64 rb'.2.1),(.str rb'.2.2.1),(.slice rb'.2.2.2.1.a rb'.2.2.2.1.len rb'.2.2.2.1.cap rb'.2.2.2.1.sz)]) (show 5+4≤15 by decide) (ds:=vac (iF k ra' rb' op rp nm s1 s2)) rfl;rw [p13];obtain ⟨h14,p14,w14,c14⟩:=w13.set (j:=10) (vs:=[(.str rp'.1),(.slice rp'.2.1.a rp'.2.1.len rp'.2.1.cap rp'.2.1.sz)]) (show 10+2≤15 by decide) (ds:=vac (iF k ra' rb' op rp' nm s1 s2)) rfl;rw [p14];have da:=rI c14 (rI c13 (rI c12 da));have db:=rI c14 (rI c13 (rI c12 db));have dp:=rI c14 (rI c13 (rI c12 dp));have q1:aB (some (.agg (lfc rp))) (.agg [(.str rp.1),(.slice rp.2.1.a rp.2.1.len rp.2.1.cap rp.2.1.sz)])=true:=aJ _;have q2:aB (some (.agg (opc rb))) (.agg [(.int .i64 rb.1),(.int .i64 rb.2.1),(.str rb.2.2.1),(.slice rb.2.2.2.1.a rb.2.2.2.1.len rb.2.2.2.1.cap rb.2.2.2.1.sz)])=true:=aJ _;have q3:aB (some (.agg (opc ra))) (.agg [(.int .i64 ra.1),(.int .i64 ra.2.1),(.str ra.2.2.1),(.slice ra.2.2.2.1.a ra.2.2.2.1.len ra.2.2.2.1.cap ra.2.2.2.1.sz)])=true:=aJ _;simp only [g2,g5,g8,k1,k2,k5,q1,q2,q3,cond_true,aC];have k14:h14.cell (h.next,13)=some (SL.av s1):=w14.o1.cell 13;simp only [k14,SL.av,fA,uA];obtain ⟨v,h17,e17,c17,sv⟩:=yA3 (N:=N) (y.chg w14.c (by simp)) (by omega);show ∃ p' h',(lA (f115 N s1 h14) _)=_∧_;rw [e17,aA];have w17:=w14.call c17;have sv:=w14.hiS sv;obtain ⟨h18,p18,w18,c18⟩:=w17.set (j:=13) (vs:=[(.slice v.a v.len v.cap v.sz)]) (show 13+1≤15 by decide) (ds:=vac (iF k ra' rb' op rp' nm v s2)) rfl;rw [p18];have da:=rI c18 (Dt.chg c17 (by simp) da);have db:=rI c18 (Dt.chg c17 (by simp) db);have dp:=rI c18 (Dt.chg c17 (by simp) dp);have sv:=wS c18 sv;have k18:h18.cell (h.next,14)=some (SL.av s2):=w18.o1.cell 14;simp only [k18,SL.av,fA,uA];have z18:=z.chg w18.c (by simp);obtain ⟨out,h34,e34,w34,c34⟩:=aAa (h0:=h18) (n:=4) (k:=0) (xs:=ag) (L:=fun Q out i H=>fA3 N Q (some (h.next,0)) (some (h.next+1,0)) out s2 (ag.length:Int) i H) (fin:=fun out=>(some (h.next,0),some (h.next+1,0),out,()))
  (fun Q i hi out H ho hc=>by
   have hlt:wB (i:Int) (ag.length:Int)=true:=by rw [eF];exact decide_eq_true hi
   rw [qY];unfold fV;rw [hlt];dsimp only;rw [cond_true];have zH:=z18.chg hc (by simp);obtain ⟨q,g,d⟩:=mAh.elt zH hi (tg _ (List.getElem_mem hi));rw [zH.ix hi 4,g,gAo];obtain ⟨Ha,pa,ca,oa⟩:=mAh.park (z:=opc rE) rfl H q;have pa':∀ {β:Type} (K:Heap→Option β),rA ((H.push (.row [(.int .i64 0),(.int .i64 0),(.str []),(.slice none 0 0 0)] .own)).store (H.next,0) [(.int .i64 q.1),(.int .i64 q.2.1),(.str q.2.2.1),(.slice q.2.2.2.1.a q.2.2.2.1.len q.2.2.2.1.cap q.2.2.2.1.sz)]) K=K Ha:=pa;rw [pa',pAz oa];obtain ⟨q',Hb,eb,cb,db⟩:=bAa (N:=N) (tg _ (List.getElem_mem hi)) (Dt.chg ca (by simp) d);have eb':f169 N (q.1,q.2.1,q.2.2.1,q.2.2.2.1,()) Ha=some (q',Hb):=eb;rw [eb',aA];obtain ⟨s',h',ea,oa',ca'⟩:=tAk jAs (by decide) hi ho hc (ca.trans cb) (cs:=opc q') (Dt.weak (fun C hC _=>by have:Ha.next≤C:=hC;have:=ca.next;show H.next≤C;omega) db) rfl (by omega);have ea':∀ {β:Type} (K:SL→Heap→Option β),aE (.val zL2) (iB E 102 102 (.slice out.a out.len out.cap out.sz) (.slice (some (Hb.next,0)) 1 1 4) (Hb.push (.row [(.int .i64 q'.1),(.int .i64 q'.2.1),(.str q'.2.2.1),(.slice q'.2.2.2.1.a q'.2.2.2.1.len q'.2.2.2.1.cap q'.2.2.2.1.sz)] .own))) K=K s' h':=ea;rw [ea',dC (by omega)];exact ⟨s',h',rfl,oa',ca'⟩)
  (fun Q out H=>by
   rw [qY];unfold fV;rw [eF,decide_eq_false (by omega)];rfl) N 0 sl0 h18 (Nat.zero_le _) (by omega) (OwV.nil _ _ _ _) (Chg.refl _ _)
 rw [show ((0:Nat):Int)=0 from rfl] at e34;show ∃ r' h',(fE (fA3 N N (some (h.next,0)) (some (h.next+1,0)) sl0 s2 (Int.ofNat s2.len) 0 h18) _)=_∧_;rw [show Int.ofNat s2.len=(ag.length:Int) by rw [z18.len];rfl,e34,uB];simp only [dA,Nat.zero_add];have so:=w18.hiS w34.sl;have da:=Dt.chg c34 (by simp) da;have db:=Dt.chg c34 (by simp) db;have dp:=Dt.chg c34 (by simp) dp;have sv:=sv.chg c34 (by simp);obtain ⟨h36,p36,w36,c36⟩:=(w18.call c34).set (j:=14) (vs:=[(.slice out.a out.len out.cap out.sz)]) (show 14+1≤15 by decide) (ds:=vac (iF k ra' rb' op rp' nm v out)) rfl;rw [p36];obtain ⟨h39,p39,c39,c039⟩:=WR.fin iBd (r0:=va0) w36;exact ⟨_,h39,p39 (fun y h'=>some (y,h')),c039,tA2 (uAk c39 (rI c36 da)) (uAk c39 (rI c36 db)) (uAk c39 (rI c36 dp)) (aA4 c39 (wS c36 sv)) (aA4 c39 (wS c36 so))⟩
end
end Qp
namespace Qp
structure W1 (h0 H:Heap) (cs:List AV):Prop where
 o:H.own h0.next cs
 c:Chg [] h0 H
 nx:h0.next+1≤H.next
section
variable {h0 H H':Heap} {cs:List AV}
theorem W1.call (w:W1 h0 H cs) (c:Chg [] H H'):W1 h0 H' cs:=⟨w.o.chg c (by simp),w.c.trans c,Nat.le_trans w.nx c.next⟩
theorem W1.set (w:W1 h0 H cs) {j:Nat} {vs ds:List AV} (hj:j+vs.length≤cs.length) (hd:cs.take j++vs++cs.drop (j+vs.length)=ds):∃ H',(∀ {β:Type} (K:Heap→Option β),rA (H.store (h0.next,j) vs) K=K H')∧W1 h0 H' ds∧Chg [h0.next] H H'∧H'.next=H.next:=
 ⟨_,fun K=>by rw [vS w.o hj hd,dA],⟨yA w.o ds,w.c.put (.inr (Nat.le_refl _)) _,w.nx⟩,w.o.put ds,rfl⟩
end
theorem aAu (h:Heap) (cs:List AV) (n:Nat) (hn:cs.length=n):Sees (h.push (.row cs .own)) ⟨some (h.next,0),1,1,n⟩ cs:=
 ⟨by rw [hn];show n=1 * n;omega,fun ha=>(by cases ha),fun A off ha=>by
  simp only [Option.some.injEq,Prod.mk.injEq] at ha;obtain ⟨rfl,rfl⟩:=ha;exact ⟨Nat.lt_succ_self _,cs,by rw [mH _ rfl];rfl,by rw [List.drop_zero,List.take_of_length_le (Nat.le_refl _)]⟩⟩
def StInv (n:Nat) (h0:Heap) (xs:List D) (i:Nat) (out:SL) (H:Heap):Prop:=Chg [] h0 H∧∃ vs,OwC H out 32 vs∧out.len=i∧(∀ A,out.blk=some A→h0.next≤A)∧Ml (Mt n) H (fun C=>h0.next≤C∧C<H.next∧out.blk≠some C) vs (xs.take i)
theorem StInv.app {n:Nat} {h0 H Hf:Heap} {xs:List D} {i:Nat} {out:SL} (inv:StInv n h0 xs i out H) (hi:i<xs.length) (hl:xs.length≤3000) (cH:Chg [] H Hf) {c:List AV} (hc:c.length=32) (hs:∀ w∈c,AV.single w=true) (m:Me (Mt n) Hf (fun C=>H.next≤C∧C<Hf.next) c xs[i]) :
  ∃ out' h',(∀ {β:Type} (K:SL→Heap→Option β),aE (.val zL2) (iB E 42 42 (.slice out.a out.len out.cap out.sz) (.slice (some (Hf.next,0)) 1 1 32) (Hf.push (.row c .own))) K=K out' h')∧StInv n h0 xs (i+1) out' h':=by
 obtain ⟨c0,vs,o,hlen,hb,ml⟩:=inv;have le0:=c0.next;have leH:=cH.next;have cp:=qA Hf (.row c .own);have np:(Hf.push (.row c .own)).next=Hf.next+1:=rfl;have cHp:=cH.trans cp;obtain ⟨out',h',e,o',len',c',hb'⟩:=yA9 mBb (aAu Hf c 32 hc) (by rw [hc];rfl) hs (o.chg cHp (by simp)) (by rw [hlen];show (i+1) * 10000≤_;omega);have le':=c'.next;refine ⟨out',h',fun K=>by rw [e];rfl,(c0.trans cHp).step c' (fun A hA hlt=>?_),vs++c,o',by rw [len',hlen],fun A hA=>?_,?_⟩
 ·have hbl:out.blk=some A:=by simpa using hA
  have:=hb A hbl;omega
 ·rcases hb' A hA with q | q
  ·exact hb A q
  ·omega
 ·have m1:Ml (Mt n) h' (fun C=>h0.next≤C∧C<H.next∧out.blk≠some C) vs (xs.take i):=(ml.chg (Mt.chg n) cHp (by simp)).chg (Mt.chg n) c' (fun A hA hm=>hA.2.2 (by simpa using hm))
  have m2:Me (Mt n) h' (fun C=>H.next≤C∧C<Hf.next) c xs[i]:=(m.chg (Mt.chg n) cp (by simp)).chg (Mt.chg n) c' (fun A hA hm=>by
   have hbl:out.blk=some A:=by simpa using hm
   have:=o.lt A hbl;omega)
  have m3:=m1.snoc (Mt.weak n) m2 (fun C a b=>by omega);rw [List.take_succ_eq_append_getElem hi];refine m3.weak (Mt.weak n) (fun C hC hl=>?_)
  rcases hC with ⟨a1,a2,a3⟩ | ⟨a1,a2⟩
  ·exact ⟨a1,hl,fun hbl=>by rcases hb' C hbl with q | q;exact a3 q;omega⟩
  ·exact ⟨by omega,hl,fun hbl=>by rcases hb' C hbl with q | q;(have:=o.lt C q;omega);omega⟩
section
variable {N:Nat}
theorem dB6 (hN:3001≤N):∀ (n M:Nat) (xs:List D) (s:SL) (h:Heap) (V:Nat→Prop),n+1≤M→(∀ x∈xs,isSm n x)→xs.length≤3000→Sl h V s xs→∃ v h',f118 N M s h=some (v,h')∧Chg [] h h'∧Mt n h' (Fr0 h) v xs:=by
 intro n
 induction n with
 | zero=>
  intro M xs s h V hM t hl x;obtain ⟨M,rfl⟩:∃ m,M=m+1:=⟨M-1,by omega⟩;have hx:xs=[]:=by
   cases xs with
   | nil=>rfl
   | cons y r=>cases t y (by simp)
  subst hx;rw [fAd];unfold jAk;obtain ⟨N,rfl⟩:∃ m,N=m+1:=⟨N-1,by omega⟩;have hz:Int.ofNat s.len=0:=by rw [x.len];rfl
  rw [hz,aP];unfold yO;have hlt:wB 0 0=false:=rfl;rw [hlt];exact ⟨sl0,h,rfl,Chg.refl _ _,rfl,rfl,rfl,rfl⟩
 | succ n ih=>
  intro M xs s h V hM t hl x;obtain ⟨M,rfl⟩:∃ m,M=m+1:=⟨M-1,by omega⟩;rw [fAd];unfold jAk;obtain ⟨out,h37,e37,c37,vs,o37,l37,b37,m37⟩:=eA0 (k:=0) (len:=xs.length) (L:=fun Q out i H=>dA9 N (f118 N M) Q out s (xs.length:Int) i H) (fin:=fun out=>(out,())) (Inv:=StInv n h xs)
   (fun Q i hi out H inv=>by
    have hlt:wB (i:Int) (xs.length:Int)=true:=by rw [eF];exact decide_eq_true hi
    rw [aP];unfold yO;rw [hlt];dsimp only;rw [cond_true];have zH:=x.chg inv.1 (by simp);have tm:=t _ (List.getElem_mem hi);obtain ⟨q,g,d⟩:=(nAh (n+1)).elt zH hi tm;rw [zH.ix hi 32,g,fBh];obtain ⟨k,a,m,nm,ty,hs,pl,va,co,th,el,hx,t1,t2,t3,t4,hth,hel,t5,t6⟩:=tm;rw [hx] at d;obtain ⟨r,p,v,o,s1,s2,hc1,dr,dp,dv,dO,dth,del⟩:=kAd t1 t2 t3 t4 d;have e:=(nAh 1).inj hc1;subst e;obtain ⟨Ha,pa,ca,oa⟩:=(nAh 1).park (z:=smx (smv (wF 0))) rfl H (smv ⟨k,a,m,nm,r,hs,p,v,o,s1,s2⟩);have pa':∀ {β:Type} (K:Heap→Option β),rA ((H.push (.row [(.int .i64 0),(.int .i64 0),(.bool false),(.str []),(.int .i64 0),(.str []),(.slice none 0 0 0),(.slice none 0 0 0),(.bool false),(.str []),(.slice none 0 0 0),(.int .i64 0),(.int .i64 0),(.int .i64 0),(.str []),(.slice none 0 0 0),(.int .i64 0),(.int .i64 0),(.str []),(.slice none 0 0 0),(.int .i64 0),(.str []),(.slice none 0 0 0),(.str []),(.slice none 0 0 0),(.slice none 0 0 0),(.int .i64 0),(.int .i64 0),(.str []),(.slice none 0 0 0),(.slice none 0 0 0),(.slice none 0 0 0)] .own)).store (H.next,0) [(.int .i64 k),(.int .i64 a),(.bool m),(.str nm),(.int .i64 r.1),(.str r.2.1),(.slice r.2.2.1.a r.2.2.1.len r.2.2.1.cap r.2.2.1.sz),(.slice r.2.2.2.1.a r.2.2.2.1.len r.2.2.2.1.cap r.2.2.2.1.sz),(.bool hs),(.str p.1),(.slice p.2.1.a p.2.1.len p.2.1.cap p.2.1.sz),(.int .i64 v.1),(.int .i64 v.2.1),(.int .i64 v.2.2.1),(.str v.2.2.2.1),(.slice v.2.2.2.2.1.a v.2.2.2.2.1.len v.2.2.2.2.1.cap v.2.2.2.2.1.sz),(.int .i64 v.2.2.2.2.2.1),(.int .i64 v.2.2.2.2.2.2.1),(.str v.2.2.2.2.2.2.2.1),(.slice v.2.2.2.2.2.2.2.2.1.a v.2.2.2.2.2.2.2.2.1.len v.2.2.2.2.2.2.2.2.1.cap v.2.2.2.2.2.2.2.2.1.sz),(.int .i64 v.2.2.2.2.2.2.2.2.2.1),(.str v.2.2.2.2.2.2.2.2.2.2.1),(.slice v.2.2.2.2.2.2.2.2.2.2.2.1.a v.2.2.2.2.2.2.2.2.2.2.2.1.len v.2.2.2.2.2.2.2.2.2.2.2.1.cap v.2.2.2.2.2.2.2.2.2.2.2.1.sz),(.str v.2.2.2.2.2.2.2.2.2.2.2.2.1),(.slice v.2.2.2.2.2.2.2.2.2.2.2.2.2.1.a v.2.2.2.2.2.2.2.2.2.2.2.2.2.1.len v.2.2.2.2.2.2.2.2.2.2.2.2.2.1.cap v.2.2.2.2.2.2.2.2.2.2.2.2.2.1.sz),(.slice v.2.2.2.2.2.2.2.2.2.2.2.2.2.2.1.a v.2.2.2.2.2.2.2.2.2.2.2.2.2.2.1.len v.2.2.2.2.2.2.2.2.2.2.2.2.2.2.1.cap v.2.2.2.2.2.2.2.2.2.2.2.2.2.2.1.sz),(.int .i64 o.1),(.int .i64 o.2.1),(.str o.2.2.1),(.slice o.2.2.2.1.a o.2.2.2.1.len o.2.2.2.1.cap o.2.2.2.1.sz),(.slice s1.a s1.len s1.cap s1.sz),(.slice s2.a s2.len s2.cap s2.sz)]) K=K Ha:=pa;dsimp only [smv];rw [pa'];have w:W1 H Ha (smc ⟨k,a,m,nm,r,hs,p,v,o,s1,s2⟩):=⟨oa,ca,oa.2⟩;simp only [Nat.zero_add];have a4:Ha.cells (H.next,4) 4=some (.agg (tyc r)):=w.o.cells (j:=4) (m:=4) (show 4+4≤32 by decide);rw [a4,jAm];obtain ⟨r',Hb,eb,cb,db⟩:=pAh hN 65 N ty r Ha V (by omega) t1 (Dt.chg ca (by simp) dr);have eb':f117 N N (r.1,r.2.1,r.2.2.1,r.2.2.2.1,()) Ha=some (r',Hb):=eb;rw [eb',aA];have wb:=w.call cb;have b9:Hb.cells (H.next,9) 2=some (.agg (lfc p)):=wb.o.cells (j:=9) (m:=2) (show 9+2≤32 by decide);have a9:Ha.cells (H.next,9) 2=some (.agg (lfc p)):=w.o.cells (j:=9) (m:=2) (show 9+2≤32 by decide);rw [b9,fAo];obtain ⟨p',Hc,ec,cc,dc⟩:=qAh (N:=N) t2 (Dt.chg wb.c (by simp) dp);have ec':f167 N (p.1,p.2.1,()) Hb=some (p',Hc):=ec;rw [ec',aA];have wc:=wb.call cc;have a11:Ha.cells (H.next,11) 15=some (.agg (vac v)):=w.o.cells (j:=11) (m:=15) (show 11+15≤32 by decide);have b11:Hb.cells (H.next,11) 15=some (.agg (vac v)):=wb.o.cells (j:=11) (m:=15) (show 11+15≤32 by decide);have c11:Hc.cells (H.next,11) 15=some (.agg (vac v)):=wc.o.cells (j:=11) (m:=15) (show 11+15≤32 by decide);rw [c11,iB4];obtain ⟨v',Hd,ed,cd,dd⟩:=cB6 hN t3 (Dt.chg wc.c (by simp) dv);have ed':f168 N (v.1,v.2.1,v.2.2.1,v.2.2.2.1,v.2.2.2.2.1,v.2.2.2.2.2.1,v.2.2.2.2.2.2.1,v.2.2.2.2.2.2.2.1,v.2.2.2.2.2.2.2.2.1,v.2.2.2.2.2.2.2.2.2.1,v.2.2.2.2.2.2.2.2.2.2.1,v.2.2.2.2.2.2.2.2.2.2.2.1,v.2.2.2.2.2.2.2.2.2.2.2.2.1,v.2.2.2.2.2.2.2.2.2.2.2.2.2.1,v.2.2.2.2.2.2.2.2.2.2.2.2.2.2.1,()) Hc=some (v',Hd):=ed;rw [ed',aA];have wd:=wc.call cd;have a26:Ha.cells (H.next,26) 4=some (.agg (opc o)):=w.o.cells (j:=26) (m:=4) (show 26+4≤32 by decide);have b26:Hb.cells (H.next,26) 4=some (.agg (opc o)):=wb.o.cells (j:=26) (m:=4) (show 26+4≤32 by decide);have c26:Hc.cells (H.next,26) 4=some (.agg (opc o)):=wc.o.cells (j:=26) (m:=4) (show 26+4≤32 by decide);have d26:Hd.cells (H.next,26) 4=some (.agg (opc o)):=wd.o.cells (j:=26) (m:=4) (show 26+4≤32 by decide);rw [d26,gAo];obtain ⟨o',He,ee,ce,de⟩:=bAa (N:=N) t4 (Dt.chg wd.c (by simp) dO);have ee':f169 N (o.1,o.2.1,o.2.2.1,o.2.2.2.1,()) Hd=some (o',He):=ee;rw [ee',aA];have we:=wd.call ce;obtain ⟨h18,p18,w18,s18,n18⟩:=we.set (j:=4) (vs:=[(.int .i64 r'.1),(.str r'.2.1),(.slice r'.2.2.1.a r'.2.2.1.len r'.2.2.1.cap r'.2.2.1.sz),(.slice r'.2.2.2.1.a r'.2.2.2.1.len r'.2.2.2.1.cap r'.2.2.2.1.sz)]) (show 4+4≤32 by decide) (ds:=smc ⟨k,a,m,nm,r',hs,p,v,o,s1,s2⟩) rfl;rw [p18];obtain ⟨h19,p19,w19,s19,n19⟩:=w18.set (j:=9) (vs:=[(.str p'.1),(.slice p'.2.1.a p'.2.1.len p'.2.1.cap p'.2.1.sz)]) (show 9+2≤32 by decide) (ds:=smc ⟨k,a,m,nm,r',hs,p',v,o,s1,s2⟩) rfl;rw [p19];obtain ⟨h20,p20,w20,s20,n20⟩:=w19.set (j:=11) (vs:=[(.int .i64 v'.1),(.int .i64 v'.2.1),(.int .i64 v'.2.2.1),(.str v'.2.2.2.1),(.slice v'.2.2.2.2.1.a v'.2.2.2.2.1.len v'.2.2.2.2.1.cap v'.2.2.2.2.1.sz),(.int .i64 v'.2.2.2.2.2.1),(.int .i64 v'.2.2.2.2.2.2.1),(.str v'.2.2.2.2.2.2.2.1),(.slice v'.2.2.2.2.2.2.2.2.1.a v'.2.2.2.2.2.2.2.2.1.len v'.2.2.2.2.2.2.2.2.1.cap v'.2.2.2.2.2.2.2.2.1.sz),(.int .i64 v'.2.2.2.2.2.2.2.2.2.1),(.str v'.2.2.2.2.2.2.2.2.2.2.1),(.slice v'.2.2.2.2.2.2.2.2.2.2.2.1.a v'.2.2.2.2.2.2.2.2.2.2.2.1.len v'.2.2.2.2.2.2.2.2.2.2.2.1.cap v'.2.2.2.2.2.2.2.2.2.2.2.1.sz),(.str v'.2.2.2.2.2.2.2.2.2.2.2.2.1),(.slice v'.2.2.2.2.2.2.2.2.2.2.2.2.2.1.a v'.2.2.2.2.2.2.2.2.2.2.2.2.2.1.len v'.2.2.2.2.2.2.2.2.2.2.2.2.2.1.cap v'.2.2.2.2.2.2.2.2.2.2.2.2.2.1.sz),(.slice v'.2.2.2.2.2.2.2.2.2.2.2.2.2.2.1.a v'.2.2.2.2.2.2.2.2.2.2.2.2.2.2.1.len v'.2.2.2.2.2.2.2.2.2.2.2.2.2.2.1.cap v'.2.2.2.2.2.2.2.2.2.2.2.2.2.2.1.sz)]) (show 11+15≤32 by decide) (ds:=smc ⟨k,a,m,nm,r',hs,p',v',o,s1,s2⟩) rfl;rw [p20];obtain ⟨h21,p21,w21,s21,n21⟩:=w20.set (j:=26) (vs:=[(.int .i64 o'.1),(.int .i64 o'.2.1),(.str o'.2.2.1),(.slice o'.2.2.2.1.a o'.2.2.2.1.len o'.2.2.2.1.cap o'.2.2.2.1.sz)]) (show 26+4≤32 by decide) (ds:=smc ⟨k,a,m,nm,r',hs,p',v',o',s1,s2⟩) rfl;rw [p21];have q1:aB (some (.agg (tyc r))) (.agg [(.int .i64 r.1),(.str r.2.1),(.slice r.2.2.1.a r.2.2.1.len r.2.2.1.cap r.2.2.1.sz),(.slice r.2.2.2.1.a r.2.2.2.1.len r.2.2.2.1.cap r.2.2.2.1.sz)])=true:=aJ _;have q2:aB (some (.agg (lfc p))) (.agg [(.str p.1),(.slice p.2.1.a p.2.1.len p.2.1.cap p.2.1.sz)])=true:=aJ _;have q3:aB (some (.agg (vac v))) (.agg [(.int .i64 v.1),(.int .i64 v.2.1),(.int .i64 v.2.2.1),(.str v.2.2.2.1),(.slice v.2.2.2.2.1.a v.2.2.2.2.1.len v.2.2.2.2.1.cap v.2.2.2.2.1.sz),(.int .i64 v.2.2.2.2.2.1),(.int .i64 v.2.2.2.2.2.2.1),(.str v.2.2.2.2.2.2.2.1),(.slice v.2.2.2.2.2.2.2.2.1.a v.2.2.2.2.2.2.2.2.1.len v.2.2.2.2.2.2.2.2.1.cap v.2.2.2.2.2.2.2.2.1.sz),(.int .i64 v.2.2.2.2.2.2.2.2.2.1),(.str v.2.2.2.2.2.2.2.2.2.2.1),(.slice v.2.2.2.2.2.2.2.2.2.2.2.1.a v.2.2.2.2.2.2.2.2.2.2.2.1.len v.2.2.2.2.2.2.2.2.2.2.2.1.cap v.2.2.2.2.2.2.2.2.2.2.2.1.sz),(.str v.2.2.2.2.2.2.2.2.2.2.2.2.1),(.slice v.2.2.2.2.2.2.2.2.2.2.2.2.2.1.a v.2.2.2.2.2.2.2.2.2.2.2.2.2.1.len v.2.2.2.2.2.2.2.2.2.2.2.2.2.1.cap v.2.2.2.2.2.2.2.2.2.2.2.2.2.1.sz),(.slice v.2.2.2.2.2.2.2.2.2.2.2.2.2.2.1.a v.2.2.2.2.2.2.2.2.2.2.2.2.2.2.1.len v.2.2.2.2.2.2.2.2.2.2.2.2.2.2.1.cap v.2.2.2.2.2.2.2.2.2.2.2.2.2.2.1.sz)])=true:=aJ _;have q4:aB (some (.agg (opc o))) (.agg [(.int .i64 o.1),(.int .i64 o.2.1),(.str o.2.2.1),(.slice o.2.2.2.1.a o.2.2.2.1.len o.2.2.2.1.cap o.2.2.2.1.sz)])=true:=aJ _;simp only [a4,a9,b9,a11,b11,c11,a26,b26,c26,d26,q1,q2,q3,q4,cond_true,aC];have k30:h21.cell (H.next,30)=some (SL.av s1):=w21.o.cell 30;have k31:h21.cell (H.next,31)=some (SL.av s2):=w21.o.cell 31;simp only [k30,SL.av,fA,uA];obtain ⟨u1,h24,e24,c24,m24⟩:=ih M th s1 h21 V (by omega) t5 hth (dth.chg w21.c (by simp));have e24':f118 N M ⟨s1.a,s1.len,s1.cap,s1.sz⟩ h21=some (u1,h24):=e24;rw [e24',aA];have w24:=w21.call c24;have k31':h24.cell (H.next,31)=some (SL.av s2):=w24.o.cell 31;simp only [k31',SL.av,fA,uA];obtain ⟨u2,h27,e27,c27,m27⟩:=ih M el s2 h24 V (by omega) t6 hel (del.chg w24.c (by simp));have e27':f118 N M ⟨s2.a,s2.len,s2.cap,s2.sz⟩ h24=some (u2,h27):=e27;rw [e27',aA];have w27:=w24.call c27;obtain ⟨h28,p28,w28,s28,n28⟩:=w27.set (j:=30) (vs:=[(.slice u1.a u1.len u1.cap u1.sz)]) (show 30+1≤32 by decide) (ds:=smc ⟨k,a,m,nm,r',hs,p',v',o',u1,s2⟩) rfl;rw [p28];obtain ⟨h29,p29,w29,s29,n29⟩:=w28.set (j:=31) (vs:=[(.slice u2.a u2.len u2.cap u2.sz)]) (show 31+1≤32 by decide) (ds:=smc ⟨k,a,m,nm,r',hs,p',v',o',u1,u2⟩) rfl;rw [p29];have q5:aB (some (SL.av s2)) (SL.av s2)=true:=wC _;have q6:aB (some (SL.av s1)) (SL.av s1)=true:=wC _;have q7:(bif (aB (h24.cell (H.next,31)) (.slice s2.a s2.len s2.cap s2.sz)) then (bif (aB (h21.cell (H.next,31)) (.slice s2.a s2.len s2.cap s2.sz)) then (bif (aB (h21.cell (H.next,30)) (.slice s1.a s1.len s1.cap s1.sz)) then true else false) else false) else false)=true:=by
     rw [k31',k31,k30];show (bif aB (some (SL.av s2)) (SL.av s2) then (bif aB (some (SL.av s2)) (SL.av s2) then (bif aB (some (SL.av s1)) (SL.av s1) then true else false) else false) else false)=true;rw [q5,q6];rfl
    simp only [SL.av] at q7 k31 k30 k31'
    first | rw [q7,aC] | simp only [k30,k31,k31',wC,cond_true,aC]
    have o29:h29.own H.next (smx (smv ⟨k,a,m,nm,r',hs,p',v',o',u1,u2⟩)):=w29.o;rw [pAs o29]
    -- which blocks are whose
    have nb:=cb.next;have nc:=cc.next;have nd:=cd.next;have ne:=ce.next;have na:=w.nx;have n24:=c24.next;have n27:=c27.next;have cbe:Chg [H.next] He h29:=(((((s18.trans s19).trans s20).trans s21).trans ((c24.trans c27).mono (by simp))).trans s28).trans s29;have ccd:=(cc.trans cd).trans ce;have hS0:∀ {X:Heap} {d:D} {cs:List AV} {L:Heap},Dt X (Fr0 L) d cs→Ha.next≤L.next→X.next≤He.next→Chg [] X He→Dt h29 (fun C=>Ha.next≤C∧C<He.next) d cs:=fun {X d cs L} y h1 h2 h3=>
     Dt.chg cbe (by intro A hA;simp;omega) (Dt.chg h3 (by simp) (Dt.weak (fun C hC hl=>⟨Nat.le_trans h1 hC,Nat.lt_of_lt_of_le hl h2⟩) y))
    have yr:=hS0 db (Nat.le_refl _) (by omega) ccd;have yp:=hS0 dc (by omega) (by omega) (cd.trans ce);have yv:=hS0 dd (by omega) (by omega) ce;have yo:=hS0 de (by omega) (by omega) (Chg.refl _ _);have c2829:Chg [H.next] h27 h29:=s28.trans s29;have y1:Mt n h29 (fun C=>h21.next≤C∧C<h24.next) u1 th:=Mt.chg n _ _ _ _ _ _ c2829 (by intro A hA;simp;omega) (Mt.chg n _ _ _ _ _ _ c27 (by simp) (Mt.weak n _ _ _ _ _ (fun C hC hl=>⟨hC,hl⟩) m24));have y2:Mt n h29 (fun C=>h24.next≤C∧C<h27.next) u2 el:=Mt.chg n _ _ _ _ _ _ c2829 (by intro A hA;simp;omega) (Mt.weak n _ _ _ _ _ (fun C hC hl=>⟨hC,hl⟩) m27);have me:Me (Mt n) h29 (fun C=>H.next≤C∧C<h29.next) (smc ⟨k,a,m,nm,r',hs,p',v',o',u1,u2⟩) xs[i]:=by
     rw [hx];exact ⟨⟨k,a,m,nm,r',hs,p',v',o',u1,u2⟩,ty,pl,va,co,th,el,_,_,_,rfl,rfl,⟨yr,yp,yv,yo,y1,y2,fun C hC=>by omega,fun C hC=>by omega,fun C hC=>by omega,fun C a b=>by omega,fun C a b=>by omega,fun C a b=>by omega⟩⟩
    have hsing:∀ w∈smc ⟨k,a,m,nm,r',hs,p',v',o',u1,u2⟩,AV.single w=true:=by
     have ds:Dt h29 (fun _=>True) (smT k a m nm ty hs pl va co th el) (smc ⟨k,a,m,nm,r',hs,p',v',o',u1,u2⟩):=fB0 (Dt.weak (fun _ _ _=>trivial) yr) (Dt.weak (fun _ _ _=>trivial) yp) (Dt.weak (fun _ _ _=>trivial) yv) (Dt.weak (fun _ _ _=>trivial) yo) ((Mt.sl n y1).weak fun _ _ _=>trivial) ((Mt.sl n y2).weak fun _ _ _=>trivial);exact ds.single
    obtain ⟨out',h',ea,inv'⟩:=inv.app hi hl w29.c rfl hsing me;have ea':∀ {β:Type} (K:SL→Heap→Option β),aE (.val zL2) (iB E 42 42 (.slice out.a out.len out.cap out.sz) (.slice (some (h29.next,0)) 1 1 32) (h29.push (.row [(.int .i64 k),(.int .i64 a),(.bool m),(.str nm),(.int .i64 r'.1),(.str r'.2.1),(.slice r'.2.2.1.a r'.2.2.1.len r'.2.2.1.cap r'.2.2.1.sz),(.slice r'.2.2.2.1.a r'.2.2.2.1.len r'.2.2.2.1.cap r'.2.2.2.1.sz),(.bool hs),(.str p'.1),(.slice p'.2.1.a p'.2.1.len p'.2.1.cap p'.2.1.sz),(.int .i64 v'.1),(.int .i64 v'.2.1),(.int .i64 v'.2.2.1),(.str v'.2.2.2.1),(.slice v'.2.2.2.2.1.a v'.2.2.2.2.1.len v'.2.2.2.2.1.cap v'.2.2.2.2.1.sz),(.int .i64 v'.2.2.2.2.2.1),(.int .i64 v'.2.2.2.2.2.2.1),(.str v'.2.2.2.2.2.2.2.1),(.slice v'.2.2.2.2.2.2.2.2.1.a v'.2.2.2.2.2.2.2.2.1.len v'.2.2.2.2.2.2.2.2.1.cap v'.2.2.2.2.2.2.2.2.1.sz),(.int .i64 v'.2.2.2.2.2.2.2.2.2.1),(.str v'.2.2.2.2.2.2.2.2.2.2.1),(.slice v'.2.2.2.2.2.2.2.2.2.2.2.1.a v'.2.2.2.2.2.2.2.2.2.2.2.1.len v'.2.2.2.2.2.2.2.2.2.2.2.1.cap v'.2.2.2.2.2.2.2.2.2.2.2.1.sz),(.str v'.2.2.2.2.2.2.2.2.2.2.2.2.1),(.slice v'.2.2.2.2.2.2.2.2.2.2.2.2.2.1.a v'.2.2.2.2.2.2.2.2.2.2.2.2.2.1.len v'.2.2.2.2.2.2.2.2.2.2.2.2.2.1.cap v'.2.2.2.2.2.2.2.2.2.2.2.2.2.1.sz),(.slice v'.2.2.2.2.2.2.2.2.2.2.2.2.2.2.1.a v'.2.2.2.2.2.2.2.2.2.2.2.2.2.2.1.len v'.2.2.2.2.2.2.2.2.2.2.2.2.2.2.1.cap v'.2.2.2.2.2.2.2.2.2.2.2.2.2.2.1.sz),(.int .i64 o'.1),(.int .i64 o'.2.1),(.str o'.2.2.1),(.slice o'.2.2.2.1.a o'.2.2.2.1.len o'.2.2.2.1.cap o'.2.2.2.1.sz),(.slice u1.a u1.len u1.cap u1.sz),(.slice u2.a u2.len u2.cap u2.sz)] .own))) K=K out' h':=ea;dsimp only [smv];rw [ea',dC (by omega)];exact ⟨out',h',rfl,inv'⟩)
   (fun Q out H=>by
    rw [aP];unfold yO;rw [eF,decide_eq_false (by omega)];rfl) N 0 sl0 h (Nat.zero_le _) (by omega) ⟨Chg.refl _ _,[],OwC.nil _ _ _,rfl,fun A hA=>by simp [SL.blk] at hA,rfl⟩
  rw [show ((0:Nat):Int)=0 from rfl] at e37;rw [show Int.ofNat s.len=(xs.length:Int) by rw [x.len];rfl,e37,uB];rw [List.take_length] at m37;exact ⟨out,h37,rfl,c37,vs,o37,b37,m37.weak (Mt.weak n) (fun C hC _=>⟨hC.1,hC.2.2⟩)⟩
end
end Qp
namespace Qp
section
variable {N:Nat}
theorem eB6 {s:SL} {A off i n:Nat} (ha:s.a=some (A,off)):s.at i n=(A,off+i * n):=by simp [SL.at,ha]
theorem bAu {α:Type} {pre c rest:List α} {i j:Nat} (hp:pre.length=i) (hj:j<c.length):(pre++(c++rest))[i+j]? = c[j]?:=by
 rw [List.getElem?_append_right (by omega),show i+j-pre.length=j by omega,List.getElem?_append_left hj]
theorem fB6 {α:Type} {pre c rest:List α} {i j:Nat} (hp:pre.length=i) (hj:j<c.length) (v:α):(pre++(c++rest)).set (i+j) v=pre++(c.set j v++rest):=by
 rw [List.set_append_right _ _ (by omega),show i+j-pre.length=j by omega,List.set_append_left _ _ hj]
def ZI (n:Nat) (h:Heap) (S:Nat→Prop) (s:SL) (xs:List D) (i:Nat) (_:SL) (H:Heap):Prop:=
 ∃ Lb,Chg Lb h H∧(∀ A∈Lb,S A)∧H.next=h.next∧∃ pre rest Sd Sr,OwC H s 32 (pre++rest)∧pre.length=i * 32∧Ml (Mt n) H Sd pre ((xs.take i).map (aL (n+1)))∧Ml (Mt n) H Sr rest (xs.drop i)∧(∀ C,Sd C→S C∧s.blk≠some C)∧(∀ C,Sr C→S C∧s.blk≠some C)∧∀ C,Sd C→¬ Sr C
theorem jBd (hN:3001≤N):∀ (n M:Nat) (xs:List D) (s:SL) (h:Heap) (S:Nat→Prop),n+1≤M→(∀ x∈xs,isSm n x)→xs.length≤3000→Mt n h S s xs→∃ L h',f78 N M s h=some ((),h')∧Chg L h h'∧(∀ A∈L,S A)∧h'.next=h.next∧Mt n h' S s (xs.map (aL n)):=by
 intro n
 induction n with
 | zero=>
  intro M xs s h S hM t hl m;obtain ⟨M,rfl⟩:∃ m,M=m+1:=⟨M-1,by omega⟩;obtain ⟨hx,h2,h3,h4⟩:=m;subst hx;rw [lAk];unfold rAx;obtain ⟨N,rfl⟩:∃ m,N=m+1:=⟨N-1,by omega⟩;rw [show Int.ofNat s.len=0 by rw [h3];rfl,qS];unfold gV;have hlt:wB 0 0=false:=rfl;rw [hlt];exact ⟨[],h,rfl,Chg.refl _ _,by simp,rfl,rfl,h2,h3,h4⟩
 | succ n ih=>
  intro M xs s h S hM t hl m;obtain ⟨M,rfl⟩:∃ m,M=m+1:=⟨M-1,by omega⟩;obtain ⟨vs,o,hb,ml⟩:=m;have hvl:=ml.len;have hol:=o.len;have hsl:s.len=xs.length:=by omega
  rw [lAk];unfold rAx;obtain ⟨out,h15,e15,Lb,cL,bL,n15,pre,rest,Sd,Sr,oo,pl,md,mr,i1,i2,dj⟩:=eA0 (k:=0) (len:=xs.length) (L:=fun Q _ i H=>kAk N (f78 N M) Q s (xs.length:Int) i H) (fin:=fun _=>()) (Inv:=ZI n h S s xs)
   (fun Q i hi out H inv=>by
    obtain ⟨Lb,cL,bL,nL,pre,rest,Sd,Sr,oo,pl,md,mr,i1,i2,dj⟩:=inv;have hlt:wB (i:Int) (xs.length:Int)=true:=by rw [eF];exact decide_eq_true hi
    rw [qS];unfold gV;rw [hlt];dsimp only;rw [cond_true];rw [List.drop_eq_getElem_cons hi] at mr;obtain ⟨c,rest',S1,S2,hc,me,mr,j1,j2,dj2⟩:=mr;subst hc;obtain ⟨r,ty,pl',va,co,th,el,T0,T1,T2,hx,hcs,p⟩:=me;subst hcs;have tm:=t _ (List.getElem_mem hi);rw [hx] at tm;obtain ⟨k',a',m',nm',ty',hs',pl2,va',co',th',el',hx',t1,t2,t3,t4,hth,hel,t5,t6⟩:=tm;have ex:=hx';simp only [smT,D.t.injEq,List.cons.injEq,D.l.injEq,and_true] at ex;obtain ⟨_,_,_,_,_,_,_,_,_,eth,eel⟩:=ex;subst eth eel
    -- the block
    obtain ⟨A,ha⟩:∃ A,s.a=some (A,0):=by
     rcases oo with ⟨q1,q2,_⟩ | ⟨A,cs,st,q1,_⟩
     ·omega
     ·exact ⟨A,q1⟩
    have hbl:s.blk=some A:=by simp [SL.blk,ha]
    have hA:S A:=hb A hbl;have hsome:s.a.isSome=true:=by rw [ha];rfl
    have hil:i<s.len:=by omega
    have hcl:(smc r).length=32:=rfl;have nA:∀ C,Sd C∨S1 C∨S2 C→C≠A:=fun C hC e=>by
     subst e;rcases hC with q | q | q
     ·exact (i1 C q).2 hbl
     ·exact (i2 C (j1 C q)).2 hbl
     ·exact (i2 C (j2 C q)).2 hbl
    rw [dU hsome hil,eB6 ha];obtain ⟨h3,e3,o3,c3,n3⟩:=OwC.set (h:=H) (s:=s) (n:=32) (vs:=pre++(smc r++rest')) oo ha (j:=i * 32+1) (by simp only [List.length_append,pl,hcl];omega) (.int .i64 0);have e3':H.store (A,0+i * 32+1) [(.int .i64 0)]=some h3:=by rw [Nat.add_assoc];exact e3
    rw [e3',dA,dU hsome hil,eB6 ha];rw [fB6 pl (by rw [hcl];decide)] at o3;have hr0:(smc r).set 1 (.int .i64 0)=smc { r with at_:=0 }:=rfl;rw [hr0] at o3;have hk:∀ {X:Heap},OwC X s 32 (pre++(smc { r with at_:=0 }++rest'))→X.cell (A,0+i * 32+30)=some (SL.av r.th)∧X.cell (A,0+i * 32+31)=some (SL.av r.el):=fun {X} oX=>by
     constructor
     ·rw [Nat.add_assoc,OwC.cell oX ha (by simp only [List.length_append,pl];show i * 32+30<i * 32+(32+_);omega),bAu pl (show 30<32 by decide)];rfl
     ·rw [Nat.add_assoc,OwC.cell oX ha (by simp only [List.length_append,pl];show i * 32+31<i * 32+(32+_);omega),bAu pl (show 31<32 by decide)];rfl
    simp only [(hk o3).1,SL.av,fA,uA];have m3:Mt n h3 T1 r.th th:=Mt.chg n _ _ _ _ _ _ c3 (fun C hC=>by simp;exact nA C (.inr (.inl (p.i1 C hC)))) p.th;obtain ⟨L1,h7,e7,c7,b7,n7,m7⟩:=ih M th r.th h3 T1 (by omega) t5 hth m3;have e7':f78 N M ⟨r.th.a,r.th.len,r.th.cap,r.th.sz⟩ h3=some ((),h7):=e7;rw [e7',aA];have nL1:∀ C∈L1,S1 C:=fun C hC=>p.i1 C (b7 C hC);have o7:=o3.chg c7 (fun C hC hm=>by rw [hbl] at hC;cases hC;exact nA A (.inr (.inl (nL1 A hm))) rfl);rw [dU hsome hil,eB6 ha];simp only [(hk o7).2,SL.av,fA,uA];have m7e:Mt n h7 T2 r.el el:=Mt.chg n _ _ _ _ _ _ c7 (fun C hC hm=>p.d12 C (b7 C hm) hC) (Mt.chg n _ _ _ _ _ _ c3 (fun C hC=>by simp;exact nA C (.inr (.inl (p.i2 C hC)))) p.el);obtain ⟨L2,h11,e11,c11,b11,n11,m11⟩:=ih M el r.el h7 T2 (by omega) t6 hel m7e;have e11':f78 N M ⟨r.el.a,r.el.len,r.el.cap,r.el.sz⟩ h7=some ((),h11):=e11;rw [e11',aA,dC (by omega)];have nL2:∀ C∈L2,S1 C:=fun C hC=>p.i2 C (b11 C hC);have o11:=o7.chg c11 (fun C hC hm=>by rw [hbl] at hC;cases hC;exact nA A (.inr (.inl (nL2 A hm))) rfl);have cAll:Chg (A::(L1++L2)) H h11:=((c3.mono (by simp)).trans (c7.mono (by simp +contextual))).trans (c11.mono (by simp +contextual));have off:∀ C,(Sd C∨S2 C∨T0 C)→C ∉ A::(L1++L2):=fun C hC hm=>by
     simp only [List.mem_cons,List.mem_append] at hm;have hne:C≠A:=nA C (hC.elim .inl fun q=>q.elim (fun q=>.inr (.inr q)) fun q=>.inr (.inl (p.i0 C q)));rcases hm with q | q | q
     ·exact hne q
     ·rcases hC with z | z | z
      ·exact dj C z (j1 C (nL1 C q))
      ·exact dj2 C (nL1 C q) z
      ·exact p.d01 C z (b7 C q)
     ·rcases hC with z | z | z
      ·exact dj C z (j1 C (nL2 C q))
      ·exact dj2 C (nL2 C q) z
      ·exact p.d02 C z (b11 C q)
    have q0:∀ C,T0 C→C ∉ A::(L1++L2):=fun C hC=>off C (.inr (.inr hC));have me':Me (Mt n) h11 S1 (smc { r with at_:=0 }) (aL (n+1) xs[i]):=by
     rw [hx,mV];exact ⟨{ r with at_:=0 },ty,pl',va,co,th.map (aL n),el.map (aL n),T0,T1,T2,rfl,rfl,⟨Dt.chg cAll q0 p.ty,Dt.chg cAll q0 p.pl,Dt.chg cAll q0 p.va,Dt.chg cAll q0 p.co,Mt.chg n _ _ _ _ _ _ c11 (fun C hC hm=>p.d12 C hC (b11 C hm)) m7,m11,p.i0,p.i1,p.i2,p.d01,p.d02,p.d12⟩⟩
    have md':=(md.chg (Mt.chg n) cAll (fun C hC=>off C (.inl hC))).snoc (Mt.weak n) me' (fun C a b=>dj C a (j1 C b));have mr':=mr.chg (Mt.chg n) cAll (fun C hC=>off C (.inr (.inl hC)));refine ⟨out,h11,rfl,Lb++(A::(L1++L2)),(cL.mono (by simp +contextual)).trans (cAll.mono (fun C hC=>List.mem_append_right _ hC)),fun C hC=>?_,by omega,pre++smc { r with at_:=0 },rest',fun C=>Sd C∨S1 C,S2,by rw [List.append_assoc];exact o11,by rw [List.length_append,pl];show i * 32+32=_;omega,?_,mr',fun C hC=>hC.elim (i1 C) (fun q=>i2 C (j1 C q)),fun C hC=>i2 C (j2 C hC),fun C a b=>a.elim (fun q=>dj C q (j2 C b)) (fun q=>dj2 C q b)⟩
    ·rcases List.mem_append.1 hC with q | q
     ·exact bL C q
     ·simp only [List.mem_cons,List.mem_append] at q
      rcases q with q | q | q
      ·rw [q];exact hA
      ·exact (i2 C (j1 C (nL1 C q))).1
      ·exact (i2 C (j1 C (nL2 C q))).1
    ·rw [List.take_succ_eq_append_getElem hi,List.map_append];exact md')
   (fun Q out H=>by
    rw [qS];unfold gV;rw [eF,decide_eq_false (by omega)];rfl) N 0 sl0 h (Nat.zero_le _) (by omega) ⟨[],Chg.refl _ _,by simp,rfl,[],vs,fun _=>False,fun C=>S C∧s.blk≠some C,o,by simp,rfl,ml,fun C hC=>hC.elim,fun C hC=>hC,fun C hC=>hC.elim⟩
  rw [show ((0:Nat):Int)=0 from rfl] at e15;rw [show Int.ofNat s.len=(xs.length:Int) by rw [hsl];rfl,e15,uB];rw [List.drop_length] at mr;rw [show rest=[] from mr,List.append_nil] at oo;rw [List.take_length] at md;exact ⟨Lb,h15,rfl,cL,bL,n15,pre,oo,hb,md.weak (Mt.weak n) (fun C hC _=>i1 C hC)⟩
end
end Qp
namespace Qp
section
variable {N:Nat} {h:Heap} {V:Nat→Prop}
theorem WR.btw {h0 H H':Heap} {cs1 cs2:List AV} (w:WR h0 H cs1 cs2) {d:D} {cs:List AV} (x:Dt H' (Fr0 H) d cs):Dt H' (fun C=>h0.next+1<C∧C<H'.next) d cs:=Dt.weak (fun C hC hl=>⟨by have:H.next≤C:=hC;have:=w.nx;omega,hl⟩) x
theorem WR.btwS {h0 H H':Heap} {cs1 cs2:List AV} (w:WR h0 H cs1 cs2) {s:SL} {xs:List D} (x:Sl H' (Fr0 H) s xs):Sl H' (fun C=>h0.next+1<C∧C<H'.next) s xs:=x.weak (fun C hC hl=>⟨by have:H.next≤C:=hC;have:=w.nx;omega,hl⟩)
theorem cAu (hN:3001≤N) {lv:List D} (t:∀ l∈lv,isLf l) (hl:lv.length≤3000) {s:SL} (x:Sl h V s lv) (v1 v2:zJ2):∃ v h',rA6 N N v1 v2 sl0 s (lv.length:Int) 0 h=some (.exit 0,(v1,v2,v,()),h')∧Chg [] h h'∧Sl h' (Fr0 h) v lv:=by
 obtain ⟨out,h17,e17,w17,c17⟩:=aAa (h0:=h) (n:=2) (k:=0) (xs:=lv) (L:=fun Q out i H=>rA6 N Q v1 v2 out s (lv.length:Int) i H) (fin:=fun out=>(v1,v2,out,()))
  (fun Q i hi out H ho hc=>by
   have hlt:wB (i:Int) (lv.length:Int)=true:=by rw [eF];exact decide_eq_true hi
   rw [iA3];unfold aA0;rw [hlt]
   try dsimp only
   rw [cond_true];have zH:=x.chg hc (by simp);have tm:=t _ (List.getElem_mem hi);obtain ⟨q,g,d⟩:=rA4.elt zH hi tm;rw [zH.ix hi 2,g,fAo];obtain ⟨nm,xs,hf,hx⟩:=tm;rw [hf] at d;obtain ⟨s1,hc1,y⟩:=vA3 d;have e:=rA4.inj hc1;subst e;obtain ⟨Ha,pa,ca,oa⟩:=rA4.park (z:=lfc lf0) rfl H (nm,s1,());have pa':∀ {β:Type} (K:Heap→Option β),rA ((H.push (.row [(.str []),(.slice none 0 0 0)] .own)).store (H.next,0) [(.str nm),(.slice s1.a s1.len s1.cap s1.sz)]) K=K Ha:=pa
   try dsimp only
   rw [pa'];have k0:Ha.cell (H.next,0)=some (.str nm):=oa.cell 0;have k1:Ha.cell (H.next,1)=some (SL.av s1):=oa.cell 1;simp only [Nat.zero_add,k0,k1,SL.av,fA,uA,cD];obtain ⟨v,Hb,eb,cb,sv⟩:=yA3 (N:=N) (y.chg ca (by simp)) (by omega);have eb':f115 N ⟨s1.a,s1.len,s1.cap,s1.sz⟩ Ha=some (v,Hb):=eb;rw [eb',aA];have ob:=oa.chg cb (by simp);have k2:Hb.cell (H.next,0)=some (.str nm):=ob.cell 0;obtain ⟨s',h',ea,oa',ca'⟩:=tAk jBb (by decide) hi ho hc (ca.trans cb) (cs:=lfc (nm,v,())) (by rw [hf];exact vW (sv.weak (fun C hC _=>by have:Ha.next≤C:=hC;have:=ca.next;show H.next≤C;omega))) rfl (by omega);have ea':∀ {β:Type} (K:SL→Heap→Option β),aE (.val zL2) (iB E 36 36 (.slice out.a out.len out.cap out.sz) (.slice (some (Hb.next,0)) 1 1 2) (Hb.push (.row [(.str nm),(.slice v.a v.len v.cap v.sz)] .own))) K=K s' h':=ea;rw [ea',dC (by omega)];have q1:aB (some (SL.av s1)) (SL.av s1)=true:=wC _;simp only [SL.av] at q1;simp only [k2,wC,q1,cond_true,aC];exact ⟨s',h',rfl,oa',ca'⟩)
  (fun Q out H=>by
   rw [iA3];unfold aA0;rw [eF,decide_eq_false (by omega)];rfl) N 0 sl0 h (Nat.zero_le _) (by omega) (OwV.nil _ _ _ _) (Chg.refl _ _)
 exact ⟨out,h17,e17,c17,w17.sl⟩
theorem kBd (hN:3001≤N) {pub:Bool} {nm:Bs} {lv ps bd:List D} {ty:D} {a:Int} (tl:∀ l∈lv,isLf l) (h1:lv.length≤1000) (tp:∀ p∈ps,isFd p) (h2':ps.length≤1000) (tt:iA6 65 ty) (tb:∀ s∈bd,isSm 65 s) (h3:bd.length≤3000) {s1 s2 s3:SL} {r:TyV}
  (y1:Sl h V s1 lv) (y2:Sl h V s2 ps) (yt:Dt h V ty (tyc r)) (y3:Sl h V s3 bd):∃ s1' s2' r' s3' B h',f77 N (fuv ⟨pub,nm,s1,s2,r,s3,a⟩) h=some (fuv ⟨pub,nm,s1',s2',r',s3',a⟩,h')∧Chg [] h h'∧h.next≤B∧Sl h' (fun C=>h.next≤C∧C<B) s1' lv∧Sl h' (fun C=>h.next≤C∧C<B) s2' ps∧Dt h' (fun C=>h.next≤C∧C<B) ty (tyc r')∧Mt 65 h' (fun C=>B≤C∧C<h'.next) s3' bd:=by
 unfold f77;obtain ⟨h2,e2,n2,w⟩:=wAt h [(.bool pub),(.str nm),(.slice s1.a s1.len s1.cap s1.sz),(.slice s2.a s2.len s2.cap s2.sz),(.int .i64 r.1),(.str r.2.1),(.slice r.2.2.1.a r.2.2.1.len r.2.2.1.cap r.2.2.1.sz),(.slice r.2.2.2.1.a r.2.2.2.1.len r.2.2.2.1.cap r.2.2.2.1.sz),(.slice s3.a s3.len s3.cap s3.sz),(.int .i64 a)] [(.bool false),(.str []),(.slice none 0 0 0),(.slice none 0 0 0),(.int .i64 0),(.str []),(.slice none 0 0 0),(.slice none 0 0 0),(.slice none 0 0 0),(.int .i64 0)];have w:WR h h2 (fuc ⟨pub,nm,s1,s2,r,s3,a⟩) (fux (fuv (jJ false [] 0))):=w;dsimp only [fuv];rw [e2,n2];have k2:h2.cell (h.next,2)=some (SL.av s1):=w.o1.cell 2;simp only [Nat.zero_add,k2,SL.av,fA,uA];have z1:=y1.chg w.c (by simp);obtain ⟨u1,h19,e19,c19,x1⟩:=cAu hN tl (by omega) z1 (some (h.next,0)) (some (h.next+1,0));show ∃ s1' s2' r' s3' B h',(fE (rA6 N N (some (h.next,0)) (some (h.next+1,0)) sl0 s1 (Int.ofNat s1.len) 0 h2) _)=_∧_;rw [show Int.ofNat s1.len=(lv.length:Int) by rw [z1.len];rfl,e19,uB];simp only [dA,Nat.zero_add];have x1:=w.btwS x1;obtain ⟨h21,p21,w21,c21⟩:=(w.call c19).set (j:=2) (vs:=[(.slice u1.a u1.len u1.cap u1.sz)]) (show 2+1≤10 by decide) (ds:=fuc ⟨pub,nm,u1,s2,r,s3,a⟩) rfl;rw [p21];have k3:h21.cell (h.next,3)=some (SL.av s2):=w21.o1.cell 3;simp only [k3,SL.av,fA,uA];obtain ⟨u2,h25,e25,c25,x2⟩:=yAt hN tp (by omega) (y2.chg w21.c (by simp));have e25':f116 N ⟨s2.a,s2.len,s2.cap,s2.sz⟩ h21=some (u2,h25):=e25;rw [e25',aA];have x2:=w21.btwS x2;obtain ⟨h27,p27,w27,c27⟩:=(w21.call c25).set (j:=3) (vs:=[(.slice u2.a u2.len u2.cap u2.sz)]) (show 3+1≤10 by decide) (ds:=fuc ⟨pub,nm,u1,u2,r,s3,a⟩) rfl;rw [p27];have k4:h27.cells (h.next,4) 4=some (.agg (tyc r)):=w27.o1.cells (j:=4) (m:=4) (show 4+4≤10 by decide);rw [k4,jAm];obtain ⟨r',h31,e31,c31,xt⟩:=pAh hN 65 N ty r h27 V (by omega) tt (Dt.chg w27.c (by simp) yt);have e31':f117 N N (r.1,r.2.1,r.2.2.1,r.2.2.2.1,()) h27=some (r',h31):=e31;rw [e31',aA];have xt:=w27.btw xt;obtain ⟨h33,p33,w33,c33⟩:=(w27.call c31).set (j:=4) (vs:=[(.int .i64 r'.1),(.str r'.2.1),(.slice r'.2.2.1.a r'.2.2.1.len r'.2.2.1.cap r'.2.2.1.sz),(.slice r'.2.2.2.1.a r'.2.2.2.1.len r'.2.2.2.1.cap r'.2.2.2.1.sz)]) (show 4+4≤10 by decide) (ds:=fuc ⟨pub,nm,u1,u2,r',s3,a⟩) rfl;rw [p33];have k8:h33.cell (h.next,8)=some (SL.av s3):=w33.o1.cell 8;simp only [k8,SL.av,fA,uA];obtain ⟨u3,h37,e37,c37,x3⟩:=dB6 hN 65 N bd s3 h33 V (by omega) tb h3 (y3.chg w33.c (by simp));have e37':f118 N N ⟨s3.a,s3.len,s3.cap,s3.sz⟩ h33=some (u3,h37):=e37;rw [e37',aA];obtain ⟨h39,p39,w39,c39⟩:=(w33.call c37).set (j:=8) (vs:=[(.slice u3.a u3.len u3.cap u3.sz)]) (show 8+1≤10 by decide) (ds:=fux (fuv ⟨pub,nm,u1,u2,r',u3,a⟩)) rfl;rw [p39];obtain ⟨h42,p42,c42,c042⟩:=WR.fin uA9 (r0:=fuv (jJ false [] 0)) w39
 -- which blocks are whose
 have n19:=c19.next;have n21:=c21.next;have n25:=c25.next;have n27:=c27.next;have n31:=c31.next;have n33:=c33.next;have n37:=c37.next;have n39:=c39.next;have n42:=c42.next;have nx:=w33.nx;have z:∀ A,h.next+1<A→A ∉ [h.next]∧A ∉ [h.next+1]:=fun A hA=>by simp;omega
 have sub:∀ C,h.next+1<C∧C<h33.next→h.next≤C∧C<h33.next:=fun C hC=>⟨by omega,hC.2⟩;have x1:=((((((((x1.chg c21 (fun A hA=>(z A hA.1).1)).chg c25 (by simp)).chg c27 (fun A hA=>(z A hA.1).1)).chg c31 (by simp)).chg c33 (fun A hA=>(z A hA.1).1)).chg c37 (by simp)).chg c39 (fun A hA=>(z A hA.1).1)).chg c42 (fun A hA=>(z A hA.1).2)).weak (W:=fun C=>h.next≤C∧C<h33.next) (fun C hC _=>by omega);have x2:=((((((x2.chg c27 (fun A hA=>(z A hA.1).1)).chg c31 (by simp)).chg c33 (fun A hA=>(z A hA.1).1)).chg c37 (by simp)).chg c39 (fun A hA=>(z A hA.1).1)).chg c42 (fun A hA=>(z A hA.1).2)).weak (W:=fun C=>h.next≤C∧C<h33.next) (fun C hC _=>by omega);have xt:=Dt.weak (W:=fun C=>h.next≤C∧C<h33.next) (fun C hC _=>by omega) (Dt.chg c42 (fun A hA=>(z A hA.1).2) (Dt.chg c39 (fun A hA=>(z A hA.1).1) (Dt.chg c37 (by simp) (Dt.chg c33 (fun A hA=>(z A hA.1).1) xt))));have x3:Mt 65 h42 (fun C=>h33.next≤C∧C<h37.next) u3 bd:=Mt.chg 65 _ _ _ _ _ _ c42 (fun A hA=>(z A (by omega)).2) (Mt.chg 65 _ _ _ _ _ _ c39 (fun A hA=>(z A (by omega)).1) (Mt.weak 65 _ _ _ _ _ (fun C hC hl=>⟨hC,hl⟩) x3));exact ⟨u1,u2,r',u3,h33.next,h42,p42 (fun y h'=>some (y,h')),c042,by omega,x1,x2,xt,Mt.weak 65 _ _ _ _ _ (fun C hC hl=>⟨hC.1,hl⟩) x3⟩
end
end Qp
namespace Qp
def tK:D→D
 | .t [p,n,l,f,_]=>.t [p,n,l,f,.i 0]
 | d=>d
def bareFu:D→D
 | .t [p,n,l,ps,ty,.l bd,_]=>.t [p,n,l,ps,ty,.l (bd.map (aL 65)),.i 0]
 | d=>d
theorem lBd {h:Heap} {V:Nat→Prop} {pub:Bool} {nm:Bs} {lv ps bd:List D} {ty:D} {a:Int} {s1 s2 s3:SL} {r:TyV} (y1:Sl h V s1 lv) (y2:Sl h V s2 ps) (yt:Dt h V ty (tyc r)) (y3:Sl h V s3 bd):Dt h V (fuT pub nm lv ps ty bd a) (fuc ⟨pub,nm,s1,s2,r,s3,a⟩):=
 kAv ⟨[.bool pub],_,rfl,oAz _ _ _,[.str nm],_,rfl,uJ _ _ _,[SL.av s1],_,rfl,aM.2 y1,[SL.av s2],_,rfl,aM.2 y2,tyc r,_,rfl,yt,[SL.av s3],_,rfl,aM.2 y3,[.int .i64 a],[],rfl,wAj _ _ _,rfl⟩
section
variable {N:Nat} {h3:Heap} {V:Nat→Prop} {R:Nat}
theorem mAd (hN:3001≤N) {xs:List D} (t:∀ x∈xs,isSt x) (hl:xs.length≤3000) {s:SL} (x:Sl h3 V s xs) (hV:∀ A,V A→A≠R) (hR:R<h3.next) (o0:h3.own R [SL.av sl0,SL.av sl0]) (v1 v2:zJ2) :
  ∃ out h',vA6 N N v1 v2 (some (R,0)) s (xs.length:Int) 0 h3=some (.exit 0,(v1,v2,some (R,0),()),h')∧Chg [R] h3 h'∧h'.own R [SL.av out,SL.av sl0]∧OwV (Fr0 h3) h' out 5 (xs.map tK):=by
 obtain ⟨_,h',e,out,c,o,w⟩:=eA0 (k:=0) (len:=xs.length) (L:=fun Q _ i H=>vA6 N Q v1 v2 (some (R,0)) s (xs.length:Int) i H) (fin:=fun _=>(v1,v2,some (R,0),())) (Inv:=fun i _ H=>∃ out,Chg [R] h3 H∧H.own R [SL.av out,SL.av sl0]∧OwV (Fr0 h3) H out 5 ((xs.take i).map tK))
  (fun Q i hi dummy H inv=>by
   obtain ⟨out,c0,oR,ow⟩:=inv;have hlt:wB (i:Int) (xs.length:Int)=true:=by rw [eF];exact decide_eq_true hi
   rw [kA3];unfold dA0;rw [hlt]
   try dsimp only
   rw [cond_true];have zH:=x.chg c0 (fun A hA=>by simp;exact hV A hA);have tm:=t _ (List.getElem_mem hi);obtain ⟨q,g,d⟩:=wA3.elt zH hi tm;rw [zH.ix hi 5,g,bBh];have tm':=tm;obtain ⟨pub,nm,lv,fs,a,hx,hlv,hfs,tf⟩:=tm;have d0:=d;rw [hx] at d;obtain ⟨l1,g1,hc1,_⟩:=aA7 d;have e:=wA3.inj hc1;subst e;obtain ⟨Ha,pa,ca,oa⟩:=wA3.park (z:=stc st0) rfl H (pub,nm,l1,g1,a,());have pa':∀ {β:Type} (K:Heap→Option β),rA ((H.push (.row [(.bool false),(.str []),(.slice none 0 0 0),(.slice none 0 0 0),(.int .i64 0)] .own)).store (H.next,0) [(.bool pub),(.str nm),(.slice l1.a l1.len l1.cap l1.sz),(.slice g1.a g1.len g1.cap g1.sz),(.int .i64 a)]) K=K Ha:=pa
   try dsimp only
   rw [pa',tAc oa];obtain ⟨r',Hb,eb,cb,db⟩:=gBd hN tm' (Dt.chg ca (by simp) d0);rw [hx] at db;obtain ⟨u1,u2,hc2,y1,y2⟩:=aA7 db;have e:=wA3.inj hc2;subst e;have eb':f76 N (pub,nm,l1,g1,a,()) Ha=some ((pub,nm,u1,u2,a,()),Hb):=eb
   try dsimp only
   rw [eb',aA];have w:W1 H Hb (stc (pub,nm,l1,g1,a,())):=(⟨oa,ca,oa.2⟩:W1 H Ha _).call cb;obtain ⟨Hc,pc,wc,cc,nc⟩:=w.set (j:=0) (vs:=[(.bool pub),(.str nm),(.slice u1.a u1.len u1.cap u1.sz),(.slice u2.a u2.len u2.cap u2.sz),(.int .i64 a)]) (show 0+5≤5 by decide) (ds:=stc (pub,nm,u1,u2,a,())) rfl
   try dsimp only
   rw [pc];obtain ⟨Hd,pd,wd,cd,nd⟩:=wc.set (j:=4) (vs:=[(.int .i64 0)]) (show 4+1≤5 by decide) (ds:=stc (pub,nm,u1,u2,0,())) rfl;simp only [Nat.zero_add];rw [pd];have hne:R≠H.next:=by have:=oR.2;omega
   have oRd:=oR.chg wd.c (by simp);have kR:Hd.cell (R,0)=some (SL.av out):=oRd.cell 0;simp only [dA,Nat.add_zero,Nat.zero_add,kR,SL.av,fA,uA];rw [tAc wd.o];have nHa:=ca.next;have dd:Dt Hd (fun C=>Fr0 h3 C∧out.blk≠some C) (qA8 pub nm lv fs 0) (stc (pub,nm,u1,u2,0,())):=by
    have z:∀ A,Fr0 Ha A→A ∉ [H.next]:=fun A hA=>by have:Ha.next≤A:=hA;have:=oa.2;simp;omega
    have z2:∀ C,Fr0 Ha C→C<Hd.next→Fr0 h3 C∧out.blk≠some C:=fun C hC _=>⟨by have:Ha.next≤C:=hC;have:=c0.next;have:=ca.next;show h3.next≤C;omega,fun hb=>by have:=(ow.ge C hb).2;have:Ha.next≤C:=hC;have:=ca.next;omega⟩;exact rA8 (((y1.chg cc z).chg cd z).weak z2) (((y2.chg cc z).chg cd z).weak z2)
   obtain ⟨out',h20,ea,ow',ca',hb'⟩:=dI iAx (by decide) (ow.chg wd.c (by simp)) dd rfl (fun A hA=>by have:Hd.next≤A:=hA;have:=c0.next;have:=wd.c.next;show h3.next≤A;omega) (by rw [List.length_map,List.length_take,Nat.min_eq_left (by omega)];omega);have ea':iB E 22 22 (.slice out.a out.len out.cap out.sz) (.slice (some (Hd.next,0)) 1 1 5) (Hd.push (.row [(.bool pub),(.str nm),(.slice u1.a u1.len u1.cap u1.sz),(.slice u2.a u2.len u2.cap u2.sz),(.int .i64 0)] .own))=some (.slice out'.a out'.len out'.cap out'.sz,h20):=ea;rw [ea'];have oR20:=oRd.chg ca' (fun hm=>by
    have hbl:out.blk=some R:=by simpa using hm
    have:h3.next≤R:=(ow.ge R hbl).1
    omega)
   have hst:h20.store (R,0) [(.slice out'.a out'.len out'.cap out'.sz)]=some (h20.put R (.row [SL.av out',SL.av sl0] .own)):=vS oR20 (show 0+1≤2 by decide) rfl;dsimp only [aE,Ty.cast,VTy.cast,CTy.cast];rw [hst,dA,dC (by omega)];have cp:=oR20.put [SL.av out',SL.av sl0];refine ⟨dummy,_,rfl,out',((c0.trans (wd.c.mono (by simp))).step ca' (fun A hA hlt=>?_)).trans cp,yA oR20 _,?_⟩
   ·have hbl:out.blk=some A:=by simpa using hA
    have:h3.next≤A:=(ow.ge A hbl).1
    omega
   ·rw [List.take_succ_eq_append_getElem hi,List.map_append,hx]
    exact ow'.chg cp (fun A hA _=>by have:h3.next≤A:=hA;simp;omega))
  (fun Q out H=>by
   rw [kA3];unfold dA0;rw [eF,decide_eq_false (by omega)];rfl) N 0 sl0 h3 (Nat.zero_le _) (by omega) ⟨sl0,Chg.refl _ _,o0,OwV.nil _ _ _ _⟩
 rw [show ((0:Nat):Int)=0 from rfl] at e;rw [List.take_length] at w;exact ⟨out,h',e,c,o,w⟩
theorem bAo (hN:3001≤N) {xs:List D} (t:∀ x∈xs,isFu x) (hl:xs.length≤3000) {s:SL} (x:Sl h3 V s xs) (hV:∀ A,V A→A≠R) (hR:R<h3.next) {sx:SL} (o0:h3.own R [SL.av sx,SL.av sl0]) (v2:zJ2) :
  ∃ out h',uA6 N N v2 (some (R,0)) s (xs.length:Int) 0 h3=some (.exit 2,(v2,some (R,0),()),h')∧Chg [R] h3 h'∧h'.own R [SL.av sx,SL.av out]∧OwV (Fr0 h3) h' out 10 (xs.map bareFu):=by
 obtain ⟨_,h',e,out,c,o,w⟩:=eA0 (k:=2) (len:=xs.length) (L:=fun Q _ i H=>uA6 N Q v2 (some (R,0)) s (xs.length:Int) i H) (fin:=fun _=>(v2,some (R,0),())) (Inv:=fun i _ H=>∃ out,Chg [R] h3 H∧H.own R [SL.av sx,SL.av out]∧OwV (Fr0 h3) H out 10 ((xs.take i).map bareFu))
  (fun Q i hi dummy H inv=>by
   obtain ⟨out,c0,oR,ow⟩:=inv;have hlt:wB (i:Int) (xs.length:Int)=true:=by rw [eF];exact decide_eq_true hi
   rw [jA3];unfold bA0;rw [hlt]
   try dsimp only
   rw [cond_true];have zH:=x.chg c0 (fun A hA=>by simp;exact hV A hA);have tm:=t _ (List.getElem_mem hi);obtain ⟨q,g,d⟩:=uA9.elt zH hi tm;rw [zH.ix hi 10,g,gBh];obtain ⟨pub,nm,lv,ps,ty,bd,a,hx,hlv,tl,hps,tp,tt,hbd,tb⟩:=tm;rw [hx] at d;obtain ⟨s1,s2,s3,r,hc1,y1,y2,yt,y3⟩:=lAd tt d;have e:=uA9.inj hc1;subst e;obtain ⟨Ha,pa,ca,oa⟩:=uA9.park (z:=fux (fuv (jJ false [] 0))) rfl H (fuv ⟨pub,nm,s1,s2,r,s3,a⟩);have pa':∀ {β:Type} (K:Heap→Option β),rA ((H.push (.row [(.bool false),(.str []),(.slice none 0 0 0),(.slice none 0 0 0),(.int .i64 0),(.str []),(.slice none 0 0 0),(.slice none 0 0 0),(.slice none 0 0 0),(.int .i64 0)] .own)).store (H.next,0) [(.bool pub),(.str nm),(.slice s1.a s1.len s1.cap s1.sz),(.slice s2.a s2.len s2.cap s2.sz),(.int .i64 r.1),(.str r.2.1),(.slice r.2.2.1.a r.2.2.1.len r.2.2.1.cap r.2.2.1.sz),(.slice r.2.2.2.1.a r.2.2.2.1.len r.2.2.2.1.cap r.2.2.2.1.sz),(.slice s3.a s3.len s3.cap s3.sz),(.int .i64 a)]) K=K Ha:=pa;dsimp only [fuv];rw [pa',bAk oa];have zz:∀ A,V A→A ∉ ([]:List Nat):=by simp
   obtain ⟨u1,u2,r',u3,B,Hb,eb,cb,hB,x1,x2,xt,x3⟩:=kBd hN tl hlv tp hps tt tb hbd (y1.chg ca zz) (y2.chg ca zz) (Dt.chg ca zz yt) (y3.chg ca zz) (pub:=pub) (nm:=nm) (a:=a);have eb':f77 N (pub,nm,s1,s2,r.1,r.2.1,r.2.2.1,r.2.2.2.1,s3,a,()) Ha=some (fuv ⟨pub,nm,u1,u2,r',u3,a⟩,Hb):=eb;dsimp only [fuv];rw [eb',aA];have w:W1 H Hb (fuc ⟨pub,nm,s1,s2,r,s3,a⟩):=(⟨oa,ca,oa.2⟩:W1 H Ha _).call cb;obtain ⟨Hc,pc,wc,cc,nc⟩:=w.set (j:=0) (vs:=[(.bool pub),(.str nm),(.slice u1.a u1.len u1.cap u1.sz),(.slice u2.a u2.len u2.cap u2.sz),(.int .i64 r'.1),(.str r'.2.1),(.slice r'.2.2.1.a r'.2.2.1.len r'.2.2.1.cap r'.2.2.1.sz),(.slice r'.2.2.2.1.a r'.2.2.2.1.len r'.2.2.2.1.cap r'.2.2.2.1.sz),(.slice u3.a u3.len u3.cap u3.sz),(.int .i64 a)]) (show 0+10≤10 by decide) (ds:=fuc ⟨pub,nm,u1,u2,r',u3,a⟩) rfl;dsimp only [fuv];rw [pc];obtain ⟨Hd,pd,wd,cd,nd⟩:=wc.set (j:=9) (vs:=[(.int .i64 0)]) (show 9+1≤10 by decide) (ds:=fuc ⟨pub,nm,u1,u2,r',u3,0⟩) rfl;simp only [Nat.zero_add];rw [pd];have k8:Hd.cell (H.next,8)=some (SL.av u3):=wd.o.cell 8;simp only [k8,SL.av,fA,uA];have na:=oa.2;have nHa:=ca.next;have z:∀ A,Ha.next≤A→A ∉ [H.next]:=fun A hA=>by simp;omega
   have x3:=Mt.chg 65 _ _ _ _ _ _ cd (fun A hA=>z A (by omega)) (Mt.chg 65 _ _ _ _ _ _ cc (fun A hA=>z A (by omega)) x3);obtain ⟨L,He,ee,ce,bL,ne,x3⟩:=jBd hN 65 N bd u3 Hd _ (by omega) tb hbd x3;have ee':f78 N N ⟨u3.a,u3.len,u3.cap,u3.sz⟩ Hd=some ((),He):=ee;rw [ee',aA];have cHe:Chg L H He:=(wd.c.mono (by simp)).trans ce;have nR:=oR.2;have lowL:∀ A,A<Ha.next→A ∉ L:=fun A hA hm=>by have:=bL A hm;omega
   have oRd:=oR.chg cHe (lowL R (by omega));have oP:He.own H.next (fux (fuv ⟨pub,nm,u1,u2,r',u3,0⟩)):=wd.o.chg ce (lowL _ (by omega));have kR:He.cell (R,1)=some (SL.av out):=oRd.cell 1;simp only [dA,Nat.zero_add,kR,SL.av,fA,uA];rw [bAk oP];have dd:Dt He (fun C=>Fr0 h3 C∧out.blk≠some C) (fuT pub nm lv ps ty (bd.map (aL 65)) 0) (fuc ⟨pub,nm,u1,u2,r',u3,0⟩):=by
    have q1:∀ C,Ha.next≤C→Fr0 h3 C∧out.blk≠some C:=fun C hC=>⟨by have:=c0.next;show h3.next≤C;omega,fun hb=>by have:=(ow.ge C hb).2;omega⟩;have q2:∀ A,Ha.next≤A∧A<B→A ∉ L:=fun A hA hm=>by have:=bL A hm;omega
    have zz:∀ A,Ha.next≤A∧A<B→A ∉ [H.next]:=fun A hA=>z A hA.1;exact lBd (((x1.chg cc zz).chg cd zz).chg ce q2 |>.weak fun C hC _=>q1 C hC.1) (((x2.chg cc zz).chg cd zz).chg ce q2 |>.weak fun C hC _=>q1 C hC.1) (Dt.weak (fun C hC _=>q1 C hC.1) (Dt.chg ce q2 (Dt.chg cd zz (Dt.chg cc zz xt)))) ((Mt.sl 65 x3).weak fun C hC _=>q1 C (by omega))
   have nHe:=cHe.next;obtain ⟨out',h20,ea,ow',ca',hb'⟩:=dI jAx (by decide) (ow.chg cHe (fun A _ hA=>lowL A (by omega))) dd rfl (fun A hA=>by have:He.next≤A:=hA;have:=c0.next;show h3.next≤A;omega) (by rw [List.length_map,List.length_take,Nat.min_eq_left (by omega)];omega);have ea':iB E 23 23 (.slice out.a out.len out.cap out.sz) (.slice (some (He.next,0)) 1 1 10) (He.push (.row [(.bool pub),(.str nm),(.slice u1.a u1.len u1.cap u1.sz),(.slice u2.a u2.len u2.cap u2.sz),(.int .i64 r'.1),(.str r'.2.1),(.slice r'.2.2.1.a r'.2.2.1.len r'.2.2.1.cap r'.2.2.1.sz),(.slice r'.2.2.2.1.a r'.2.2.2.1.len r'.2.2.2.1.cap r'.2.2.2.1.sz),(.slice u3.a u3.len u3.cap u3.sz),(.int .i64 0)] .own))=some (.slice out'.a out'.len out'.cap out'.sz,h20):=ea;dsimp only [fuv];rw [ea'];have oR20:=oRd.chg ca' (fun hm=>by
    have hbl:out.blk=some R:=by simpa using hm
    have:h3.next≤R:=(ow.ge R hbl).1
    omega)
   have hst:h20.store (R,1) [(.slice out'.a out'.len out'.cap out'.sz)]=some (h20.put R (.row [SL.av sx,SL.av out'] .own)):=vS oR20 (show 1+1≤2 by decide) rfl;dsimp only [aE,Ty.cast,VTy.cast,CTy.cast];rw [hst,dA,dC (by omega)];have cp:=oR20.put [SL.av sx,SL.av out'];have c1:Chg [R] h3 He:=c0.step cHe (fun A hA hlt=>by have:=bL A hA;have:=c0.next;omega);refine ⟨dummy,_,rfl,out',(c1.step ca' (fun A hA hlt=>?_)).trans cp,yA oR20 _,?_⟩
   ·have hbl:out.blk=some A:=by simpa using hA
    have:h3.next≤A:=(ow.ge A hbl).1
    omega
   ·rw [List.take_succ_eq_append_getElem hi,List.map_append,hx]
    exact ow'.chg cp (fun A hA _=>by have:h3.next≤A:=hA;simp;omega))
  (fun Q out H=>by
   rw [jA3];unfold bA0;rw [eF,decide_eq_false (by omega)];rfl) N 0 sl0 h3 (Nat.zero_le _) (by omega) ⟨sl0,Chg.refl _ _,o0,OwV.nil _ _ _ _⟩
 rw [show ((0:Nat):Int)=0 from rfl] at e;rw [List.take_length] at w;exact ⟨out,h',e,c,o,w⟩
end
theorem gB0 {N:Nat} (hN:3001≤N) {h:Heap} {V:Nat→Prop} {xs ys:List D} (tx:∀ o∈xs,isSt o) (ty:∀ o∈ys,isFu o) (lx:xs.length≤3000) (ly:ys.length≤3000) {x y:SL} (sx:Sl h V x xs) (sy:Sl h V y ys) :
  ∃ x' y' h',f31 N (x,y,()) h=some ((x',y',()),h')∧Chg [] h h'∧Sl h' (Fr0 h) x' (xs.map tK)∧Sl h' (Fr0 h) y' (ys.map bareFu):=by
 unfold f31
 try dsimp only
 have o0:=vA h [SL.av x,SL.av y];have c0:=qA h (.row [SL.av x,SL.av y] .own);have n0:(h.push (.row [SL.av x,SL.av y] .own)).next=h.next+1:=rfl;have e0:h.push (.row [(.slice x.a x.len x.cap x.sz),(.slice y.a y.len y.cap y.sz)] .own)=h.push (.row [SL.av x,SL.av y] .own):=rfl;rw [e0];generalize h.push (.row [SL.av x,SL.av y] .own)=h1 at *;have o1:=vA h1 [SL.av sl0,SL.av sl0];have c1:=qA h1 (.row [SL.av sl0,SL.av sl0] .own);have n1:(h1.push (.row [SL.av sl0,SL.av sl0] .own)).next=h1.next+1:=rfl;have e1:h1.push (.row [(.slice none 0 0 0),(.slice none 0 0 0)] .own)=h1.push (.row [SL.av sl0,SL.av sl0] .own):=rfl;rw [e1];have o0:=o0.chg c1 (by simp);have c01:=c0.trans c1;generalize h1.push (.row [SL.av sl0,SL.av sl0] .own)=h2 at *;have o2:=vA h2 [SL.av sl0,SL.av sl0];have c2:=qA h2 (.row [SL.av sl0,SL.av sl0] .own);have n2:(h2.push (.row [SL.av sl0,SL.av sl0] .own)).next=h2.next+1:=rfl;have e2:h2.push (.row [(.slice none 0 0 0),(.slice none 0 0 0)] .own)=h2.push (.row [SL.av sl0,SL.av sl0] .own):=rfl;rw [e2];have o0:=o0.chg c2 (by simp);have o1:=o1.chg c2 (by simp);have c02:=c01.trans c2;generalize h2.push (.row [SL.av sl0,SL.av sl0] .own)=h3 at *;have k0:h3.cell (h.next,0)=some (SL.av x):=o0.cell 0;simp only [Nat.zero_add,k0,SL.av,fA,uA];have sx3:=(sx.weak (W:=fun A=>A<h.next) (fun A _ hA=>hA)).chg c02 (by simp);have sy3:=(sy.weak (W:=fun A=>A<h.next) (fun A _ hA=>hA)).chg c02 (by simp);obtain ⟨u,h26,e26,c26,o26,w26⟩:=mAd (R:=h2.next) hN tx lx sx3 (fun A hA=>by omega) (by omega) o2 (some (h.next,0)) (some (h1.next,0));show ∃ x' y' h',(fE (vA6 N N (some (h.next,0)) (some (h1.next,0)) (some (h2.next,0)) x (Int.ofNat x.len) 0 h3) _)=_∧_;rw [show Int.ofNat x.len=(xs.length:Int) by rw [sx.len];rfl,e26,uB];have o0:=o0.chg c26 (by simp;omega);have o1:=o1.chg c26 (by simp;omega);have k1:h26.cell (h.next,1)=some (SL.av y):=o0.cell 1;simp only [dA,Nat.zero_add,k1,SL.av,fA,uA];have sy26:=sy3.chg c26 (fun A hA=>by simp;omega);have n26:=c26.next;obtain ⟨v,h53,e53,c53,o53,w53⟩:=bAo (R:=h2.next) hN ty ly sy26 (fun A hA=>by omega) (by omega) o26 (some (h1.next,0));show ∃ x' y' h',(fE (uA6 N N (some (h1.next,0)) (some (h2.next,0)) y (Int.ofNat y.len) 0 h26) _)=_∧_;rw [show Int.ofNat y.len=(ys.length:Int) by rw [sy.len];rfl,e53,uB];simp only [dA];rw [nY o53];have o1:=o1.chg c53 (by simp;omega);have hst:h53.store (h1.next,0) [(.slice u.a u.len u.cap u.sz),(.slice v.a v.len v.cap v.sz)]=some (h53.put h1.next (.row [SL.av u,SL.av v] .own)):=o1.store rfl;have cp:=o1.put [SL.av u,SL.av v]
 try dsimp only
 rw [hst,dA,nY (yA o1 _)];have n3:=c02.next;have wu:=(w26.sl.chg c53 (fun A hA=>by have:h3.next≤A:=hA;simp;omega)).chg cp (fun A hA=>by have:h3.next≤A:=hA;simp;omega);have wv:=w53.sl.chg cp (fun A hA=>by have:h26.next≤A:=hA;simp;omega);refine ⟨u,v,_,rfl,((c02.step c26 (fun A hA hlt=>?_)).step c53 (fun A hA hlt=>?_)).put (.inr (by omega)) _,wu.weak (fun C hC _=>by have:h3.next≤C:=hC;show h.next≤C;omega),wv.weak (fun C hC _=>by have:h26.next≤C:=hC;show h.next≤C;omega)⟩
 ·rw [List.mem_singleton] at hA;omega
 ·rw [List.mem_singleton] at hA;omega
end Qp
namespace Qp
def Al (U V:List Tok) (d:Nat):Prop:=∀ i,(tk U (i+d)).1=(tk V i).1∧(tk U (i+d)).2.1=(tk V i).2.1
def RF {σ α:Type} (R:σ→σ→Prop) (Q:α→α→Prop) (F' F:σ→α×σ):Prop:=∀ s' s,R s' s→Q (F' s').1 (F s).1∧R (F' s').2 (F s).2
def Rt (d:Nat) (σ' σ:St):Prop:=σ'.1=σ.1+d∧σ'.2.map Prod.fst=σ.2.map Prod.fst
section
variable {σ α β γ:Type} {R:σ→σ→Prop} {Q:α→α→Prop} {Q2:β→β→Prop}
theorem RF.bnd {f' f:σ→α×σ} {g' g:α→σ→β×σ} (hf:RF R Q f' f) (hg:∀ x' x,Q x' x→RF R Q2 (g' x') (g x)):RF R Q2 (Qp.bnd f' g') (Qp.bnd f g):=fun s' s h=>by
 obtain ⟨h1,h2⟩:=hf s' s h;exact hg _ _ h1 _ _ h2
theorem RF.bnE {f' f:σ→α×σ} {g' g:α→σ→β×σ} (hf:RF R Eq f' f) (hg:∀ x,RF R Q2 (g' x) (g x)):RF R Q2 (Qp.bnd f' g') (Qp.bnd f g):=hf.bnd fun x' x h=>by subst h;exact hg _
theorem RF.mapE {f' f:σ→α×σ} (hf:RF R Eq f' f) (h:α→β):RF R Eq (eE h f') (eE h f):=fun s' s q=>by
 obtain ⟨h1,h2⟩:=hf s' s q;exact ⟨congrArg h h1,h2⟩
theorem RF.map {f' f:σ→α×σ} (hf:RF R Q f' f) {h' h:α→β} (hh:∀ x' x,Q x' x→Q2 (h' x') (h x)):RF R Q2 (eE h' f') (eE h f):=fun s' s q=>by
 obtain ⟨h1,h2⟩:=hf s' s q;exact ⟨hh _ _ h1,h2⟩
theorem aN (x:α):RF R Eq (mG (σ:=σ) x) (mG x):=fun s' s h=>⟨rfl,h⟩
theorem nAd {x' x:α} (hx:Q x' x):RF R Q (mG (σ:=σ) x') (mG x):=fun s' s h=>⟨hx,h⟩
theorem dAu {c' c:σ→Bool} {Y' Y X' X:σ→α×σ} (hc:∀ s' s,R s' s→c' s'=c s) (hY:RF R Q Y' Y) (hX:RF R Q X' X):RF R Q (fun s=>if c' s=true then Y' s else X' s) (fun s=>if c s=true then Y s else X s):=fun s' s h=>by
 simp only [hc s' s h]
 split
 ·exact hY s' s h
 ·exact hX s' s h
end
abbrev RE (d:Nat) {α:Type} (F' F:St→α×St):Prop:=RF (Rt d) Eq F' F
section
variable {U V:List Tok} {d:Nat} {α:Type}
theorem Rt.cases {σ' σ:St} (h:Rt d σ' σ):(∃ i,σ=(i,none)∧σ'=(i+d,none))∨∃ i c a a',σ=(i,some (c,a))∧σ'=(i+d,some (c,a')):=by
 obtain ⟨i',o'⟩:=σ';obtain ⟨i,o⟩:=σ;obtain ⟨h1,h2⟩:=h;have h1:i'=i+d:=h1;subst h1
 cases o with
 | none=>
  cases o' with
  | none=>exact .inl ⟨i,rfl,rfl⟩
  | some e=>simp at h2
 | some e=>
  obtain ⟨c,a⟩:=e
  cases o' with
  | none=>simp at h2
  | some e'=>
   obtain ⟨c',a'⟩:=e'
   have:c'=c:=by simpa using h2
   subst this;exact .inr ⟨i,c',a,a',rfl,rfl⟩
theorem Rt.n (i:Nat):Rt d (i+d,none) (i,none):=⟨rfl,rfl⟩
theorem Rt.n1 (i:Nat):Rt d (i+d+1,none) (i+1,none):=⟨by show i+d+1=i+1+d;omega,rfl⟩
theorem Rt.e (i:Nat) (c a a':Int):Rt d (i+d,some (c,a')) (i,some (c,a)):=⟨rfl,rfl⟩
theorem RE.of {F' F:St→α×St} (h1:∀ i,(F' (i+d,none)).1=(F (i,none)).1∧Rt d (F' (i+d,none)).2 (F (i,none)).2) (h2:∀ i c a a',(F' (i+d,some (c,a'))).1=(F (i,some (c,a))).1∧Rt d (F' (i+d,some (c,a'))).2 (F (i,some (c,a))).2):RE d F' F:=fun s' s h=>by
 rcases h.cases with ⟨i,rfl,rfl⟩ | ⟨i,c,a,a',rfl,rfl⟩
 ·exact h1 i
 ·exact h2 i c a a'
theorem Al.is (hc:Al U V d) (w:Bs) (i:Nat):isS U w (i+d)=isS V w i:=by unfold isS;rw [(hc i).1,(hc i).2]
theorem cAa (hc:Al U V d) (w:Bs):RE d (jB U w) (jB V w):=RE.of (fun i=>by
 by_cases h:isS V w i=true
 ·simp only [jB,hc.is,h,if_true];exact ⟨trivial,Rt.n1 i⟩
 ·simp only [jB,hc.is,h,Bool.false_eq_true,if_false];exact ⟨trivial,Rt.n i⟩) fun i c a a'=>⟨rfl,Rt.e i c a a'⟩
theorem wJ (hc:Al U V d) (k:Int):RE d (pB U k) (pB V k):=RE.of (fun i=>by
 simp only [pB,(hc i).1,(hc i).2,jE]
 split
 ·exact ⟨rfl,Rt.n1 i⟩
 ·exact ⟨rfl,Rt.e i _ _ _⟩) fun i c a a'=>⟨rfl,Rt.e i c a a'⟩
theorem vAk (c:Int) (x:α):RE d (wW U c x) (wW V c x):=RE.of (fun i=>⟨rfl,Rt.e i _ _ _⟩) fun i c a a'=>⟨rfl,Rt.e i c a a'⟩
theorem tH (hc:Al U V d) (w:Bs):RE d (mD U w) (mD V w):=RE.of (fun i=>by
 simp only [mD,tA8,hc.is]
 cases isS V w i with
 | true=>exact ⟨trivial,Rt.n1 i⟩
 | false=>exact ⟨trivial,Rt.e i _ _ _⟩) fun i c a a'=>by unfold mD;rw [cF,cF];exact ⟨rfl,Rt.e i c a a'⟩
theorem oF (hc:Al U V d) (w:Bs) {Q:α→α→Prop} {Y' Y X' X:St→α×St} (hY:RF (Rt d) Q Y' Y) (hX:RF (Rt d) Q X' X):RF (Rt d) Q (yF U w Y' X') (yF V w Y X):=fun s' s h=>by
 obtain ⟨h1,h2⟩:=cAa hc w s' s h;unfold yF;rw [h1]
 split
 ·exact hY _ _ h2
 ·exact hX _ _ h2
theorem mBd (hc:Al U V d) (w:Bs) {Y' Y X' X:St→α×St} (hY:RE d Y' Y) (hX:RE d X' X):RE d (fun σ=>if (jB U w σ).1=true then Y' σ else X' σ) (fun σ=>if (jB V w σ).1=true then Y σ else X σ):=
 dAu (c':=fun σ=>(jB U w σ).1) (c:=fun σ=>(jB V w σ).1) (fun s' s h=>(cAa hc w s' s h).1) hY hX
theorem iB0 (hc:Al U V d) (p:Int→Bool) {Y' Y X' X:St→α×St} (hY:RE d Y' Y) (hX:RE d X' X):RE d (fun σ=>if p (tk U σ.1).1=true then Y' σ else X' σ) (fun σ=>if p (tk V σ.1).1=true then Y σ else X σ):=
 dAu (c':=fun σ=>p (tk U σ.1).1) (c:=fun σ=>p (tk V σ.1).1) (fun s' s h=>by show p _=p _;rw [h.1,(hc s.1).1]) hY hX
theorem wAk (hc:Al U V d) (w:Bs) {s' s:St} (h:Rt d s' s):mC U w s'=mC V w s:=by
 rcases h.cases with ⟨i,rfl,rfl⟩ | ⟨i,c,a,a',rfl,rfl⟩
 ·have e:=hc (i+1)
  rw [show i+1+d=i+d+1 by omega] at e;simp only [mC,(hc i).1,e.1,e.2]
 ·rfl
theorem eAu (hc:Al U V d) {s' s:St} (h:Rt d s' s):qD U s'=qD V s:=by simp only [qD,wAk hc _ h]
theorem fAu (hc:Al U V d):RE d (wG U) (wG V):=by
 have h:∀ T,wG T=bnd (pB T 1) fun a=>yF T [58,58] (eE (fun c=>a++[58,58]++c) (pB T 1)) (mG a):=fun T=>rfl;rw [h,h];exact (wJ hc 1).bnE fun a=>oF hc _ ((wJ hc 1).mapE _) (aN _)
theorem gB6 (hc:Al U V d):∀ g,RE d (qE U g) (qE V g):=fun g=>by
 induction g with
 | zero=>
  have h0:∀ T,qE T 0=wW T 5 ([]:List Bs):=fun T=>rfl;rw [h0,h0];exact vAk 5 _
 | succ g ih=>
  have h1:∀ T g,qE T (g+1)=bnd (pB T 3) fun a=>yF T [44] (eE (a::·) (qE T g)) (mG [a]):=fun T g=>rfl;rw [h1,h1];exact (wJ hc 3).bnE fun a=>oF hc _ (ih.mapE _) (aN _)
theorem gAu (hc:Al U V d):RE d (pG U) (pG V):=by
 have h:∀ T,pG T=yF T [60] (bnd (qE T 64) fun l=>eE (fun _=>l) (mD T [62])) (mG []):=fun T=>rfl;rw [h,h];exact oF hc _ ((gB6 hc 64).bnE fun l=>(tH hc _).mapE _) (aN _)
theorem nBd (hc:Al U V d) {one' one:St→D×St} (ho:RE d one' one) (sep:Bs):∀ g,RE d (yG U one' sep g) (yG V one sep g):=fun g=>by
 induction g with
 | zero=>
  have h0:∀ T one,yG T one sep 0=wW T 5 ([]:List D):=fun T one=>rfl;rw [h0,h0];exact vAk 5 _
 | succ g ih=>
  have h1:∀ T one g,yG T one sep (g+1)=bnd one fun a=>yF T sep (eE (a::·) (yG T one sep g)) (mG [a]):=fun T one g=>rfl;rw [h1,h1];exact ho.bnE fun a=>oF hc _ (ih.mapE _) (aN _)
theorem cX (hc:Al U V d) {one' one:St→D×St} (ho:RE d one' one) (sep:Bs):RE d (iD U one' sep) (iD V one sep):=RE.of (fun i=>nBd hc ho sep 64 _ _ (Rt.n i)) fun i c a a'=>⟨rfl,Rt.e i c a a'⟩
theorem oBd (hc:Al U V d):RE d (qQ U) (qQ V):=by
 have h:∀ T,qQ T=fun σ=>if (fun k:Int=>decide (k=3)) (tk T σ.1).1=true then eE (fun x=>[x]) (pB T 3) σ else mG [] σ:=fun T=>by
  funext σ
  simp only [qQ,eE,mG,decide_eq_true_eq]
 rw [h,h];exact iB0 hc (fun k:Int=>decide (k=3)) ((wJ hc 3).mapE _) (aN _)
theorem eAy (hc:Al U V d):∀ g,RE d (oH U g) (oH V g):=fun g=>by
 induction g with
 | zero=>
  have h0:∀ T,oH T 0=wW T 6 (tyD 0 [] [] []):=fun T=>rfl;rw [h0,h0];exact vAk 6 _
 | succ g ih=>
  let F:=fun T:List Tok=>yF T [105,110,116] (mG (tyD 1 [] [] [])) (yF T [98,111,111,108] (mG (tyD 2 [] [] []))
   (yF T [38] (bnd (qQ T) fun d=>bnd (jB T [109,117,116]) fun m=>eE (fun t=>tyD (if m=true then 5 else 4) [] d [t]) (oH T g))
    (bnd (wG T) fun n=>eE (fun l=>tyD 3 n l []) (pG T))))
  have hF:RE d (F U) (F V):=oF hc _ (aN _) (oF hc _ (aN _) (oF hc _ ((oBd hc).bnE fun x=>(cAa hc _).bnE fun m=>ih.mapE _) ((fAu hc).bnE fun n=>(gAu hc).mapE _)));have he:∀ (T:List Tok) (i:Nat),oH T (g+1) (i,none)=F T (i,none):=fun T i=>by
   simp only [oH,F,yF,bnd,eE,mG]
  exact RE.of (fun i=>by rw [he,he];exact hF _ _ (Rt.n i)) fun i c a a'=>by rw [wZ,wZ];exact ⟨rfl,Rt.e i c a a'⟩
theorem iB6 (hc:Al U V d):RE d (bF U) (bF V):=by
 have h:∀ T,bF T=bnd (pB T 1) fun a=>bnd (mD T [58]) fun _=>eE (fun r=>fdD false a r) (oH T 64):=fun T=>rfl;rw [h,h];exact (wJ hc 1).bnE fun a=>(tH hc _).bnE fun _=>(eAy hc 64).mapE _
theorem jB6 (hc:Al U V d):RE d (uU U 3) (uU V 3):=(wJ hc 3).mapE D.s
theorem aBi (hc:Al U V d):RE d (aW U) (aW V):=by
 have h:∀ T,aW T=bnd (pB T 3) fun a=>yF T [58] (eE (fun l=>tU a l) (iD T (uU T 3) [43])) (mG (tU a [])):=fun T=>rfl;rw [h,h];exact (wJ hc 3).bnE fun a=>oF hc _ ((cX hc (jB6 hc) _).mapE _) (aN _)
theorem kB6 (hc:Al U V d):RE d (pF U) (pF V):=by
 have h:∀ T,pF T=bnd (jB T [109,117,116]) fun m=>bnd (pB T 1) fun a=>bnd (mD T [58]) fun _=>eE (fun r=>fdD m a r) (oH T 64):=fun T=>rfl;rw [h,h];exact (cAa hc _).bnE fun m=>(wJ hc 1).bnE fun a=>(tH hc _).bnE fun _=>(eAy hc 64).mapE _
theorem pBd (hc:Al U V d):∀ g,RE d (pH U g) (pH V g):=fun g=>by
 induction g with
 | zero=>
  have h:∀ T,pH T 0=yF T [46] (wW T 5 ([]:List Bs)) (mG []):=fun T=>rfl;rw [h,h];exact oF hc _ (vAk 5 _) (aN _)
 | succ g ih=>
  have h:∀ T,pH T (g+1)=yF T [46] (yF T [42] (eE ([42]::·) (pH T g)) (bnd (pB T 1) fun x=>eE (x::·) (pH T g))) (mG []):=fun T=>rfl;rw [h,h];exact oF hc _ (oF hc _ (ih.mapE _) ((wJ hc 1).bnE fun x=>ih.mapE _)) (aN _)
theorem dAa (hc:Al U V d):RE d (uE U) (uE V):=by
 have h:∀ T,uE T=bnd (pB T 1) fun a=>eE (fun p=>tU a (p.map D.s)) (pH T 64):=fun T=>rfl;rw [h,h];exact (wJ hc 1).bnE fun a=>(pBd hc 64).mapE _
theorem bA4 (hc:Al U V d):RE d (kE U) (kE V):=by
 have h:∀ T,kE T=yF T [116,114,117,101] (mG (opD 2 1 pl0)) (yF T [102,97,108,115,101] (mG (opD 2 0 pl0)) (fun σ=>if (fun k:Int=>decide (k=4)) (tk T σ.1).1=true then eE (fun x=>opD 1 ((aZ x 0:Nat):Int) pl0) (pB T 4) σ else eE (fun p=>opD 3 0 p) (uE T) σ)):=fun T=>by
  funext σ
  simp only [kE,yF,eE,mG,decide_eq_true_eq]
 rw [h,h];exact oF hc _ (aN _) (oF hc _ (aN _) (iB0 hc (fun k:Int=>decide (k=4)) ((wJ hc 4).mapE _) ((dAa hc).mapE _)))
theorem jB0 (hc:Al U V d):RE d (lL U) (lL V):=by
 have h:∀ T,lL T=bnd (mD T [40]) fun _=>yF T [41] (mG []) (bnd (iD T (kE T) [44]) fun l=>eE (fun _=>l) (mD T [41])):=fun T=>by
  funext σ
  rfl
 rw [h,h];exact (tH hc _).bnE fun _=>oF hc [41] (aN ([]:List D)) ((cX hc (bA4 hc) [44]).bnE fun l=>(tH hc [41]).mapE fun _=>l)
theorem qBd (hc:Al U V d):RE d (tQ U) (tQ V):=by
 have h:∀ T,tQ T=bnd (pB T 1) fun a=>bnd (mD T [58]) fun _=>eE (fun o=>D.t [.s a,o]) (kE T):=fun T=>rfl;rw [h,h];exact (wJ hc 1).bnE fun a=>(tH hc _).bnE fun _=>(bA4 hc).mapE _
theorem rBd (hc:Al U V d):RE d (fN U) (fN V):=by
 have h:∀ T,fN T=bnd (mD T [123]) fun _=>yF T [125] (mG []) (bnd (iD T (tQ T) [44]) fun l=>eE (fun _=>l) (mD T [125])):=fun T=>by
  funext σ
  rfl
 rw [h,h];exact (tH hc _).bnE fun _=>oF hc [125] (aN ([]:List D)) ((cX hc (qBd hc) [44]).bnE fun l=>(tH hc [125]).mapE fun _=>l)
theorem lB6 (hc:Al U V d):RE d (qK U) (qK V):=by
 have h:∀ T,qK T=bnd (wG T) fun a=>fun σ=>if (jB T [123] σ).1=true then eE (fun l:List D=>vaD 7 op0 op0 0 pl0 a (l.map d1) (l.map d2)) (fN T) σ else eE (fun l=>vaD 6 op0 op0 0 pl0 a [] l) (lL T) σ:=fun T=>by
  funext σ
  rfl
 rw [h,h];exact (fAu hc).bnE fun a=>mBd hc _ ((rBd hc).mapE _) ((jB0 hc).mapE _)
theorem fBj (hc:Al U V d):∀ (l:List Bs) (k:Int),RE d (opS U l k) (opS V l k)
 | [],k=>aN none
 | s::r,k=>by
  have h:∀ T,opS T (s::r) k=yF T s (eE (fun o=>some (k,o)) (kE T)) (opS T r (k+1)):=fun T=>rfl;rw [h,h];exact oF hc _ ((bA4 hc).mapE _) (fBj hc r (k+1))
theorem rAh (hc:Al U V d):RE d (iG U) (iG V):=by
 have h:∀ T,iG T=yF T [38] (bnd (jB T [109,117,116]) fun m=>eE (fun p=>vaD (if m=true then 3 else 2) op0 op0 0 p [] [] []) (uE T))
   (yF T [33] (eE (fun o=>vaD 4 o op0 0 pl0 [] [] []) (kE T)) (fun σ=>if (qD T σ||mC T [123] σ)=true then qK T σ else (bnd (kE T) fun o=>eE (fun s=>opV o s) (opS T dN 1)) σ)):=fun T=>by
  funext σ
  rfl
 rw [h,h];exact oF hc _ ((cAa hc _).bnE fun m=>(dAa hc).mapE _) (oF hc _ ((bA4 hc).mapE _) (dAu (c':=fun σ=>qD U σ||mC U [123] σ) (c:=fun σ=>qD V σ||mC V [123] σ) (fun s' s h=>by show (qD U s'||mC U [123] s')=_;rw [eAu hc h,wAk hc _ h]) (lB6 hc) ((bA4 hc).bnE fun o=>(fBj hc _ _).mapE _)))
def Qs (n:Nat) (x y:D):Prop:=aL n x=aL n y
end
end Qp
namespace Qp
def bP (T:List Tok) (pub:Bool) (j:Nat):ItS:=
 let a:Int:=((tk T j).2.2:Int)
 if isS T [115,116,114,117,99,116] j=true then ⟨some (true,(pD T pub a (j+1,none)).1),(pD T pub a (j+1,none)).2.1,inS a (pD T pub a (j+1,none)).2.2,0⟩
 else if isS T [102,110] j=true then ⟨some (false,(aH T pub a (j+1,none)).1),(aH T pub a (j+1,none)).2.1.1,inS a (aH T pub a (j+1,none)).2.1.2,(aH T pub a (j+1,none)).2.2⟩
 else ⟨none,j,some (21,a,none),0⟩
theorem dX (T:List Tok) (i:Nat):tE T (i,none)=if isS T [112,117,98] i=true then bP T true (i+1) else bP T false i:=by
 have h:∀ (pub:Bool) (j:Nat),(let at_:Int:=((tk T j).2.2:Int)
   let b:=jB T [115,116,114,117,99,116] (j,none)
   if b.1=true then (⟨some (true,(pD T pub at_ b.2).1),(pD T pub at_ b.2).2.1,inS at_ (pD T pub at_ b.2).2.2,0⟩:ItS) else
   let f:=jB T [102,110] b.2
   if f.1=true then ⟨some (false,(aH T pub at_ f.2).1),(aH T pub at_ f.2).2.1.1,inS at_ (aH T pub at_ f.2).2.1.2,(aH T pub at_ f.2).2.2⟩
   else ⟨none,(jE T 21 f.2).1,oAg (jE T 21 f.2).2,0⟩)=bP T pub j:=by
  intro pub j;unfold bP
  by_cases h1:isS T [115,116,114,117,99,116] j=true
  ·simp only [jB,h1,if_true]
  ·by_cases h2:isS T [102,110] j=true
   ·simp only [jB,h1,Bool.false_eq_true,if_false,h2,if_true]
   ·simp only [jB,h1,Bool.false_eq_true,if_false,h2,jE,oAg]
 unfold tE
 by_cases h1:isS T [112,117,98] i=true
 ·have e:jB T [112,117,98] (i,none)=(true,(i+1,none)):=by simp only [jB,h1,if_true]
  rw [if_pos h1,← h true (i+1),e]
 ·have e:jB T [112,117,98] (i,none)=(false,(i,none)):=by simp only [jB,h1,Bool.false_eq_true,if_false]
  rw [if_neg h1,← h false i,e]
section
variable {T' T:List Tok} {E:Nat} {Bd:Int×Int→Prop}
theorem tBd (hc:Cut T' T E Bd) (w:Bs):isS T' w E=false:=by simp [isS,hc.k]
def ItC (T' T:List Tok) (E:Nat) (Bd:Int×Int→Prop) (x' x:ItS):Prop:=(x'=x∧x.e=none∧x.i≤E)∨∃ q,x'.e=some q∧(x.e.isSome=true∨Bd (yA2 (some q)))
theorem oAd (hc:Cut T' T E Bd) (nz:∀ i,i<E→(tk T i).1≠0) (pub:Bool) {j:Nat} (hj:j≤E):ItC T' T E Bd (bP T' pub j) (bP T pub j):=by
 by_cases q:j<E
 ·unfold bP
  simp only [hc.lt j q,hc.is q];generalize ((tk T j).2.2:Int)=a
  by_cases h1:isS T [115,116,114,117,99,116] j=true
  ·simp only [h1,if_true]
   obtain ⟨_,s1,t1⟩:=fAn hc pub a
   by_cases q2:j+1<E
   ·rcases s1 (j+1,none) rfl q2 trivial with ⟨r1,r2,r3,_⟩ | ⟨k,⟨e,e'⟩,r1,r2⟩
    ·have r2:(pD T pub a (j+1,none)).2.2=none:=r2
     exact .inl ⟨by rw [r1],by simp only [r2,inS],r3⟩
    ·have r1:(pD T' pub a (j+1,none)).2=(k,some (e,e')):=r1
     refine .inr ⟨(e,a,some e'),by simp only [r1];rfl,?_⟩;rcases r2 with r2 | r2
     ·left
      obtain ⟨e2,h2⟩:=Option.isSome_iff_exists.1 r2;have h2:(pD T pub a (j+1,none)).2.2=some e2:=h2;simp only [h2];rfl
     ·exact .inr r2
   ·have:j+1=E:=by omega
    rw [this];obtain ⟨k,⟨e,e'⟩,r1,r2⟩:=t1 (E,none) rfl;have r1:(pD T' pub a (E,none)).2=(k,some (e,e')):=r1;exact .inr ⟨(e,a,some e'),by simp only [r1];rfl,.inr r2⟩
  ·simp only [h1,Bool.false_eq_true,if_false]
   by_cases h2:isS T [102,110] j=true
   ·simp only [h2,if_true]
    by_cases q2:j+1<E
    ·rcases qAx hc nz pub a q2 with ⟨r1,r2,r3⟩ | ⟨k,⟨e,e'⟩,r1,r2⟩
     ·exact .inl ⟨by rw [r1],by simp only [r2,inS],r3⟩
     ·refine .inr ⟨(e,a,some e'),by simp only [r1];rfl,?_⟩
      rcases r2 with r2 | r2
      ·left
       obtain ⟨e2,h2⟩:=Option.isSome_iff_exists.1 r2;simp only [h2];rfl
      ·exact .inr r2
    ·have:j+1=E:=by omega
     rw [this];obtain ⟨⟨e,e'⟩,r1,r2⟩:=cAt hc pub a;exact .inr ⟨(e,a,some e'),by simp only [r1];rfl,.inr r2⟩
   ·simp only [h2,Bool.false_eq_true,if_false]
    exact .inr ⟨_,rfl,.inl rfl⟩
 ·have:j=E:=by omega
  subst this;unfold bP;simp only [tBd hc,Bool.false_eq_true,if_false];exact .inr ⟨_,rfl,.inr hc.bad⟩
theorem fAy (hc:Cut T' T E Bd) (nz:∀ i,i<E→(tk T i).1≠0) {i:Nat} (hi:i<E):ItC T' T E Bd (tE T' (i,none)) (tE T (i,none)):=by
 rw [dX,dX,hc.is hi]
 split
 ·exact oAd hc nz true hi
 ·exact oAd hc nz false (Nat.le_of_lt hi)
theorem iAu {T:List Tok} {pub:Bool} {j:Nat} (h:(bP T pub j).e=none):(bP T pub j).d.isSome=true:=by
 unfold bP at h ⊢;dsimp only at h ⊢
 split
 ·rfl
 ·rename_i h1
  split
  ·rfl
  ·rename_i h2
   rw [if_neg h1,if_neg h2] at h;cases h
theorem kB0 {T:List Tok} {i:Nat} (h:(tE T (i,none)).e=none):(tE T (i,none)).d.isSome=true:=by
 rw [dX] at h ⊢
 split
 ·rename_i h1;rw [if_pos h1] at h;exact iAu h
 ·rename_i h1;rw [if_neg h1] at h;exact iAu h
theorem jAu {d:Option (Bool×D)} (h:d.isSome=true):(pA4 d []).length+(qA4 d []).length=1:=by
 obtain ⟨⟨b,x⟩,rfl⟩:=Option.isSome_iff_exists.1 h;cases b <;> rfl
theorem kAu (hc:Cut T' T E Bd) (nz:∀ i,i<E→(tk T i).1≠0):∀ (f i:Nat),i≤E→
  (∀ q,(fB T' f i).2=some q→(fB T f i).2.isSome=true∨Bd (yA2 (some q)))∧
  ((fB T' f i).2=none→(fB T' f i).1.1.length+(fB T' f i).1.2.length≤f∧(i<E→0<(fB T' f i).1.1.length+(fB T' f i).1.2.length)∧
   fB T f i=(((fB T' f i).1.1++(fB T (f-((fB T' f i).1.1.length+(fB T' f i).1.2.length)) E).1.1,(fB T' f i).1.2++(fB T (f-((fB T' f i).1.1.length+(fB T' f i).1.2.length)) E).1.2),(fB T (f-((fB T' f i).1.1.length+(fB T' f i).1.2.length)) E).2)):=by
 have atE:∀ f,fB T' f E=(([],[]),none):=fun f=>by cases f <;> simp only [fB,hc.k,if_true]
 intro f
 induction f with
 | zero=>
  intro i hi
  by_cases q:i<E
  ·have n1:(tk T i).1≠0:=nz i q
   simp only [fB,hc.lt i q,n1,if_false,jE,oAg];exact ⟨fun _ _=>.inl rfl,fun h=>by cases h⟩
  ·have:i=E:=by omega
   subst this;rw [atE];exact ⟨fun q h=>(by cases h),fun _=>⟨by simp,fun h=>by omega,by simp⟩⟩
 | succ f ih=>
  intro i hi
  by_cases q:i<E
  ·have n1:(tk T i).1≠0:=nz i q
   rcases fAy hc nz q with ⟨r1,r2,r3⟩ | ⟨x,r1,r2⟩
   ·have hd:=kB0 r2
    have hl:=jAu hd;have e1:fB T' (f+1) i=((pA4 (tE T (i,none)).d []++(fB T' f (tE T (i,none)).i).1.1,qA4 (tE T (i,none)).d []++(fB T' f (tE T (i,none)).i).1.2),(fB T' f (tE T (i,none)).i).2):=by
     simp only [fB,hc.lt i q,n1,if_false,r1,r2]
    have e2:fB T (f+1) i=((pA4 (tE T (i,none)).d []++(fB T f (tE T (i,none)).i).1.1,qA4 (tE T (i,none)).d []++(fB T f (tE T (i,none)).i).1.2),(fB T f (tE T (i,none)).i).2):=by
     simp only [fB,n1,if_false,r2]
    obtain ⟨h1,h2⟩:=ih (tE T (i,none)).i r3;rw [e1,e2];refine ⟨h1,fun h=>?_⟩;obtain ⟨g1,g2,g3⟩:=h2 h;simp only [List.length_append];generalize pA4 (tE T (i,none)).d []=A at *;generalize qA4 (tE T (i,none)).d []=B at *;refine ⟨by omega,fun _=>by omega,?_⟩;rw [show f+1-(A.length+(fB T' f (tE T (i,none)).i).1.1.length+(B.length+(fB T' f (tE T (i,none)).i).1.2.length))=f-((fB T' f (tE T (i,none)).i).1.1.length+(fB T' f (tE T (i,none)).i).1.2.length) by omega,g3];simp only [List.append_assoc]
   ·have e1:fB T' (f+1) i=(([],[]),some x):=by
     simp only [fB,hc.lt i q,n1,if_false,r1]
    rw [e1];refine ⟨fun y hy=>?_,fun h=>by cases h⟩;simp only [Option.some.injEq] at hy;subst hy;rcases r2 with r2 | r2
    ·left
     obtain ⟨y,hy⟩:=Option.isSome_iff_exists.1 r2;simp only [fB,n1,if_false,hy,Option.isSome_some]
    ·exact .inr r2
  ·have:i=E:=by omega
   subst this;rw [atE];exact ⟨fun q h=>(by cases h),fun _=>⟨by simp,fun h=>by omega,by simp⟩⟩
end
end Qp
namespace Qp
def Qs2 (n:Nat) (x y:D):Prop:=∀ m,n≤m→aL m x=aL m y
def Ql (n:Nat) (l' l:List D):Prop:=∀ m,n≤m→l'.map (aL m)=l.map (aL m)
def Rs (d:Nat) (s' s:SC):Prop:=Rt d s'.1 s.1∧s'.2=s.2
section
variable {U V:List Tok} {d n:Nat} {α β:Type}
theorem pV {k a' a:Int} {m:Bool} {nm:Bs} {ty:D} {hs:Bool} {pl va co:D}:Qs2 (n+1) (smT k a' m nm ty hs pl va co [] []) (smT k a m nm ty hs pl va co [] []):=fun m' hm=>by
 obtain ⟨m',rfl⟩:∃ q,m'=q+1:=⟨m'-1,by omega⟩;rfl
theorem lAu {k a' a:Int} {m:Bool} {nm:Bs} {ty:D} {hs:Bool} {pl va co:D} {th' th el' el:List D} (h1:Ql n th' th) (h2:Ql n el' el):Qs2 (n+1) (smT k a' m nm ty hs pl va co th' el') (smT k a m nm ty hs pl va co th el):=fun m' hm=>by
 obtain ⟨m',rfl⟩:∃ q,m'=q+1:=⟨m'-1,by omega⟩;rw [mV,mV,h1 m' (by omega),h2 m' (by omega)]
theorem Ql.refl (l:List D):Ql n l l:=fun _ _=>rfl
theorem pAd {Q:α→α→Prop} {F' F:St→α×St} (h:RF (Rt d) Q F' F):RF (Rs d) Q (yU F') (yU F):=fun s' s q=>by
 obtain ⟨h1,h2⟩:=h s'.1 s.1 q.1;exact ⟨h1,h2,q.2⟩
theorem qAd (hc:Al U V d) (w:Bs) {Q:α→α→Prop} {Y' Y X' X:SC→α×SC} (hY:RF (Rs d) Q Y' Y) (hX:RF (Rs d) Q X' X):RF (Rs d) Q (aAd U w Y' X') (aAd V w Y X):=fun s' s h=>by
 obtain ⟨h1,h2⟩:=cAa hc w s'.1 s.1 h.1;unfold aAd;rw [h1]
 split
 ·exact hY _ _ ⟨h2,h.2⟩
 ·exact hX _ _ ⟨h2,h.2⟩
theorem bBi (hc:Al U V d) (w:Bs) {Q:α→α→Prop} {Y' Y X' X:SC→α×SC} (hY:RF (Rs d) Q Y' Y) (hX:RF (Rs d) Q X' X):RF (Rs d) Q (isJ U w Y' X') (isJ V w Y X):=fun s' s h=>by
 obtain ⟨h1,h2⟩:=cAa hc w s'.1 s.1 h.1;unfold isJ;rw [h1]
 split
 ·exact hY _ _ h
 ·exact hX _ _ h
theorem cBi (hc:Al U V d) (a' a:Int):RF (Rt d) (Qs2 (n+1)) (lAg U a') (lAg V a):=by
 have h:∀ T a,lAg T a=bnd (jB T [109,117,116]) fun m=>bnd (pB T 1) fun n=>bnd (mD T [58]) fun _=>bnd (oH T 64) fun t=>yF T [61] (bnd (iG T) fun v=>eE (fun _=>smD { wF a with k:=1,m:=m,nm:=n,has:=true } { bK with ty:=t,va:=v }) (mD T [59])) (eE (fun _=>smD { wF a with k:=1,m:=m,nm:=n } { bK with ty:=t }) (mD T [59])):=fun T a=>by
  funext σ
  rfl
 rw [h,h];exact (cAa hc _).bnE fun m=>(wJ hc 1).bnE fun x=>(tH hc _).bnE fun _=>(eAy hc 64).bnE fun t=>oF hc _ ((rAh hc).bnE fun v=>(tH hc _).map fun _ _ _=>pV) ((tH hc _).map fun _ _ _=>pV)
theorem mB6 (hc:Al U V d) (a' a:Int):RF (Rt d) (Qs2 (n+1)) (dG U a') (dG V a):=by
 have h:∀ T a,dG T a=yF T [98,114,101,97,107] (mG (smD { wF a with k:=8 } bK)) (yF T [99,111,110,116,105,110,117,101] (mG (smD { wF a with k:=9 } bK))
   (yF T [114,101,116,117,114,110] (fun σ=>if (jB T [59] σ).1=true then mG (smD { wF a with k:=10 } bK) σ else eE (fun v=>smD { wF a with k:=10,has:=true } { bK with va:=v }) (iG T) σ)
   (yF T [100,114,111,112] (eE (fun p=>smD { wF a with k:=11 } { bK with pl:=p }) (uE T)) (fun σ=>if qD T σ=true then (bnd (wG T) fun n=>eE (fun l=>smD { wF a with k:=3 } { bK with va:=vaD 6 op0 op0 0 pl0 n [] l }) (lL T)) σ
    else (bnd (uE T) fun p=>bnd (mD T [61]) fun _=>eE (fun v=>smD { wF a with k:=2 } { bK with pl:=p,va:=v }) (iG T)) σ)))):=fun T a=>by
  funext σ
  rfl
 rw [h,h];exact oF hc _ (nAd pV) (oF hc _ (nAd pV) (oF hc _ (dAu (c':=fun σ=>(jB U [59] σ).1) (c:=fun σ=>(jB V [59] σ).1) (fun s' s h=>(cAa hc _ s' s h).1) (nAd pV) ((rAh hc).map fun _ _ e=>by subst e;exact pV))
  (oF hc _ ((dAa hc).map fun _ _ e=>by subst e;exact pV) (dAu (c':=qD U) (c:=qD V) (fun s' s h=>eAu hc h) ((fAu hc).bnE fun x=>(jB0 hc).map fun _ _ e=>by subst e;exact pV)
   ((dAa hc).bnE fun p=>(tH hc _).bnE fun _=>(rAh hc).map fun _ _ e=>by subst e;exact pV)))))
def Qi (n:Nat) (x y:List D×Option (List D)):Prop:=Ql n x.1 y.1∧((x.2=none∧y.2=none)∨∃ f' f,x.2=some f'∧y.2=some f∧Ql n f' f)
theorem dBi {a' a:Int} {o:D} {x y:List D×Option (List D)} (h:Qi n x y):Qs2 (n+1) (ifV a' o x) (ifV a o y):=by
 obtain ⟨t',f'⟩:=x;obtain ⟨t,f⟩:=y;obtain ⟨h1,h2⟩:=h;rcases h2 with ⟨h3,h4⟩ | ⟨g',g,h3,h4,h5⟩
 ·have h3:f'=none:=h3
  have h4:f=none:=h4;subst h3 h4;exact lAu h1 (Ql.refl [])
 ·have h3:f'=some g':=h3
  have h4:f=some g:=h4;subst h3 h4;exact lAu h1 h5
theorem nB6 (hc:Al U V d) {blk' blk:SC→List D×SC} (hb:RF (Rs d) (Ql n) blk' blk) (a' a:Int):RF (Rs d) (Qs2 (n+1)) (dAd U blk' a') (dAd V blk a):=by
 have hif:RF (Rs d) (Qi n) (ifF U blk') (ifF V blk):=hb.bnd fun t' t ht=>qAd hc _ (hb.map fun f' f hf=>⟨ht,.inr ⟨f',f,rfl,rfl,hf⟩⟩) (nAd ⟨ht,.inl ⟨rfl,rfl⟩⟩);exact qAd hc _ (pAd (cBi hc _ _)) (qAd hc _ ((pAd (bA4 hc)).bnd fun o' o ho=>by subst ho;exact hif.map fun _ _ h=>dBi h)
  (qAd hc _ ((pAd (bA4 hc)).bnd fun o' o ho=>by subst ho;exact hb.map fun _ _ h=>lAu h (Ql.refl []))
   (qAd hc _ (hb.map fun _ _ h=>lAu h (Ql.refl []))
    (bBi hc _ (hb.map fun _ _ h=>lAu h (Ql.refl [])) (pAd ((mB6 hc _ _).bnd fun x' x hx=>(tH hc _).map fun _ _ _=>hx))))))
theorem uBd (hc:Al U V d) {blk' blk:SC→List D×SC} (hb:RF (Rs d) (Ql n) blk' blk):RF (Rs d) (Qs2 (n+1)) (yI U blk') (yI V blk):=fun s' s h=>by
 rw [wO,wO];exact nB6 hc hb _ _ s' s h
theorem Rs.cases {s' s:SC} (h:Rs d s' s):(∃ i c,s=((i,none),c)∧s'=((i+d,none),c))∨∃ i c k a a',s=((i,some (k,a)),c)∧s'=((i+d,some (k,a')),c):=by
 obtain ⟨σ',c'⟩:=s';obtain ⟨σ,c⟩:=s;obtain ⟨h1,h2⟩:=h;have h2:c'=c:=h2;subst h2;rcases h1.cases with ⟨i,h3,h4⟩ | ⟨i,k,a,a',h3,h4⟩
 ·have h3:σ=_:=h3
  have h4:σ'=_:=h4;subst h3 h4;exact .inl ⟨i,c',rfl,rfl⟩
 ·have h3:σ=_:=h3
  have h4:σ'=_:=h4;subst h3 h4;exact .inr ⟨i,c',k,a,a',rfl,rfl⟩
theorem oB6 (hc:Al U V d) {one' one:SC→D×SC} (ho:RF (Rs d) (Qs2 n) one' one):∀ f,RF (Rs d) (fun x y:List D×Bool=>Ql n x.1 y.1∧x.2=y.2) (oD U one' f) (oD V one f):=by
 intro f
 induction f with
 | zero=>intro s' s h;exact ⟨⟨Ql.refl [],rfl⟩,h⟩
 | succ f ih=>
  intro s' s h;rcases h.cases with ⟨i,c,rfl,rfl⟩ | ⟨i,c,k,a,a',rfl,rfl⟩
  ·rw [aV,aV,hc.is,(hc i).1]
   by_cases q1:isS V [125] i=true
   ·rw [if_pos q1,if_pos q1];exact ⟨⟨Ql.refl [],rfl⟩,Rt.n1 i,rfl⟩
   ·rw [if_neg q1,if_neg q1]
    by_cases q2:c=2000∧(tk V i).1≠0
    ·rw [if_pos q2,if_pos q2];exact ⟨⟨Ql.refl [],rfl⟩,Rt.e i _ _ _,rfl⟩
    ·rw [if_neg q2,if_neg q2]
     obtain ⟨h1,h2⟩:=ho ((i+d,none),c+1) ((i,none),c+1) ⟨Rt.n i,rfl⟩;obtain ⟨⟨h3,h4⟩,h5⟩:=ih _ _ h2;exact ⟨⟨fun m hm=>by simp only [List.map_cons];rw [h1 m hm,h3 m hm],h4⟩,h5⟩
  ·rw [vO,vO];exact ⟨⟨Ql.refl [],rfl⟩,Rt.e i _ _ _,rfl⟩
theorem pB6 (hc:Al U V d):∀ g,RF (Rs d) (Ql g) (yC U g) (yC V g):=by
 intro g
 induction g with
 | zero=>
  intro s' s h;rcases h.cases with ⟨i,c,rfl,rfl⟩ | ⟨i,c,k,a,a',rfl,rfl⟩
  ·exact ⟨Ql.refl [],Rt.e i _ _ _,rfl⟩
  ·exact ⟨Ql.refl [],Rt.e i _ _ _,rfl⟩
 | succ g ih=>
  intro s' s h;rw [tM,tM];refine RF.map (Q:=fun x y:List D×Bool=>Ql (g+1) x.1 y.1∧x.2=y.2) ((pAd (tH hc [123])).bnE fun _=>oB6 hc (uBd hc ih) 2001) (fun x' x hx=>?_) s' s h;obtain ⟨h1,h2⟩:=hx;unfold bA3;rw [h2]
  split
  ·exact Ql.refl []
  ·exact h1
theorem gAy (hc:Al U V d) (pub:Bool) (a' a:Int):RF (Rt d) (fun x y=>tK x=tK y) (pD U pub a') (pD V pub a):=by
 have h:∀ T a,pD T pub a=bnd (pB T 1) fun n=>bnd (pG T) fun l=>bnd (mD T [123]) fun _=>yF T [125] (mG (qA8 pub n l [] a)) (bnd (iD T (bF T) [44]) fun fs=>eE (fun _=>qA8 pub n l fs a) (mD T [125])):=fun T a=>rfl;rw [h,h];exact (wJ hc 1).bnE fun x=>(gAu hc).bnE fun l=>(tH hc _).bnE fun _=>oF hc _ (nAd rfl) ((cX hc (iB6 hc) _).bnE fun fs=>(tH hc _).map fun _ _ _=>rfl)
theorem vBd (hc:Al U V d):RE d (fH U) (fH V):=
 (wJ hc 1).bnE fun x=>(oF hc _ ((cX hc (aBi hc) _).bnE fun l=>(tH hc _).mapE _) (aN _)).bnE fun l=>(tH hc _).bnE fun _=>(oF hc _ (aN _) ((cX hc (kB6 hc) _).bnE fun p=>(tH hc _).mapE _)).bnE fun p=>(oF hc _ (eAy hc 64) (aN _)).bnE fun t=>aN _
theorem lB0 (pub:Bool) (a:Int) (x:HdR) (b:List D):bareFu (fnD pub a x b)=fnD pub 0 x (b.map (aL 65)):=rfl
theorem wBd (hc:Al U V d) (pub:Bool) (a' a:Int) {s' s:St} (h:Rt d s' s):bareFu (aH U pub a' s').1=bareFu (aH V pub a s).1∧Rs d (aH U pub a' s').2 (aH V pub a s).2:=by
 rw [bV,bV];obtain ⟨h1,h2⟩:=vBd hc s' s h;obtain ⟨h3,h4⟩:=pB6 hc 64 ((fH U s').2,0) ((fH V s).2,0) ⟨h2,rfl⟩;dsimp only;exact ⟨by rw [lB0,lB0,h1,h3 65 (by omega)],h4⟩
def Qd (x' x:Option (Bool×D)):Prop:=(x'=none∧x=none)∨(∃ y' y,x'=some (true,y')∧x=some (true,y)∧tK y'=tK y)∨∃ y' y,x'=some (false,y')∧x=some (false,y)∧bareFu y'=bareFu y
def IR (d:Nat) (x' x:ItS):Prop:=x'.i=x.i+d∧x'.e.map Prod.fst=x.e.map Prod.fst∧Qd x'.d x.d
theorem yAk (a' a:Int) {e' e:Er} (h:e'.map Prod.fst=e.map Prod.fst):(inS a' e').map Prod.fst=(inS a e).map Prod.fst:=by
 cases e with
 | none=>cases e' with
  | none=>rfl
  | some e'=>simp at h
 | some e=>cases e' with
  | none=>simp at h
  | some e'=>
   obtain ⟨c',b'⟩:=e';obtain ⟨c,b⟩:=e;simpa [inS] using h
theorem mAu (hc:Al U V d) (pub:Bool) (j:Nat):IR d (bP U pub (j+d)) (bP V pub j):=by
 unfold bP;simp only [hc.is]
 by_cases q1:isS V [115,116,114,117,99,116] j=true
 ·simp only [q1,if_true]
  obtain ⟨h1,h2⟩:=gAy hc pub ((tk U (j+d)).2.2:Int) ((tk V j).2.2:Int) (j+d+1,none) (j+1,none) (Rt.n1 j);exact ⟨h2.1,yAk _ _ h2.2,.inr (.inl ⟨_,_,rfl,rfl,h1⟩)⟩
 ·simp only [q1,Bool.false_eq_true,if_false]
  by_cases q2:isS V [102,110] j=true
  ·simp only [q2,if_true]
   obtain ⟨h1,h2⟩:=wBd hc pub ((tk U (j+d)).2.2:Int) ((tk V j).2.2:Int) (Rt.n1 j);exact ⟨h2.1.1,yAk _ _ h2.1.2,.inr (.inr ⟨_,_,rfl,rfl,h1⟩)⟩
  ·simp only [q2,Bool.false_eq_true,if_false]
   exact ⟨rfl,rfl,.inl ⟨rfl,rfl⟩⟩
theorem yBd (hc:Al U V d) (i:Nat):IR d (tE U (i+d,none)) (tE V (i,none)):=by
 rw [dX,dX,hc.is]
 split
 ·have:=mAu hc true (i+1)
  rwa [show i+1+d=i+d+1 by omega] at this
 ·exact mAu hc false i
theorem Qd.add {x' x:Option (Bool×D)} (h:Qd x' x):(pA4 x' []).map tK=(pA4 x []).map tK∧(qA4 x' []).map bareFu=(qA4 x []).map bareFu:=by
 rcases h with ⟨rfl,rfl⟩ | ⟨y',y,rfl,rfl,e⟩ | ⟨y',y,rfl,rfl,e⟩
 ·exact ⟨rfl,rfl⟩
 ·exact ⟨by simp [pA4,e],rfl⟩
 ·exact ⟨rfl,by simp [qA4,e]⟩
theorem nAu (hc:Al U V d):∀ (f i:Nat),(fB U f (i+d)).2.map Prod.fst=(fB V f i).2.map Prod.fst∧(fB U f (i+d)).1.1.map tK=(fB V f i).1.1.map tK∧(fB U f (i+d)).1.2.map bareFu=(fB V f i).1.2.map bareFu:=by
 intro f
 induction f with
 | zero=>
  intro i;simp only [fB,(hc i).1]
  split
  ·exact ⟨rfl,rfl,rfl⟩
  ·exact ⟨rfl,rfl,rfl⟩
 | succ f ih=>
  intro i;simp only [fB,(hc i).1]
  split
  ·exact ⟨rfl,rfl,rfl⟩
  ·obtain ⟨h1,h2,h3⟩:=yBd hc i
   generalize tE U (i+d,none)=z' at *;generalize tE V (i,none)=z at *
   cases he:z.e with
   | none=>
    rw [he] at h2;have he':z'.e=none:=by
     cases q:z'.e with
     | none=>rfl
     | some x=>rw [q] at h2;simp at h2
    rw [he'];dsimp only;rw [h1];obtain ⟨a1,a2⟩:=h3.add;obtain ⟨b1,b2,b3⟩:=ih z.i;exact ⟨b1,by rw [List.map_append,List.map_append,a1,b2],by rw [List.map_append,List.map_append,a2,b3]⟩
   | some x=>
    rw [he] at h2;obtain ⟨x',he'⟩:∃ x',z'.e=some x':=by
     cases q:z'.e with
     | none=>rw [q] at h2;simp at h2
     | some x'=>exact ⟨x',rfl⟩
    rw [he'];rw [he'] at h2;exact ⟨h2,rfl,rfl⟩
end
end Qp
namespace Qp
section
variable {T:List Tok}
theorem mB0 {P:D→Prop} {one:St→D×St} (h:∀ σ,P (one σ).1) (sep:Bs):∀ (g:Nat) (σ:St),(∀ x∈(yG T one sep g σ).1,P x)∧(yG T one sep g σ).1.length≤g
 | 0,σ=>⟨by simp [yG],by simp [yG]⟩
 | g+1,σ=>by
  simp only [yG]
  split
  ·obtain ⟨h1,h2⟩:=mB0 h sep g (jB T sep (one σ).2).2
   refine ⟨fun x hx=>?_,by simp only [List.length_cons];omega⟩;rcases List.mem_cons.1 hx with rfl | hx
   ·exact h σ
   ·exact h1 x hx
  ·refine ⟨fun x hx=>?_,by simp⟩
   rw [List.mem_singleton.1 hx];exact h σ
theorem eX {P:D→Prop} {one:St→D×St} (h:∀ σ,P (one σ).1) (sep:Bs) (σ:St):(∀ x∈(iD T one sep σ).1,P x)∧(iD T one sep σ).1.length≤64:=by
 unfold iD
 split
 ·exact mB0 h sep 64 _
 ·exact ⟨by simp,by simp⟩
theorem tAh:∀ {l:List D},(∀ x∈l,∃ b:Bs,x=D.s b)→∃ xs:List Bs,l=xs.map D.s
 | [],_=>⟨[],rfl⟩
 | x::r,h=>by
  obtain ⟨b,hb⟩:=h x (by simp);obtain ⟨xs,hx⟩:=tAh (l:=r) (fun y hy=>h y (by simp [hy]));exact ⟨b::xs,by rw [hb,hx];rfl⟩
theorem yJ:isLf pl0:=⟨[],[],rfl,by simp⟩
theorem aK:isOp op0:=⟨0,0,_,rfl,yJ⟩
theorem fX:iA6 65 ty0D:=⟨0,[],[],[],rfl,by simp,by simp,by simp⟩
theorem oAu {k op:Int} {a b pl:D} {nm:Bs} (h1:isOp a) (h2:isOp b) (h3:isLf pl):isVa (vaD k a b op pl nm [] []):=⟨k,a,b,op,pl,nm,[],[],rfl,h1,h2,h3,by simp,by simp,by simp⟩
theorem tA4:isVa va00:=oAu aK aK yJ
theorem cA4 (σ:St):iA6 65 (oH T 64 σ).1:=mAr T 64 σ
theorem qB6 (σ:St):isFd (bF T σ).1:=⟨_,_,_,rfl,cA4 _⟩
theorem rB6 (σ:St):isFd (pF T σ).1:=⟨_,_,_,rfl,cA4 _⟩
theorem eBi (σ:St):isLf (aW T σ).1:=by
 simp only [aW]
 split
 ·obtain ⟨h1,h2⟩:=eX (T:=T) (one:=uU T 3) (P:=fun x=>∃ b:Bs,x=D.s b) (fun σ=>⟨_,rfl⟩) [43] (jB T [58] (pB T 3 σ).2).2
  obtain ⟨xs,hx⟩:=tAh h1;rw [hx] at h2 ⊢;rw [List.length_map] at h2;exact ⟨_,xs,rfl,by omega⟩
 ·exact ⟨_,[],rfl,by simp⟩
theorem dA4:∀ (g:Nat) (σ:St),(pH T g σ).1.length≤g
 | 0,σ=>by simp only [pH];split <;> simp
 | g+1,σ=>by
  simp only [pH]
  split
  ·split
   ·have:=dA4 g (jB T [42] (jB T [46] σ).2).2
    simp only [List.length_cons];omega
   ·have:=dA4 g (pB T 1 (jB T [42] (jB T [46] σ).2).2).2
    simp only [List.length_cons];omega
  ·simp
theorem eAa (σ:St):isLf (uE T σ).1:=⟨_,_,rfl,by have:=dA4 (T:=T) 64 (pB T 1 σ).2;omega⟩
theorem qV (σ:St):isOp (kE T σ).1:=by
 simp only [kE]
 split
 ·exact ⟨_,_,_,rfl,yJ⟩
 ·split
  ·exact ⟨_,_,_,rfl,yJ⟩
  ·split
   ·exact ⟨_,_,_,rfl,yJ⟩
   ·exact ⟨_,_,_,rfl,eAa _⟩
theorem nB0 (σ:St):(∀ x∈(lL T σ).1,isOp x)∧(lL T σ).1.length≤64:=by
 simp only [lL]
 split
 ·exact ⟨by simp,by simp⟩
 ·exact eX qV _ _
theorem aBe (σ:St):(∀ x∈(fN T σ).1,∃ b:Bs,∃ o,x=.t [.s b,o]∧isOp o)∧(fN T σ).1.length≤64:=by
 simp only [fN]
 split
 ·exact ⟨by simp,by simp⟩
 ·exact eX (one:=tQ T) (fun σ=>⟨_,_,rfl,qV _⟩) _ _
theorem tB6 (σ:St):isVa (qK T σ).1:=by
 simp only [qK]
 split
 ·obtain ⟨h1,h2⟩:=aBe (T:=T) (wG T σ).2
  obtain ⟨xs,hx⟩:=tAh (l:=((fN T (wG T σ).2).1.map d1)) (fun y hy=>by
   obtain ⟨z,hz,rfl⟩:=List.mem_map.1 hy;obtain ⟨b,o,rfl,_⟩:=h1 z hz;exact ⟨b,rfl⟩)
  rw [hx];have hl:xs.length=(fN T (wG T σ).2).1.length:=by rw [← List.length_map (f:=D.s),← hx,List.length_map]
  exact ⟨_,_,_,_,_,_,xs,_,rfl,aK,aK,yJ,by omega,by rw [List.length_map];omega,fun o ho=>by
   obtain ⟨z,hz,rfl⟩:=List.mem_map.1 ho;obtain ⟨b,o,rfl,h⟩:=h1 z hz;exact h⟩
 ·obtain ⟨h1,h2⟩:=nB0 (T:=T) (wG T σ).2
  exact ⟨_,_,_,_,_,_,[],_,rfl,aK,aK,yJ,by simp,by omega,h1⟩
theorem gBj:∀ (l:List Bs) (k:Int) (σ:St),(opS T l k σ).1=none∨∃ q o,(opS T l k σ).1=some (q,o)∧isOp o
 | [],k,σ=>.inl rfl
 | s::r,k,σ=>by
  simp only [opS]
  split
  ·exact .inr ⟨_,_,rfl,qV _⟩
  ·exact gBj r (k+1) _
theorem uAh (σ:St):isVa (iG T σ).1:=by
 simp only [iG]
 split
 ·exact oAu aK aK (eAa _)
 ·split
  ·exact oAu (qV _) aK yJ
  ·split
   ·exact tB6 _
   ·rcases gBj (T:=T) dN 1 (kE T (jB T [33] (jB T [38] σ).2).2).2 with h | ⟨q,o,h,ho⟩
    ·rw [h];exact oAu (qV _) aK yJ
    ·rw [h];exact oAu (qV _) ho yJ
theorem rV {n:Nat} {k a:Int} {m:Bool} {nm:Bs} {ty:D} {hs:Bool} {pl va co:D} (h1:iA6 65 ty) (h2:isLf pl) (h3:isVa va) (h4:isOp co):isSm (n+1) (smT k a m nm ty hs pl va co [] []):=⟨k,a,m,nm,ty,hs,pl,va,co,[],[],rfl,h1,h2,h3,h4,by simp,by simp,by simp,by simp⟩
theorem pAu {n:Nat} {k a:Int} {m:Bool} {nm:Bs} {ty:D} {hs:Bool} {pl va co:D} {th el:List D} (h1:iA6 65 ty) (h2:isLf pl) (h3:isVa va) (h4:isOp co) (h5:(∀ s∈th,isSm n s)∧th.length≤3000) (h6:(∀ s∈el,isSm n s)∧el.length≤3000):isSm (n+1) (smT k a m nm ty hs pl va co th el):=⟨k,a,m,nm,ty,hs,pl,va,co,th,el,rfl,h1,h2,h3,h4,h5.2,h6.2,h5.1,h6.1⟩
theorem fBi {n:Nat} (a:Int) (σ:St):isSm (n+1) (lAg T a σ).1:=by
 simp only [lAg]
 split
 ·exact rV (cA4 _) yJ (uAh _) aK
 ·exact rV (cA4 _) yJ tA4 aK
theorem uB6 {n:Nat} (a:Int) (σ:St):isSm (n+1) (dG T a σ).1:=by
 simp only [dG]
 split
 ·exact rV fX yJ tA4 aK
 ·split
  ·exact rV fX yJ tA4 aK
  ·split
   ·split
    ·exact rV fX yJ tA4 aK
    ·exact rV fX yJ (uAh _) aK
   ·split
    ·exact rV fX (eAa _) tA4 aK
    ·split
     ·rename_i hq
      obtain ⟨h1,h2⟩:=nB0 (T:=T) (wG T (jB T [100,114,111,112] (jB T [114,101,116,117,114,110] (jB T [99,111,110,116,105,110,117,101] (jB T [98,114,101,97,107] σ).2).2).2).2).2;exact rV fX yJ ⟨_,_,_,_,_,_,[],_,rfl,aK,aK,yJ,by simp,by omega,h1⟩ aK
     ·exact rV fX (eAa _) (uAh _) aK
theorem qAu {n:Nat}:(∀ s∈([]:List D),isSm n s)∧([]:List D).length≤3000:=⟨by simp,by simp⟩
theorem bBe {n:Nat} {blk:SC→List D×SC} (hb:∀ s,(∀ x∈(blk s).1,isSm n x)∧(blk s).1.length≤3000) (s:SC):isSm (n+1) (yI T blk s).1:=by
 simp only [yI]
 split
 ·exact fBi _ _
 ·split
  ·split
   ·exact pAu fX yJ tA4 (qV _) (hb _) (hb _)
   ·exact pAu fX yJ tA4 (qV _) (hb _) qAu
  ·split
   ·exact pAu fX yJ tA4 (qV _) (hb _) qAu
   ·split
    ·exact pAu fX yJ tA4 aK (hb _) qAu
    ·split
     ·exact pAu fX yJ tA4 aK (hb _) qAu
     ·exact uB6 _ _
theorem rAu {P:D→Prop} {one:SC→D×SC} (h:∀ s,P (one s).1):∀ (f:Nat) (s:SC),(∀ x∈(oD T one f s).1.1,P x)∧(oD T one f s).1.1.length≤f
 | 0,s=>⟨by simp [oD],by simp [oD]⟩
 | f+1,s=>by
  simp only [oD]
  split
  ·exact ⟨by simp,by simp⟩
  ·split
   ·exact ⟨by simp,by simp⟩
   ·split
    ·exact ⟨by simp,by simp⟩
    ·obtain ⟨h1,h2⟩:=rAu h f (one (s.1,s.2+1)).2
     refine ⟨fun x hx=>?_,by simp only [List.length_cons];omega⟩;rcases List.mem_cons.1 hx with rfl | hx
     ·exact h _
     ·exact h1 x hx
theorem tAu:∀ (g:Nat) (s:SC),(∀ x∈(yC T g s).1,isSm g x)∧(yC T g s).1.length≤3000
 | 0,s=>⟨by simp [yC],by simp [yC]⟩
 | g+1,s=>by
  obtain ⟨h1,h2⟩:=rAu (T:=T) (one:=yI T (yC T g)) (P:=isSm (g+1)) (bBe (tAu g)) 2001 (uC T [123] s.1,s.2);rw [iAk T g s _ rfl];unfold bA3
  split
  ·exact qAu
  ·exact ⟨h1,Nat.le_trans h2 (by decide)⟩
theorem isSm.up:∀ {n:Nat} {d:D},isSm n d→isSm (n+1) d
 | 0,d,h=>h.elim
 | n+1,d,⟨k,a,m,nm,ty,hs,pl,va,co,th,el,h0,h1,h2,h3,h4,h5,h6,h7,h8⟩=>⟨k,a,m,nm,ty,hs,pl,va,co,th,el,h0,h1,h2,h3,h4,h5,h6,fun s hs=>(h7 s hs).up,fun s hs=>(h8 s hs).up⟩
theorem iAy (pub:Bool) (a:Int) (σ:St):isSt (pD T pub a σ).1:=by
 simp only [pD];have hl:=kA6 T (pB T 1 σ).2
 split
 ·exact ⟨_,_,_,_,_,rfl,by omega,by simp,by simp⟩
 ·obtain ⟨h1,h2⟩:=eX (T:=T) qB6 [44] (jB T [125] (uC T [123] (pG T (pB T 1 σ).2).2)).2
  exact ⟨_,_,_,_,_,rfl,by omega,by omega,h1⟩
theorem uAu {α:Type} {P:α→Prop} {w:Bs} {Y X:St→α×St} (hY:∀ σ,P (Y σ).1) (hX:∀ σ,P (X σ).1) (σ:St):P (yF T w Y X σ).1:=by
 unfold yF
 split
 ·exact hY _
 ·exact hX _
theorem cBe (pub:Bool) (a:Int) (σ:St):isFu (aH T pub a σ).1:=by
 rw [bV];obtain ⟨h1,h2⟩:=tAu (T:=T) 64 ((fH T σ).2,0);dsimp only;generalize (yC T 64 ((fH T σ).2,0)).1=b at *;have hh:(∀ l∈(fH T σ).1.2.1,isLf l)∧(fH T σ).1.2.1.length≤1000∧(∀ p∈(fH T σ).1.2.2.1,isFd p)∧(fH T σ).1.2.2.1.length≤1000∧iA6 65 (fH T σ).1.2.2.2:=by
  have l1:∀ σ,(fun l:List D=>(∀ x∈l,isLf x)∧l.length≤1000) (yF T [60] (bnd (iD T (aW T) [44]) fun l=>eE (fun _=>l) (mD T [62])) (mG []) σ).1:=uAu (P:=fun l:List D=>(∀ x∈l,isLf x)∧l.length≤1000) (fun σ=>by
   obtain ⟨q1,q2⟩:=eX (T:=T) eBi [44] σ;exact ⟨q1,Nat.le_trans q2 (by decide)⟩) (fun σ=>⟨by simp [mG],by simp [mG]⟩)
  have p1:∀ σ,(fun l:List D=>(∀ x∈l,isFd x)∧l.length≤1000) (yF T [41] (mG []) (bnd (iD T (pF T) [44]) fun p=>eE (fun _=>p) (mD T [41])) σ).1:=uAu (P:=fun l:List D=>(∀ x∈l,isFd x)∧l.length≤1000) (fun σ=>⟨by simp [mG],by simp [mG]⟩) (fun σ=>by
   obtain ⟨q1,q2⟩:=eX (T:=T) rB6 [44] σ;exact ⟨q1,Nat.le_trans q2 (by decide)⟩)
  have t1:∀ σ,iA6 65 (yF T [45,62] (oH T 64) (mG ty0D) σ).1:=uAu cA4 (fun σ=>fX);exact ⟨(l1 _).1,(l1 _).2,(p1 _).1,(p1 _).2,t1 _⟩
 obtain ⟨q1,q2,q3,q4,q5⟩:=hh;exact ⟨pub,_,_,_,_,b,a,rfl,q2,q1,q4,q3,q5,h2,fun s hs=>(h1 s hs).up⟩
theorem dBe (i:Nat):(∀ x∈pA4 (tE T (i,none)).d [],isSt x)∧∀ y∈qA4 (tE T (i,none)).d [],isFu y:=by
 have h:∀ pub j,(∀ x∈pA4 (bP T pub j).d [],isSt x)∧∀ y∈qA4 (bP T pub j).d [],isFu y:=fun pub j=>by
  unfold bP;dsimp only
  split
  ·exact ⟨fun x hx=>by simp [pA4] at hx;rw [hx];exact iAy _ _ _,by simp [qA4]⟩
  ·split
   ·exact ⟨by simp [pA4],fun x hx=>by simp [qA4] at hx;rw [hx];exact cBe _ _ _⟩
   ·exact ⟨by simp [pA4],by simp [qA4]⟩
 rw [dX]
 split
 ·exact h _ _
 ·exact h _ _
theorem vAu:∀ (f i:Nat),(∀ x∈(fB T f i).1.1,isSt x)∧(∀ y∈(fB T f i).1.2,isFu y)∧(fB T f i).1.1.length≤f∧(fB T f i).1.2.length≤f
 | 0,i=>by simp only [fB];split <;> exact ⟨by simp,by simp,by simp,by simp⟩
 | f+1,i=>by
  simp only [fB]
  split
  ·exact ⟨by simp,by simp,by simp,by simp⟩
  ·split
   ·exact ⟨by simp,by simp,by simp,by simp⟩
   ·obtain ⟨h1,h2⟩:=dBe (T:=T) i
    obtain ⟨h3,h4,h5,h6⟩:=vAu f (tE T (i,none)).i;have l1:=cAk (tE T (i,none)).d [];have l2:=dAk (tE T (i,none)).d [];refine ⟨fun x hx=>?_,fun x hx=>?_,?_,?_⟩
    ·rcases List.mem_append.1 hx with q | q
     ·exact h1 x q
     ·exact h3 x q
    ·rcases List.mem_append.1 hx with q | q
     ·exact h2 x q
     ·exact h4 x q
    ·rw [List.length_append];simp only [List.length_nil] at l1;omega
    ·rw [List.length_append];simp only [List.length_nil] at l2;omega
end
theorem fAa (N:Nat) (s:Bs):(∀ x∈(rC N s).1.1,isSt x)∧(∀ y∈(rC N s).1.2,isFu y)∧(rC N s).1.1.length≤256∧(rC N s).1.2.length≤256:=by
 unfold rC
 split
 ·exact ⟨by simp,by simp,by simp,by simp⟩
 ·rename_i T hT
  unfold qO;dsimp only
  split
  ·exact ⟨by simp,by simp,by simp,by simp⟩
  ·exact vAu 256 0
end Qp
namespace Qp
section
variable {r x:Bs} {a m:Nat} {l:List Tok} {c d:UInt8}
end
end Qp
namespace Qp
section
variable {T r:List Tok} {i a c:Nat}
end
end Qp
namespace Qp
section
variable {N:Nat}
end
end Qp
namespace Qp
theorem aAl {N:Nat} {s:Bs} {T:List Tok} (h:jAj N s=.inl T):∃ l,eA4 N (s.drop (fC false s)) (fC false s)=.inl l∧T=l++[(0,[],s.length)]:=by
 unfold jAj at h
 split at h
 ·rename_i l hl
  simp only [Sum.inl.injEq] at h;exact ⟨l,hl,h.symm⟩
 ·cases h
theorem vAh {l r:List Tok} {i:Nat} (h:i<l.length):tk (l++r) i=l[i]:=by
 rw [eAr (by rw [List.length_append];omega),List.getElem_append_left h]
theorem eBe {l:List Tok} {t:Tok} {r:List Tok}:tk (l++t::r) l.length=t:=by
 rw [eAr (by rw [List.length_append,List.length_cons];omega)];simp
theorem vB6 {N:Nat} {s:Bs} {l:List Tok} (hs:s.length≤3000000) (h:eA4 N (s.drop (fC false s)) (fC false s)=.inl l) {r:List Tok}:∀ i,i<l.length→(tk (l++r) i).1≠0:=fun i hi=>by
 rw [vAh hi];exact (rAf N _ _ l (by rw [List.length_drop];omega) h _ (List.getElem_mem hi)).2
theorem rAd {T:List Tok} (h:(qO T).2=none):(fB T 256 0).2=none∧(qO T).1=(fB T 256 0).1:=by
 unfold qO at h ⊢;dsimp only at h ⊢
 split at h
 ·cases h
 ·rename_i hx;rw [hx];exact ⟨rfl,rfl⟩
end Qp
end Go.Proofs.YtkcjphhjmlienaaGreatDoor

import Derived.Test.YtkcjphhjmlienaaGreatDoorXQp2
import Derived.Test.YtkcjphhjmlienaaGreatDoorAi2
import Derived.Test.YtkcjphhjmlienaaGreatDoorProg
import Derived.Test.YtkcjphhjmlienaaGreatDoorXQp1
import Derived.Shelf.Strings.Cut
import Derived.WalkSmall
import Derived.Test.YtkcjphhjmlienaaGreatDoorAi3
/- Functions of the program as plain functions, and what they come to; part 3. -/
namespace Go.Proofs.YtkcjphhjmlienaaGreatDoor
set_option linter.unusedVariables false
set_option linter.unusedSimpArgs false
open Go Ai Go.Proofs
namespace Qp
theorem qB2 (b:Bool):(bif b then b else !b)=true:=by cases b <;> rfl
theorem mBg {N:Nat} {H h:Heap} {V W:Nat→Prop} {s1 s2:SL} {xs:List Bs} (c:Chg [] H h) (x1:Sl H V s1 (xs.map D.s)) (x2:Sl H W s2 (xs.map D.s)) (hl:xs.length≤2000000) (hN:xs.length<N):∃ h',f106 N s1 s2 h=some (true,h')∧Chg [] h h':=
 ⟨h,qAr (x1.chg c (by simp)) (x2.chg c (by simp)) hl hN,Chg.refl _ _⟩
section
variable {N:Nat} {h:Heap} {V W:Nat→Prop}
theorem wAv {k n:Int} {p1 p2:LfV} (hp:∀ H,Chg [] h H→∃ H',f164 N (p1.1,p1.2.1,()) (p2.1,p2.2.1,()) H=some (true,H')∧Chg [] H H'):∃ h',f166 N (k,n,p1.1,p1.2.1,()) (k,n,p2.1,p2.2.1,()) h=some (true,h')∧Chg [] h h':=by
 unfold f166;dsimp only;have o1:=wA h [(.int .i64 k),(.int .i64 n),(.str p1.1),(.slice p1.2.1.a p1.2.1.len p1.2.1.cap p1.2.1.sz)];have c1:=vA h (.row [(.int .i64 k),(.int .i64 n),(.str p1.1),(.slice p1.2.1.a p1.2.1.len p1.2.1.cap p1.2.1.sz)] .own);generalize h.push (.row [(.int .i64 k),(.int .i64 n),(.str p1.1),(.slice p1.2.1.a p1.2.1.len p1.2.1.cap p1.2.1.sz)] .own)=h1 at *;have o2:=wA h1 [(.int .i64 k),(.int .i64 n),(.str p2.1),(.slice p2.2.1.a p2.2.1.len p2.2.1.cap p2.2.1.sz)];have c2:=vA h1 (.row [(.int .i64 k),(.int .i64 n),(.str p2.1),(.slice p2.2.1.a p2.2.1.len p2.2.1.cap p2.2.1.sz)] .own);have o1:=o1.chg c2 (by simp);generalize h1.push (.row [(.int .i64 k),(.int .i64 n),(.str p2.1),(.slice p2.2.1.a p2.2.1.len p2.2.1.cap p2.2.1.sz)] .own)=H0 at *;have c0:=c1.trans c2
 clear c1 c2
 have qa0:H0.cell (h.next,0)=some (.int .i64 k):=o1.cell 0;have qb0:H0.cell (h1.next,0)=some (.int .i64 k):=o2.cell 0;have qa1:H0.cell (h.next,1)=some (.int .i64 n):=o1.cell 1;have qb1:H0.cell (h1.next,1)=some (.int .i64 n):=o2.cell 1;have qa2:H0.cells (h.next,2) 2=some (.agg (lfc p1)):=o1.cells (j:=2) (m:=2) (show 4≤4 by decide);have qb2:H0.cells (h1.next,2) 2=some (.agg (lfc p2)):=o2.cells (j:=2) (m:=2) (show 4≤4 by decide);simp only [Nat.zero_add,qa0,qb0,kB,tI,cond_true,qa1,qb1,fA];rw [qa2,tAe,qb2,tAe];obtain ⟨H1,qe1,qk1⟩:∃ H',f164 N (p1.1,p1.2.1,()) (p2.1,p2.2.1,()) H0=some (true,H')∧Chg [] H0 H':=hp H0 c0;rw [qe1,aA];have o1:=o1.chg qk1 (by simp);have o2:=o2.chg qk1 (by simp);have c1:=c0.trans qk1;exact ⟨_,rfl,c1⟩
theorem yAv {k o:Int} {a1 a2 b1 b2:OpV} {p1 p2:LfV} {nm:Bs} {n1 n2 g1 g2:SL} (ha:∀ H,Chg [] h H→∃ H',f166 N (a1.1,a1.2.1,a1.2.2.1,a1.2.2.2.1,()) (a2.1,a2.2.1,a2.2.2.1,a2.2.2.2.1,()) H=some (true,H')∧Chg [] H H') (hb:∀ H,Chg [] h H→∃ H',f166 N (b1.1,b1.2.1,b1.2.2.1,b1.2.2.2.1,()) (b2.1,b2.2.1,b2.2.2.1,b2.2.2.2.1,()) H=some (true,H')∧Chg [] H H') (hp:∀ H,Chg [] h H→∃ H',f164 N (p1.1,p1.2.1,()) (p2.1,p2.2.1,()) H=some (true,H')∧Chg [] H H')
  (hn:∀ H,Chg [] h H→∃ H',f106 N n1 n2 H=some (true,H')∧Chg [] H H') (hg:∀ H,Chg [] h H→∃ H',yL N g1 g2 () H=some (true,H')∧Chg [] H H'):∃ h',f165 N (k,a1.1,a1.2.1,a1.2.2.1,a1.2.2.2.1,b1.1,b1.2.1,b1.2.2.1,b1.2.2.2.1,o,p1.1,p1.2.1,nm,n1,g1,()) (k,a2.1,a2.2.1,a2.2.2.1,a2.2.2.2.1,b2.1,b2.2.1,b2.2.2.1,b2.2.2.2.1,o,p2.1,p2.2.1,nm,n2,g2,()) h=some (true,h')∧Chg [] h h':=by
 unfold f165;dsimp only;have o1:=wA h [(.int .i64 k),(.int .i64 a1.1),(.int .i64 a1.2.1),(.str a1.2.2.1),(.slice a1.2.2.2.1.a a1.2.2.2.1.len a1.2.2.2.1.cap a1.2.2.2.1.sz),(.int .i64 b1.1),(.int .i64 b1.2.1),(.str b1.2.2.1),(.slice b1.2.2.2.1.a b1.2.2.2.1.len b1.2.2.2.1.cap b1.2.2.2.1.sz),(.int .i64 o),(.str p1.1),(.slice p1.2.1.a p1.2.1.len p1.2.1.cap p1.2.1.sz),(.str nm),(.slice n1.a n1.len n1.cap n1.sz),(.slice g1.a g1.len g1.cap g1.sz)];have c1:=vA h (.row [(.int .i64 k),(.int .i64 a1.1),(.int .i64 a1.2.1),(.str a1.2.2.1),(.slice a1.2.2.2.1.a a1.2.2.2.1.len a1.2.2.2.1.cap a1.2.2.2.1.sz),(.int .i64 b1.1),(.int .i64 b1.2.1),(.str b1.2.2.1),(.slice b1.2.2.2.1.a b1.2.2.2.1.len b1.2.2.2.1.cap b1.2.2.2.1.sz),(.int .i64 o),(.str p1.1),(.slice p1.2.1.a p1.2.1.len p1.2.1.cap p1.2.1.sz),(.str nm),(.slice n1.a n1.len n1.cap n1.sz),(.slice g1.a g1.len g1.cap g1.sz)] .own);generalize h.push (.row [(.int .i64 k),(.int .i64 a1.1),(.int .i64 a1.2.1),(.str a1.2.2.1),(.slice a1.2.2.2.1.a a1.2.2.2.1.len a1.2.2.2.1.cap a1.2.2.2.1.sz),(.int .i64 b1.1),(.int .i64 b1.2.1),(.str b1.2.2.1),(.slice b1.2.2.2.1.a b1.2.2.2.1.len b1.2.2.2.1.cap b1.2.2.2.1.sz),(.int .i64 o),(.str p1.1),(.slice p1.2.1.a p1.2.1.len p1.2.1.cap p1.2.1.sz),(.str nm),(.slice n1.a n1.len n1.cap n1.sz),(.slice g1.a g1.len g1.cap g1.sz)] .own)=h1 at *;have o2:=wA h1 [(.int .i64 k),(.int .i64 a2.1),(.int .i64 a2.2.1),(.str a2.2.2.1),(.slice a2.2.2.2.1.a a2.2.2.2.1.len a2.2.2.2.1.cap a2.2.2.2.1.sz),(.int .i64 b2.1),(.int .i64 b2.2.1),(.str b2.2.2.1),(.slice b2.2.2.2.1.a b2.2.2.2.1.len b2.2.2.2.1.cap b2.2.2.2.1.sz),(.int .i64 o),(.str p2.1),(.slice p2.2.1.a p2.2.1.len p2.2.1.cap p2.2.1.sz),(.str nm),(.slice n2.a n2.len n2.cap n2.sz),(.slice g2.a g2.len g2.cap g2.sz)];have c2:=vA h1 (.row [(.int .i64 k),(.int .i64 a2.1),(.int .i64 a2.2.1),(.str a2.2.2.1),(.slice a2.2.2.2.1.a a2.2.2.2.1.len a2.2.2.2.1.cap a2.2.2.2.1.sz),(.int .i64 b2.1),(.int .i64 b2.2.1),(.str b2.2.2.1),(.slice b2.2.2.2.1.a b2.2.2.2.1.len b2.2.2.2.1.cap b2.2.2.2.1.sz),(.int .i64 o),(.str p2.1),(.slice p2.2.1.a p2.2.1.len p2.2.1.cap p2.2.1.sz),(.str nm),(.slice n2.a n2.len n2.cap n2.sz),(.slice g2.a g2.len g2.cap g2.sz)] .own);have o1:=o1.chg c2 (by simp);generalize h1.push (.row [(.int .i64 k),(.int .i64 a2.1),(.int .i64 a2.2.1),(.str a2.2.2.1),(.slice a2.2.2.2.1.a a2.2.2.2.1.len a2.2.2.2.1.cap a2.2.2.2.1.sz),(.int .i64 b2.1),(.int .i64 b2.2.1),(.str b2.2.2.1),(.slice b2.2.2.2.1.a b2.2.2.2.1.len b2.2.2.2.1.cap b2.2.2.2.1.sz),(.int .i64 o),(.str p2.1),(.slice p2.2.1.a p2.2.1.len p2.2.1.cap p2.2.1.sz),(.str nm),(.slice n2.a n2.len n2.cap n2.sz),(.slice g2.a g2.len g2.cap g2.sz)] .own)=H0 at *;have c0:=c1.trans c2
 clear c1 c2
 have qa0:H0.cell (h.next,0)=some (.int .i64 k):=o1.cell 0;have qb0:H0.cell (h1.next,0)=some (.int .i64 k):=o2.cell 0;have qa1:H0.cells (h.next,1) 4=some (.agg (opc a1)):=o1.cells (j:=1) (m:=4) (show 5≤15 by decide);have qb1:H0.cells (h1.next,1) 4=some (.agg (opc a2)):=o2.cells (j:=1) (m:=4) (show 5≤15 by decide);simp only [Nat.zero_add,qa0,qb0,kB,tI,cond_true,fA];rw [qa1,gAb,qb1,gAb];obtain ⟨H1,qe1,qk1⟩:∃ H',f166 N (a1.1,a1.2.1,a1.2.2.1,a1.2.2.2.1,()) (a2.1,a2.2.1,a2.2.2.1,a2.2.2.2.1,()) H0=some (true,H')∧Chg [] H0 H':=ha H0 c0;rw [qe1,aA];have o1:=o1.chg qk1 (by simp);have o2:=o2.chg qk1 (by simp);have c1:=c0.trans qk1;have qa5:H1.cells (h.next,5) 4=some (.agg (opc b1)):=o1.cells (j:=5) (m:=4) (show 9≤15 by decide);have qb5:H1.cells (h1.next,5) 4=some (.agg (opc b2)):=o2.cells (j:=5) (m:=4) (show 9≤15 by decide);simp only [Nat.zero_add,cond_true,fA];rw [qa5,gAb,qb5,gAb];obtain ⟨H2,qe2,qk2⟩:∃ H',f166 N (b1.1,b1.2.1,b1.2.2.1,b1.2.2.2.1,()) (b2.1,b2.2.1,b2.2.2.1,b2.2.2.2.1,()) H1=some (true,H')∧Chg [] H1 H':=hb H1 c1;rw [qe2,aA];have o1:=o1.chg qk2 (by simp);have o2:=o2.chg qk2 (by simp);have c2:=c1.trans qk2;have qa9:H2.cell (h.next,9)=some (.int .i64 o):=o1.cell 9;have qb9:H2.cell (h1.next,9)=some (.int .i64 o):=o2.cell 9;have qa10:H2.cells (h.next,10) 2=some (.agg (lfc p1)):=o1.cells (j:=10) (m:=2) (show 12≤15 by decide);have qb10:H2.cells (h1.next,10) 2=some (.agg (lfc p2)):=o2.cells (j:=10) (m:=2) (show 12≤15 by decide);simp only [Nat.zero_add,qa9,qb9,kB,tI,cond_true,fA];rw [qa10,tAe,qb10,tAe];obtain ⟨H3,qe3,qk3⟩:∃ H',f164 N (p1.1,p1.2.1,()) (p2.1,p2.2.1,()) H2=some (true,H')∧Chg [] H2 H':=hp H2 c2;rw [qe3,aA];have o1:=o1.chg qk3 (by simp);have o2:=o2.chg qk3 (by simp);have c3:=c2.trans qk3;have qa12:H3.cell (h.next,12)=some (.str nm):=o1.cell 12;have qb12:H3.cell (h1.next,12)=some (.str nm):=o2.cell 12;have qa13:H3.cell (h.next,13)=some (.slice n1.a n1.len n1.cap n1.sz):=o1.cell 13;have qb13:H3.cell (h1.next,13)=some (.slice n2.a n2.len n2.cap n2.sz):=o2.cell 13;simp only [Nat.zero_add,qa12,qb12,mB,eqB.2,cond_true,qa13,qb13,qA,fA];obtain ⟨H4,qe4,qk4⟩:∃ H',f106 N n1 n2  H3=some (true,H')∧Chg [] H3 H':=hn H3 c3;show ∃ h',(kA (f106 N n1 n2  H3) _)=_∧_;rw [qe4,aA];have o1:=o1.chg qk4 (by simp);have o2:=o2.chg qk4 (by simp);have c4:=c3.trans qk4;have qa14:H4.cell (h.next,14)=some (.slice g1.a g1.len g1.cap g1.sz):=o1.cell 14;have qb14:H4.cell (h1.next,14)=some (.slice g2.a g2.len g2.cap g2.sz):=o2.cell 14;simp only [Nat.zero_add,qa14,qb14,qA,cond_true,fA];obtain ⟨H5,qe5,qk5⟩:∃ H',yL N g1 g2 () H4=some (true,H')∧Chg [] H4 H':=hg H4 c4;show ∃ h',(kA (yL N g1 g2 () H4) _)=_∧_;rw [qe5,aA];have o1:=o1.chg qk5 (by simp);have o2:=o2.chg qk5 (by simp);have c5:=c4.trans qk5;exact ⟨_,rfl,c5⟩
theorem aAw {rec112 rec162c112 rec193c112} {k:Int} {x:Bs} {l1 l2 e1 e2:SL} (hl:∀ H,Chg [] h H→∃ H',f106 N l1 l2 H=some (true,H')∧Chg [] H H') (he:∀ H,Chg [] h H→∃ H',rec162c112 e1 e2 () H=some (true,H')∧Chg [] H H'):∃ h',qAi N rec112 rec162c112 rec193c112 (k,x,l1,e1,()) (k,x,l2,e2,()) h=some (true,h')∧Chg [] h h':=by
 unfold qAi;dsimp only;have o1:=wA h [(.int .i64 k),(.str x),(.slice l1.a l1.len l1.cap l1.sz),(.slice e1.a e1.len e1.cap e1.sz)];have c1:=vA h (.row [(.int .i64 k),(.str x),(.slice l1.a l1.len l1.cap l1.sz),(.slice e1.a e1.len e1.cap e1.sz)] .own);generalize h.push (.row [(.int .i64 k),(.str x),(.slice l1.a l1.len l1.cap l1.sz),(.slice e1.a e1.len e1.cap e1.sz)] .own)=h1 at *;have o2:=wA h1 [(.int .i64 k),(.str x),(.slice l2.a l2.len l2.cap l2.sz),(.slice e2.a e2.len e2.cap e2.sz)];have c2:=vA h1 (.row [(.int .i64 k),(.str x),(.slice l2.a l2.len l2.cap l2.sz),(.slice e2.a e2.len e2.cap e2.sz)] .own);have o1:=o1.chg c2 (by simp);generalize h1.push (.row [(.int .i64 k),(.str x),(.slice l2.a l2.len l2.cap l2.sz),(.slice e2.a e2.len e2.cap e2.sz)] .own)=H0 at *;have c0:=c1.trans c2
 clear c1 c2
 have qa0:H0.cell (h.next,0)=some (.int .i64 k):=o1.cell 0;have qb0:H0.cell (h1.next,0)=some (.int .i64 k):=o2.cell 0;have qa1:H0.cell (h.next,1)=some (.str x):=o1.cell 1;have qb1:H0.cell (h1.next,1)=some (.str x):=o2.cell 1;have qa2:H0.cell (h.next,2)=some (.slice l1.a l1.len l1.cap l1.sz):=o1.cell 2;have qb2:H0.cell (h1.next,2)=some (.slice l2.a l2.len l2.cap l2.sz):=o2.cell 2;simp only [Nat.zero_add,qa0,qb0,kB,tI,cond_true,qa1,qb1,mB,eqB.2,qa2,qb2,qA,fA];obtain ⟨H1,qe1,qk1⟩:∃ H',f106 N l1 l2  H0=some (true,H')∧Chg [] H0 H':=hl H0 c0;show ∃ h',(kA (f106 N l1 l2  H0) _)=_∧_;rw [qe1,aA];have o1:=o1.chg qk1 (by simp);have o2:=o2.chg qk1 (by simp);have c1:=c0.trans qk1;have qa3:H1.cell (h.next,3)=some (.slice e1.a e1.len e1.cap e1.sz):=o1.cell 3;have qb3:H1.cell (h1.next,3)=some (.slice e2.a e2.len e2.cap e2.sz):=o2.cell 3;simp only [Nat.zero_add,qa3,qb3,qA,cond_true,fA];obtain ⟨H2,qe2,qk2⟩:∃ H',rec162c112 e1 e2 () H1=some (true,H')∧Chg [] H1 H':=he H1 c1;show ∃ h',(kA (rec162c112 e1 e2 () H1) _)=_∧_;rw [qe2,aA];have o1:=o1.chg qk2 (by simp);have o2:=o2.chg qk2 (by simp);have c2:=c1.trans qk2;exact ⟨_,rfl,c2⟩
theorem tAi {rec113c114 rec114 rec163c114} {k a:Int} {m hs:Bool} {nm:Bs} {t1 t2:TyV} {p1 p2:LfV} {v1 v2:VaV} {o1 o2:OpV} {th1 th2 el1 el2:SL} (ht:∀ H,Chg [] h H→∃ H',f112 N N (t1.1,t1.2.1,t1.2.2.1,t1.2.2.2.1,()) (t2.1,t2.2.1,t2.2.2.1,t2.2.2.2.1,()) H=some (true,H')∧Chg [] H H') (hp:∀ H,Chg [] h H→∃ H',f164 N (p1.1,p1.2.1,()) (p2.1,p2.2.1,()) H=some (true,H')∧Chg [] H H') (hv:∀ H,Chg [] h H→∃ H',f165 N (v1.1,v1.2.1,v1.2.2.1,v1.2.2.2.1,v1.2.2.2.2.1,v1.2.2.2.2.2.1,v1.2.2.2.2.2.2.1,v1.2.2.2.2.2.2.2.1,v1.2.2.2.2.2.2.2.2.1,v1.2.2.2.2.2.2.2.2.2.1,v1.2.2.2.2.2.2.2.2.2.2.1,v1.2.2.2.2.2.2.2.2.2.2.2.1,v1.2.2.2.2.2.2.2.2.2.2.2.2.1,v1.2.2.2.2.2.2.2.2.2.2.2.2.2.1,v1.2.2.2.2.2.2.2.2.2.2.2.2.2.2.1,()) (v2.1,v2.2.1,v2.2.2.1,v2.2.2.2.1,v2.2.2.2.2.1,v2.2.2.2.2.2.1,v2.2.2.2.2.2.2.1,v2.2.2.2.2.2.2.2.1,v2.2.2.2.2.2.2.2.2.1,v2.2.2.2.2.2.2.2.2.2.1,v2.2.2.2.2.2.2.2.2.2.2.1,v2.2.2.2.2.2.2.2.2.2.2.2.1,v2.2.2.2.2.2.2.2.2.2.2.2.2.1,v2.2.2.2.2.2.2.2.2.2.2.2.2.2.1,v2.2.2.2.2.2.2.2.2.2.2.2.2.2.2.1,()) H=some (true,H')∧Chg [] H H') (ho:∀ H,Chg [] h H→∃ H',f166 N (o1.1,o1.2.1,o1.2.2.1,o1.2.2.2.1,()) (o2.1,o2.2.1,o2.2.2.1,o2.2.2.2.1,()) H=some (true,H')∧Chg [] H H')
  (hth:∀ H,Chg [] h H→∃ H',rec113c114 th1 th2 () H=some (true,H')∧Chg [] H H') (hel:∀ H,Chg [] h H→∃ H',rec113c114 el1 el2 () H=some (true,H')∧Chg [] H H'):∃ h',rAi N rec113c114 rec114 rec163c114 (k,a,m,nm,t1.1,t1.2.1,t1.2.2.1,t1.2.2.2.1,hs,p1.1,p1.2.1,v1.1,v1.2.1,v1.2.2.1,v1.2.2.2.1,v1.2.2.2.2.1,v1.2.2.2.2.2.1,v1.2.2.2.2.2.2.1,v1.2.2.2.2.2.2.2.1,v1.2.2.2.2.2.2.2.2.1,v1.2.2.2.2.2.2.2.2.2.1,v1.2.2.2.2.2.2.2.2.2.2.1,v1.2.2.2.2.2.2.2.2.2.2.2.1,v1.2.2.2.2.2.2.2.2.2.2.2.2.1,v1.2.2.2.2.2.2.2.2.2.2.2.2.2.1,v1.2.2.2.2.2.2.2.2.2.2.2.2.2.2.1,o1.1,o1.2.1,o1.2.2.1,o1.2.2.2.1,th1,el1,()) (k,a,m,nm,t2.1,t2.2.1,t2.2.2.1,t2.2.2.2.1,hs,p2.1,p2.2.1,v2.1,v2.2.1,v2.2.2.1,v2.2.2.2.1,v2.2.2.2.2.1,v2.2.2.2.2.2.1,v2.2.2.2.2.2.2.1,v2.2.2.2.2.2.2.2.1,v2.2.2.2.2.2.2.2.2.1,v2.2.2.2.2.2.2.2.2.2.1,v2.2.2.2.2.2.2.2.2.2.2.1,v2.2.2.2.2.2.2.2.2.2.2.2.1,v2.2.2.2.2.2.2.2.2.2.2.2.2.1,v2.2.2.2.2.2.2.2.2.2.2.2.2.2.1,v2.2.2.2.2.2.2.2.2.2.2.2.2.2.2.1,o2.1,o2.2.1,o2.2.2.1,o2.2.2.2.1,th2,el2,()) h=some (true,h')∧Chg [] h h':=by
 unfold rAi;dsimp only;have O1:=wA h [(.int .i64 k),(.int .i64 a),(.bool m),(.str nm),(.int .i64 t1.1),(.str t1.2.1),(.slice t1.2.2.1.a t1.2.2.1.len t1.2.2.1.cap t1.2.2.1.sz),(.slice t1.2.2.2.1.a t1.2.2.2.1.len t1.2.2.2.1.cap t1.2.2.2.1.sz),(.bool hs),(.str p1.1),(.slice p1.2.1.a p1.2.1.len p1.2.1.cap p1.2.1.sz),(.int .i64 v1.1),(.int .i64 v1.2.1),(.int .i64 v1.2.2.1),(.str v1.2.2.2.1),(.slice v1.2.2.2.2.1.a v1.2.2.2.2.1.len v1.2.2.2.2.1.cap v1.2.2.2.2.1.sz),(.int .i64 v1.2.2.2.2.2.1),(.int .i64 v1.2.2.2.2.2.2.1),(.str v1.2.2.2.2.2.2.2.1),(.slice v1.2.2.2.2.2.2.2.2.1.a v1.2.2.2.2.2.2.2.2.1.len v1.2.2.2.2.2.2.2.2.1.cap v1.2.2.2.2.2.2.2.2.1.sz),(.int .i64 v1.2.2.2.2.2.2.2.2.2.1),(.str v1.2.2.2.2.2.2.2.2.2.2.1),(.slice v1.2.2.2.2.2.2.2.2.2.2.2.1.a v1.2.2.2.2.2.2.2.2.2.2.2.1.len v1.2.2.2.2.2.2.2.2.2.2.2.1.cap v1.2.2.2.2.2.2.2.2.2.2.2.1.sz),(.str v1.2.2.2.2.2.2.2.2.2.2.2.2.1),(.slice v1.2.2.2.2.2.2.2.2.2.2.2.2.2.1.a v1.2.2.2.2.2.2.2.2.2.2.2.2.2.1.len v1.2.2.2.2.2.2.2.2.2.2.2.2.2.1.cap v1.2.2.2.2.2.2.2.2.2.2.2.2.2.1.sz),(.slice v1.2.2.2.2.2.2.2.2.2.2.2.2.2.2.1.a v1.2.2.2.2.2.2.2.2.2.2.2.2.2.2.1.len v1.2.2.2.2.2.2.2.2.2.2.2.2.2.2.1.cap v1.2.2.2.2.2.2.2.2.2.2.2.2.2.2.1.sz),(.int .i64 o1.1),(.int .i64 o1.2.1),(.str o1.2.2.1),(.slice o1.2.2.2.1.a o1.2.2.2.1.len o1.2.2.2.1.cap o1.2.2.2.1.sz),(.slice th1.a th1.len th1.cap th1.sz),(.slice el1.a el1.len el1.cap el1.sz)];have c1:=vA h (.row [(.int .i64 k),(.int .i64 a),(.bool m),(.str nm),(.int .i64 t1.1),(.str t1.2.1),(.slice t1.2.2.1.a t1.2.2.1.len t1.2.2.1.cap t1.2.2.1.sz),(.slice t1.2.2.2.1.a t1.2.2.2.1.len t1.2.2.2.1.cap t1.2.2.2.1.sz),(.bool hs),(.str p1.1),(.slice p1.2.1.a p1.2.1.len p1.2.1.cap p1.2.1.sz),(.int .i64 v1.1),(.int .i64 v1.2.1),(.int .i64 v1.2.2.1),(.str v1.2.2.2.1),(.slice v1.2.2.2.2.1.a v1.2.2.2.2.1.len v1.2.2.2.2.1.cap v1.2.2.2.2.1.sz),(.int .i64 v1.2.2.2.2.2.1),(.int .i64 v1.2.2.2.2.2.2.1),(.str v1.2.2.2.2.2.2.2.1),(.slice v1.2.2.2.2.2.2.2.2.1.a v1.2.2.2.2.2.2.2.2.1.len v1.2.2.2.2.2.2.2.2.1.cap v1.2.2.2.2.2.2.2.2.1.sz),(.int .i64 v1.2.2.2.2.2.2.2.2.2.1),(.str v1.2.2.2.2.2.2.2.2.2.2.1),(.slice v1.2.2.2.2.2.2.2.2.2.2.2.1.a v1.2.2.2.2.2.2.2.2.2.2.2.1.len v1.2.2.2.2.2.2.2.2.2.2.2.1.cap v1.2.2.2.2.2.2.2.2.2.2.2.1.sz),(.str v1.2.2.2.2.2.2.2.2.2.2.2.2.1),(.slice v1.2.2.2.2.2.2.2.2.2.2.2.2.2.1.a v1.2.2.2.2.2.2.2.2.2.2.2.2.2.1.len v1.2.2.2.2.2.2.2.2.2.2.2.2.2.1.cap v1.2.2.2.2.2.2.2.2.2.2.2.2.2.1.sz),(.slice v1.2.2.2.2.2.2.2.2.2.2.2.2.2.2.1.a v1.2.2.2.2.2.2.2.2.2.2.2.2.2.2.1.len v1.2.2.2.2.2.2.2.2.2.2.2.2.2.2.1.cap v1.2.2.2.2.2.2.2.2.2.2.2.2.2.2.1.sz),(.int .i64 o1.1),(.int .i64 o1.2.1),(.str o1.2.2.1),(.slice o1.2.2.2.1.a o1.2.2.2.1.len o1.2.2.2.1.cap o1.2.2.2.1.sz),(.slice th1.a th1.len th1.cap th1.sz),(.slice el1.a el1.len el1.cap el1.sz)] .own);generalize h.push (.row [(.int .i64 k),(.int .i64 a),(.bool m),(.str nm),(.int .i64 t1.1),(.str t1.2.1),(.slice t1.2.2.1.a t1.2.2.1.len t1.2.2.1.cap t1.2.2.1.sz),(.slice t1.2.2.2.1.a t1.2.2.2.1.len t1.2.2.2.1.cap t1.2.2.2.1.sz),(.bool hs),(.str p1.1),(.slice p1.2.1.a p1.2.1.len p1.2.1.cap p1.2.1.sz),(.int .i64 v1.1),(.int .i64 v1.2.1),(.int .i64 v1.2.2.1),(.str v1.2.2.2.1),(.slice v1.2.2.2.2.1.a v1.2.2.2.2.1.len v1.2.2.2.2.1.cap v1.2.2.2.2.1.sz),(.int .i64 v1.2.2.2.2.2.1),(.int .i64 v1.2.2.2.2.2.2.1),(.str v1.2.2.2.2.2.2.2.1),(.slice v1.2.2.2.2.2.2.2.2.1.a v1.2.2.2.2.2.2.2.2.1.len v1.2.2.2.2.2.2.2.2.1.cap v1.2.2.2.2.2.2.2.2.1.sz),(.int .i64 v1.2.2.2.2.2.2.2.2.2.1),(.str v1.2.2.2.2.2.2.2.2.2.2.1),(.slice v1.2.2.2.2.2.2.2.2.2.2.2.1.a v1.2.2.2.2.2.2.2.2.2.2.2.1.len v1.2.2.2.2.2.2.2.2.2.2.2.1.cap v1.2.2.2.2.2.2.2.2.2.2.2.1.sz),(.str v1.2.2.2.2.2.2.2.2.2.2.2.2.1),(.slice v1.2.2.2.2.2.2.2.2.2.2.2.2.2.1.a v1.2.2.2.2.2.2.2.2.2.2.2.2.2.1.len v1.2.2.2.2.2.2.2.2.2.2.2.2.2.1.cap v1.2.2.2.2.2.2.2.2.2.2.2.2.2.1.sz),(.slice v1.2.2.2.2.2.2.2.2.2.2.2.2.2.2.1.a v1.2.2.2.2.2.2.2.2.2.2.2.2.2.2.1.len v1.2.2.2.2.2.2.2.2.2.2.2.2.2.2.1.cap v1.2.2.2.2.2.2.2.2.2.2.2.2.2.2.1.sz),(.int .i64 o1.1),(.int .i64 o1.2.1),(.str o1.2.2.1),(.slice o1.2.2.2.1.a o1.2.2.2.1.len o1.2.2.2.1.cap o1.2.2.2.1.sz),(.slice th1.a th1.len th1.cap th1.sz),(.slice el1.a el1.len el1.cap el1.sz)] .own)=h1 at *;have O2:=wA h1 [(.int .i64 k),(.int .i64 a),(.bool m),(.str nm),(.int .i64 t2.1),(.str t2.2.1),(.slice t2.2.2.1.a t2.2.2.1.len t2.2.2.1.cap t2.2.2.1.sz),(.slice t2.2.2.2.1.a t2.2.2.2.1.len t2.2.2.2.1.cap t2.2.2.2.1.sz),(.bool hs),(.str p2.1),(.slice p2.2.1.a p2.2.1.len p2.2.1.cap p2.2.1.sz),(.int .i64 v2.1),(.int .i64 v2.2.1),(.int .i64 v2.2.2.1),(.str v2.2.2.2.1),(.slice v2.2.2.2.2.1.a v2.2.2.2.2.1.len v2.2.2.2.2.1.cap v2.2.2.2.2.1.sz),(.int .i64 v2.2.2.2.2.2.1),(.int .i64 v2.2.2.2.2.2.2.1),(.str v2.2.2.2.2.2.2.2.1),(.slice v2.2.2.2.2.2.2.2.2.1.a v2.2.2.2.2.2.2.2.2.1.len v2.2.2.2.2.2.2.2.2.1.cap v2.2.2.2.2.2.2.2.2.1.sz),(.int .i64 v2.2.2.2.2.2.2.2.2.2.1),(.str v2.2.2.2.2.2.2.2.2.2.2.1),(.slice v2.2.2.2.2.2.2.2.2.2.2.2.1.a v2.2.2.2.2.2.2.2.2.2.2.2.1.len v2.2.2.2.2.2.2.2.2.2.2.2.1.cap v2.2.2.2.2.2.2.2.2.2.2.2.1.sz),(.str v2.2.2.2.2.2.2.2.2.2.2.2.2.1),(.slice v2.2.2.2.2.2.2.2.2.2.2.2.2.2.1.a v2.2.2.2.2.2.2.2.2.2.2.2.2.2.1.len v2.2.2.2.2.2.2.2.2.2.2.2.2.2.1.cap v2.2.2.2.2.2.2.2.2.2.2.2.2.2.1.sz),(.slice v2.2.2.2.2.2.2.2.2.2.2.2.2.2.2.1.a v2.2.2.2.2.2.2.2.2.2.2.2.2.2.2.1.len v2.2.2.2.2.2.2.2.2.2.2.2.2.2.2.1.cap v2.2.2.2.2.2.2.2.2.2.2.2.2.2.2.1.sz),(.int .i64 o2.1),(.int .i64 o2.2.1),(.str o2.2.2.1),(.slice o2.2.2.2.1.a o2.2.2.2.1.len o2.2.2.2.1.cap o2.2.2.2.1.sz),(.slice th2.a th2.len th2.cap th2.sz),(.slice el2.a el2.len el2.cap el2.sz)];have c2:=vA h1 (.row [(.int .i64 k),(.int .i64 a),(.bool m),(.str nm),(.int .i64 t2.1),(.str t2.2.1),(.slice t2.2.2.1.a t2.2.2.1.len t2.2.2.1.cap t2.2.2.1.sz),(.slice t2.2.2.2.1.a t2.2.2.2.1.len t2.2.2.2.1.cap t2.2.2.2.1.sz),(.bool hs),(.str p2.1),(.slice p2.2.1.a p2.2.1.len p2.2.1.cap p2.2.1.sz),(.int .i64 v2.1),(.int .i64 v2.2.1),(.int .i64 v2.2.2.1),(.str v2.2.2.2.1),(.slice v2.2.2.2.2.1.a v2.2.2.2.2.1.len v2.2.2.2.2.1.cap v2.2.2.2.2.1.sz),(.int .i64 v2.2.2.2.2.2.1),(.int .i64 v2.2.2.2.2.2.2.1),(.str v2.2.2.2.2.2.2.2.1),(.slice v2.2.2.2.2.2.2.2.2.1.a v2.2.2.2.2.2.2.2.2.1.len v2.2.2.2.2.2.2.2.2.1.cap v2.2.2.2.2.2.2.2.2.1.sz),(.int .i64 v2.2.2.2.2.2.2.2.2.2.1),(.str v2.2.2.2.2.2.2.2.2.2.2.1),(.slice v2.2.2.2.2.2.2.2.2.2.2.2.1.a v2.2.2.2.2.2.2.2.2.2.2.2.1.len v2.2.2.2.2.2.2.2.2.2.2.2.1.cap v2.2.2.2.2.2.2.2.2.2.2.2.1.sz),(.str v2.2.2.2.2.2.2.2.2.2.2.2.2.1),(.slice v2.2.2.2.2.2.2.2.2.2.2.2.2.2.1.a v2.2.2.2.2.2.2.2.2.2.2.2.2.2.1.len v2.2.2.2.2.2.2.2.2.2.2.2.2.2.1.cap v2.2.2.2.2.2.2.2.2.2.2.2.2.2.1.sz),(.slice v2.2.2.2.2.2.2.2.2.2.2.2.2.2.2.1.a v2.2.2.2.2.2.2.2.2.2.2.2.2.2.2.1.len v2.2.2.2.2.2.2.2.2.2.2.2.2.2.2.1.cap v2.2.2.2.2.2.2.2.2.2.2.2.2.2.2.1.sz),(.int .i64 o2.1),(.int .i64 o2.2.1),(.str o2.2.2.1),(.slice o2.2.2.2.1.a o2.2.2.2.1.len o2.2.2.2.1.cap o2.2.2.2.1.sz),(.slice th2.a th2.len th2.cap th2.sz),(.slice el2.a el2.len el2.cap el2.sz)] .own);have O1:=O1.chg c2 (by simp);generalize h1.push (.row [(.int .i64 k),(.int .i64 a),(.bool m),(.str nm),(.int .i64 t2.1),(.str t2.2.1),(.slice t2.2.2.1.a t2.2.2.1.len t2.2.2.1.cap t2.2.2.1.sz),(.slice t2.2.2.2.1.a t2.2.2.2.1.len t2.2.2.2.1.cap t2.2.2.2.1.sz),(.bool hs),(.str p2.1),(.slice p2.2.1.a p2.2.1.len p2.2.1.cap p2.2.1.sz),(.int .i64 v2.1),(.int .i64 v2.2.1),(.int .i64 v2.2.2.1),(.str v2.2.2.2.1),(.slice v2.2.2.2.2.1.a v2.2.2.2.2.1.len v2.2.2.2.2.1.cap v2.2.2.2.2.1.sz),(.int .i64 v2.2.2.2.2.2.1),(.int .i64 v2.2.2.2.2.2.2.1),(.str v2.2.2.2.2.2.2.2.1),(.slice v2.2.2.2.2.2.2.2.2.1.a v2.2.2.2.2.2.2.2.2.1.len v2.2.2.2.2.2.2.2.2.1.cap v2.2.2.2.2.2.2.2.2.1.sz),(.int .i64 v2.2.2.2.2.2.2.2.2.2.1),(.str v2.2.2.2.2.2.2.2.2.2.2.1),(.slice v2.2.2.2.2.2.2.2.2.2.2.2.1.a v2.2.2.2.2.2.2.2.2.2.2.2.1.len v2.2.2.2.2.2.2.2.2.2.2.2.1.cap v2.2.2.2.2.2.2.2.2.2.2.2.1.sz),(.str v2.2.2.2.2.2.2.2.2.2.2.2.2.1),(.slice v2.2.2.2.2.2.2.2.2.2.2.2.2.2.1.a v2.2.2.2.2.2.2.2.2.2.2.2.2.2.1.len v2.2.2.2.2.2.2.2.2.2.2.2.2.2.1.cap v2.2.2.2.2.2.2.2.2.2.2.2.2.2.1.sz),(.slice v2.2.2.2.2.2.2.2.2.2.2.2.2.2.2.1.a v2.2.2.2.2.2.2.2.2.2.2.2.2.2.2.1.len v2.2.2.2.2.2.2.2.2.2.2.2.2.2.2.1.cap v2.2.2.2.2.2.2.2.2.2.2.2.2.2.2.1.sz),(.int .i64 o2.1),(.int .i64 o2.2.1),(.str o2.2.2.1),(.slice o2.2.2.2.1.a o2.2.2.2.1.len o2.2.2.2.1.cap o2.2.2.2.1.sz),(.slice th2.a th2.len th2.cap th2.sz),(.slice el2.a el2.len el2.cap el2.sz)] .own)=H0 at *;have c0:=c1.trans c2
 clear c1 c2
 have qa0:H0.cell (h.next,0)=some (.int .i64 k):=O1.cell 0;have qb0:H0.cell (h1.next,0)=some (.int .i64 k):=O2.cell 0;have qa1:H0.cell (h.next,1)=some (.int .i64 a):=O1.cell 1;have qb1:H0.cell (h1.next,1)=some (.int .i64 a):=O2.cell 1;have qa2:H0.cell (h.next,2)=some (.bool m):=O1.cell 2;have qb2:H0.cell (h1.next,2)=some (.bool m):=O2.cell 2;have qa3:H0.cell (h.next,3)=some (.str nm):=O1.cell 3;have qb3:H0.cell (h1.next,3)=some (.str nm):=O2.cell 3;have qa8:H0.cell (h.next,8)=some (.bool hs):=O1.cell 8;have qb8:H0.cell (h1.next,8)=some (.bool hs):=O2.cell 8;have qa4:H0.cells (h.next,4) 4=some (.agg (tyc t1)):=O1.cells (j:=4) (m:=4) (show 8≤32 by decide);have qb4:H0.cells (h1.next,4) 4=some (.agg (tyc t2)):=O2.cells (j:=4) (m:=4) (show 8≤32 by decide);simp only [Nat.zero_add,qa0,qb0,kB,tI,cond_true,qa1,qb1,qa2,qb2,jB,qB2,qa3,qb3,mB,eqB.2,qa8,qb8,fA];rw [qa4,vAk,qb4,vAk];obtain ⟨H1,qe1,qk1⟩:∃ H',f112 N N (t1.1,t1.2.1,t1.2.2.1,t1.2.2.2.1,()) (t2.1,t2.2.1,t2.2.2.1,t2.2.2.2.1,()) H0=some (true,H')∧Chg [] H0 H':=ht H0 c0;rw [qe1,aA];have O1:=O1.chg qk1 (by simp);have O2:=O2.chg qk1 (by simp);have c1:=c0.trans qk1;have qa9:H1.cells (h.next,9) 2=some (.agg (lfc p1)):=O1.cells (j:=9) (m:=2) (show 11≤32 by decide);have qb9:H1.cells (h1.next,9) 2=some (.agg (lfc p2)):=O2.cells (j:=9) (m:=2) (show 11≤32 by decide);simp only [Nat.zero_add,cond_true,fA];rw [qa9,tAe,qb9,tAe];obtain ⟨H2,qe2,qk2⟩:∃ H',f164 N (p1.1,p1.2.1,()) (p2.1,p2.2.1,()) H1=some (true,H')∧Chg [] H1 H':=hp H1 c1;rw [qe2,aA];have O1:=O1.chg qk2 (by simp);have O2:=O2.chg qk2 (by simp);have c2:=c1.trans qk2;have qa11:H2.cells (h.next,11) 15=some (.agg (vac v1)):=O1.cells (j:=11) (m:=15) (show 26≤32 by decide);have qb11:H2.cells (h1.next,11) 15=some (.agg (vac v2)):=O2.cells (j:=11) (m:=15) (show 26≤32 by decide);simp only [Nat.zero_add,cond_true,fA];rw [qa11,tAm,qb11,tAm];obtain ⟨H3,qe3,qk3⟩:∃ H',f165 N (v1.1,v1.2.1,v1.2.2.1,v1.2.2.2.1,v1.2.2.2.2.1,v1.2.2.2.2.2.1,v1.2.2.2.2.2.2.1,v1.2.2.2.2.2.2.2.1,v1.2.2.2.2.2.2.2.2.1,v1.2.2.2.2.2.2.2.2.2.1,v1.2.2.2.2.2.2.2.2.2.2.1,v1.2.2.2.2.2.2.2.2.2.2.2.1,v1.2.2.2.2.2.2.2.2.2.2.2.2.1,v1.2.2.2.2.2.2.2.2.2.2.2.2.2.1,v1.2.2.2.2.2.2.2.2.2.2.2.2.2.2.1,()) (v2.1,v2.2.1,v2.2.2.1,v2.2.2.2.1,v2.2.2.2.2.1,v2.2.2.2.2.2.1,v2.2.2.2.2.2.2.1,v2.2.2.2.2.2.2.2.1,v2.2.2.2.2.2.2.2.2.1,v2.2.2.2.2.2.2.2.2.2.1,v2.2.2.2.2.2.2.2.2.2.2.1,v2.2.2.2.2.2.2.2.2.2.2.2.1,v2.2.2.2.2.2.2.2.2.2.2.2.2.1,v2.2.2.2.2.2.2.2.2.2.2.2.2.2.1,v2.2.2.2.2.2.2.2.2.2.2.2.2.2.2.1,()) H2=some (true,H')∧Chg [] H2 H':=hv H2 c2;rw [qe3,aA];have O1:=O1.chg qk3 (by simp);have O2:=O2.chg qk3 (by simp);have c3:=c2.trans qk3;have qa26:H3.cells (h.next,26) 4=some (.agg (opc o1)):=O1.cells (j:=26) (m:=4) (show 30≤32 by decide);have qb26:H3.cells (h1.next,26) 4=some (.agg (opc o2)):=O2.cells (j:=26) (m:=4) (show 30≤32 by decide);simp only [Nat.zero_add,cond_true,fA];rw [qa26,gAb,qb26,gAb];obtain ⟨H4,qe4,qk4⟩:∃ H',f166 N (o1.1,o1.2.1,o1.2.2.1,o1.2.2.2.1,()) (o2.1,o2.2.1,o2.2.2.1,o2.2.2.2.1,()) H3=some (true,H')∧Chg [] H3 H':=ho H3 c3;rw [qe4,aA];have O1:=O1.chg qk4 (by simp);have O2:=O2.chg qk4 (by simp);have c4:=c3.trans qk4;have qa30:H4.cell (h.next,30)=some (.slice th1.a th1.len th1.cap th1.sz):=O1.cell 30;have qb30:H4.cell (h1.next,30)=some (.slice th2.a th2.len th2.cap th2.sz):=O2.cell 30;simp only [Nat.zero_add,qa30,qb30,qA,cond_true,fA];obtain ⟨H5,qe5,qk5⟩:∃ H',rec113c114 th1 th2 () H4=some (true,H')∧Chg [] H4 H':=hth H4 c4;show ∃ h',(kA (rec113c114 th1 th2 () H4) _)=_∧_;rw [qe5,aA];have O1:=O1.chg qk5 (by simp);have O2:=O2.chg qk5 (by simp);have c5:=c4.trans qk5;have qa31:H5.cell (h.next,31)=some (.slice el1.a el1.len el1.cap el1.sz):=O1.cell 31;have qb31:H5.cell (h1.next,31)=some (.slice el2.a el2.len el2.cap el2.sz):=O2.cell 31;simp only [Nat.zero_add,qa31,qb31,qA,cond_true,fA];obtain ⟨H6,qe6,qk6⟩:∃ H',rec113c114 el1 el2 () H5=some (true,H')∧Chg [] H5 H':=hel H5 c5;show ∃ h',(kA (rec113c114 el1 el2 () H5) _)=_∧_;rw [qe6,aA];have O1:=O1.chg qk6 (by simp);have O2:=O2.chg qk6 (by simp);have c6:=c5.trans qk6;exact ⟨_,rfl,c6⟩
theorem rB2 {x1 x2 y1 y2:SL} (hx:∀ H,Chg [] h H→∃ H',jA4 N x1 x2 () H=some (true,H')∧Chg [] H H') (hy:∀ H,Chg [] h H→∃ H',lA4 N y1 y2 () H=some (true,H')∧Chg [] H H'):∃ h',f30 N (x1,y1,()) (x2,y2,()) h=some (true,h')∧Chg [] h h':=by
 unfold f30;dsimp only;have o1:=wA h [(.slice x1.a x1.len x1.cap x1.sz),(.slice y1.a y1.len y1.cap y1.sz)];have c1:=vA h (.row [(.slice x1.a x1.len x1.cap x1.sz),(.slice y1.a y1.len y1.cap y1.sz)] .own);generalize h.push (.row [(.slice x1.a x1.len x1.cap x1.sz),(.slice y1.a y1.len y1.cap y1.sz)] .own)=h1 at *;have o2:=wA h1 [(.slice x2.a x2.len x2.cap x2.sz),(.slice y2.a y2.len y2.cap y2.sz)];have c2:=vA h1 (.row [(.slice x2.a x2.len x2.cap x2.sz),(.slice y2.a y2.len y2.cap y2.sz)] .own);have o1:=o1.chg c2 (by simp);generalize h1.push (.row [(.slice x2.a x2.len x2.cap x2.sz),(.slice y2.a y2.len y2.cap y2.sz)] .own)=H0 at *;have c0:=c1.trans c2
 clear c1 c2
 have qa0:H0.cell (h.next,0)=some (.slice x1.a x1.len x1.cap x1.sz):=o1.cell 0;have qb0:H0.cell (h1.next,0)=some (.slice x2.a x2.len x2.cap x2.sz):=o2.cell 0;simp only [Nat.zero_add,qa0,qb0,qA,cond_true,fA];obtain ⟨H1,qe1,qk1⟩:∃ H',jA4 N x1 x2 () H0=some (true,H')∧Chg [] H0 H':=hx H0 c0;show ∃ h',(kA (jA4 N x1 x2 () H0) _)=_∧_;rw [qe1,aA];have o1:=o1.chg qk1 (by simp);have o2:=o2.chg qk1 (by simp);have c1:=c0.trans qk1;have qa1:H1.cell (h.next,1)=some (.slice y1.a y1.len y1.cap y1.sz):=o1.cell 1;have qb1:H1.cell (h1.next,1)=some (.slice y2.a y2.len y2.cap y2.sz):=o2.cell 1;simp only [Nat.zero_add,qa1,qb1,qA,cond_true,fA];obtain ⟨H2,qe2,qk2⟩:∃ H',lA4 N y1 y2 () H1=some (true,H')∧Chg [] H1 H':=hy H1 c1;show ∃ h',(kA (lA4 N y1 y2 () H1) _)=_∧_;rw [qe2,aA];have o1:=o1.chg qk2 (by simp);have o2:=o2.chg qk2 (by simp);have c2:=c1.trans qk2;exact ⟨_,rfl,c2⟩
end
end Qp
namespace Qp
def isFd (d:D):Prop:=∃ m nm ty,d=fdD m nm ty∧isTy 65 ty
def isSt (d:D):Prop:=∃ pub nm lv fs a,d=nAv pub nm lv fs a∧lv.length≤1000∧fs.length≤1000∧∀ f∈fs,isFd f
def isLf (d:D):Prop:=∃ (nm:Bs) (xs:List Bs),d=vL nm (xs.map D.s)∧xs.length≤1000
def isOp (d:D):Prop:=∃ k n pl,d=opD k n pl∧isLf pl
def tAr (d:D):Prop:=∃ k a b op pl nm,∃ (ns:List Bs) (ag:List D),d=vaD k a b op pl nm (ns.map D.s) ag∧isOp a∧isOp b∧isLf pl∧ns.length≤1000∧ag.length≤1000∧∀ o∈ag,isOp o
def smT (k a:Int) (m:Bool) (nm:Bs) (ty:D) (hs:Bool) (pl va co:D) (th el:List D):D:=.t [.i k,.i a,.b m,.s nm,ty,.b hs,pl,va,co,.l th,.l el]
def isSm:Nat→D→Prop
 | 0,_=>False
 | n+1,d=>∃ k a m nm ty hs pl va co th el,d=smT k a m nm ty hs pl va co th el∧isTy 65 ty∧isLf pl∧tAr va∧isOp co∧th.length≤3000∧el.length≤3000∧(∀ s∈th,isSm n s)∧∀ s∈el,isSm n s
def fuT (pub:Bool) (nm:Bs) (lv ps:List D) (ty:D) (bd:List D) (a:Int):D:=.t [.b pub,.s nm,.l lv,.l ps,ty,.l bd,.i a]
def isFu (d:D):Prop:=∃ pub nm lv ps ty bd a,d=fuT pub nm lv ps ty bd a∧lv.length≤1000∧(∀ l∈lv,isLf l)∧ps.length≤1000∧(∀ p∈ps,isFd p)∧isTy 65 ty∧bd.length≤3000∧∀ s∈bd,isSm 65 s
section
variable {h:Heap} {V W:Nat→Prop} {cs:List AV}
theorem vAt {xs:List D} (x:∃ (s:SL) (vs:List AV),cs=[s.av]∧s.len=xs.length∧s.len≤s.cap∧(∀ A,s.blk=some A→V A)∧Sees h s vs∧De h V s.sz xs vs):∃ s:SL,cs=[s.av]∧Sl h V s xs:=by
 have:Dt h V (.l xs) cs:=by simp only [Dt];exact x
 exact dBg.1 this
theorem uAi {n:Nat} {d:D} (t:isTy n d) (x:Dt h V d cs):∃ r:TyV,cs=tyc r:=by
 cases n with
 | zero=>cases t
 | succ n=>
  obtain ⟨k,y,lv,el,rfl,_⟩:=t;obtain ⟨s1,s2,hc,_⟩:=eN.1 x;exact ⟨_,hc⟩
theorem jW {nm:Bs} {l:List D} (x:Dt h V (vL nm l) cs):∃ s:SL,cs=lfc (nm,s,())∧Sl h V s l:=by
 simp only [vL,Dt,Dp] at x;obtain ⟨_,_,rfl,e1,_,_,rfl,x2,rfl⟩:=x;subst e1;obtain ⟨s,rfl,hs⟩:=vAt x2;exact ⟨s,rfl,hs⟩
theorem dA7 {d:D} (t:isLf d) (x:Dt h V d cs):∃ r:LfV,cs=lfc r:=by
 obtain ⟨nm,xs,rfl,_⟩:=t;obtain ⟨s,hc,_⟩:=jW x;exact ⟨_,hc⟩
theorem jAy {m:Bool} {nm:Bs} {ty:D} {n:Nat} (t:isTy n ty) (x:Dt h V (fdD m nm ty) cs):∃ r:TyV,cs=fdc (eA2 m nm r)∧Dt h V ty (tyc r):=by
 simp only [fdD,Dt,Dp] at x;obtain ⟨_,_,rfl,e1,_,_,rfl,e2,_,_,rfl,x3,rfl⟩:=x;subst e1 e2;obtain ⟨r,rfl⟩:=uAi t x3;exact ⟨r,rfl,x3⟩
theorem uAr {pub:Bool} {nm:Bs} {lv:List Bs} {fs:List D} {a:Int} (x:Dt h V (nAv pub nm lv fs a) cs):∃ s1 s2:SL,cs=stc (pub,nm,s1,s2,a,())∧Sl h V s1 (lv.map D.s)∧Sl h V s2 fs:=by
 have x':=x;unfold nAv at x';simp only [Dt,Dp] at x';obtain ⟨_,_,rfl,e1,_,_,rfl,e2,_,_,rfl,x3,_,_,rfl,x4,_,_,rfl,e5,rfl⟩:=x';subst e1 e2 e5;obtain ⟨s1,rfl,h1⟩:=vAt x3;obtain ⟨s2,rfl,h2⟩:=vAt x4;exact ⟨s1,s2,rfl,h1,h2⟩
theorem vAi {k n:Int} {pl:D} (t:isLf pl) (x:Dt h V (opD k n pl) cs):∃ p:LfV,cs=opc (k,n,p.1,p.2.1,())∧Dt h V pl (lfc p):=by
 simp only [opD,Dt,Dp] at x;obtain ⟨_,_,rfl,e1,_,_,rfl,e2,_,_,rfl,x3,rfl⟩:=x;subst e1 e2;obtain ⟨r,rfl⟩:=dA7 t x3;exact ⟨r,rfl,x3⟩
theorem eA7 {d:D} (t:isOp d) (x:Dt h V d cs):∃ r:OpV,cs=opc r:=by
 obtain ⟨k,n,pl,rfl,ht⟩:=t;obtain ⟨p,hc,_⟩:=vAi ht x;exact ⟨_,hc⟩
theorem dQ {k op:Int} {a b pl:D} {nm:Bs} {ns ag:List D} (ta:isOp a) (tb:isOp b) (tp:isLf pl) (x:Dt h V (vaD k a b op pl nm ns ag) cs):∃ (ra rb:OpV) (rp:LfV) (s1 s2:SL),cs=vac (gE k ra rb op rp nm s1 s2)∧Dt h V a (opc ra)∧Dt h V b (opc rb)∧Dt h V pl (lfc rp)∧Sl h V s1 ns∧Sl h V s2 ag:=by
 simp only [vaD,Dt,Dp] at x;obtain ⟨_,_,rfl,e1,_,_,rfl,x2,_,_,rfl,x3,_,_,rfl,e4,_,_,rfl,x5,_,_,rfl,e6,_,_,rfl,x7,_,_,rfl,x8,rfl⟩:=x;subst e1 e4 e6;obtain ⟨ra,rfl⟩:=eA7 ta x2;obtain ⟨rb,rfl⟩:=eA7 tb x3;obtain ⟨rp,rfl⟩:=dA7 tp x5;obtain ⟨s1,rfl,h1⟩:=vAt x7;obtain ⟨s2,rfl,h2⟩:=vAt x8;exact ⟨ra,rb,rp,s1,s2,rfl,x2,x3,x5,h1,h2⟩
theorem tB2 {d:D} (t:tAr d) (x:Dt h V d cs):∃ r:VaV,cs=vac r:=by
 obtain ⟨k,a,b,op,pl,nm,ns,ag,rfl,ta,tb,tp,_⟩:=t;obtain ⟨ra,rb,rp,s1,s2,hc,_⟩:=dQ ta tb tp x;exact ⟨_,hc⟩
theorem kW {k a:Int} {m hs:Bool} {nm:Bs} {ty pl va co:D} {th el:List D} (tt:isTy 65 ty) (tp:isLf pl) (tv:tAr va) (to:isOp co) (x:Dt h V (smT k a m nm ty hs pl va co th el) cs):∃ (r:TyV) (p:LfV) (v:VaV) (o:OpV) (s1 s2:SL),cs=smc ⟨k,a,m,nm,r,hs,p,v,o,s1,s2⟩∧Dt h V ty (tyc r)∧Dt h V pl (lfc p)∧Dt h V va (vac v)∧Dt h V co (opc o)∧Sl h V s1 th∧Sl h V s2 el:=by
 simp only [smT,Dt,Dp] at x;obtain ⟨_,_,rfl,e1,_,_,rfl,e2,_,_,rfl,e3,_,_,rfl,e4,_,_,rfl,x5,_,_,rfl,e6,_,_,rfl,x7,_,_,rfl,x8,_,_,rfl,x9,_,_,rfl,x10,_,_,rfl,x11,rfl⟩:=x;subst e1 e2 e3 e4 e6;obtain ⟨r,rfl⟩:=uAi tt x5;obtain ⟨p,rfl⟩:=dA7 tp x7;obtain ⟨v,rfl⟩:=tB2 tv x8;obtain ⟨o,rfl⟩:=eA7 to x9;obtain ⟨s1,rfl,h1⟩:=vAt x10;obtain ⟨s2,rfl,h2⟩:=vAt x11;exact ⟨r,p,v,o,s1,s2,rfl,x5,x7,x8,x9,h1,h2⟩
theorem wAi {pub:Bool} {nm:Bs} {lv ps bd:List D} {ty:D} {a:Int} (tt:isTy 65 ty) (x:Dt h V (fuT pub nm lv ps ty bd a) cs):∃ (s1 s2 s3:SL) (r:TyV),cs=fuc ⟨pub,nm,s1,s2,r,s3,a⟩∧Sl h V s1 lv∧Sl h V s2 ps∧Dt h V ty (tyc r)∧Sl h V s3 bd:=by
 simp only [fuT,Dt,Dp] at x;obtain ⟨_,_,rfl,e1,_,_,rfl,e2,_,_,rfl,x3,_,_,rfl,x4,_,_,rfl,x5,_,_,rfl,x6,_,_,rfl,e7,rfl⟩:=x;subst e1 e2 e7;obtain ⟨r,rfl⟩:=uAi tt x5;obtain ⟨s1,rfl,h1⟩:=vAt x3;obtain ⟨s2,rfl,h2⟩:=vAt x4;obtain ⟨s3,rfl,h3⟩:=vAt x6;exact ⟨s1,s2,s3,r,rfl,h1,h2,x5,h3⟩
end
theorem vU (n:Nat):Rec [(.int .i64),.str,.slice,.slice] 4 tyc (isTy n):=⟨fun _=>rfl,fun r K=>vAk r K,fun t x=>uAi t x⟩
theorem uB2:Rec [.bool,.str,(.int .i64),.str,.slice,.slice] 6 fdc isFd:=⟨fun _=>rfl,fun r K=>nBe r K,fun t x=>by
 obtain ⟨m,nm,ty,rfl,ht⟩:=t;obtain ⟨r,hc,_⟩:=jAy ht x;exact ⟨_,hc⟩⟩
theorem fAm:Rec [.bool,.str,.slice,.slice,(.int .i64)] 5 stc isSt:=⟨fun _=>rfl,fun r K=>oBe r K,fun t x=>by
 obtain ⟨pub,nm,lv,fs,a,rfl,_⟩:=t;obtain ⟨s1,s2,hc,_⟩:=uAr x;exact ⟨_,hc⟩⟩
theorem fA7:Rec [.str,.slice] 2 lfc isLf:=⟨fun _=>rfl,fun r K=>tAe r K,fun t x=>dA7 t x⟩
theorem vAr:Rec [(.int .i64),(.int .i64),.str,.slice] 4 opc isOp:=⟨fun _=>rfl,fun r K=>gAb r K,fun t x=>eA7 t x⟩
theorem iR (n:Nat):Rec [(.int .i64),(.int .i64),.bool,.str,(.int .i64),.str,.slice,.slice,.bool,.str,.slice,(.int .i64),(.int .i64),(.int .i64),.str,.slice,(.int .i64),(.int .i64),.str,.slice,(.int .i64),.str,.slice,.str,.slice,.slice,(.int .i64),(.int .i64),.str,.slice,.slice,.slice] 32 smx (isSm n):=⟨fun _=>rfl,fun r K=>yJ r K,fun t x=>by
 cases n with
 | zero=>cases t
 | succ n=>
  obtain ⟨k,a,m,nm,ty,hs,pl,va,co,th,el,rfl,t1,t2,t3,t4,_⟩:=t;obtain ⟨r,p,v,o,s1,s2,hc,_⟩:=kW t1 t2 t3 t4 x;exact ⟨_,hc⟩⟩
theorem gAm:Rec [.bool,.str,.slice,.slice,(.int .i64),.str,.slice,.slice,.slice,(.int .i64)] 10 fux isFu:=⟨fun _=>rfl,fun r K=>uBe r K,fun t x=>by
 obtain ⟨pub,nm,lv,ps,ty,bd,a,rfl,_,_,_,_,ht,_⟩:=t;obtain ⟨s1,s2,s3,r,hc,_⟩:=wAi ht x;exact ⟨_,hc⟩⟩
theorem Rec.inj {tys:List CTy} {n:Nat} {c:aP tys→List AV} {P:D→Prop} (R:Rec tys n c P) {r r':aP tys} (h:c r=c r'):r=r':=by
 have h1:=R.agg r (fun x=>some x);rw [h,R.agg] at h1;exact (Option.some.inj h1).symm
section
variable {N:Nat} {tys:List CTy} {n:Nat} {c:aP tys→List AV} {z:List AV} {P:D→Prop}
theorem mA4 (R:Rec tys n c P) (hz:z.length=n) {F:aP tys→aP tys→Heap→Option (Bool×Heap)} {L:Nat→SL→Unit→Bool→SL→Int→Int→Heap→Option (Out×zA1×Heap)} (hs:∀ M v1 v6 v15 v16 v17 h,L (M+1) v1 () v6 v15 v16 v17 h=pAr tys n c z F (L M) v1 v6 v15 v16 v17 h)
  {xs:List D} (hP:∀ x∈xs,P x) (hF:∀ x∈xs,∀ r1 r2 H V W,Dt H V x (c r1)→Dt H W x (c r2)→∃ H',F r1 r2 H=some (true,H')∧Chg [] H H') (hl:xs.length≤2000000) (hN:xs.length<N) {G:Option (Bool×Heap)} {h:Heap} {V W:Nat→Prop} {s1 s2:SL} (x1:Sl h V s1 xs) (x2:Sl h W s2 xs)
  (hG:G=(bif !pA (Int.ofNat s1.len) (Int.ofNat s2.len) then some (false,h) else eE (L N s2 () false s1 (Int.ofNat s1.len) 0 h) fun o17 (j18:zA1) h19=>bif mD o17 (.exit 0) then some (true,h19) else some (j18.1,h19))):∃ h',G=some (true,h')∧Chg [] h h':=by
 obtain ⟨h',e,c'⟩:=pB2 R hz hs hP hF hl N 0 h V W s1 s2 (Nat.zero_le _) (by omega) x1 x2;rw [show ((0:Nat):Int)=0 from rfl] at e;refine ⟨h',?_,c'⟩;rw [hG,iAy x1 x2,Bool.not_true,cond_false,x1.len,show Int.ofNat xs.length=(xs.length:Int) from rfl,e];rfl
end
section
variable {N:Nat} {h:Heap} {V W:Nat→Prop}
theorem gA7 {d:D} (t:isLf d) {p1 p2:LfV} (x1:Dt h V d (lfc p1)) (x2:Dt h W d (lfc p2)) (hN:3001≤N) {H:Heap} (c:Chg [] h H):∃ H',f164 N (p1.1,p1.2.1,()) (p2.1,p2.2.1,()) H=some (true,H')∧Chg [] H H':=by
 obtain ⟨nm,xs,rfl,hl⟩:=t;obtain ⟨s1,hc1,y1⟩:=jW x1;obtain ⟨s2,hc2,y2⟩:=jW x2;have e1:=fA7.inj hc1;have e2:=fA7.inj hc2;subst e1 e2;exact rAr (y1.chg c (by simp)) (y2.chg c (by simp)) (by omega) (by omega)
theorem gA1 {d:D} (t:isOp d) {r1 r2:OpV} (x1:Dt h V d (opc r1)) (x2:Dt h W d (opc r2)) (hN:3001≤N) {H:Heap} (c:Chg [] h H):∃ H',f166 N (r1.1,r1.2.1,r1.2.2.1,r1.2.2.2.1,()) (r2.1,r2.2.1,r2.2.2.1,r2.2.2.2.1,()) H=some (true,H')∧Chg [] H H':=by
 obtain ⟨k,n,pl,rfl,ht⟩:=t;obtain ⟨p1,hc1,y1⟩:=vAi ht x1;obtain ⟨p2,hc2,y2⟩:=vAi ht x2;have e1:=vAr.inj hc1;have e2:=vAr.inj hc2;subst e1 e2;exact wAv fun H' c'=>gA7 ht y1 y2 hN (c.trans c')
theorem vB2 {ag:List D} (t:∀ o∈ag,isOp o) (hl:ag.length≤3000) {s1 s2:SL} (x1:Sl h V s1 ag) (x2:Sl h W s2 ag) (hN:3001≤N) {H:Heap} (c:Chg [] h H):∃ H',yL N s1 s2 () H=some (true,H')∧Chg [] H H':=by
 unfold yL;obtain ⟨H',e,c'⟩:=mA4 (N:=N) vAr (z:=opc (0,0,[],sl0,())) rfl (L:=fA1 N) (F:=fun a b h=>f166 N (a.1,a.2.1,a.2.2.1,a.2.2.2.1,()) (b.1,b.2.1,b.2.2.1,b.2.2.2.1,()) h) (fun _ _ _ _ _ _ _=>rfl) t (fun x hx r1 r2 H V W y1 y2=>gA1 (t x hx) y1 y2 hN (Chg.refl _ _)) (by omega) (by omega) (x1.chg c (by simp)) (x2.chg c (by simp)) (G:=bA7 N s1 s2 () H) rfl;rw [e];exact ⟨H',rfl,c'⟩
theorem lAf {d:D} (t:tAr d) {v1 v2:VaV} (x1:Dt h V d (vac v1)) (x2:Dt h W d (vac v2)) (hN:3001≤N) {H:Heap} (c:Chg [] h H):∃ H',f165 N v1 v2 H=some (true,H')∧Chg [] H H':=by
 obtain ⟨k,a,b,op,pl,nm,ns,ag,rfl,ta,tb,tp,hn,hg,tg⟩:=t;obtain ⟨ra1,rb1,rp1,n1,g1,hc1,a1,b1,p1,y1,z1⟩:=dQ ta tb tp x1;obtain ⟨ra2,rb2,rp2,n2,g2,hc2,a2,b2,p2,y2,z2⟩:=dQ ta tb tp x2;have hinj:∀ {r r':VaV},vac r=vac r'→r=r':=fun {r r'} h=>by
  have h1:=tAm r (fun x=>some x);rw [h,tAm] at h1;exact (Option.some.inj h1).symm
 have e1:=hinj hc1;have e2:=hinj hc2;subst e1 e2;exact yAv (fun H' c'=>gA1 ta a1 a2 hN (c.trans c')) (fun H' c'=>gA1 tb b1 b2 hN (c.trans c')) (fun H' c'=>gA7 tp p1 p2 hN (c.trans c'))
  (fun H' c'=>mBg (c.trans c') y1 y2 (by omega) (by omega)) (fun H' c'=>vB2 tg (by omega) z1 z2 hN (c.trans c'))
theorem wB2 (hN:3001≤N):∀ (n M:Nat) (d:D) (r1 r2:TyV) (h:Heap) (V W:Nat→Prop),3 * n≤M→isTy n d→Dt h V d (tyc r1)→Dt h W d (tyc r2)→∃ H',f112 N M (r1.1,r1.2.1,r1.2.2.1,r1.2.2.2.1,()) (r2.1,r2.2.1,r2.2.2.1,r2.2.2.2.1,()) h=some (true,H')∧Chg [] h H':=by
 intro n
 induction n with
 | zero=>intro M d r1 r2 h V W _ t;cases t
 | succ n ih=>
  intro M d r1 r2 h V W hM t x1 x2;obtain ⟨M,rfl⟩:∃ m,M=m+3:=⟨M-3,by omega⟩;obtain ⟨k,x,lv,el,rfl,hlv,hel,tel⟩:=t;obtain ⟨l1,g1,hc1,y1,z1⟩:=eN.1 x1;obtain ⟨l2,g2,hc2,y2,z2⟩:=eN.1 x2;have e1:=(vU 1).inj hc1;have e2:=(vU 1).inj hc2;subst e1 e2;rw [jAr];refine aAw (fun H c=>mBg c y1 y2 (by omega) (by omega)) (fun H c=>?_)
  rw [wA6];unfold uU;obtain ⟨H',e,c'⟩:=mA4 (N:=N) (vU n) (z:=tyc (0,[],sl0,sl0,())) rfl (L:=eA1 N (f112 N M) (mT N M) (nT N M)) (F:=fun a b h=>f112 N M (a.1,a.2.1,a.2.2.1,a.2.2.2.1,()) (b.1,b.2.1,b.2.2.1,b.2.2.2.1,()) h) (fun _ _ _ _ _ _ _=>rfl) tel (fun x hx r1 r2 H V W y1 y2=>ih M x r1 r2 H V W (by omega) (tel x hx) y1 y2) (by omega) (by omega) (z1.chg c (by simp)) (z2.chg c (by simp)) (G:=nT N (M+1) g1 g2 () H) rfl;rw [e];exact ⟨H',rfl,c'⟩
theorem yAi {n:Nat} {d:D} (t:isTy n d) (hn:n≤100) {r1 r2:TyV} (x1:Dt h V d (tyc r1)) (x2:Dt h W d (tyc r2)) (hN:3001≤N) {H:Heap} (c:Chg [] h H):∃ H',f112 N N (r1.1,r1.2.1,r1.2.2.1,r1.2.2.2.1,()) (r2.1,r2.2.1,r2.2.2.1,r2.2.2.2.1,()) H=some (true,H')∧Chg [] H H':=
 wB2 hN n N d r1 r2 H V W (by omega) t (Dt.chg c (by simp) x1) (Dt.chg c (by simp) x2)
theorem wAr (hN:3001≤N):∀ (n M:Nat) (xs:List D) (s1 s2:SL) (h:Heap) (V W:Nat→Prop),3 * n+3≤M→(∀ s∈xs,isSm n s)→xs.length≤3000→Sl h V s1 xs→Sl h W s2 xs→∃ H',aM N M s1 s2 () h=some (true,H')∧Chg [] h H':=by
 intro n
 induction n with
 | zero=>
  intro M xs s1 s2 h V W hM t hl x1 x2;obtain ⟨M,rfl⟩:∃ m,M=m+2:=⟨M-2,by omega⟩;rw [oT];unfold pO;obtain ⟨H',e,c'⟩:=mA4 (N:=N) (iR 0) (z:=smx (smv (bE 0))) rfl (L:=fR N (aM N M) (f114 N M) (bM N M)) (F:=fun a b h=>f114 N M a b h) (fun _ _ _ _ _ _ _=>rfl) t (fun x hx r1 r2 H V W y1 y2=>by cases t x hx) (by omega) (by omega) x1 x2 (G:=bM N (M+1) s1 s2 () h) rfl;rw [e];exact ⟨H',rfl,c'⟩
 | succ n ih=>
  intro M xs s1 s2 h V W hM t hl x1 x2;obtain ⟨M,rfl⟩:∃ m,M=m+3:=⟨M-3,by omega⟩;rw [oT];unfold pO;obtain ⟨H',e,c'⟩:=mA4 (N:=N) (iR (n+1)) (z:=smx (smv (bE 0))) rfl (L:=fR N (aM N (M+1)) (f114 N (M+1)) (bM N (M+1))) (F:=fun a b h=>f114 N (M+1) a b h) (fun _ _ _ _ _ _ _=>rfl) t (fun x hx r1 r2 H V W y1 y2=>by
   obtain ⟨k,a,m,nm,ty,hs,pl,va,co,th,el,rfl,t1,t2,t3,t4,h1,h2,t5,t6⟩:=t x hx;obtain ⟨q1,p1,v1,o1,th1,el1,hc1,z1,pl1,va1,co1,u1,w1⟩:=kW t1 t2 t3 t4 y1;obtain ⟨q2,p2,v2,o2,th2,el2,hc2,z2,pl2,va2,co2,u2,w2⟩:=kW t1 t2 t3 t4 y2;have e1:=(iR 1).inj hc1;have e2:=(iR 1).inj hc2;subst e1 e2;show ∃ H',f114 N (M+1) _ _ H=_∧_;rw [oAb];exact tAi (fun H' c=>yAi t1 (by omega) z1 z2 hN c) (fun H' c=>gA7 t2 pl1 pl2 hN c) (fun H' c=>lAf t3 va1 va2 hN c) (fun H' c=>gA1 t4 co1 co2 hN c)
    (fun H' c=>ih M th th1 th2 H' V W (by omega) t5 h1 (u1.chg c (by simp)) (u2.chg c (by simp))) (fun H' c=>ih M el el1 el2 H' V W (by omega) t6 h2 (w1.chg c (by simp)) (w2.chg c (by simp)))) (by omega) (by omega) x1 x2 (G:=bM N (M+2) s1 s2 () h) rfl
  rw [e];exact ⟨H',rfl,c'⟩
end
end Qp
namespace Ai
section
variable {E:Env} {h h':Heap} {s:SL} {n:Nat} {vs:List AV} {M:List Nat}
end
end Ai
namespace Qp
theorem yB2 {h:Heap} {A:Nat} {cs:List AV} (x:h.own A cs) {j:Nat} {vs:List AV} (hj:j+vs.length≤cs.length) {ds:List AV} (hd:cs.take j++vs++cs.drop (j+vs.length)=ds):h.store (A,j) vs=some (h.put A (.row ds .own)):=by
 have hw:h.t.get A=some (.row cs .own):=x.1;simp only [Heap.store,Heap.rowW,hw,lAd cs vs j hj,hd]
section
variable {h h0:Heap} {V W:Nat→Prop}
end
section
variable {N:Nat}
end
end Qp
namespace Qp
structure WR (h0 H:Heap) (cs1 cs2:List AV):Prop where
 o1:H.own h0.next cs1
 o2:H.own (h0.next+1) cs2
 c:Chg [] h0 H
 nx:h0.next+2≤H.next
section
variable {h0 H H':Heap} {cs1 cs2:List AV}
end
section
variable {N:Nat} {h:Heap} {V:Nat→Prop}
end
end Qp
namespace Qp
abbrev MP:=Heap→(Nat→Prop)→SL→List D→Prop
structure MeP (M:MP) (h:Heap) (S:Nat→Prop) (r:SmR) (ty pl va co:D) (th el:List D) (S0 S1 S2:Nat→Prop):Prop where
 ty:Dt h S0 ty (tyc r.ty)
 pl:Dt h S0 pl (lfc r.pl)
 va:Dt h S0 va (vac r.va)
 co:Dt h S0 co (opc r.co)
 th:M h S1 r.th th
 el:M h S2 r.el el
 i0:∀ C,S0 C→S C
 i1:∀ C,S1 C→S C
 i2:∀ C,S2 C→S C
 d01:∀ C,S0 C→¬ S1 C
 d02:∀ C,S0 C→¬ S2 C
 d12:∀ C,S1 C→¬ S2 C
section
variable {M:MP} {h h':Heap} {S W:Nat→Prop} {c vs:List AV} {x:D} {xs:List D} {L:List Nat}
end
theorem rJ {h:Heap} {V:Nat→Prop} {r:SmR} {ty pl va co:D} {th el:List D} (x1:Dt h V ty (tyc r.ty)) (x2:Dt h V pl (lfc r.pl)) (x3:Dt h V va (vac r.va)) (x4:Dt h V co (opc r.co)) (x5:Sl h V r.th th) (x6:Sl h V r.el el):Dt h V (smT r.k r.at_ r.m r.nm ty r.has pl va co th el) (smc r):=
 mAv ⟨[.int .i64 r.k],_,rfl,jAl _ _ _,[.int .i64 r.at_],_,rfl,jAl _ _ _,[.bool r.m],_,rfl,pB1 _ _ _,[.str r.nm],_,rfl,pJ _ _ _,tyc r.ty,_,rfl,x1,[.bool r.has],_,rfl,pB1 _ _ _,lfc r.pl,_,rfl,x2,vac r.va,_,rfl,x3,opc r.co,_,rfl,x4,[SL.av r.th],_,rfl,bP.2 x5,[SL.av r.el],[],rfl,bP.2 x6,rfl⟩
def bAw:Nat→D→D
 | n+1,.t [k,_,m,nm,ty,hs,pl,va,co,.l th,.l el]=>.t [k,.i 0,m,nm,ty,hs,pl,va,co,.l (th.map (bAw n)),.l (el.map (bAw n))]
 | _,d=>d
end Qp
namespace Qp
section
variable {N:Nat} {h:Heap} {V:Nat→Prop}
end
end Qp
namespace Qp
structure W1 (h0 H:Heap) (cs:List AV):Prop where
 o:H.own h0.next cs
 c:Chg [] h0 H
 nx:h0.next+1≤H.next
section
variable {h0 H H':Heap} {cs:List AV}
theorem W1.call (w:W1 h0 H cs) (c:Chg [] H H'):W1 h0 H' cs:=⟨w.o.chg c (by simp),w.c.trans c,Nat.le_trans w.nx c.next⟩
theorem W1.set (w:W1 h0 H cs) {j:Nat} {vs ds:List AV} (hj:j+vs.length≤cs.length) (hd:cs.take j++vs++cs.drop (j+vs.length)=ds):∃ H',(∀ {β:Type} (K:Heap→Option β),uA (H.store (h0.next,j) vs) K=K H')∧W1 h0 H' ds∧Chg [h0.next] H H'∧H'.next=H.next:=
 ⟨_,fun K=>by rw [yB2 w.o hj hd,bA],⟨iB w.o ds,w.c.put (.inr (Nat.le_refl _)) _,w.nx⟩,w.o.put ds,rfl⟩
end
section
variable {N:Nat}
end
end Qp
namespace Qp
section
variable {N:Nat}
end
end Qp
namespace Qp
section
variable {N:Nat} {h:Heap} {V:Nat→Prop}
end
end Qp
namespace Qp
section
variable {N:Nat} {h3:Heap} {V:Nat→Prop} {R:Nat}
end
end Qp
namespace Qp
section
variable {σ α β γ:Type} {R:σ→σ→Prop} {Q:α→α→Prop} {Q2:β→β→Prop}
end
section
variable {U V:List Tok} {d:Nat} {α:Type}
def Qs (n:Nat) (x y:D):Prop:=bAw n x=bAw n y
end
end Qp
namespace Qp
def pT (T:List Tok) (pub:Bool) (j:Nat):ItS:=
 let a:Int:=((tk T j).2.2:Int)
 if isS T [115,116,114,117,99,116] j=true then ⟨some (true,(uF T pub a (j+1,none)).1),(uF T pub a (j+1,none)).2.1,inS a (uF T pub a (j+1,none)).2.2,0⟩
 else if isS T [102,110] j=true then ⟨some (false,(gJ T pub a (j+1,none)).1),(gJ T pub a (j+1,none)).2.1.1,inS a (gJ T pub a (j+1,none)).2.1.2,(gJ T pub a (j+1,none)).2.2⟩
 else ⟨none,j,some (21,a,none),0⟩
theorem mAf (T:List Tok) (i:Nat):cI T (i,none)=if isS T [112,117,98] i=true then pT T true (i+1) else pT T false i:=by
 have h:∀ (pub:Bool) (j:Nat),(let at_:Int:=((tk T j).2.2:Int)
   let b:=qB T [115,116,114,117,99,116] (j,none)
   if b.1=true then (⟨some (true,(uF T pub at_ b.2).1),(uF T pub at_ b.2).2.1,inS at_ (uF T pub at_ b.2).2.2,0⟩:ItS) else
   let f:=qB T [102,110] b.2
   if f.1=true then ⟨some (false,(gJ T pub at_ f.2).1),(gJ T pub at_ f.2).2.1.1,inS at_ (gJ T pub at_ f.2).2.1.2,(gJ T pub at_ f.2).2.2⟩
   else ⟨none,(cF T 21 f.2).1,oAl (cF T 21 f.2).2,0⟩)=pT T pub j:=by
  intro pub j;unfold pT
  by_cases h1:isS T [115,116,114,117,99,116] j=true
  ·simp only [qB,h1,if_true]
  ·by_cases h2:isS T [102,110] j=true
   ·simp only [qB,h1,Bool.false_eq_true,if_false,h2,if_true]
   ·simp only [qB,h1,Bool.false_eq_true,if_false,h2,cF,oAl]
 unfold cI
 by_cases h1:isS T [112,117,98] i=true
 ·have e:qB T [112,117,98] (i,none)=(true,(i+1,none)):=by simp only [qB,h1,if_true]
  rw [if_pos h1,← h true (i+1),e]
 ·have e:qB T [112,117,98] (i,none)=(false,(i,none)):=by simp only [qB,h1,Bool.false_eq_true,if_false]
  rw [if_neg h1,← h false i,e]
section
variable {T' T:List Tok} {E:Nat} {Bd:Int×Int→Prop}
theorem yAr {T:List Tok} {pub:Bool} {j:Nat} (h:(pT T pub j).e=none):(pT T pub j).d.isSome=true:=by
 unfold pT at h ⊢;dsimp only at h ⊢
 split
 ·rfl
 ·rename_i h1
  split
  ·rfl
  ·rename_i h2
   rw [if_neg h1,if_neg h2] at h;cases h
theorem vB9 {T:List Tok} {i:Nat} (h:(cI T (i,none)).e=none):(cI T (i,none)).d.isSome=true:=by
 rw [mAf] at h ⊢
 split
 ·rename_i h1;rw [if_pos h1] at h;exact yAr h
 ·rename_i h1;rw [if_neg h1] at h;exact yAr h
theorem aB3 {d:Option (Bool×D)} (h:d.isSome=true):(oA6 d []).length+(pA6 d []).length=1:=by
 obtain ⟨⟨b,x⟩,rfl⟩:=Option.isSome_iff_exists.1 h;cases b <;> rfl
end
end Qp
namespace Qp
section
variable {U V:List Tok} {d n:Nat} {α β:Type}
end
end Qp
namespace Qp
section
variable {T:List Tok}
theorem kAy {P:D→Prop} {one:St→D×St} (h:∀ σ,P (one σ).1) (sep:Bs):∀ (g:Nat) (σ:St),(∀ x∈(fP T one sep g σ).1,P x)∧(fP T one sep g σ).1.length≤g
 | 0,σ=>⟨by simp [fP],by simp [fP]⟩
 | g+1,σ=>by
  simp only [fP]
  split
  ·obtain ⟨h1,h2⟩:=kAy h sep g (qB T sep (one σ).2).2
   refine ⟨fun x hx=>?_,by simp only [List.length_cons];omega⟩;rcases List.mem_cons.1 hx with rfl | hx
   ·exact h σ
   ·exact h1 x hx
  ·refine ⟨fun x hx=>?_,by simp⟩
   rw [List.mem_singleton.1 hx];exact h σ
theorem wU {P:D→Prop} {one:St→D×St} (h:∀ σ,P (one σ).1) (sep:Bs) (σ:St):(∀ x∈(yD T one sep σ).1,P x)∧(yD T one sep σ).1.length≤64:=by
 unfold yD
 split
 ·exact kAy h sep 64 _
 ·exact ⟨by simp,by simp⟩
theorem nAf:∀ {l:List D},(∀ x∈l,∃ b:Bs,x=D.s b)→∃ xs:List Bs,l=xs.map D.s
 | [],_=>⟨[],rfl⟩
 | x::r,h=>by
  obtain ⟨b,hb⟩:=h x (by simp);obtain ⟨xs,hx⟩:=nAf (l:=r) (fun y hy=>h y (by simp [hy]));exact ⟨b::xs,by rw [hb,hx];rfl⟩
theorem dG:isLf pl0:=⟨[],[],rfl,by simp⟩
theorem vF:isOp op0:=⟨0,0,_,rfl,dG⟩
theorem jR:isTy 65 ty0D:=⟨0,[],[],[],rfl,by simp,by simp,by simp⟩
theorem aAs {k op:Int} {a b pl:D} {nm:Bs} (h1:isOp a) (h2:isOp b) (h3:isLf pl):tAr (vaD k a b op pl nm [] []):=⟨k,a,b,op,pl,nm,[],[],rfl,h1,h2,h3,by simp,by simp,by simp⟩
theorem yU:tAr va00:=aAs vF vF dG
theorem iA1 (σ:St):isTy 65 (fL T 64 σ).1:=qAp T 64 σ
theorem bB3 (σ:St):isFd (aH T σ).1:=⟨_,_,_,rfl,iA1 _⟩
theorem cB3 (σ:St):isFd (bG T σ).1:=⟨_,_,_,rfl,iA1 _⟩
theorem cBf (σ:St):isLf (eY T σ).1:=by
 simp only [eY]
 split
 ·obtain ⟨h1,h2⟩:=wU (T:=T) (one:=nA6 T 3) (P:=fun x=>∃ b:Bs,x=D.s b) (fun σ=>⟨_,rfl⟩) [43] (qB T [58] (aC T 3 σ).2).2
  obtain ⟨xs,hx⟩:=nAf h1;rw [hx] at h2 ⊢;rw [List.length_map] at h2;exact ⟨_,xs,rfl,by omega⟩
 ·exact ⟨_,[],rfl,by simp⟩
theorem jA1:∀ (g:Nat) (σ:St),(fJ T g σ).1.length≤g
 | 0,σ=>by simp only [fJ];split <;> simp
 | g+1,σ=>by
  simp only [fJ]
  split
  ·split
   ·have:=jA1 g (qB T [42] (qB T [46] σ).2).2
    simp only [List.length_cons];omega
   ·have:=jA1 g (aC T 1 (qB T [42] (qB T [46] σ).2).2).2
    simp only [List.length_cons];omega
  ·simp
theorem iA7 (σ:St):isLf (dF T σ).1:=⟨_,_,rfl,by have:=jA1 (T:=T) 64 (aC T 1 σ).2;omega⟩
theorem qT (σ:St):isOp (eF T σ).1:=by
 simp only [eF]
 split
 ·exact ⟨_,_,_,rfl,dG⟩
 ·split
  ·exact ⟨_,_,_,rfl,dG⟩
  ·split
   ·exact ⟨_,_,_,rfl,dG⟩
   ·exact ⟨_,_,_,rfl,iA7 _⟩
theorem lAy (σ:St):(∀ x∈(iT T σ).1,isOp x)∧(iT T σ).1.length≤64:=by
 simp only [iT]
 split
 ·exact ⟨by simp,by simp⟩
 ·exact wU qT _ _
theorem wB9 (σ:St):(∀ x∈(rU T σ).1,∃ b:Bs,∃ o,x=.t [.s b,o]∧isOp o)∧(rU T σ).1.length≤64:=by
 simp only [rU]
 split
 ·exact ⟨by simp,by simp⟩
 ·exact wU (one:=wA0 T) (fun σ=>⟨_,_,rfl,qT _⟩) _ _
theorem dB3 (σ:St):tAr (jT T σ).1:=by
 simp only [jT]
 split
 ·obtain ⟨h1,h2⟩:=wB9 (T:=T) (wH T σ).2
  obtain ⟨xs,hx⟩:=nAf (l:=((rU T (wH T σ).2).1.map d1)) (fun y hy=>by
   obtain ⟨z,hz,rfl⟩:=List.mem_map.1 hy;obtain ⟨b,o,rfl,_⟩:=h1 z hz;exact ⟨b,rfl⟩)
  rw [hx];have hl:xs.length=(rU T (wH T σ).2).1.length:=by rw [← List.length_map (f:=D.s),← hx,List.length_map]
  exact ⟨_,_,_,_,_,_,xs,_,rfl,vF,vF,dG,by omega,by rw [List.length_map];omega,fun o ho=>by
   obtain ⟨z,hz,rfl⟩:=List.mem_map.1 ho;obtain ⟨b,o,rfl,h⟩:=h1 z hz;exact h⟩
 ·obtain ⟨h1,h2⟩:=lAy (T:=T) (wH T σ).2
  exact ⟨_,_,_,_,_,_,[],_,rfl,vF,vF,dG,by simp,by omega,h1⟩
theorem nBg:∀ (l:List Bs) (k:Int) (σ:St),(opS T l k σ).1=none∨∃ q o,(opS T l k σ).1=some (q,o)∧isOp o
 | [],k,σ=>.inl rfl
 | s::r,k,σ=>by
  simp only [opS]
  split
  ·exact .inr ⟨_,_,rfl,qT _⟩
  ·exact nBg r (k+1) _
theorem oAf (σ:St):tAr (cG T σ).1:=by
 simp only [cG]
 split
 ·exact aAs vF vF (iA7 _)
 ·split
  ·exact aAs (qT _) vF dG
  ·split
   ·exact dB3 _
   ·rcases nBg (T:=T) jM 1 (eF T (qB T [33] (qB T [38] σ).2).2).2 with h | ⟨q,o,h,ho⟩
    ·rw [h];exact aAs (qT _) vF dG
    ·rw [h];exact aAs (qT _) ho dG
theorem rT {n:Nat} {k a:Int} {m:Bool} {nm:Bs} {ty:D} {hs:Bool} {pl va co:D} (h1:isTy 65 ty) (h2:isLf pl) (h3:tAr va) (h4:isOp co):isSm (n+1) (smT k a m nm ty hs pl va co [] []):=⟨k,a,m,nm,ty,hs,pl,va,co,[],[],rfl,h1,h2,h3,h4,by simp,by simp,by simp,by simp⟩
theorem bAs {n:Nat} {k a:Int} {m:Bool} {nm:Bs} {ty:D} {hs:Bool} {pl va co:D} {th el:List D} (h1:isTy 65 ty) (h2:isLf pl) (h3:tAr va) (h4:isOp co) (h5:(∀ s∈th,isSm n s)∧th.length≤3000) (h6:(∀ s∈el,isSm n s)∧el.length≤3000):isSm (n+1) (smT k a m nm ty hs pl va co th el):=⟨k,a,m,nm,ty,hs,pl,va,co,th,el,rfl,h1,h2,h3,h4,h5.2,h6.2,h5.1,h6.1⟩
theorem dBf {n:Nat} (a:Int) (σ:St):isSm (n+1) (kAl T a σ).1:=by
 simp only [kAl]
 split
 ·exact rT (iA1 _) dG (oAf _) vF
 ·exact rT (iA1 _) dG yU vF
theorem eB3 {n:Nat} (a:Int) (σ:St):isSm (n+1) (wE T a σ).1:=by
 simp only [wE]
 split
 ·exact rT jR dG yU vF
 ·split
  ·exact rT jR dG yU vF
  ·split
   ·split
    ·exact rT jR dG yU vF
    ·exact rT jR dG (oAf _) vF
   ·split
    ·exact rT jR (iA7 _) yU vF
    ·split
     ·rename_i hq
      obtain ⟨h1,h2⟩:=lAy (T:=T) (wH T (qB T [100,114,111,112] (qB T [114,101,116,117,114,110] (qB T [99,111,110,116,105,110,117,101] (qB T [98,114,101,97,107] σ).2).2).2).2).2;exact rT jR dG ⟨_,_,_,_,_,_,[],_,rfl,vF,vF,dG,by simp,by omega,h1⟩ vF
     ·exact rT jR (iA7 _) (oAf _) vF
theorem cAs {n:Nat}:(∀ s∈([]:List D),isSm n s)∧([]:List D).length≤3000:=⟨by simp,by simp⟩
theorem yB9 {n:Nat} {blk:SC→List D×SC} (hb:∀ s,(∀ x∈(blk s).1,isSm n x)∧(blk s).1.length≤3000) (s:SC):isSm (n+1) (mN T blk s).1:=by
 simp only [mN]
 split
 ·exact dBf _ _
 ·split
  ·split
   ·exact bAs jR dG yU (qT _) (hb _) (hb _)
   ·exact bAs jR dG yU (qT _) (hb _) cAs
  ·split
   ·exact bAs jR dG yU (qT _) (hb _) cAs
   ·split
    ·exact bAs jR dG yU vF (hb _) cAs
    ·split
     ·exact bAs jR dG yU vF (hb _) cAs
     ·exact eB3 _ _
theorem dAs {P:D→Prop} {one:SC→D×SC} (h:∀ s,P (one s).1):∀ (f:Nat) (s:SC),(∀ x∈(cE T one f s).1.1,P x)∧(cE T one f s).1.1.length≤f
 | 0,s=>⟨by simp [cE],by simp [cE]⟩
 | f+1,s=>by
  simp only [cE]
  split
  ·exact ⟨by simp,by simp⟩
  ·split
   ·exact ⟨by simp,by simp⟩
   ·split
    ·exact ⟨by simp,by simp⟩
    ·obtain ⟨h1,h2⟩:=dAs h f (one (s.1,s.2+1)).2
     refine ⟨fun x hx=>?_,by simp only [List.length_cons];omega⟩;rcases List.mem_cons.1 hx with rfl | hx
     ·exact h _
     ·exact h1 x hx
theorem eAs:∀ (g:Nat) (s:SC),(∀ x∈(mF T g s).1,isSm g x)∧(mF T g s).1.length≤3000
 | 0,s=>⟨by simp [mF],by simp [mF]⟩
 | g+1,s=>by
  obtain ⟨h1,h2⟩:=dAs (T:=T) (one:=mN T (mF T g)) (P:=isSm (g+1)) (yB9 (eAs g)) 2001 (eD T [123] s.1,s.2);rw [oAi T g s _ rfl];unfold nAi
  split
  ·exact cAs
  ·exact ⟨h1,Nat.le_trans h2 (by decide)⟩
theorem isSm.up:∀ {n:Nat} {d:D},isSm n d→isSm (n+1) d
 | 0,d,h=>h.elim
 | n+1,d,⟨k,a,m,nm,ty,hs,pl,va,co,th,el,h0,h1,h2,h3,h4,h5,h6,h7,h8⟩=>⟨k,a,m,nm,ty,hs,pl,va,co,th,el,h0,h1,h2,h3,h4,h5,h6,fun s hs=>(h7 s hs).up,fun s hs=>(h8 s hs).up⟩
theorem cAw (pub:Bool) (a:Int) (σ:St):isSt (uF T pub a σ).1:=by
 simp only [uF];have hl:=bA4 T (aC T 1 σ).2
 split
 ·exact ⟨_,_,_,_,_,rfl,by omega,by simp,by simp⟩
 ·obtain ⟨h1,h2⟩:=wU (T:=T) bB3 [44] (qB T [125] (eD T [123] (fI T (aC T 1 σ).2).2)).2
  exact ⟨_,_,_,_,_,rfl,by omega,by omega,h1⟩
theorem fAs {α:Type} {P:α→Prop} {w:Bs} {Y X:St→α×St} (hY:∀ σ,P (Y σ).1) (hX:∀ σ,P (X σ).1) (σ:St):P (aK T w Y X σ).1:=by
 unfold aK
 split
 ·exact hY _
 ·exact hX _
theorem aBa (pub:Bool) (a:Int) (σ:St):isFu (gJ T pub a σ).1:=by
 rw [pAi];obtain ⟨h1,h2⟩:=eAs (T:=T) 64 ((lT T σ).2,0);dsimp only;generalize (mF T 64 ((lT T σ).2,0)).1=b at *;have hh:(∀ l∈(lT T σ).1.2.1,isLf l)∧(lT T σ).1.2.1.length≤1000∧(∀ p∈(lT T σ).1.2.2.1,isFd p)∧(lT T σ).1.2.2.1.length≤1000∧isTy 65 (lT T σ).1.2.2.2:=by
  have l1:∀ σ,(fun l:List D=>(∀ x∈l,isLf x)∧l.length≤1000) (aK T [60] (bnd (yD T (eY T) [44]) fun l=>kG (fun _=>l) (dH T [62])) (nK []) σ).1:=fAs (P:=fun l:List D=>(∀ x∈l,isLf x)∧l.length≤1000) (fun σ=>by
   obtain ⟨q1,q2⟩:=wU (T:=T) cBf [44] σ;exact ⟨q1,Nat.le_trans q2 (by decide)⟩) (fun σ=>⟨by simp [nK],by simp [nK]⟩)
  have p1:∀ σ,(fun l:List D=>(∀ x∈l,isFd x)∧l.length≤1000) (aK T [41] (nK []) (bnd (yD T (bG T) [44]) fun p=>kG (fun _=>p) (dH T [41])) σ).1:=fAs (P:=fun l:List D=>(∀ x∈l,isFd x)∧l.length≤1000) (fun σ=>⟨by simp [nK],by simp [nK]⟩) (fun σ=>by
   obtain ⟨q1,q2⟩:=wU (T:=T) cB3 [44] σ;exact ⟨q1,Nat.le_trans q2 (by decide)⟩)
  have t1:∀ σ,isTy 65 (aK T [45,62] (fL T 64) (nK ty0D) σ).1:=fAs iA1 (fun σ=>jR);exact ⟨(l1 _).1,(l1 _).2,(p1 _).1,(p1 _).2,t1 _⟩
 obtain ⟨q1,q2,q3,q4,q5⟩:=hh;exact ⟨pub,_,_,_,_,b,a,rfl,q2,q1,q4,q3,q5,h2,fun s hs=>(h1 s hs).up⟩
theorem bBa (i:Nat):(∀ x∈oA6 (cI T (i,none)).d [],isSt x)∧∀ y∈pA6 (cI T (i,none)).d [],isFu y:=by
 have h:∀ pub j,(∀ x∈oA6 (pT T pub j).d [],isSt x)∧∀ y∈pA6 (pT T pub j).d [],isFu y:=fun pub j=>by
  unfold pT;dsimp only
  split
  ·exact ⟨fun x hx=>by simp [oA6] at hx;rw [hx];exact cAw _ _ _,by simp [pA6]⟩
  ·split
   ·exact ⟨by simp [oA6],fun x hx=>by simp [pA6] at hx;rw [hx];exact aBa _ _ _⟩
   ·exact ⟨by simp [oA6],by simp [pA6]⟩
 rw [mAf]
 split
 ·exact h _ _
 ·exact h _ _
theorem gAs:∀ (f i:Nat),(∀ x∈(aE T f i).1.1,isSt x)∧(∀ y∈(aE T f i).1.2,isFu y)∧(aE T f i).1.1.length≤f∧(aE T f i).1.2.length≤f
 | 0,i=>by simp only [aE];split <;> exact ⟨by simp,by simp,by simp,by simp⟩
 | f+1,i=>by
  simp only [aE]
  split
  ·exact ⟨by simp,by simp,by simp,by simp⟩
  ·split
   ·exact ⟨by simp,by simp,by simp,by simp⟩
   ·obtain ⟨h1,h2⟩:=bBa (T:=T) i
    obtain ⟨h3,h4,h5,h6⟩:=gAs f (cI T (i,none)).i;have l1:=kAi (cI T (i,none)).d [];have l2:=lAi (cI T (i,none)).d [];refine ⟨fun x hx=>?_,fun x hx=>?_,?_,?_⟩
    ·rcases List.mem_append.1 hx with q | q
     ·exact h1 x q
     ·exact h3 x q
    ·rcases List.mem_append.1 hx with q | q
     ·exact h2 x q
     ·exact h4 x q
    ·rw [List.length_append];simp only [List.length_nil] at l1;omega
    ·rw [List.length_append];simp only [List.length_nil] at l2;omega
end
theorem iAs (N:Nat) (s:Bs):(∀ x∈(oF N s).1.1,isSt x)∧(∀ y∈(oF N s).1.2,isFu y)∧(oF N s).1.1.length≤256∧(oF N s).1.2.length≤256:=by
 unfold oF
 split
 ·exact ⟨by simp,by simp,by simp,by simp⟩
 ·rename_i T hT
  unfold iW;dsimp only
  split
  ·exact ⟨by simp,by simp,by simp,by simp⟩
  ·exact gAs 256 0
end Qp
namespace Qp
section
variable {r x:Bs} {a m:Nat} {l:List Tok} {c d:UInt8}
end
end Qp
namespace Qp
section
variable {T r:List Tok} {i a c:Nat}
end
end Qp
namespace Qp
section
variable {N:Nat}
end
end Qp
namespace Qp
theorem aAj {N:Nat} {s:Bs} {T:List Tok} (h:qAk N s=.inl T):∃ l,oA8 N (s.drop (jD false s)) (jD false s)=.inl l∧T=l++[(0,[],s.length)]:=by
 unfold qAk at h
 split at h
 ·rename_i l hl
  simp only [Sum.inl.injEq] at h;exact ⟨l,hl,h.symm⟩
 ·cases h
theorem fB3 {l r:List Tok} {i:Nat} (h:i<l.length):tk (l++r) i=l[i]:=by
 rw [tAk (by rw [List.length_append];omega),List.getElem_append_left h]
theorem cBa {l:List Tok} {t:Tok} {r:List Tok}:tk (l++t::r) l.length=t:=by
 rw [tAk (by rw [List.length_append,List.length_cons];omega)];simp
theorem jAs {T:List Tok} (h:(iW T).2=none):(aE T 256 0).2=none∧(iW T).1=(aE T 256 0).1:=by
 unfold iW at h ⊢;dsimp only at h ⊢
 split at h
 ·cases h
 ·rename_i hx;rw [hx];exact ⟨rfl,rfl⟩
end Qp
namespace Qp
def iAm (q:Tok):Bs:=if q.1=3 then 39::q.2.1 else q.2.1
theorem eBf {c:UInt8} {n:Nat} (h:c.toNat=n) (hn:n<256):c=UInt8.ofNat n:=by
 apply UInt8.toNat_inj.1
 rw [h,UInt8.toNat_ofNat'];omega
theorem kAs {u x:Bs} {k:Int} {n:Nat} (h:jF u=some (k,x,n)):u.take n=iAm (k,x,0)∧n=(iAm (k,x,0)).length:=by
 cases u with
 | nil=>cases h
 | cons c r=>
  have hl:=(oJ h).2;have key:(c::r).take n=iAm (k,x,0)→(c::r).take n=iAm (k,x,0)∧n=(iAm (k,x,0)).length:=fun e=>⟨e,by rw [← e,List.length_take];omega⟩
  apply key
  rw [jF] at h
  split at h
  ·simp only [pU] at h
   split at h
   ·simp only [Option.some.injEq,Prod.mk.injEq] at h
    obtain ⟨rfl,rfl,rfl⟩:=h;rfl
   ·split at h
    ·simp only [Option.some.injEq,Prod.mk.injEq] at h
     obtain ⟨rfl,rfl,rfl⟩:=h;rfl
    ·cases h
  ·split at h
   ·simp only [tA3] at h
    split at h
    ·simp only [Option.some.injEq,Prod.mk.injEq] at h
     obtain ⟨rfl,rfl,rfl⟩:=h;rfl
    ·cases h
   ·split at h
    ·rename_i h3
     simp only [qU] at h
     split at h
     ·split at h
      ·simp only [Option.some.injEq,Prod.mk.injEq] at h
       obtain ⟨rfl,rfl,rfl⟩:=h
       have:c=39:=eBf h3 (by decide)
       subst this;rfl
      ·cases h
     ·cases h
    ·simp only [eL] at h
     split at h
     ·rename_i p hp
      simp only [Option.some.injEq,Prod.mk.injEq] at h;obtain ⟨rfl,rfl,rfl⟩:=h;simp only [two,jA0] at hp;show (c::r).take 2=p;have hh:∀ q:Bs,q.length=2→rAa q (c::r)=true→(c::r).take 2=q:=fun q hq e=>by
       have:=(gA0 e).1
       rwa [hq] at this
      cases e1:rAa [58,58] (c::r) with
      | true=>rw [e1] at hp;simp only [cond_true,Option.some.injEq] at hp;rw [← hp];exact hh _ rfl e1
      | false=>
       rw [e1] at hp;simp only [cond_false] at hp
       cases e2:rAa [45,62] (c::r) with
       | true=>rw [e2] at hp;simp only [cond_true,Option.some.injEq] at hp;rw [← hp];exact hh _ rfl e2
       | false=>
        rw [e2] at hp;simp only [cond_false] at hp
        cases e3:rAa [61,61] (c::r) with
        | true=>rw [e3] at hp;simp only [cond_true,Option.some.injEq] at hp;rw [← hp];exact hh _ rfl e3
        | false=>rw [e3] at hp;cases hp
     ·split at h
      ·simp only [Option.some.injEq,Prod.mk.injEq] at h
       obtain ⟨rfl,rfl,rfl⟩:=h;rfl
      ·cases h
theorem lAs (k:Int) (x:Bs) (a:Nat):iAm (k,x,a)=iAm (k,x,0):=rfl
end Qp
namespace Qp
def Ok {σ α:Type} (st:σ→St) (F:σ→α×σ) (Q:α→Prop):Prop:=∀ s,(st (F s).2).2=none→(st s).2=none∧Q (F s).1
section
variable {σ α β:Type} {st:σ→St} {P:α→Prop} {Q:β→Prop}
theorem Ok.bnd {f:σ→α×σ} {g:α→σ→β×σ} (hf:Ok st f P) (hg:∀ x,Ok st (g x) (fun y=>P x→Q y)):Ok st (Qp.bnd f g) Q:=fun s h=>by
 obtain ⟨h1,h2⟩:=hg _ _ h;obtain ⟨h3,h4⟩:=hf s h1;exact ⟨h3,h2 h4⟩
theorem Ok.map {f:σ→α×σ} {h:α→β} (hf:Ok st f P) (hh:∀ x,P x→Q (h x)):Ok st (kG h f) Q:=fun s q=>by
 obtain ⟨h3,h4⟩:=hf s q;exact ⟨h3,hh _ h4⟩
theorem Ok.imp {f:σ→β×σ} {R:β→Prop} (hf:Ok st f Q) (hh:∀ x,Q x→R x):Ok st f R:=fun s q=>by
 obtain ⟨h3,h4⟩:=hf s q;exact ⟨h3,hh _ h4⟩
theorem Ok.ret {x:β} (hx:Q x):Ok st (nK (σ:=σ) x) Q:=fun s h=>⟨h,hx⟩
theorem Ok.ite {c:σ→Bool} {Y X:σ→β×σ} (hY:Ok st Y Q) (hX:Ok st X Q):Ok st (fun s=>if c s=true then Y s else X s) Q:=fun s h=>by
 dsimp only at h ⊢
 split at h
 ·rename_i hc;rw [if_pos hc];exact hY s h
 ·rename_i hc;rw [if_neg hc];exact hX s h
end
section
variable {T:List Tok} {α:Type} {Q:α→Prop}
theorem Ok.of {F:St→α×St} (h1:∀ i,(F (i,none)).2.2=none→Q (F (i,none)).1) (h2:∀ i e,(F (i,some e)).2.2.isSome=true):Ok id F Q:=fun s h=>by
 obtain ⟨i,o⟩:=s
 cases o with
 | none=>exact ⟨rfl,h1 i h⟩
 | some e=>
  have h:(F (i,some e)).2.2=none:=h
  have:=h2 i e
  rw [h] at this;cases this
theorem nA4 (w:Bs):Ok id (qB T w) (fun _=>True):=Ok.of (fun _ _=>trivial) fun _ _=>rfl
theorem jA7 (c:Int) (x:α):Ok id (cAr T c x) Q:=Ok.of (fun _ h=>by cases h) fun _ _=>rfl
theorem pAf (k:Int):Ok id (aC T k) (fun x=>∃ i,(tk T i).1=k∧x=(tk T i).2.1):=Ok.of (fun i h=>by
 simp only [aC,cF] at h ⊢
 split at h
 ·rename_i hk;rw [if_pos hk];exact ⟨i,hk,rfl⟩
 ·cases h) fun _ _=>rfl
theorem nE (w:Bs):Ok id (dH T w) (fun _=>True):=Ok.of (fun _ _=>trivial) fun _ _=>by unfold dH;rw [jG];rfl
theorem iE (w:Bs) {Y X:St→α×St} (hY:Ok id Y Q) (hX:Ok id X Q):Ok id (aK T w Y X) Q:=fun s h=>by
 unfold aK at h ⊢
 split at h
 ·rename_i hc
  rw [if_pos hc];obtain ⟨h1,h2⟩:=hY _ h;exact ⟨(qF hc).2,h2⟩
 ·rename_i hc
  rw [if_neg hc];obtain ⟨h1,h2⟩:=hX _ h;exact ⟨((nA4 w) s h1).1,h2⟩
theorem bAj (hT:Toks T) {i:Nat} (h:(tk T i).1≠0):TokOK (tk T i)∧i<T.length:=by
 by_cases q:i<T.length
 ·rw [tAk q];exact ⟨hT.ok _ (List.getElem_mem q),q⟩
 ·exact absurd (by simp [tk,List.getElem?_eq_none (Nat.le_of_not_lt q)]) h
theorem fH (hT:Toks T):Ok id (aC T 1) (fun x=>yG x=true):=(pAf 1).imp fun x ⟨i,h1,h2⟩=>by rw [h2];exact (bAj hT (by rw [h1];decide)).1.name h1
theorem gY (hT:Toks T):Ok id (aC T 3) (fun x=>dN x=true):=(pAf 3).imp fun x ⟨i,h1,h2⟩=>by rw [h2];exact (bAj hT (by rw [h1];decide)).1.life h1
theorem gB3 (hT:Toks T):Ok id (aC T 4) (fun x=>tW x 0≤2147483647):=(pAf 4).imp fun x ⟨i,h1,h2⟩=>by
 rw [h2]
 have:=((bAj hT (by rw [h1];decide)).1.num h1).1
 simp only [iA0,Bool.and_eq_true,Nat.ble_eq] at this;exact this.1.2
theorem qAf (hT:Toks T):Ok id (wH T) longP:=by
 have h:∀ T,wH T=bnd (aC T 1) fun a=>aK T [58,58] (kG (fun c=>a++[58,58]++c) (aC T 1)) (nK a):=fun T=>rfl;rw [h];exact (fH hT).bnd fun a=>iE _ ((fH hT).map fun c hc ha=>.inr ⟨a,c,rfl,ha,hc⟩) (Ok.ret fun ha=>.inl ha)
def eB5 (g:Nat) (l:List Bs):Prop:=l.length≤g∧∀ x∈l,dN x=true
theorem dAw (hT:Toks T):∀ g,Ok id (eI T g) (eB5 g):=fun g=>by
 induction g with
 | zero=>
  have h0:∀ T,eI T 0=cAr T 5 ([]:List Bs):=fun T=>rfl;rw [h0];exact jA7 5 _
 | succ g ih=>
  have h1:∀ T g,eI T (g+1)=bnd (aC T 3) fun a=>aK T [44] (kG (a::·) (eI T g)) (nK [a]):=fun T g=>rfl;rw [h1];exact (gY hT).bnd fun a=>iE _ (ih.map fun l hl ha=>⟨by have:=hl.1;simp only [List.length_cons];omega,fun x hx=>by
   rcases List.mem_cons.1 hx with rfl | hx
   ·exact ha
   ·exact hl.2 x hx⟩) (Ok.ret fun ha=>⟨by simp,fun x hx=>by rw [List.mem_singleton.1 hx];exact ha⟩)
theorem cAj (hT:Toks T):Ok id (fI T) (eB5 64):=by
 have h:∀ T,fI T=aK T [60] (bnd (eI T 64) fun l=>kG (fun _=>l) (dH T [62])) (nK []):=fun T=>rfl;rw [h];exact iE _ ((dAw hT 64).bnd fun l=>(nE _).map fun _ _ hl=>hl) (Ok.ret ⟨by simp,by simp⟩)
def qAb (g:Nat) (P:D→Prop) (l:List D):Prop:=l.length≤g∧∀ x∈l,P x
theorem iB3 {P:D→Prop} {one:St→D×St} (ho:Ok id one P) (sep:Bs):∀ g,Ok id (fP T one sep g) (qAb g P):=fun g=>by
 induction g with
 | zero=>
  have h0:∀ T one,fP T one sep 0=cAr T 5 ([]:List D):=fun T one=>rfl;rw [h0];exact jA7 5 _
 | succ g ih=>
  have h1:∀ T one g,fP T one sep (g+1)=bnd one fun a=>aK T sep (kG (a::·) (fP T one sep g)) (nK [a]):=fun T one g=>rfl;rw [h1];exact ho.bnd fun a=>iE _ (ih.map fun l hl ha=>⟨by have:=hl.1;simp only [List.length_cons];omega,fun x hx=>by
   rcases List.mem_cons.1 hx with rfl | hx
   ·exact ha
   ·exact hl.2 x hx⟩) (Ok.ret fun ha=>⟨by simp,fun x hx=>by rw [List.mem_singleton.1 hx];exact ha⟩)
theorem qO {P:D→Prop} {one:St→D×St} (ho:Ok id one P) (sep:Bs):Ok id (yD T one sep) (qAb 64 P):=Ok.of (fun i h=>(iB3 ho sep 64 (i,none) h).2) fun _ _=>rfl
theorem dBa (hT:Toks T):Ok id (pA0 T) (eB5 1):=by
 have h:∀ T,pA0 T=fun σ=>if (fun σ:St=>decide ((tk T σ.1).1=3)) σ=true then kG (fun x=>[x]) (aC T 3) σ else nK [] σ:=fun T=>by
  funext σ
  simp only [pA0,kG,nK,decide_eq_true_eq]
 rw [h];exact Ok.ite ((gY hT).map fun x hx=>⟨by simp,fun y hy=>by rw [List.mem_singleton.1 hy];exact hx⟩) (Ok.ret ⟨by simp,by simp⟩)
def mA2 (g:Nat) (d:D):Prop:=∃ p:PT,d=p.D∧p.ok g
theorem dAj (hT:Toks T):∀ g,Ok id (fL T g) (mA2 g):=fun g=>by
 induction g with
 | zero=>
  have h0:∀ T,fL T 0=cAr T 6 (tyD 0 [] [] []):=fun T=>rfl;rw [h0];exact jA7 6 _
 | succ g ih=>
  have hF:Ok id (aK T [105,110,116] (nK (tyD 1 [] [] [])) (aK T [98,111,111,108] (nK (tyD 2 [] [] []))
   (aK T [38] (bnd (pA0 T) fun d=>bnd (qB T [109,117,116]) fun m=>kG (fun t=>tyD (if m=true then 5 else 4) [] d [t]) (fL T g))
    (bnd (wH T) fun n=>kG (fun l=>tyD 3 n l []) (fI T))))) (mA2 (g+1)):=
   iE _ (Ok.ret ⟨.int,rfl,trivial⟩) (iE _ (Ok.ret ⟨.bool,rfl,trivial⟩) (iE _
    ((dBa hT).bnd fun d=>(nA4 _).bnd fun m=>ih.map fun t ht _ hd=>by
     obtain ⟨p,rfl,hp⟩:=ht;exact ⟨.ref m d p,by cases m <;> rfl,hd.1,hd.2,hp⟩)
    ((qAf hT).bnd fun n=>(cAj hT).map fun l hl hn=>⟨.st n l,rfl,hn,hl.1,hl.2⟩)))
  refine Ok.of (fun i h=>?_) fun i e=>by rw [gAi];rfl
  have he:fL T (g+1) (i,none)=(aK T [105,110,116] (nK (tyD 1 [] [] [])) (aK T [98,111,111,108] (nK (tyD 2 [] [] []))
   (aK T [38] (bnd (pA0 T) fun d=>bnd (qB T [109,117,116]) fun m=>kG (fun t=>tyD (if m=true then 5 else 4) [] d [t]) (fL T g))
    (bnd (wH T) fun n=>kG (fun l=>tyD 3 n l []) (fI T))))) (i,none):=by
   simp only [fL,aK,bnd,kG,nK]
  rw [he] at h ⊢;exact (hF _ h).2
def kA7 (mu:Bool) (d:D):Prop:=∃ m nm ty,d=fdD m nm ty∧(m=true→mu=true)∧yG nm=true∧mA2 64 ty
theorem eAw (hT:Toks T):Ok id (aH T) (kA7 false):=by
 have h:∀ T,aH T=bnd (aC T 1) fun a=>bnd (dH T [58]) fun _=>kG (fun r=>fdD false a r) (fL T 64):=fun T=>rfl;rw [h];exact (fH hT).bnd fun a=>(nE _).bnd fun _=>(dAj hT 64).map fun t ht _ ha=>⟨false,a,t,rfl,(fun h=>by cases h),ha,ht⟩
theorem fAw (hT:Toks T):Ok id (bG T) (kA7 true):=by
 have h:∀ T,bG T=bnd (qB T [109,117,116]) fun m=>bnd (aC T 1) fun a=>bnd (dH T [58]) fun _=>kG (fun r=>fdD m a r) (fL T 64):=fun T=>rfl;rw [h];exact (nA4 _).bnd fun m=>(fH hT).bnd fun a=>(nE _).bnd fun _=>(dAj hT 64).map fun t ht _ ha _=>⟨m,a,t,rfl,fun _=>rfl,ha,ht⟩
def mayLf (d:D):Prop:=∃ (nm:Bs) (xs:List Bs),d=vL nm (xs.map D.s)∧dN nm=true∧eB5 64 xs
theorem lA7 {P:Bs→Prop}:∀ {l:List D},(∀ x∈l,∃ b:Bs,x=D.s b∧P b)→∃ xs:List Bs,l=xs.map D.s∧∀ x∈xs,P x
 | [],_=>⟨[],rfl,by simp⟩
 | x::r,h=>by
  obtain ⟨b,hb,hp⟩:=h x (by simp);obtain ⟨xs,hx,hq⟩:=lA7 (l:=r) (fun y hy=>h y (by simp [hy]));exact ⟨b::xs,by rw [hb,hx];rfl,fun y hy=>by
   rcases List.mem_cons.1 hy with rfl | hy
   ·exact hp
   ·exact hq y hy⟩
theorem eBa (hT:Toks T):Ok id (eY T) mayLf:=by
 have h:∀ T,eY T=bnd (aC T 3) fun a=>aK T [58] (kG (fun l=>vL a l) (yD T (nA6 T 3) [43])) (nK (vL a [])):=fun T=>rfl;rw [h];exact (gY hT).bnd fun a=>iE _ ((qO (P:=fun x=>∃ b:Bs,x=D.s b∧dN b=true) ((gY hT).map fun b hb=>⟨b,rfl,hb⟩) _).map fun l hl ha=>by
  obtain ⟨xs,rfl,hx⟩:=lA7 hl.2;exact ⟨a,xs,rfl,ha,by have:=hl.1;rwa [List.length_map] at this,hx⟩) (Ok.ret fun ha=>⟨a,[],rfl,ha,by simp,by simp⟩)
def jB3 (x:Bs):Prop:=x=[42]∨yG x=true
def jAm (g:Nat) (l:List Bs):Prop:=l.length≤g∧∀ x∈l,jB3 x
theorem oA4 {g:Nat} {l:List Bs} {a:Bs} (hl:jAm g l) (ha:jB3 a):jAm (g+1) (a::l):=⟨by have:=hl.1;simp only [List.length_cons];omega,fun x hx=>by
 rcases List.mem_cons.1 hx with rfl | hx
 ·exact ha
 ·exact hl.2 x hx⟩
theorem mA7 (hT:Toks T):∀ g,Ok id (fJ T g) (jAm g):=fun g=>by
 induction g with
 | zero=>
  have h:∀ T,fJ T 0=aK T [46] (cAr T 5 ([]:List Bs)) (nK []):=fun T=>rfl;rw [h];exact iE _ (jA7 5 _) (Ok.ret ⟨by simp,by simp⟩)
 | succ g ih=>
  have h:∀ T,fJ T (g+1)=aK T [46] (aK T [42] (kG ([42]::·) (fJ T g)) (bnd (aC T 1) fun x=>kG (x::·) (fJ T g))) (nK []):=fun T=>rfl;rw [h];exact iE _ (iE _ (ih.map fun l hl=>oA4 hl (.inl rfl)) ((fH hT).bnd fun x=>ih.map fun l hl hx=>oA4 hl (.inr hx))) (Ok.ret ⟨by simp,by simp⟩)
def mayPl (d:D):Prop:=∃ (nm:Bs) (xs:List Bs),d=vL nm (xs.map D.s)∧yG nm=true∧jAm 64 xs
theorem pA4 (T:List Tok):dF T=bnd (aC T 1) fun a=>kG (fun p=>vL a (p.map D.s)) (fJ T 64):=rfl
theorem nA7 (hT:Toks T):Ok id (dF T) mayPl:=by
 rw [pA4];exact (fH hT).bnd fun a=>(mA7 hT 64).map fun p hp ha=>⟨a,p,rfl,ha,hp⟩
def mayOp (d:D):Prop:=(∃ n:Nat,d=opD 1 (n:Int) pl0∧n≤2147483647)∨(∃ n:Int,(n=0∨n=1)∧d=opD 2 n pl0)∨∃ p,d=opD 3 0 p∧mayPl p
theorem cM (hT:Toks T):Ok id (eF T) mayOp:=by
 have h:∀ T,eF T=aK T [116,114,117,101] (nK (opD 2 1 pl0)) (aK T [102,97,108,115,101] (nK (opD 2 0 pl0)) (fun σ=>if (fun σ:St=>decide ((tk T σ.1).1=4)) σ=true then kG (fun x=>opD 1 ((tW x 0:Nat):Int) pl0) (aC T 4) σ else kG (fun p=>opD 3 0 p) (dF T) σ)):=fun T=>by
  funext σ
  simp only [eF,aK,kG,nK,decide_eq_true_eq]
 rw [h];exact iE _ (Ok.ret (.inr (.inl ⟨1,.inr rfl,rfl⟩))) (iE _ (Ok.ret (.inr (.inl ⟨0,.inl rfl,rfl⟩))) (Ok.ite ((gB3 hT).map fun x hx=>.inl ⟨_,rfl,hx⟩) ((nA7 hT).map fun p hp=>.inr (.inr ⟨p,rfl,hp⟩))))
theorem mAs (T:List Tok):iT T=bnd (dH T [40]) fun _=>aK T [41] (nK []) (bnd (yD T (eF T) [44]) fun l=>kG (fun _=>l) (dH T [41])):=by
 funext σ
 rfl
theorem nAs (hT:Toks T):Ok id (iT T) (qAb 64 mayOp):=by
 rw [mAs];exact (nE _).bnd fun _=>iE _ (Ok.ret fun _=>⟨by simp,by simp⟩) ((qO (cM hT) [44]).bnd fun l=>(nE _).map fun _ _ hl _=>hl)
def mayPr (d:D):Prop:=∃ a o,d=D.t [.s a,o]∧yG a=true∧mayOp o
theorem kB3 (hT:Toks T):Ok id (wA0 T) mayPr:=by
 have h:∀ T,wA0 T=bnd (aC T 1) fun a=>bnd (dH T [58]) fun _=>kG (fun o=>D.t [.s a,o]) (eF T):=fun T=>by
  funext σ
  rfl
 rw [h];exact (fH hT).bnd fun a=>(nE _).bnd fun _=>(cM hT).map fun o ho _ ha=>⟨a,o,rfl,ha,ho⟩
theorem lB3 (hT:Toks T):Ok id (rU T) (qAb 64 mayPr):=by
 have h:∀ T,rU T=bnd (dH T [123]) fun _=>aK T [125] (nK []) (bnd (yD T (wA0 T) [44]) fun l=>kG (fun _=>l) (dH T [125])):=fun T=>by
  funext σ
  rfl
 rw [h];exact (nE _).bnd fun _=>iE _ (Ok.ret fun _=>⟨by simp,by simp⟩) ((qO (kB3 hT) [44]).bnd fun l=>(nE _).map fun _ _ hl _=>hl)
inductive mayVa:D→Prop
 | op {o:D} (h:mayOp o):mayVa (vaD 1 o op0 0 pl0 [] [] [])
 | ref {k:Int} {p:D} (hk:k=2∨k=3) (h:mayPl p):mayVa (vaD k op0 op0 0 p [] [] [])
 | no {o:D} (h:mayOp o):mayVa (vaD 4 o op0 0 pl0 [] [] [])
 | bin {a b:D} {k:Int} (ha:mayOp a) (hb:mayOp b) (hk:k=1∨k=2∨k=3∨k=4):mayVa (vaD 5 a b k pl0 [] [] [])
 | call {nm:Bs} {ag:List D} (hn:longP nm) (h:qAb 64 mayOp ag):mayVa (vaD 6 op0 op0 0 pl0 nm [] ag)
 | make {nm:Bs} {ns:List Bs} {ag:List D} (hn:longP nm) (hl:ns.length=ag.length) (hs:∀ x∈ns,yG x=true) (h:qAb 64 mayOp ag):mayVa (vaD 7 op0 op0 0 pl0 nm (ns.map D.s) ag)
theorem gAw (hT:Toks T):Ok id (jT T) mayVa:=by
 have h:∀ T,jT T=bnd (wH T) fun a=>fun σ=>if (fun σ=>(qB T [123] σ).1) σ=true then kG (fun l:List D=>vaD 7 op0 op0 0 pl0 a (l.map d1) (l.map d2)) (rU T) σ else kG (fun l=>vaD 6 op0 op0 0 pl0 a [] l) (iT T) σ:=fun T=>by
  funext σ
  rfl
 rw [h];refine (qAf hT).bnd fun a=>Ok.ite ((lB3 hT).map fun l hl ha=>?_) ((nAs hT).map fun l hl ha=>mayVa.call ha hl);obtain ⟨xs,hx,hq⟩:=lA7 (P:=fun b=>yG b=true) (l:=l.map d1) (fun y hy=>by
  obtain ⟨z,hz,rfl⟩:=List.mem_map.1 hy;obtain ⟨b,o,rfl,hb,_⟩:=hl.2 z hz;exact ⟨b,rfl,hb⟩)
 rw [hx];have hlen:xs.length=l.length:=by rw [← List.length_map (f:=D.s),← hx,List.length_map]
 refine mayVa.make ha (by rw [hlen,List.length_map]) hq ⟨by rw [List.length_map];exact hl.1,fun o ho=>?_⟩;obtain ⟨z,hz,rfl⟩:=List.mem_map.1 ho;obtain ⟨b,o,rfl,_,h⟩:=hl.2 z hz;exact h
def jBh (k:Int) (n:Nat) (x:Option (Int×D)):Prop:=x=none∨∃ q o,x=some (q,o)∧k≤q∧q<k+n∧mayOp o
theorem fBa (hT:Toks T):∀ (l:List Bs) (k:Int),Ok id (opS T l k) (jBh k l.length)
 | [],k=>Ok.ret (.inl rfl)
 | s::r,k=>by
  have h:∀ T,opS T (s::r) k=aK T s (kG (fun o=>some (k,o)) (eF T)) (opS T r (k+1)):=fun T=>rfl;rw [h];refine iE _ ((cM hT).map fun o ho=>.inr ⟨k,o,rfl,Int.le_refl _,by simp only [List.length_cons];omega,ho⟩) ((fBa hT r (k+1)).imp fun x hx=>?_)
  rcases hx with hx | ⟨q,o,h1,h2,h3,h4⟩
  ·exact .inl hx
  ·exact .inr ⟨q,o,h1,by omega,by simp only [List.length_cons];omega,h4⟩
theorem iY (hT:Toks T):Ok id (cG T) mayVa:=by
 have h:∀ T,cG T=aK T [38] (bnd (qB T [109,117,116]) fun m=>kG (fun p=>vaD (if m=true then 3 else 2) op0 op0 0 p [] [] []) (dF T))
   (aK T [33] (kG (fun o=>vaD 4 o op0 0 pl0 [] [] []) (eF T)) (fun σ=>if (fun σ=>jH T σ||bH T [123] σ) σ=true then jT T σ else (bnd (eF T) fun o=>kG (fun s=>opV o s) (opS T jM 1)) σ)):=fun T=>by
  funext σ
  rfl
 rw [h];refine iE _ ((nA4 _).bnd fun m=>(nA7 hT).map fun p hp _=>mayVa.ref (by cases m <;> simp) hp) (iE _ ((cM hT).map fun o ho=>mayVa.no ho) (Ok.ite (gAw hT) ((cM hT).bnd fun o=>(fBa hT jM 1).map fun x hx ho=>?_)));rcases hx with rfl | ⟨q,b,rfl,h1,h2,h3⟩
 ·exact mayVa.op ho
 ·refine mayVa.bin ho h3 ?_
  have h2:q<1+4:=h2;omega
end
def atOK (s:Bs) (a:Nat) (w:Bs):Prop:=a+w.length≤s.length∧(s.drop a).take w.length=w
def fBf (hs:Bool) (va:D):Prop:=(hs=true∧mayVa va)∨(hs=false∧va=va00)
def gBf:Bs:=[108,101,116]
def wIf:Bs:=[105,102]
def mAy:Bs:=[119,104,105,108,101]
def gBa:Bs:=[108,111,111,112]
def nAy:Bs:=[98,114,101,97,107]
def iBa:Bs:=[99,111,110,116,105,110,117,101]
def wRet:Bs:=[114,101,116,117,114,110]
def jBa:Bs:=[100,114,111,112]
inductive SmK (s:Bs) (a n:Nat):Int→Bool→Bs→D→Bool→D→D→D→List D→List D→Prop
 | let_ {m nm ty hs va} (hn:yG nm=true) (ht:mA2 64 ty) (hv:fBf hs va) (hw:atOK s a gBf):SmK s a n 1 m nm ty hs pl0 va op0 [] []
 | set {nm:Bs} {xs:List Bs} {va} (hn:yG nm=true) (hx:jAm 64 xs) (hv:mayVa va) (hw:atOK s a nm):SmK s a n 2 false [] ty0D false (vL nm (xs.map D.s)) va op0 [] []
 | call {nm:Bs} {ag:List D} (hn:longP nm) (h:qAb 64 mayOp ag) (hw:atOK s a []):SmK s a n 3 false [] ty0D false pl0 (vaD 6 op0 op0 0 pl0 nm [] ag) op0 [] []
 | if_ {hs co th el} (h0:0<n) (hc:mayOp co) (he:hs=false→el=[]) (hw:atOK s a wIf):SmK s a n 4 false [] ty0D hs pl0 va00 co th el
 | while_ {co th} (h0:0<n) (hc:mayOp co) (hw:atOK s a mAy):SmK s a n 5 false [] ty0D false pl0 va00 co th []
 | loop {th} (h0:0<n) (hw:atOK s a gBa):SmK s a n 6 false [] ty0D false pl0 va00 op0 th []
 | block {th} (h0:0<n) (hw:atOK s a [123]):SmK s a n 7 false [] ty0D false pl0 va00 op0 th []
 | break_ (hw:atOK s a nAy):SmK s a n 8 false [] ty0D false pl0 va00 op0 [] []
 | cont (hw:atOK s a iBa):SmK s a n 9 false [] ty0D false pl0 va00 op0 [] []
 | ret {hs va} (hv:fBf hs va) (hw:atOK s a wRet):SmK s a n 10 false [] ty0D hs pl0 va op0 [] []
 | drop {pl} (hp:mayPl pl) (hw:atOK s a jBa):SmK s a n 11 false [] ty0D false pl va00 op0 [] []
def lM (s:Bs):Nat→D→Prop
 | 0,_=>False
 | n+1,d=>∃ (k:Int) (a:Nat) (m:Bool) (nm:Bs) (ty:D) (hs:Bool) (pl va co:D) (th el:List D),d=smT k (a:Int) m nm ty hs pl va co th el∧(∀ x∈th,lM s n x)∧(∀ x∈el,lM s n x)∧SmK s a n k m nm ty hs pl va co th el
def thD:D→List D
 | .t [_,_,_,_,_,_,_,_,_,.l th,_]=>th
 | _=>[]
def elD:D→List D
 | .t [_,_,_,_,_,_,_,_,_,_,.l el]=>el
 | _=>[]
def aI:Nat→List D→Nat
 | 0,_=>0
 | n+1,l=>l.length+(l.map fun d=>aI n (thD d)+aI n (elD d)).sum
def oAy (s:Bs) (T:List Tok):Prop:=∀ i,(tk T i).1≠0→atOK s (tk T i).2.2 (iAm (tk T i))
section
variable {T:List Tok} {s:Bs}
theorem mB3 {w:Bs} {i:Nat} (h:isS T w i=true):((tk T i).1=2∨(tk T i).1=5)∧(tk T i).2.1=w:=by
 simp only [isS,Bool.and_eq_true,decide_eq_true_eq,yF,beq_iff_eq] at h;exact h
theorem eX (hA:oAy s T) {w:Bs} {i:Nat} (h:isS T w i=true):atOK s (tk T i).2.2 w:=by
 obtain ⟨h1,h2⟩:=mB3 h
 have:=hA i (by omega)
 have e:iAm (tk T i)=w:=by
  unfold iAm;rw [if_neg (by omega),h2]
 rwa [e] at this
theorem atOK.nil {a:Nat} {w:Bs} (h:atOK s a w):atOK s a []:=⟨by have:=h.1;simp only [List.length_nil];omega,by simp⟩
def S1 (s:Bs) (a:Nat) (n:Nat) (d:D):Prop:=∃ (k:Int) (m:Bool) (nm:Bs) (ty:D) (hs:Bool) (pl va co:D) (th el:List D),d=smT k (a:Int) m nm ty hs pl va co th el∧(∀ x∈th,lM s n x)∧(∀ x∈el,lM s n x)∧SmK s a n k m nm ty hs pl va co th el
theorem S1.may {a n:Nat} {d:D} (h:S1 s a n d):lM s (n+1) d:=by
 obtain ⟨k,m,nm,ty,hs,pl,va,co,th,el,h1,h2,h3,h4⟩:=h;exact ⟨k,a,m,nm,ty,hs,pl,va,co,th,el,h1,h2,h3,h4⟩
theorem S1.leaf {a n:Nat} {k:Int} {m:Bool} {nm:Bs} {ty:D} {hs:Bool} {pl va co:D} (h:SmK s a n k m nm ty hs pl va co [] []):S1 s a n (smT k (a:Int) m nm ty hs pl va co [] []):=⟨k,m,nm,ty,hs,pl,va,co,[],[],rfl,by simp,by simp,h⟩
theorem kBa (hT:Toks T) {a n:Nat} (hw:atOK s a gBf):Ok id (kAl T (a:Int)) (fun d=>S1 s a n d∧thD d=[]∧elD d=[]):=by
 have h:∀ T (a:Int),kAl T a=bnd (qB T [109,117,116]) fun m=>bnd (aC T 1) fun n=>bnd (dH T [58]) fun _=>bnd (fL T 64) fun t=>aK T [61] (bnd (cG T) fun v=>kG (fun _=>smD { bE a with k:=1,m:=m,nm:=n,has:=true } { lI with ty:=t,va:=v }) (dH T [59])) (kG (fun _=>smD { bE a with k:=1,m:=m,nm:=n } { lI with ty:=t }) (dH T [59])):=fun T a=>by
  funext σ
  rfl
 rw [h];exact (nA4 _).bnd fun m=>(fH hT).bnd fun x=>(nE _).bnd fun _=>(dAj hT 64).bnd fun t=>iE _ ((iY hT).bnd fun v=>(nE _).map fun _ _ hv ht _ hx _=>⟨S1.leaf (.let_ hx ht (.inl ⟨rfl,hv⟩) hw),rfl,rfl⟩) ((nE _).map fun _ _ ht _ hx _=>⟨S1.leaf (.let_ hx ht (.inr ⟨rfl,rfl⟩) hw),rfl,rfl⟩)
theorem kAm {i:Nat} (h:jH T (i,none)=true):(tk T i).1=1:=by
 simp only [jH,bH,Option.isNone_none,Bool.true_and,Bool.or_eq_true,Bool.and_eq_true,decide_eq_true_eq] at h;rcases h with h | h <;> exact h.1
theorem iAw (hT:Toks T) (hA:oAy s T) {n:Nat} (i:Nat) (h:(wE T ((tk T i).2.2:Int) (i,none)).2.2=none):S1 s (tk T i).2.2 n (wE T ((tk T i).2.2:Int) (i,none)).1∧thD (wE T ((tk T i).2.2:Int) (i,none)).1=[]∧elD (wE T ((tk T i).2.2:Int) (i,none)).1=[]:=by
 have e:∀ T (a:Int),wE T a=aK T [98,114,101,97,107] (nK (smD { bE a with k:=8 } lI)) (aK T [99,111,110,116,105,110,117,101] (nK (smD { bE a with k:=9 } lI))
   (aK T [114,101,116,117,114,110] (fun σ=>if (fun σ=>(qB T [59] σ).1) σ=true then nK (smD { bE a with k:=10 } lI) σ else kG (fun v=>smD { bE a with k:=10,has:=true } { lI with va:=v }) (cG T) σ)
   (aK T [100,114,111,112] (kG (fun p=>smD { bE a with k:=11 } { lI with pl:=p }) (dF T)) (fun σ=>if jH T σ=true then (bnd (wH T) fun n=>kG (fun l=>smD { bE a with k:=3 } { lI with va:=vaD 6 op0 op0 0 pl0 n [] l }) (iT T)) σ
    else (bnd (dF T) fun p=>bnd (dH T [61]) fun _=>kG (fun v=>smD { bE a with k:=2 } { lI with pl:=p,va:=v }) (cG T)) σ)))):=fun T a=>by
  funext σ
  rfl
 rw [e,qA6,qA6,qA6,qA6] at h ⊢
 by_cases h1:isS T [98,114,101,97,107] i=true
 ·rw [if_pos h1]
  exact ⟨S1.leaf (.break_ (eX hA h1)),rfl,rfl⟩
 rw [if_neg h1] at h ⊢
 by_cases h2:isS T [99,111,110,116,105,110,117,101] i=true
 ·rw [if_pos h2]
  exact ⟨S1.leaf (.cont (eX hA h2)),rfl,rfl⟩
 rw [if_neg h2] at h ⊢
 by_cases h3:isS T [114,101,116,117,114,110] i=true
 ·rw [if_pos h3] at h ⊢
  have hw:atOK s (tk T i).2.2 wRet:=eX hA h3;have ho:Ok id (fun σ=>if (fun σ=>(qB T [59] σ).1) σ=true then nK (smD { bE ((tk T i).2.2:Int) with k:=10 } lI) σ else kG (fun v=>smD { bE ((tk T i).2.2:Int) with k:=10,has:=true } { lI with va:=v }) (cG T) σ) (fun d=>S1 s (tk T i).2.2 n d∧thD d=[]∧elD d=[]):=
   Ok.ite (Ok.ret ⟨S1.leaf (.ret (.inr ⟨rfl,rfl⟩) hw),rfl,rfl⟩) ((iY hT).map fun v hv=>⟨S1.leaf (.ret (.inl ⟨rfl,hv⟩) hw),rfl,rfl⟩)
  exact (ho (i+1,none) h).2
 rw [if_neg h3] at h ⊢
 by_cases h4:isS T [100,114,111,112] i=true
 ·rw [if_pos h4] at h ⊢
  have ho:Ok id (kG (fun p=>smD { bE ((tk T i).2.2:Int) with k:=11 } { lI with pl:=p }) (dF T)) (fun d=>S1 s (tk T i).2.2 n d∧thD d=[]∧elD d=[]):=(nA7 hT).map fun p hp=>⟨S1.leaf (.drop hp (eX hA h4)),rfl,rfl⟩;exact (ho (i+1,none) h).2
 rw [if_neg h4] at h ⊢
 by_cases h5:jH T (i,none)=true
 ·rw [if_pos h5] at h ⊢
  have hw:atOK s (tk T i).2.2 []:=(hA i (by rw [kAm h5];decide)).nil;have ho:Ok id (bnd (wH T) fun n=>kG (fun l=>smD { bE ((tk T i).2.2:Int) with k:=3 } { lI with va:=vaD 6 op0 op0 0 pl0 n [] l }) (iT T)) (fun d=>S1 s (tk T i).2.2 n d∧thD d=[]∧elD d=[]):=(qAf hT).bnd fun x=>(nAs hT).map fun l hl hx=>⟨S1.leaf (.call hx hl hw),rfl,rfl⟩;exact (ho (i,none) h).2
 ·rw [if_neg h5] at h ⊢
  by_cases hk:(tk T i).1=1
  ·have et:aC T 1 (i,none)=((tk T i).2.1,(i+1,none)):=by simp only [aC,hk,if_true]
   have ew:iAm (tk T i)=(tk T i).2.1:=by unfold iAm;rw [if_neg (by rw [hk];decide)]
   have hw:=hA i (by rw [hk];decide);rw [ew] at hw;have hn:=(bAj hT (by rw [hk];decide)).1.name hk;have ho:Ok id (bnd (kG (fun p=>vL (tk T i).2.1 (p.map D.s)) (fJ T 64)) fun p=>bnd (dH T [61]) fun _=>kG (fun v=>smD { bE ((tk T i).2.2:Int) with k:=2 } { lI with pl:=p,va:=v }) (cG T)) (fun d=>S1 s (tk T i).2.2 n d∧thD d=[]∧elD d=[]):=
    Ok.bnd (P:=fun d=>∃ xs:List Bs,d=vL (tk T i).2.1 (xs.map D.s)∧jAm 64 xs) ((mA7 hT 64).map fun p hp=>⟨p,rfl,hp⟩) fun p=>(nE _).bnd fun _=>(iY hT).map fun v hv _ hp=>by
     obtain ⟨xs,rfl,hx⟩:=hp;exact ⟨S1.leaf (.set hn hx hv hw),rfl,rfl⟩
   have e2:(bnd (dF T) fun p=>bnd (dH T [61]) fun _=>kG (fun v=>smD { bE ((tk T i).2.2:Int) with k:=2 } { lI with pl:=p,va:=v }) (cG T)) (i,none)=(bnd (kG (fun p=>vL (tk T i).2.1 (p.map D.s)) (fJ T 64)) fun p=>bnd (dH T [61]) fun _=>kG (fun v=>smD { bE ((tk T i).2.2:Int) with k:=2 } { lI with pl:=p,va:=v }) (cG T)) (i+1,none):=by
    rw [pA4];simp only [bnd,kG,et]
   rw [e2] at h ⊢;exact (ho (i+1,none) h).2
  ·have et:(aC T 1 (i,none)).2=(i,some (21,((tk T i).2.2:Int))):=by simp only [aC,hk,if_false,cF]
   have e2:((bnd (dF T) fun p=>bnd (dH T [61]) fun _=>kG (fun v=>smD { bE ((tk T i).2.2:Int) with k:=2 } { lI with pl:=p,va:=v }) (cG T)) (i,none)).2.2.isSome=true:=by
    have:=((fH hT).bnd fun a=>(mA7 hT 64).map (Q:=fun d=>yG a=true→True) (h:=fun p=>vL a (p.map D.s)) fun _ _ _=>trivial) (i,none)
    cases hz:((bnd (dF T) fun p=>bnd (dH T [61]) fun _=>kG (fun v=>smD { bE ((tk T i).2.2:Int) with k:=2 } { lI with pl:=p,va:=v }) (cG T)) (i,none)).2.2 with
    | some x=>rfl
    | none=>
     have o1:=((nE (T:=T) [61]).bnd (Q:=fun _=>True) fun _=>(iY hT).map (Q:=fun _=>True→True) (h:=fun v=>smD { bE ((tk T i).2.2:Int) with k:=2 } { lI with pl:=(dF T (i,none)).1,va:=v }) fun _ _ _=>trivial) _ hz;have o2:=(mA7 hT 64) _ o1.1;have o3:(aC T 1 (i,none)).2.2=none:=o2.1;rw [et] at o3;cases o3
   rw [h] at e2;cases e2
def Ok3 {α:Type} (F:SC→α×SC) (Q:Nat→α→Nat→Prop):Prop:=∀ s,(F s).2.1.2=none→s.1.2=none∧Q s.2 (F s).1 (F s).2.2
section
variable {α β:Type} {P:Nat→α→Nat→Prop} {Q:Nat→β→Nat→Prop}
theorem Ok3.bnd {f:SC→α×SC} {g:α→SC→β×SC} (hf:Ok3 f P) (hg:∀ x,Ok3 (g x) (fun c y c'=>∀ c0,P c0 x c→Q c0 y c')):Ok3 (Qp.bnd f g) Q:=fun s h=>by
 obtain ⟨h1,h2⟩:=hg _ _ h;obtain ⟨h3,h4⟩:=hf s h1;exact ⟨h3,h2 _ h4⟩
theorem Ok3.map {f:SC→α×SC} {h:α→β} (hf:Ok3 f P) (hh:∀ c x c',P c x c'→Q c (h x) c'):Ok3 (kG h f) Q:=fun s q=>by
 obtain ⟨h3,h4⟩:=hf s q;exact ⟨h3,hh _ _ _ h4⟩
theorem Ok3.lift {F:St→α×St} {R:α→Prop} (hf:Ok id F R):Ok3 (lAb F) (fun c x c'=>R x∧c'=c):=fun s h=>by
 obtain ⟨h1,h2⟩:=hf s.1 h;exact ⟨h1,h2,rfl⟩
theorem Ok3.ret {x:β} (hx:∀ c,Q c x c):Ok3 (nK x) Q:=fun s h=>⟨h,hx _⟩
theorem kA1 (w:Bs) {Y X:SC→β×SC} (hY:Ok3 Y Q) (hX:Ok3 X Q):Ok3 (uAt T w Y X) Q:=fun s h=>by
 unfold uAt at h ⊢
 split at h
 ·rename_i hc
  rw [if_pos hc];obtain ⟨h1,h2⟩:=hY _ h;exact ⟨(qF hc).2,h2⟩
 ·rename_i hc
  rw [if_neg hc];obtain ⟨h1,h2⟩:=hX _ h;exact ⟨((nA4 w) s.1 h1).1,h2⟩
end
def BQ (s:Bs) (n c:Nat) (l:List D) (c':Nat):Prop:=0<n∧(∀ x∈l,lM s n x)∧c'=c+aI n l
def SQ (s:Bs) (n c:Nat) (d:D) (c':Nat):Prop:=lM s (n+1) d∧c'=c+(aI n (thD d)+aI n (elD d))
theorem aV (n:Nat):aI n []=0:=by cases n <;> simp [aI]
theorem nB3 (hT:Toks T) (hA:oAy s T) {n:Nat} {blk:SC→List D×SC} (hb:Ok3 blk (BQ s n)):Ok3 (mN T blk) (SQ s n):=fun q h=>by
 obtain ⟨σ,c⟩:=q;rw [kB2] at h ⊢;have hif:Ok3 (ifF T blk) (fun c x c'=>0<n∧(∀ d∈x.1,lM s n d)∧(∀ d∈x.2.getD [],lM s n d)∧c'=c+(aI n x.1+aI n (x.2.getD []))):=
  hb.bnd fun t=>kA1 _ (hb.map fun c f c' hf c0 ht=>⟨ht.1,ht.2.1,hf.2.1,by have e1:=hf.2.2;have e2:=ht.2.2;show c'=c0+(aI n t+aI n f);omega⟩) (Ok3.ret fun c c0 ht=>⟨ht.1,ht.2.1,by simp,by have e2:=ht.2.2;show c=c0+(aI n t+aI n []);rw [aV];omega⟩)
 cases hσ:σ.2 with
 | some e=>
  obtain ⟨i,o⟩:=σ;have hσ:o=some e:=hσ;subst hσ
  exfalso
  have ho:Ok3 (iAr T blk ((tk T i).2.2:Int)) (fun _ _ _=>True):=by
   unfold iAr;have tr:∀ {α:Type} {F:SC→α×SC} {Q:Nat→α→Nat→Prop},Ok3 F Q→Ok3 F (fun _ _ _=>True):=fun hF s h=>⟨(hF s h).1,trivial⟩;have hl:Ok id (kAl T ((tk T i).2.2:Int)) (fun _=>True):=Ok.of (fun _ _=>trivial) fun i e=>by
    simp only [kAl,rH,kT,jG,gAi,Bool.false_eq_true,if_false,Option.isSome_some]
   have hp:Ok id (wE T ((tk T i).2.2:Int)) (fun _=>True):=Ok.of (fun _ _=>trivial) fun i e=>by
    have hc:jH T (i,some e)=false:=rfl;simp only [wE,rH,Bool.false_eq_true,if_false,hc,dF,kT,aA1,jG,tU,Option.isSome_some]
   refine kA1 _ (tr (Ok3.lift hl)) (kA1 _ (tr ((Ok3.lift (cM hT)).bnd (Q:=fun _ _ _=>True) fun o=>hif.map fun _ _ _ _ _ _=>trivial)) (kA1 _ (tr ((Ok3.lift (cM hT)).bnd (Q:=fun _ _ _=>True) fun o=>hb.map fun _ _ _ _ _ _=>trivial)) (kA1 _ (hb.map fun _ _ _ _=>trivial) ?_)));intro s h;unfold isJ at h
   split at h
   ·exact ⟨(hb s h).1,trivial⟩
   ·exact ⟨(Ok3.lift (hp.bnd (Q:=fun _=>True) fun x=>(nE _).map fun _ _ _=>trivial) s h).1,trivial⟩
  have:=(ho ((i,some e),c) h).1
  cases this
 | none=>
  obtain ⟨i,o⟩:=σ;have hσ:o=none:=hσ;subst hσ;refine ⟨rfl,?_⟩;dsimp only at h ⊢;unfold iAr at h ⊢;rw [tA6,tA6,tA6,tA6,kB9] at h ⊢
  by_cases h1:isS T [108,101,116] i=true
  ·rw [if_pos h1] at h ⊢
   obtain ⟨_,⟨g1,g2,g3⟩,g4⟩:=Ok3.lift (kBa (n:=n) hT (eX hA h1)) _ h;exact ⟨g1.may,by rw [g2,g3,aV];exact g4⟩
  rw [if_neg h1] at h ⊢
  by_cases h2:isS T [105,102] i=true
  ·rw [if_pos h2] at h ⊢
   have ho:Ok3 (bnd (lAb (eF T)) fun o=>kG (ifV ((tk T i).2.2:Int) o) (ifF T blk)) (SQ s n):=(Ok3.lift (cM hT)).bnd fun o=>hif.map fun c x c' hx c0 ho=>by
    obtain ⟨ho,rfl⟩:=ho;obtain ⟨t,f⟩:=x;obtain ⟨x0,x1,x2,x3⟩:=hx
    cases f with
    | none=>exact ⟨⟨4,_,false,[],ty0D,false,pl0,va00,o,t,[],rfl,x1,by simp,.if_ x0 ho (fun _=>rfl) (eX hA h2)⟩,x3⟩
    | some f=>exact ⟨⟨4,_,false,[],ty0D,true,pl0,va00,o,t,f,rfl,x1,x2,.if_ x0 ho (fun h=>by cases h) (eX hA h2)⟩,x3⟩
   exact (ho _ h).2
  rw [if_neg h2] at h ⊢
  by_cases h3:isS T [119,104,105,108,101] i=true
  ·rw [if_pos h3] at h ⊢
   have ho:Ok3 (bnd (lAb (eF T)) fun o=>kG (fun t=>smD { bE ((tk T i).2.2:Int) with k:=5 } { lI with co:=o,th:=t }) blk) (SQ s n):=(Ok3.lift (cM hT)).bnd fun o=>hb.map fun c x c' hx c0 ho=>by
    obtain ⟨ho,rfl⟩:=ho;exact ⟨⟨5,_,false,[],ty0D,false,pl0,va00,o,x,[],rfl,hx.2.1,by simp,.while_ hx.1 ho (eX hA h3)⟩,by rw [hx.2.2];show c+aI n x=c+(aI n x+aI n []);rw [aV];omega⟩
   exact (ho _ h).2
  rw [if_neg h3] at h ⊢
  by_cases h4:isS T [108,111,111,112] i=true
  ·rw [if_pos h4] at h ⊢
   have ho:Ok3 (kG (fun t=>smD { bE ((tk T i).2.2:Int) with k:=6 } { lI with th:=t }) blk) (SQ s n):=hb.map fun c x c' hx=>⟨⟨6,_,false,[],ty0D,false,pl0,va00,op0,x,[],rfl,hx.2.1,by simp,.loop hx.1 (eX hA h4)⟩,by rw [hx.2.2];show c+aI n x=c+(aI n x+aI n []);rw [aV];omega⟩;exact (ho _ h).2
  rw [if_neg h4] at h ⊢
  by_cases h5:isS T [123] i=true
  ·rw [if_pos h5] at h ⊢
   have ho:Ok3 (kG (fun t=>smD { bE ((tk T i).2.2:Int) with k:=7 } { lI with th:=t }) blk) (SQ s n):=hb.map fun c x c' hx=>⟨⟨7,_,false,[],ty0D,false,pl0,va00,op0,x,[],rfl,hx.2.1,by simp,.block hx.1 (eX hA h5)⟩,by rw [hx.2.2];show c+aI n x=c+(aI n x+aI n []);rw [aV];omega⟩;exact (ho _ h).2
  rw [if_neg h5] at h ⊢;have h6:(wE T ((tk T i).2.2:Int) (i,none)).2.2=none:=((nE (T:=T) [59]) _ h).1;obtain ⟨g1,g2,g3⟩:=iAw (n:=n) hT hA i h6;refine ⟨?_,?_⟩
  ·exact g1.may
  ·show c=c+(aI n (thD (wE T ((tk T i).2.2:Int) (i,none)).1)+aI n (elD (wE T ((tk T i).2.2:Int) (i,none)).1))
   rw [g2,g3,aV];rfl
theorem jAw (n:Nat) (x:D) (r:List D):aI (n+1) (x::r)=1+(aI n (thD x)+aI n (elD x))+aI (n+1) r:=by
 simp only [aI,List.length_cons,List.map_cons,List.sum_cons];omega
theorem kAw {n:Nat} {one:SC→D×SC} (ho:Ok3 one (SQ s n)):∀ f,Ok3 (cE T one f) (fun c x c'=>x.2=false→BQ s (n+1) c x.1 c'):=fun f=>by
 induction f with
 | zero=>intro q h;exact ⟨h,fun _=>⟨Nat.succ_pos n,by simp [cE],by simp [cE,aI]⟩⟩
 | succ f ih=>
  intro q h;obtain ⟨⟨i,o⟩,c⟩:=q
  cases o with
  | some e=>rw [kAb] at h;cases h
  | none=>
   refine ⟨rfl,?_⟩;rw [mAi] at h ⊢
   by_cases h1:isS T [125] i=true
   ·rw [if_pos h1];exact fun _=>⟨Nat.succ_pos n,by simp,by simp [aI]⟩
   rw [if_neg h1] at h ⊢
   by_cases h2:c=2000∧(tk T i).1≠0
   ·rw [if_pos h2] at h;cases h
   ·rw [if_neg h2] at h ⊢
    obtain ⟨g1,g2⟩:=ih _ h;obtain ⟨_,g3,g4⟩:=ho ((i,none),c+1) g1;intro hx;obtain ⟨_,g5,g6⟩:=g2 hx;refine ⟨Nat.succ_pos n,fun x hx=>?_,?_⟩
    ·rcases List.mem_cons.1 hx with rfl | hx
     ·exact g3
     ·exact g5 x hx
    ·show _=c+aI (n+1) (_::_)
     rw [jAw,g6,g4];dsimp only;omega
theorem lAm {one:SC→D×SC}:∀ (f:Nat) (q:SC),(cE T one f q).2.1.2=none→(∀ q,(one q).2.1.2=none→q.1.2=none)→(cE T one f q).1.2=false:=fun f=>by
 induction f with
 | zero=>intro q _ _;rfl
 | succ f ih=>
  intro q h ho;obtain ⟨⟨i,o⟩,c⟩:=q
  cases o with
  | some e=>rw [kAb] at h;cases h
  | none=>
   rw [mAi] at h ⊢
   by_cases h1:isS T [125] i=true
   ·rw [if_pos h1]
   rw [if_neg h1] at h ⊢
   by_cases h2:c=2000∧(tk T i).1≠0
   ·rw [if_pos h2] at h;cases h
   ·rw [if_neg h2] at h ⊢
    exact ih _ h ho
theorem lAw (hT:Toks T) (hA:oAy s T):∀ g,Ok3 (mF T g) (BQ s g):=fun g=>by
 induction g with
 | zero=>
  intro q h;obtain ⟨⟨i,o⟩,c⟩:=q;cases o <;> cases h
 | succ g ih=>
  have ho:=nB3 hT hA ih;intro q h;rw [oAi T g q _ rfl] at h ⊢;have hl:=lAm 2001 _ h (fun q hq=>(ho q hq).1);obtain ⟨g1,g2⟩:=kAw (T:=T) ho 2001 _ h;refine ⟨((nE (T:=T) [123]) q.1 g1).1,?_⟩;unfold nAi;rw [hl,if_neg (by simp)];exact g2 hl
def oA7:Bs:=[115,116,114,117,99,116]
def nA2 (s:Bs) (d:D):Prop:=∃ (pub:Bool) (nm:Bs) (lv:List Bs) (fs:List D) (a:Nat),d=nAv pub nm lv fs (a:Int)∧yG nm=true∧eB5 64 lv∧qAb 64 (kA7 false) fs∧atOK s a oA7
def pA2 (s:Bs) (d:D):Prop:=∃ (pub:Bool) (nm:Bs) (lv ps:List D) (ty:D) (bd:List D) (a:Nat),d=fuT pub nm lv ps ty bd (a:Int)∧yG nm=true∧qAb 64 mayLf lv∧qAb 64 (kA7 true) ps∧(ty=ty0D∨mA2 64 ty)∧(∀ x∈bd,lM s 64 x)∧aI 64 bd≤2000∧atOK s a [102,110]
theorem oAs (hT:Toks T) (pub:Bool) {a:Nat} (hw:atOK s a oA7):Ok id (uF T pub (a:Int)) (nA2 s):=by
 have h:∀ T (a:Int),uF T pub a=bnd (aC T 1) fun n=>bnd (fI T) fun l=>bnd (dH T [123]) fun _=>aK T [125] (nK (nAv pub n l [] a)) (bnd (yD T (aH T) [44]) fun fs=>kG (fun _=>nAv pub n l fs a) (dH T [125])):=fun T a=>rfl;rw [h];exact (fH hT).bnd fun x=>(cAj hT).bnd fun l=>(nE _).bnd fun _=>iE _ (Ok.ret fun _ hl hx=>⟨pub,x,l,[],a,rfl,hx,hl,⟨by simp,by simp⟩,hw⟩) ((qO (eAw hT) _).bnd fun fs=>(nE _).map fun _ _ hf _ hl hx=>⟨pub,x,l,fs,a,rfl,hx,hl,hf,hw⟩)
def headP (x:HdR):Prop:=yG x.1=true∧qAb 64 mayLf x.2.1∧qAb 64 (kA7 true) x.2.2.1∧(x.2.2.2=ty0D∨mA2 64 x.2.2.2)
theorem oB3 (hT:Toks T):Ok id (lT T) headP:=
 (fH hT).bnd fun x=>Ok.bnd (P:=qAb 64 mayLf) (iE _ ((qO (eBa hT) _).bnd fun l=>(nE _).map fun _ _ hl=>hl) (Ok.ret ⟨by simp,by simp⟩)) fun l=>(nE _).bnd fun _=>Ok.bnd (P:=qAb 64 (kA7 true)) (iE _ (Ok.ret ⟨by simp,by simp⟩) ((qO (fAw hT) _).bnd fun p=>(nE _).map fun _ _ hp=>hp)) fun p=>Ok.bnd (P:=fun t=>t=ty0D∨mA2 64 t) (iE _ ((dAj hT 64).imp fun t ht=>.inr ht) (Ok.ret (.inl rfl))) fun t=>Ok.ret fun ht hp _ hl hx=>⟨hx,hl,hp,ht⟩
theorem pB3 (hT:Toks T) (hA:oAy s T) (pub:Bool) {a:Nat} (hw:atOK s a [102,110]) (σ:St) (h:(gJ T pub (a:Int) σ).2.1.2=none):pA2 s (gJ T pub (a:Int) σ).1:=by
 rw [pAi] at h ⊢;obtain ⟨h1,_,h2,h3⟩:=lAw hT hA 64 ((lT T σ).2,0) h;obtain ⟨_,h4,h5,h6,h7⟩:=oB3 hT σ h1;have hk:=(fY (T:=T) 64 ((lT T σ).2,0) (.inl (Nat.zero_le _))).1;dsimp only at h;refine ⟨pub,_,_,_,_,_,a,rfl,h4,h5,h6,h7,h2,?_,hw⟩;rcases hk with hk | hk
 ·rw [h3,Nat.zero_add] at hk;exact hk
 ·rw [h] at hk;cases hk
theorem qB3 (hT:Toks T) (hA:oAy s T) (i:Nat) (h:(cI T (i,none)).e=none):(∀ x∈oA6 (cI T (i,none)).d [],nA2 s x)∧∀ y∈pA6 (cI T (i,none)).d [],pA2 s y:=by
 have key:∀ pub j,(pT T pub j).e=none→(∀ x∈oA6 (pT T pub j).d [],nA2 s x)∧∀ y∈pA6 (pT T pub j).d [],pA2 s y:=fun pub j h=>by
  have inN:∀ {a:Int} {e:Er},inS a e=none→e=none:=fun {a e} he=>by cases e with
   | none=>rfl
   | some e=>cases he
  unfold pT at h ⊢;dsimp only at h ⊢
  by_cases h1:isS T [115,116,114,117,99,116] j=true
  ·rw [if_pos h1] at h ⊢
   refine ⟨fun x hx=>?_,by simp [pA6]⟩;simp [oA6] at hx;rw [hx];exact (oAs hT pub (eX hA h1) _ (inN h)).2
  ·rw [if_neg h1] at h ⊢
   by_cases h2:isS T [102,110] j=true
   ·rw [if_pos h2] at h ⊢
    refine ⟨by simp [oA6],fun x hx=>?_⟩;simp [pA6] at hx;rw [hx];exact pB3 hT hA pub (eX hA h2) _ (inN h)
   ·rw [if_neg h2] at h;cases h
 rw [mAf] at h ⊢
 by_cases h1:isS T [112,117,98] i=true
 ·rw [if_pos h1] at h ⊢;exact key _ _ h
 ·rw [if_neg h1] at h ⊢;exact key _ _ h
theorem mAw (hT:Toks T) (hA:oAy s T):∀ (f i:Nat),(aE T f i).2=none→(∀ x∈(aE T f i).1.1,nA2 s x)∧(∀ y∈(aE T f i).1.2,pA2 s y)∧(aE T f i).1.1.length+(aE T f i).1.2.length≤f:=fun f=>by
 induction f with
 | zero=>
  intro i h
  by_cases q:(tk T i).1=0
  ·simp only [aE,q,if_true];exact ⟨by simp,by simp,by simp⟩
  ·simp only [aE,q,if_false,cF,oAl] at h;cases h
 | succ f ih=>
  intro i h
  by_cases q:(tk T i).1=0
  ·simp only [aE,q,if_true];exact ⟨by simp,by simp,by simp⟩
  ·cases he:(cI T (i,none)).e with
   | some x=>simp only [aE,q,if_false,he] at h;cases h
   | none=>
    have e2:aE T (f+1) i=((oA6 (cI T (i,none)).d []++(aE T f (cI T (i,none)).i).1.1,pA6 (cI T (i,none)).d []++(aE T f (cI T (i,none)).i).1.2),(aE T f (cI T (i,none)).i).2):=by
     simp only [aE,q,if_false,he]
    have hl:=aB3 (vB9 he);obtain ⟨k1,k2⟩:=qB3 hT hA i he;rw [e2] at h ⊢;obtain ⟨k3,k4,k5⟩:=ih _ h;refine ⟨fun x hx=>?_,fun x hx=>?_,?_⟩
    ·rcases List.mem_append.1 hx with g | g
     ·exact k1 x g
     ·exact k3 x g
    ·rcases List.mem_append.1 hx with g | g
     ·exact k2 x g
     ·exact k4 x g
    ·rw [List.length_append,List.length_append];omega
end
theorem mAm {s:Bs}:∀ (M:Nat) (a:Nat) (l:List Tok),a≤s.length→oA8 M (s.drop a) a=.inl l→∀ q∈l,atOK s q.2.2 (iAm q):=fun M=>by
 induction M with
 | zero=>intro a l _ h;cases h
 | succ M ih=>
  intro a l ha h
  cases hu:s.drop a with
  | nil=>
   rw [hu] at h;simp only [oA8,Sum.inl.injEq] at h;subst h;simp
  | cons c r=>
   have hlen:(s.drop a).length=s.length-a:=List.length_drop ..;rw [hu] at h hlen;simp only [oA8] at h
   split at h
   ·cases h
   ·rename_i k x n hx
    split at h
    ·rename_i l' hl
     simp only [Sum.inl.injEq] at h;subst h;have hn:=oJ hx;obtain ⟨t1,t2⟩:=kAs hx;have hb:=lK ((c::r).drop n) false;rw [List.length_drop] at hb;intro q hq;rcases List.mem_cons.1 hq with rfl | hq
     ·refine ⟨?_,?_⟩
      ·rw [lAs,← t2];show a+n≤s.length;omega
      ·rw [lAs,← t2];show (s.drop a).take n=_;rw [hu];exact t1
     ·refine ih (a+(n+jD false ((c::r).drop n))) l' (by omega) ?_ q hq
      rw [← List.drop_drop,hu];exact hl
    ·cases h
theorem nAm {N:Nat} {s:Bs} {T:List Tok} (h:qAk N s=.inl T):oAy s T:=fun i hi=>by
 obtain ⟨l,hg,rfl⟩:=aAj h
 by_cases q:i<l.length
 ·rw [fB3 q]
  exact mAm N _ l (lK s false) hg _ (List.getElem_mem q)
 ·exfalso
  apply hi
  by_cases q2:i=l.length
  ·subst q2;rw [cBa]
  ·simp only [tk,List.getD_eq_getElem?_getD]
   rw [List.getElem?_eq_none (by rw [List.length_append,List.length_cons,List.length_nil];omega)];rfl
theorem eAj:∀ (M:Nat) (t:Bs) (a:Nat) (l:List Tok),oA8 M t a=.inl l→l.length≤t.length
 | 0,t,a,l,h=>by cases h
 | M+1,t,a,l,h=>by
  cases t with
  | nil=>
   simp only [oA8,Sum.inl.injEq] at h;subst h;simp
  | cons c r=>
   simp only [oA8] at h
   split at h
   ·cases h
   ·rename_i k x n hx
    split at h
    ·rename_i l' hl
     simp only [Sum.inl.injEq] at h;subst h;have h2:=eAj M _ _ _ hl;have hn:=oJ hx;rw [List.length_drop] at h2;simp only [List.length_cons] at *;omega
    ·cases h
theorem pAs {N:Nat} {s:Bs} (hs:s.length≤1000000) (hN:s.length<N) (h:(oF N s).2=none):(∀ x∈(oF N s).1.1,nA2 s x)∧(∀ y∈(oF N s).1.2,pA2 s y)∧(oF N s).1.1.length+(oF N s).1.2.length≤256:=by
 cases hl:qAk N s with
 | inr a=>unfold oF at h;rw [hl] at h;cases h
 | inl T=>
  have hc:oF N s=iW T:=by unfold oF;rw [hl]
  rw [hc] at h ⊢;obtain ⟨h1,h2⟩:=jAs h;rw [h2];have hlen:T.length≤2000000:=by
   obtain ⟨l,hg,rfl⟩:=aAj hl
   have:=eAj _ _ _ _ hg
   rw [List.length_drop] at this;rw [List.length_append,List.length_cons,List.length_nil];omega
  exact mAw (qA0 (by omega) hl hlen).1 (nAm hl) 256 0 h1
end Qp
set_option maxRecDepth 100000
namespace Qp
noncomputable section
def tT (N:Nat) (go:AV→SL→Int→Heap→Option (Out×(SL×Unit)×Heap)) (v0:AV) (v3:SL) (v4:Int) (h:Heap):Option (Out×(SL×Unit)×Heap):=let x1:=uB v4 200;(bif x1 then(iA (.tup [zU2,zX2]) (vI E v0 127 true) fun (x2:zW)=>let x3:=!x2.2.1;(bif x3 then some ((Out.exit 0),(v3,()),h)else(bif x2.1.isNone then some ((Out.exit 0),(v3,()),h)else(uA x2.1 fun q4=>(iA (.val zY2) (h.cell (q4.1,q4.2+1)) fun (x5:Int)=>let h6:=h.push (.row [(.int .i64 x5)] .own);(fG (.val zV2) (pC E 63 63 (.slice v3.a v3.len v3.cap v3.sz) (.slice (some (h.next,0)) 1 1 1) h6) fun (x7:SL) h8=>(uA x2.1 fun q9=>(iA (.val zZ2) (h8.cell (q9.1,q9.2+2)) fun (x10:AV)=>let x11:=bB .i64 (v4+1);go x10 x7 x11 h8))))))))else some ((Out.exit 0),(v3,()),h))
def qAs (N M:Nat) (v0:AV) (v3:SL) (v4:Int) (h:Heap):Option (Out×(SL×Unit)×Heap):=iter (fun go s h=>tT N (fun v0 v3 v4 h=>go (v0,v3,v4,()) h) s.1 s.2.1 s.2.2.1 h) M (v0,v3,v4,()) h
theorem kR (N M v0 v3 v4 h):qAs N (M+1) v0 v3 v4 h=tT N (qAs N M) v0 v3 v4 h:=rfl
def f53 (N:Nat) (a0:AV) (h:Heap):Option (SL×Heap):=(eE (qAs N N a0 ⟨none,0,0,0⟩ 0 h) fun _ (j13:(SL×Unit)) h14=>some (j13.1,h14))
def iBf:Ann:=(.two .n (.two .n (.two (.two .n (.two (.loop [(0,zZ2),(3,zV2),(4,zY2)] [(.exit 0)] [(3,zV2)] .n) .n)) .n)))
theorem lBa (N:Nat):cD Tryz.prog 53 [zZ2] (.val zV2) (fun x h=>f53 N x.1 h):=pD lA N iBf Tryz.f53
def uT (N:Nat) (go:SL→SL→Bool→Int→Heap→Option (Out×zA1×Heap)) (v0 v1:SL) (v4:Bool) (v5:Int) (h:Heap):Option (Out×zA1×Heap):=let x2:=uB v5 (Int.ofNat v0.len);(bif x2 then(ixK v0.a v0.len v5 1 fun q3=>(iA (.val zY2) (h.cell q3) fun (x4:Int)=>(ixK v1.a v1.len v5 1 fun q5=>(iA (.val zY2) (h.cell q5) fun (x6:Int)=>let x7:=!pA x4 x6;(bif x7 then some (Out.ret,(false,()),h)else let x8:=bB .i64 (v5+1);go v0 v1 v4 x8 h)))))else some ((Out.exit 0),(v4,()),h))
def rAs (N M:Nat) (v0 v1:SL) (v4:Bool) (v5:Int) (h:Heap):Option (Out×zA1×Heap):=iter (fun go s h=>uT N (fun v0 v1 v4 v5 h=>go (v0,v1,v4,v5,()) h) s.1 s.2.1 s.2.2.1 s.2.2.2.1 h) M (v0,v1,v4,v5,()) h
theorem lR (N M v0 v1 v4 v5 h):rAs N (M+1) v0 v1 v4 v5 h=uT N (rAs N M) v0 v1 v4 v5 h:=rfl
def f52 (N:Nat) (a0 a1:SL) (h:Heap):Option (Bool×Heap):=let x1:=!pA (Int.ofNat a0.len) (Int.ofNat a1.len);(bif x1 then some (false,h)else(eE (rAs N N a0 a1 false 0 h) fun o9 (j10:zA1) h11=>(bif mD o9 (.exit 0) then some (true,h11)else some (j10.1,h11))))
def jBf:Ann:=(.two .n (.two .n (.two (.two .n (.two (.loop [(0,zV2),(1,zV2),(4,zX2),(5,zY2)] [(.exit 0),.ret] [(4,zX2)] .n) .n)) .n)))
theorem mBa (N:Nat):cD Tryz.prog 52 [zV2,zV2] (.val zX2) (fun x h=>f52 N x.1 x.2.1 h):=pD lA N jBf Tryz.f52
def g22 (N:Nat)  (h:Heap):Option (Bool×Heap):=(kA (f27 N [102,110,32,102,40,120,58,32,105,110,116,41,32,45,62,32,105,110,116,32,123,32,114,101,116,117,114,110,32,120,32,43,32,49,59,32,125] h) fun (x1:(zM1×AV×Unit)) h2=>let h3:=h2.push (.row yZI .own);(uA (h3.store (h2.next,0) (yRJ x1.1)) fun h4=>(kA (f27 N [32,102,110,32,102,40,32,123] h4) fun (x5:(zM1×AV×Unit)) h6=>let h7:=h6.push (.row yZI .own);(uA (h7.store (h6.next,0) (yRJ x5.1)) fun h8=>(kA (f23 N [38,39,97,32,109,117,116,32,83,60,39,98,62] h8) fun (x9:(zP×AV×Unit)) h10=>let h11:=h10.push (.row yZC .own);(uA (h11.store (h10.next,0) (yRC x9.1)) fun h12=>(iA (.val zX2) (wJ E .eql 29 (.tmp 19) (.const .nilIface) x1.2.1 AV.nilIface) fun (x13:Bool)=>(bif x13 then(iA (.val zV2) (h12.cell ((h2.next,0).1,(h2.next,0).2+1)) fun (x14:SL)=>let x15:=pA (Int.ofNat x14.len) 1;(bif x15 then(iA (.val zV2) (h12.cell ((h2.next,0).1,(h2.next,0).2+1)) fun (x16:SL)=>(ixK x16.a x16.len 0 10 fun q17=>(iA (.val zV2) (h12.cell (q17.1,q17.2+8)) fun (x18:SL)=>let x19:=pA (Int.ofNat x18.len) 1;(bif x19 then(iA (.val zV2) (h12.cell ((h2.next,0).1,(h2.next,0).2+1)) fun (x20:SL)=>(ixK x20.a x20.len 0 10 fun q21=>(iA (.val zV2) (h12.cell (q21.1,q21.2+8)) fun (x22:SL)=>(ixK x22.a x22.len 0 32 fun q23=>(iA (.val zY2) (h12.cell (q23.1,q23.2+1)) fun (x24:Int)=>let x25:=pA x24 22;(bif x25 then(kA (f18 N x5.2.1 21 7 h12) fun (x26:Bool) h27=>(bif x26 then(kA (f53 N x5.2.1 h27) fun (x28:SL) h29=>let h30:=h29.push (.row [(.int .i64 1),(.int .i64 7)] .own)
 (kA (f52 N x28 ⟨(some (h29.next,0)),2,2,1⟩ h30) fun (x31:Bool) h32=>(bif x31 then(iA (.val zX2) (wJ E .eql 29 (.tmp 58) (.const .nilIface) x9.2.1 AV.nilIface) fun (x33:Bool)=>(bif x33 then(iA (.val zY2) (h32.cell ((h10.next,0).1,(h10.next,0).2+0)) fun (x34:Int)=>let x35:=pA x34 5;(bif x35 then(iA (.val zV2) (h32.cell ((h10.next,0).1,(h10.next,0).2+3)) fun (x36:SL)=>let x37:=pA (Int.ofNat x36.len) 1;(bif x37 then(iA (.val zV2) (h32.cell ((h10.next,0).1,(h10.next,0).2+3)) fun (x38:SL)=>(ixK x38.a x38.len 0 4 fun q39=>(iA (.val zW2) (h32.cell (q39.1,q39.2+1)) fun (x40:zA3)=>let x41:=pB x40 [83];some (x41,h32))))else some (false,h32)))else some (false,h32)))else some (false,h32)))else some (false,h32))))else some (false,h27)))else some (false,h12)))))))else some (false,h12)))))else some (false,h12)))else some (false,h12)))))))))
def kBf:Ann:=.n
theorem nBa (N:Nat):cD Tryz.prog 22 [] (.val zX2) (fun x h=>g22 N  h):=pD (dA (lBa N) (dA (mBa N) (dA (yAx N) (dA (gB7 N) (dA (jB7 N) lA))))) N kBf Tryz.f22
end
end Qp
open Go.RowKit (Below)
namespace Qk
open Qa
def rho:Go.Shelf.Ren:=⟨fun n=>bif Nat.beq n 145 then 196 else bif Nat.beq n 217 then 187 else bif Nat.beq n 219 then 227 else bif Nat.beq n 220 then 215 else bif Nat.beq n 224 then 237 else bif Nat.beq n 225 then 236 else bif Nat.beq n 266 then 206 else bif Nat.beq n 267 then 238 else 250,
 fun n=>bif Nat.beq n 3 then 3 else bif Nat.beq n 4 then 4 else bif Nat.beq n 5 then 5 else bif Nat.beq n 9 then 9 else bif Nat.beq n 46 then 191 else bif Nat.beq n 51 then 205 else bif Nat.beq n 59 then 201 else 206,fun _=>0⟩
theorem lays:Lays.n145 Tryz.prog rho where
 mixed:=by kernel_rfl
 f145:=by kernel_rfl
 f217:=by kernel_rfl
 f219:=by kernel_rfl
 f220:=by kernel_rfl
 f224:=by kernel_rfl
 f225:=by kernel_rfl
 f266:=by kernel_rfl
 f267:=by kernel_rfl
 f314:=by kernel_rfl
 t3:=by kernel_rfl
 a3:=fun _=>by kernel_rfl
 z3:=fun _=>by kernel_rfl
 v3:=fun _=>by kernel_rfl
 t4:=by kernel_rfl
 a4:=fun _=>by kernel_rfl
 z4:=fun _=>by kernel_rfl
 v4:=fun _=>by kernel_rfl
 t5:=by kernel_rfl
 a5:=fun _=>by kernel_rfl
 z5:=fun _=>by kernel_rfl
 v5:=fun _=>by kernel_rfl
 t9:=by kernel_rfl
 a9:=fun _=>by kernel_rfl
 z9:=fun _=>by kernel_rfl
 v9:=fun _=>by kernel_rfl
 t46:=by kernel_rfl
 a46:=fun _=>by kernel_rfl
 z46:=fun _=>by kernel_rfl
 v46:=fun _=>by kernel_rfl
 t51:=by kernel_rfl
 a51:=fun _=>by kernel_rfl
 z51:=fun _=>by kernel_rfl
 v51:=fun _=>by kernel_rfl
 t59:=by kernel_rfl
 a59:=fun _=>by kernel_rfl
 z59:=fun _=>by kernel_rfl
 v59:=fun _=>by kernel_rfl
 t146:=by kernel_rfl
 a146:=fun _=>by kernel_rfl
 z146:=fun _=>by kernel_rfl
 v146:=fun _=>by kernel_rfl
 g1:=by kernel_rfl
def fB5:Ai.Loc:=⟨0,0,1,false⟩
def tAs:Option Blk→Bool
 | some (.row [.int .i64 _] .ro)=>true
 | _=>false
def pinned (h:Heap):Bool:=Qw.pinned h&&yZ 4 fB5 h.pins&&tAs (h.t.get 4)
theorem uAs {b:Option Blk} (h:tAs b=true):∃ m,b=some (.row [.int .i64 m] .ro):=by
 unfold tAs at h
 split at h
 ·exact ⟨_,rfl⟩
 ·cases h
def oBa (s sep:List UInt8) (h:Heap):Option ((List UInt8×List UInt8×Bool×Unit)×Heap):=bif pinned h&&Nat.blt s.length 4294967281 then some (((Lib.cut s sep).1,(Lib.cut s sep).2.1,(Lib.cut s sep).2.2,()),h) else none
theorem rAf (_N:Nat):cD Tryz.prog 196 [(.one .str),(.one .str)] (.tup [(.one .str),(.one .str),(.one .bool)]) (fun x h=>oBa x.1 x.2.1 h):=by
 intro xs h r h' hx μ w args' hr hv;obtain ⟨s,sep,_⟩:=xs;have hx':oBa s sep h=some (r,h'):=hx;unfold oBa at hx'
 cases hb:(pinned h&&Nat.blt s.length 4294967281) with
 | false=>rw [hb] at hx';cases hx'
 | true=>
  rw [hb] at hx';simp only [cond_true,Option.some.injEq,Prod.mk.injEq] at hx';obtain ⟨rfl,rfl⟩:=hx';simp only [Bool.and_eq_true,pinned] at hb;obtain ⟨⟨⟨_,b3⟩,b4⟩,b5⟩:=hb;obtain ⟨m,b4⟩:=uAs b4;have hv':VRs μ [.str s,.str sep] args'.toList:=hv;simp only [VRs,VR] at hv';obtain ⟨y1,ys1,e1,rfl,y2,ys2,e2,rfl,e3⟩:=hv';subst e2 e3;have ea:args' = #[.string ⟨s.toArray⟩,.string ⟨sep.toArray⟩]:=by rw [← Array.toList_inj,e1]
  subst ea;have hm2:=hr.pin _ (wM b3);have hrow:RowR μ w fB5 [.int .i64 m]:=hr.blk 4 fB5 _ hm2 b4;obtain ⟨y,h1,h2⟩:=hrow.cell 0 _ rfl;simp only [VR] at h2;subst h2;have hs:(⟨s.toArray⟩:ByteArray).size<4294967281:=by
   have:s.length<4294967281:=by simpa [Nat.blt_eq] using b5
   exact this
  refine ⟨mA5 mBd (fn:=Tryz.f196) (by kernel_rfl) (by kernel_rfl) _ _,(Any.strings_Cut lays ⟨s.toArray⟩ ⟨sep.toArray⟩ m w hs h1).mono ?_⟩;rintro ev w' ⟨rfl,n,rfl⟩;have hb:Below w.heap.size w (w.drewN n):=below_drewN (Below.refl _ _) n;refine ⟨_,rfl,μ,?_,hr.below hb,Ext.of_below hb⟩;show VR μ (.tuple [.str _,.str _,.bool _]) _;simp only [VR,VRs];exact ⟨_,rfl,_,_,rfl,rfl,_,_,rfl,rfl,_,_,rfl,rfl,rfl⟩
end Qk
namespace Qp
noncomputable section
def pA7 (N:Nat) (rec32:zA3→SL→Heap→Option (Bool×Heap)) (go:zA3→SL→Bool→SL→Int→Heap→Option (Out×zA1×Heap)) (v0:zA3) (v1:SL) (v4:Bool) (v5:SL) (v6:Int) (h:Heap):Option (Out×zA1×Heap):=let x2:=uB v6 (Int.ofNat v1.len);(bif x2 then(ixK v1.a v1.len v6 32 fun q3=>(iA (.val zA) (h.cells q3 32) fun (x4:zL)=>let h5:=h.push (.row yZA .own);(uA (h5.store (h.next,0) (yRA x4)) fun h6=>(iA (.val zY2) (h6.cell ((h.next,0).1,(h.next,0).2+0)) fun (x7:Int)=>let x8:=uB x7 1;(bif x8 then some (Out.ret,(false,()),h6)else(iA (.val zY2) (h6.cell ((h.next,0).1,(h.next,0).2+0)) fun (x9:Int)=>let x10:=uB 11 x9;(bif x10 then some (Out.ret,(false,()),h6)else(iA (.val zY2) (h6.cell ((h.next,0).1,(h.next,0).2+0)) fun (x11:Int)=>(ixK v5.a v5.len x11 1 fun q12=>(iA (.val zW2) (h6.cell q12) fun (x13:zA3)=>(iA (.val zY2) (h6.cell ((h.next,0).1,(h.next,0).2+0)) fun (x14:Int)=>let x15:=pA x14 2;(bif x15 then(iA (.val zW2) (h6.cell (((h.next,0).1,(h.next,0).2+9).1,((h.next,0).1,(h.next,0).2+9).2+0)) fun (x16:zA3)=>(iA (.val zY2) (h6.cell ((h.next,0).1,(h.next,0).2+1)) fun (x17:Int)=>let x18:=uB x17 0;(bif x18 then some (Out.ret,(false,()),h6)else(iA (.val zY2) (h6.cell ((h.next,0).1,(h.next,0).2+1)) fun (x19:Int)=>let x20:=bB .i64 ((Int.ofNat v0.length)-x19);let x21:=uB x20 (Int.ofNat x16.length);(bif x21 then some (Out.ret,(false,()),h6)else(iA (.val zY2) (h6.cell ((h.next,0).1,(h.next,0).2+1)) fun (x22:Int)=>(iA (.val zY2) (h6.cell ((h.next,0).1,(h.next,0).2+1)) fun (x23:Int)=>
 let x24:=bB .i64 (x23+(Int.ofNat x16.length));(iA (.val zW2) (qD E h6 9 (.str v0) (some (.int .i64 x22)) (some (.int .i64 x24))) fun (x25:zA3)=>let x26:=!pB x25 x16;(bif x26 then some (Out.ret,(false,()),h6)else(iA (.val zV2) (h6.cell ((h.next,0).1,(h.next,0).2+30)) fun (x27:SL)=>(kA (rec32 v0 x27 h6) fun (x28:Bool) h29=>let x30:=!x28;(bif x30 then some (Out.ret,(false,()),h29)else(iA (.val zV2) (h29.cell ((h.next,0).1,(h.next,0).2+31)) fun (x31:SL)=>(kA (rec32 v0 x31 h29) fun (x32:Bool) h33=>let x34:=!x32;(bif x34 then some (Out.ret,(false,()),h33)else let x35:=bB .i64 (v6+1);go v0 v1 v4 v5 x35 h33)))))))))))))))else(iA (.val zY2) (h6.cell ((h.next,0).1,(h.next,0).2+1)) fun (x36:Int)=>let x37:=uB x36 0;(bif x37 then some (Out.ret,(false,()),h6)else(iA (.val zY2) (h6.cell ((h.next,0).1,(h.next,0).2+1)) fun (x38:Int)=>let x39:=bB .i64 ((Int.ofNat v0.length)-x38);let x40:=uB x39 (Int.ofNat x13.length);(bif x40 then some (Out.ret,(false,()),h6)else(iA (.val zY2) (h6.cell ((h.next,0).1,(h.next,0).2+1)) fun (x41:Int)=>(iA (.val zY2) (h6.cell ((h.next,0).1,(h.next,0).2+1)) fun (x42:Int)=>let x43:=bB .i64 (x42+(Int.ofNat x13.length));(iA (.val zW2) (qD E h6 9 (.str v0) (some (.int .i64 x41)) (some (.int .i64 x43))) fun (x44:zA3)=>let x45:=!pB x44 x13;(bif x45 then some (Out.ret,(false,()),h6)else(iA (.val zV2) (h6.cell ((h.next,0).1,(h.next,0).2+30)) fun (x46:SL)=>(kA (rec32 v0 x46 h6) fun (x47:Bool) h48=>let x49:=!x47
 (bif x49 then some (Out.ret,(false,()),h48)else(iA (.val zV2) (h48.cell ((h.next,0).1,(h.next,0).2+31)) fun (x50:SL)=>(kA (rec32 v0 x50 h48) fun (x51:Bool) h52=>let x53:=!x51;(bif x53 then some (Out.ret,(false,()),h52)else let x54:=bB .i64 (v6+1);go v0 v1 v4 v5 x54 h52))))))))))))))))))))))))))else some ((Out.exit 0),(v4,()),h))
def fAj (N:Nat) (rec32:zA3→SL→Heap→Option (Bool×Heap)) (M:Nat) (v0:zA3) (v1:SL) (v4:Bool) (v5:SL) (v6:Int) (h:Heap):Option (Out×zA1×Heap):=iter (fun go s h=>pA7 N rec32 (fun v0 v1 v4 v5 v6 h=>go (v0,v1,v4,v5,v6,()) h) s.1 s.2.1 s.2.2.1 s.2.2.2.1 s.2.2.2.2.1 h) M (v0,v1,v4,v5,v6,()) h
theorem tAf (N rec32 M v0 v1 v4 v5 v6 h):fAj N rec32 (M+1) v0 v1 v4 v5 v6 h=pA7 N rec32 (fAj N rec32 M) v0 v1 v4 v5 v6 h:=rfl
def nAw (N:Nat) (rec32:zA3→SL→Heap→Option (Bool×Heap)) (a0:zA3) (a1:SL) (h:Heap):Option (Bool×Heap):=let h1:=h.push (.row [(.str []),(.str [108,101,116]),(.str []),(.str []),(.str [105,102]),(.str [119,104,105,108,101]),(.str [108,111,111,112]),(.str [123]),(.str [98,114,101,97,107]),(.str [99,111,110,116,105,110,117,101]),(.str [114,101,116,117,114,110]),(.str [100,114,111,112])] .own);(eE (fAj N rec32 N a0 a1 false ⟨(some (h.next,0)),12,12,1⟩ 0 h1) fun o55 (j56:zA1) h57=>(bif mD o55 (.exit 0) then some (true,h57)else some (j56.1,h57)))
def lBf:Ann:=(.two .n (.two .n (.two (.two .n (.two (.loop [(0,zW2),(1,zV2),(4,zX2),(5,zV2),(6,zY2)] [(.exit 0),.ret] [(4,zX2)] .n) .n)) .n)))
def pBa (N M:Nat):((zA3→SL→Heap→Option (Bool×Heap))×Unit):=Nat.rec (fun _ _ _=>none,()) (fun _ r=>(nAw N r.1,())) M
def f32 (N M:Nat):zA3→SL→Heap→Option (Bool×Heap):=(pBa N M).1
theorem gAj (N M a0 a1 h):f32 N (M+1) a0 a1 h=nAw N (f32 N M) a0 a1 h:=rfl
theorem qA4 (N:Nat):∀ M:Nat,(cD Tryz.prog 32 [zW2,zV2] (.val zX2) (fun x h=>f32 N M x.1 x.2.1 h))∧True
 | 0=>⟨(fun xs h r h' hx=>by cases hx),trivial⟩
 | M+1=>⟨pD (dA (qA4 N M).1 lA) N lBf Tryz.f32,trivial⟩
theorem qBa (N:Nat):cD Tryz.prog 32 [zW2,zV2] (.val zX2) (fun x h=>f32 N N x.1 x.2.1 h):=(qA4 N N).1
def f119 (N:Nat) (a0:zA3) (h:Heap):Option (Bool×Heap):=let x1:=!pB a0 [];(bif x1 then let x2:Bool:=uC (Int.ofNat a0.length) 32;(bif x2 then(eJ a0 0 fun x3=>(kA (f170 N x3 h) fun (x4:Bool) h5=>(bif x4 then(kA (f171 N a0 0 h5) fun (x6:Int) h7=>let x8:=pA x6 (Int.ofNat a0.length);(bif x8 then(kA (f172 N a0 h7) fun (x9:Bool) h10=>let x11:=!x9;some (x11,h10))else some (false,h7)))else some (false,h5))))else some (false,h))else some (false,h))
def rBa:Ann:=.n
theorem oN (N:Nat):cD Tryz.prog 119 [zW2] (.val zX2) (fun x h=>f119 N x.1 h):=pD (dA (uAd N) (dA (wA5 N) (dA (tAd N) lA))) N rBa Tryz.f119
def f122 (N:Nat) (a0:zA3) (h:Heap):Option (Bool×Heap):=(kA (f119 N a0 h) fun (x1:Bool) h2=>(bif x1 then some (true,h2)else(kA (f172 N a0 h2) fun (x3:Bool) h4=>some (x3,h4))))
def tBa:Ann:=.n
theorem vAs (N:Nat):cD Tryz.prog 122 [zW2] (.val zX2) (fun x h=>f122 N x.1 h):=pD (dA (uAd N) (dA (oN N) lA)) N tBa Tryz.f122
def lA1 (N:Nat) (go:SL→Bool→SL→Int→Int→Heap→Option (Out×zX1×Heap)) (v0:SL) (v2:Bool) (v5:SL) (v6 v7:Int) (h:Heap):Option (Out×zX1×Heap):=let x1:=uB v7 v6;(bif x1 then(ixK v5.a v5.len v7 1 fun q2=>(iA (.val zW2) (h.cell q2) fun (x3:zA3)=>(kA (f122 N x3 h) fun (x4:Bool) h5=>let x6:=!x4;(bif x6 then some (Out.ret,(v0,false,()),h5)else let x7:=bB .i64 (v7+1);go v0 v2 v5 v6 x7 h5))))else some ((Out.exit 0),(v0,v2,()),h))
def qA7 (N M:Nat) (v0:SL) (v2:Bool) (v5:SL) (v6 v7:Int) (h:Heap):Option (Out×zX1×Heap):=iter (fun go s h=>lA1 N (fun v0 v2 v5 v6 v7 h=>go (v0,v2,v5,v6,v7,()) h) s.1 s.2.1 s.2.2.1 s.2.2.2.1 s.2.2.2.2.1 h) M (v0,v2,v5,v6,v7,()) h
theorem rAb (N M v0 v2 v5 v6 v7 h):qA7 N (M+1) v0 v2 v5 v6 v7 h=lA1 N (qA7 N M) v0 v2 v5 v6 v7 h:=rfl
def f120 (N:Nat) (a0:SL) (h:Heap):Option (Bool×Heap):=(eE (qA7 N N a0 false a0 (Int.ofNat a0.len) 0 h) fun o8 (j9:zX1) h10=>(bif mD o8 (.exit 0) then let x11:Bool:=uC (Int.ofNat j9.1.len) 64;some (x11,h10)else some (j9.2.1,h10)))
def uBa:Ann:=(.two .n (.two (.two .n (.two (.loop [(0,zV2),(2,zX2),(5,zV2),(6,zY2),(7,zY2)] [(.exit 0),.ret] [(0,zV2),(2,zX2)] .n) .n)) .n))
theorem uAf (N:Nat):cD Tryz.prog 120 [zV2] (.val zX2) (fun x h=>f120 N x.1 h):=pD (dA (vAs N) lA) N uBa Tryz.f120
def f196 (N:Nat) (a0 a1:zA3) (h:Heap):Option (zM2×Heap):=Qk.oBa a0 a1 h
theorem rAf (N:Nat):cD Tryz.prog 196 [zW2,zW2] (.tup [zW2,zW2,zX2]) (fun x h=>f196 N x.1 x.2.1 h):=Qk.rAf N
def f173 (N:Nat) (a0:zA3) (h:Heap):Option (Bool×Heap):=(kA (f196 N a0 [58,58] h) fun (x1:zM2) h2=>(kA (f119 N x1.1 h2) fun (x3:Bool) h4=>(bif x3 then let x5:=!x1.2.2.1;(bif x5 then some (true,h4)else(kA (f119 N x1.2.1 h4) fun (x6:Bool) h7=>some (x6,h7)))else some (false,h4))))
def vBa:Ann:=.n
theorem wAs (N:Nat):cD Tryz.prog 173 [zW2] (.val zX2) (fun x h=>f173 N x.1 h):=pD (dA (rAf N) (dA (oN N) lA)) N vBa Tryz.f173
def f123 (N:Nat) (a0:zP) (h:Heap):Option (Bool×Heap):=let h1:=h.push (.row (yRC a0) .own);(iA (.val zW2) (h1.cell ((h.next,0).1,(h.next,0).2+1)) fun (x2:zA3)=>let x3:=pB x2 [];(bif x3 then(iA (.val zV2) (h1.cell ((h.next,0).1,(h.next,0).2+2)) fun (x4:SL)=>let x5:=pA (Int.ofNat x4.len) 0;(bif x5 then(iA (.val zV2) (h1.cell ((h.next,0).1,(h.next,0).2+3)) fun (x6:SL)=>let x7:=pA (Int.ofNat x6.len) 0;some (x7,h1))else some (false,h1)))else some (false,h1)))
def wBa:Ann:=.n
theorem yAs (N:Nat):cD Tryz.prog 123 [zC] (.val zX2) (fun x h=>f123 N x.1 h):=pD lA N wBa Tryz.f123
def aAt (N:Nat) (rec124:zP→Int→Heap→Option (Bool×Heap)) (a0:zP) (a1:Int) (h:Heap):Option (Bool×Heap):=let h1:=h.push (.row (yRC a0) .own);let x2:=uB 64 a1;(bif x2 then some (false,h1)else(iA (.val zY2) (h1.cell ((h.next,0).1,(h.next,0).2+0)) fun (x3:Int)=>let x4:=pA x3 3;(bif x4 then(iA (.val zW2) (h1.cell ((h.next,0).1,(h.next,0).2+1)) fun (x5:zA3)=>(kA (f173 N x5 h1) fun (x6:Bool) h7=>(bif x6 then(iA (.val zV2) (h7.cell ((h.next,0).1,(h.next,0).2+2)) fun (x8:SL)=>(kA (f120 N x8 h7) fun (x9:Bool) h10=>(bif x9 then(iA (.val zV2) (h10.cell ((h.next,0).1,(h.next,0).2+3)) fun (x11:SL)=>let x12:=pA (Int.ofNat x11.len) 0;some (x12,h10))else some (false,h10))))else some (false,h7))))else(kA (α:=zZ1) ( let x13:=pA x3 4;(bif x13 then some ((a1,(some (h.next,0)),x3,x13,()),h1)else let x14:=pA x3 5;some ((a1,(some (h.next,0)),x3,x14,()),h1))) fun (j15:zZ1) h16=>(bif j15.2.2.2.1 then(uA j15.2.1 fun q17=>(iA (.val zW2) (h16.cell (q17.1,q17.2+1)) fun (x18:zA3)=>let x19:=pB x18 [];(bif x19 then(uA j15.2.1 fun q20=>(iA (.val zV2) (h16.cell (q20.1,q20.2+2)) fun (x21:SL)=>let x22:Bool:=uC (Int.ofNat x21.len) 1;(bif x22 then(uA j15.2.1 fun q23=>(iA (.val zV2) (h16.cell (q23.1,q23.2+2)) fun (x24:SL)=>(kA (f120 N x24 h16) fun (x25:Bool) h26=>(bif x25 then(uA j15.2.1 fun q27=>(iA (.val zV2) (h26.cell (q27.1,q27.2+3)) fun (x28:SL)=>let x29:=pA (Int.ofNat x28.len) 1;(bif x29 then(uA j15.2.1 fun q30=>(iA (.val zV2) (h26.cell (q30.1,q30.2+3)) fun (x31:SL)=>
 (ixK x31.a x31.len 0 4 fun q32=>(iA (.val zC) (h26.cells q32 4) fun (x33:zP)=>let x34:=bB .i64 (j15.1+1);(kA (rec124 (x33.1,x33.2.1,x33.2.2.1,x33.2.2.2.1,()) x34 h26) fun (x35:Bool) h36=>some (x35,h36))))))else some (false,h26))))else some (false,h26)))))else some (false,h16))))else some (false,h16))))else(kA (α:=zW) ( let x37:=pA j15.2.2.1 1;(bif x37 then some ((j15.2.1,x37,()),h16)else let x38:=pA j15.2.2.1 2;some ((j15.2.1,x38,()),h16))) fun (j39:zW) h40=>(bif j39.2.1 then(uA j39.1 fun q41=>(iA (.val zC) (h40.cells q41 4) fun (x42:zP)=>(kA (f123 N (x42.1,x42.2.1,x42.2.2.1,x42.2.2.2.1,()) h40) fun (x43:Bool) h44=>some (x43,h44))))else some (false,h40))))))))
def yBa:Ann:=(.two .n (.two .n (.two (.two .n (.two (.two .n (.two .n (.two (.join [(1,zY2),(2,zU2),(8,zY2),(25,zX2)] .n) (.two .n (.two (.join [(2,zU2),(57,zX2)] .n) .n))))) .n)) .n)))
def rB3 (N M:Nat):((zP→Int→Heap→Option (Bool×Heap))×Unit):=Nat.rec (fun _ _ _=>none,()) (fun _ r=>(aAt N r.1,())) M
def f124 (N M:Nat):zP→Int→Heap→Option (Bool×Heap):=(rB3 N M).1
theorem bAt (N M a0 a1 h):f124 N (M+1) a0 a1 h=aAt N (f124 N M) a0 a1 h:=rfl
theorem mA1 (N:Nat):∀ M:Nat,(cD Tryz.prog 124 [zC,zY2] (.val zX2) (fun x h=>f124 N M x.1 x.2.1 h))∧True
 | 0=>⟨(fun xs h r h' hx=>by cases hx),trivial⟩
 | M+1=>⟨pD (dA (wAs N) (dA (mA1 N M).1 (dA (yAs N) (dA (uAf N) lA)))) N yBa Tryz.f124,trivial⟩
theorem vAf (N:Nat):cD Tryz.prog 124 [zC,zY2] (.val zX2) (fun x h=>f124 N N x.1 x.2.1 h):=(mA1 N N).1
def nA1 (N:Nat) (go:SL→Bool→Bool→SL→Int→Int→Heap→Option (Out×zX1×Heap)) (v0:SL) (v1 v4:Bool) (v7:SL) (v8 v9:Int) (h:Heap):Option (Out×zX1×Heap):=let x1:=uB v9 v8;(bif x1 then(ixK v7.a v7.len v9 6 fun q2=>(iA (.val zJ) (h.cells q2 6) fun (x3:zG1)=>let h4:=h.push (.row yZF .own);(uA (h4.store (h.next,0) (yRG x3)) fun h5=>(iA (.val zX2) (h5.cell ((h.next,0).1,(h.next,0).2+0)) fun (x6:Bool)=>(bif x6 then let x7:=!v1;(bif x7 then some (Out.ret,(v0,false,()),h5)else(iA (.val zW2) (h5.cell ((h.next,0).1,(h.next,0).2+1)) fun (x8:zA3)=>(kA (f119 N x8 h5) fun (x9:Bool) h10=>let x11:=!x9;(bif x11 then some (Out.ret,(v0,false,()),h10)else(iA (.val zC) (h10.cells ((h.next,0).1,(h.next,0).2+2) 4) fun (x12:zP)=>(kA (f124 N N (x12.1,x12.2.1,x12.2.2.1,x12.2.2.2.1,()) 1 h10) fun (x13:Bool) h14=>let x15:=!x13;(bif x15 then some (Out.ret,(v0,false,()),h14)else let x16:=bB .i64 (v9+1);go v0 v1 v4 v7 v8 x16 h14)))))))else(iA (.val zW2) (h5.cell ((h.next,0).1,(h.next,0).2+1)) fun (x17:zA3)=>(kA (f119 N x17 h5) fun (x18:Bool) h19=>let x20:=!x18;(bif x20 then some (Out.ret,(v0,false,()),h19)else(iA (.val zC) (h19.cells ((h.next,0).1,(h.next,0).2+2) 4) fun (x21:zP)=>(kA (f124 N N (x21.1,x21.2.1,x21.2.2.1,x21.2.2.2.1,()) 1 h19) fun (x22:Bool) h23=>let x24:=!x22;(bif x24 then some (Out.ret,(v0,false,()),h23)else let x25:=bB .i64 (v9+1);go v0 v1 v4 v7 v8 x25 h23)))))))))))else some ((Out.exit 0),(v0,v4,()),h))
def rA7 (N M:Nat) (v0:SL) (v1 v4:Bool) (v7:SL) (v8 v9:Int) (h:Heap):Option (Out×zX1×Heap):=iter (fun go s h=>nA1 N (fun v0 v1 v4 v7 v8 v9 h=>go (v0,v1,v4,v7,v8,v9,()) h) s.1 s.2.1 s.2.2.1 s.2.2.2.1 s.2.2.2.2.1 s.2.2.2.2.2.1 h) M (v0,v1,v4,v7,v8,v9,()) h
theorem tAb (N M v0 v1 v4 v7 v8 v9 h):rA7 N (M+1) v0 v1 v4 v7 v8 v9 h=nA1 N (rA7 N M) v0 v1 v4 v7 v8 v9 h:=rfl
def f121 (N:Nat) (a0:SL) (a1:Bool) (h:Heap):Option (Bool×Heap):=(eE (rA7 N N a0 a1 false a0 (Int.ofNat a0.len) 0 h) fun o26 (j27:zX1) h28=>(bif mD o26 (.exit 0) then let x29:Bool:=uC (Int.ofNat j27.1.len) 64;some (x29,h28)else some (j27.2.1,h28)))
def aBb:Ann:=(.two .n (.two (.two .n (.two (.loop [(0,zV2),(1,zX2),(4,zX2),(7,zV2),(8,zY2),(9,zY2)] [(.exit 0),.ret] [(0,zV2),(4,zX2)] .n) .n)) .n))
theorem cAt (N:Nat):cD Tryz.prog 121 [zV2,zX2] (.val zX2) (fun x h=>f121 N x.1 x.2.1 h):=pD (dA (vAf N) (dA (oN N) lA)) N aBb Tryz.f121
def f79 (N:Nat) (a0:zD1) (h:Heap):Option (Bool×Heap):=let h1:=h.push (.row (yRH a0) .own);(iA (.val zW2) (h1.cell ((h.next,0).1,(h.next,0).2+1)) fun (x2:zA3)=>(kA (f119 N x2 h1) fun (x3:Bool) h4=>(bif x3 then(iA (.val zV2) (h4.cell ((h.next,0).1,(h.next,0).2+2)) fun (x5:SL)=>(kA (f120 N x5 h4) fun (x6:Bool) h7=>(bif x6 then(iA (.val zV2) (h7.cell ((h.next,0).1,(h.next,0).2+3)) fun (x8:SL)=>(kA (f121 N x8 false h7) fun (x9:Bool) h10=>some (x9,h10)))else some (false,h7))))else some (false,h4))))
def mBf:Ann:=.n
theorem bBb (N:Nat):cD Tryz.prog 79 [zH] (.val zX2) (fun x h=>f79 N x.1 h):=pD (dA (cAt N) (dA (uAf N) (dA (oN N) lA))) N mBf Tryz.f79
def pA1 (N:Nat) (go:zT2→Bool→SL→Int→Int→Heap→Option (Out×zW×Heap)) (v1:zT2) (v2:Bool) (v6:SL) (v7 v8:Int) (h:Heap):Option (Out×zW×Heap):=let x3:=uB v8 v7;(bif x3 then(ixK v6.a v6.len v8 1 fun q4=>(iA (.val zW2) (h.cell q4) fun (x5:zA3)=>let x6:=!pB x5 [42];(bif x6 then(kA (f119 N x5 h) fun (x7:Bool) h8=>let x9:=!x7;(bif x9 then some (Out.ret,(v1,false,()),h8)else let x10:=bB .i64 (v8+1);go v1 v2 v6 v7 x10 h8))else let x11:=bB .i64 (v8+1);go v1 v2 v6 v7 x11 h)))else some ((Out.exit 0),(v1,v2,()),h))
def qA1 (N M:Nat) (v1:zT2) (v2:Bool) (v6:SL) (v7 v8:Int) (h:Heap):Option (Out×zW×Heap):=iter (fun go s h=>pA1 N (fun v1 v2 v6 v7 v8 h=>go (v1,v2,v6,v7,v8,()) h) s.1 s.2.1 s.2.2.1 s.2.2.2.1 s.2.2.2.2.1 h) M (v1,v2,v6,v7,v8,()) h
theorem uAb (N M v1 v2 v6 v7 v8 h):qA1 N (M+1) v1 v2 v6 v7 v8 h=pA1 N (qA1 N M) v1 v2 v6 v7 v8 h:=rfl
def f198 (N:Nat) (a0:zY) (h:Heap):Option (Bool×Heap):=let h1:=h.push (.row (yRI a0) .own);(iA (.val zV2) (h1.cell ((h.next,0).1,(h.next,0).2+1)) fun (x2:SL)=>(eE (qA1 N N (some (h.next,0)) false x2 (Int.ofNat x2.len) 0 h1) fun o12 (j13:zW) h14=>(bif mD o12 (.exit 0) then(uA j13.1 fun q15=>(iA (.val zW2) (h14.cell (q15.1,q15.2+0)) fun (x16:zA3)=>(kA (f119 N x16 h14) fun (x17:Bool) h18=>(bif x17 then(uA j13.1 fun q19=>(iA (.val zV2) (h18.cell (q19.1,q19.2+1)) fun (x20:SL)=>let x21:Bool:=uC (Int.ofNat x20.len) 64;some (x21,h18)))else some (false,h18)))))else some (j13.2.1,h14))))
def cBb:Ann:=(.two .n (.two (.two .n (.two (.loop [(1,zU2),(2,zX2),(6,zV2),(7,zY2),(8,zY2)] [(.exit 0),.ret] [(1,zU2),(2,zX2)] .n) .n)) .n))
theorem wAf (N:Nat):cD Tryz.prog 198 [zI] (.val zX2) (fun x h=>f198 N x.1 h):=pD (dA (oN N) lA) N cBb Tryz.f198
def f200 (N:Nat) (a0:zT) (h:Heap):Option (Bool×Heap):=let h1:=h.push (.row (yRE a0) .own);(iA (.val zI) (h1.cells ((h.next,0).1,(h.next,0).2+2) 2) fun (x2:zY)=>(kA (f164 N (x2.1,x2.2.1,()) ([],⟨none,0,0,0⟩,()) h1) fun (x3:Bool) h4=>(iA (.val zY2) (h4.cell ((h.next,0).1,(h.next,0).2+0)) fun (x5:Int)=>let x6:=pA x5 1;(bif x6 then(bif x3 then(iA (.val zY2) (h4.cell ((h.next,0).1,(h.next,0).2+1)) fun (x7:Int)=>let x8:Bool:=uC 0 x7;(bif x8 then(iA (.val zY2) (h4.cell ((h.next,0).1,(h.next,0).2+1)) fun (x9:Int)=>let x10:Bool:=uC x9 2147483647;some (x10,h4))else some (false,h4)))else some (false,h4))else let x11:=pA x5 2;(bif x11 then(bif x3 then(iA (.val zY2) (h4.cell ((h.next,0).1,(h.next,0).2+1)) fun (x12:Int)=>let x13:=pA x12 0;(bif x13 then some (true,h4)else(iA (.val zY2) (h4.cell ((h.next,0).1,(h.next,0).2+1)) fun (x14:Int)=>let x15:=pA x14 1;some (x15,h4))))else some (false,h4))else let x16:=pA x5 3;(bif x16 then(iA (.val zY2) (h4.cell ((h.next,0).1,(h.next,0).2+1)) fun (x17:Int)=>let x18:=pA x17 0;(bif x18 then(iA (.val zI) (h4.cells ((h.next,0).1,(h.next,0).2+2) 2) fun (x19:zY)=>(kA (f198 N (x19.1,x19.2.1,()) h4) fun (x20:Bool) h21=>some (x20,h21)))else some (false,h4)))else some (false,h4)))))))
def dBb:Ann:=.n
theorem yAf (N:Nat):cD Tryz.prog 200 [zE] (.val zX2) (fun x h=>f200 N x.1 h):=pD (dA (wAf N) (dA (yA6 N) lA)) N dBb Tryz.f200
def f229 (N:Nat) (a0:zT) (h:Heap):Option (Bool×Heap):=let h1:=h.push (.row (yRE a0) .own);(iA (.val zE) (h1.cells (h.next,0) 4) fun (x2:zT)=>(kA (f200 N (x2.1,x2.2.1,x2.2.2.1,x2.2.2.2.1,()) h1) fun (x3:Bool) h4=>let x5:=!x3;some (x5,h4)))
def eBb:Ann:=.n
theorem tB3 (N:Nat):cD Tryz.prog 229 [zE] (.val zX2) (fun x h=>f229 N x.1 h):=pD (dA (yAf N) lA) N eBb Tryz.f229
def dM (N:Nat) (go:SL→(Unit)→Int→Int→Int→Heap→Option (Out×zQ1×Heap)) (v0:SL) (v1:(Unit)) (v4 v7 v8:Int) (h:Heap):Option (Out×zQ1×Heap):=let x1:=uB v8 v7;(bif x1 then(ixK v0.a v0.len v8 4 fun q2=>(iA (.val zE) (h.cells q2 4) fun (x3:zT)=>(kA (f229 N (x3.1,x3.2.1,x3.2.2.1,x3.2.2.2.1,()) h) fun (x4:Bool) h5=>(bif x4 then some (Out.ret,(v8,()),h5)else let x6:=bB .i64 (v8+1);go v0 (()) v4 v7 x6 h5))))else some ((Out.exit 0),(v4,()),h))
def eM (N M:Nat) (v0:SL) (v1:(Unit)) (v4 v7 v8:Int) (h:Heap):Option (Out×zQ1×Heap):=iter (fun go s h=>dM N (fun v0 v1 v4 v7 v8 h=>go (v0,v1,v4,v7,v8,()) h) s.1 s.2.1 s.2.2.1 s.2.2.2.1 s.2.2.2.2.1 h) M (v0,v1,v4,v7,v8,()) h
theorem fX (N M v0 v1 v4 v7 v8 h):eM N (M+1) v0 v1 v4 v7 v8 h=dM N (eM N M) v0 v1 v4 v7 v8 h:=rfl
def tA7 (N:Nat) (a0:SL) (a1:(Unit)) (h:Heap):Option (Int×Heap):=(eE (eM N N a0 (()) 0 (Int.ofNat a0.len) 0 h) fun o7 (j8:zQ1) h9=>(bif mD o7 (.exit 0) then some ((-1),h9)else some (j8.1,h9)))
def oAm:Ann:=(.two .n (.two (.two .n (.two (.loop [(0,zV2),(1,(.clo 229 [])),(4,zY2),(7,zY2),(8,zY2)] [(.exit 0),.ret] [(4,zY2)] .n) .n)) .n))
theorem aAg (N:Nat):cD Tryz.prog 239 [zV2,(.clo 229 [])] (.val zY2) (fun x h=>tA7 N x.1 x.2.1 h):=pD (dA (tB3 N) lA) N oAm Tryz.f239
def uA7 (N:Nat) (a0:SL) (a1:(Unit)) (h:Heap):Option (Bool×Heap):=(kA (tA7 N a0 (()) h) fun (x1:Int) h2=>let x3:Bool:=uC 0 x1;some (x3,h2))
def pAm:Ann:=.n
theorem bAg (N:Nat):cD Tryz.prog 228 [zV2,(.clo 229 [])] (.val zX2) (fun x h=>uA7 N x.1 x.2.1 h):=pD (qC (sel:=fun a=>bL 1 229 a) (aAg N) lA) N pAm Tryz.f228
def f216 (N:Nat) (a0:SL) (h:Heap):Option (Bool×Heap):=let x1:Bool:=uC (Int.ofNat a0.len) 64;(bif x1 then(kA (uA7 N a0 (()) h) fun (x2:Bool) h3=>let x4:=!x2;some (x4,h3))else some (false,h))
def fBb:Ann:=.n
theorem uB3 (N:Nat):cD Tryz.prog 216 [zV2] (.val zX2) (fun x h=>f216 N x.1 h):=pD (qC (sel:=fun a=>bL 1 229 a) (bAg N) lA) N fBb Tryz.f216
def rA1 (N:Nat) (go:zT2→Bool→zT2→SL→Int→Int→Heap→Option (Out×zN×Heap)) (v1:zT2) (v3:Bool) (v4:zT2) (v28:SL) (v29 v30:Int) (h:Heap):Option (Out×zN×Heap):=let x51:=uB v30 v29;(bif x51 then(kA (α:=zY1) ((ixK v28.a v28.len v30 1 fun q52=>(iA (.val zW2) (h.cell q52) fun (x53:zA3)=>(bif v3 then(kA (f119 N x53 h) fun (x54:Bool) h55=>some ((v1,x54,v4,v28,v29,v30,()),h55))else some ((v1,false,v4,v28,v29,v30,()),h))))) fun (j56:zY1) h57=>let x58:=bB .i64 (j56.2.2.2.2.2.1+1);go j56.1 j56.2.1 j56.2.2.1 j56.2.2.2.1 j56.2.2.2.2.1 x58 h57)else some ((Out.exit 7),(v1,v3,v4,()),h))
def tA1 (N M:Nat) (v1:zT2) (v3:Bool) (v4:zT2) (v28:SL) (v29 v30:Int) (h:Heap):Option (Out×zN×Heap):=iter (fun go s h=>rA1 N (fun v1 v3 v4 v28 v29 v30 h=>go (v1,v3,v4,v28,v29,v30,()) h) s.1 s.2.1 s.2.2.1 s.2.2.2.1 s.2.2.2.2.1 s.2.2.2.2.2.1 h) M (v1,v3,v4,v28,v29,v30,()) h
theorem vAb (N M v1 v3 v4 v28 v29 v30 h):tA1 N (M+1) v1 v3 v4 v28 v29 v30 h=rA1 N (tA1 N M) v1 v3 v4 v28 v29 v30 h:=rfl
def f199 (N:Nat) (a0:zO) (h:Heap):Option (Bool×Heap):=let h1:=h.push (.row (yRB a0) .own);(iA (.val zB) (h1.cells (h.next,0) 15) fun (x2:zO)=>let h3:=h1.push (.row yZB .own);(uA (h3.store (h1.next,0) (yRB x2)) fun h4=>(uA (α:=Sum (zB1×Heap) (Sum (zA1×Heap) (Empty))) ((iA (.val zY2) (h4.cell ((h.next,0).1,(h.next,0).2+0)) fun (x5:Int)=>(uA (α:=Sum (zN×Heap) (Sum (zB1×Heap) (Sum ((Unit)×Heap) (Empty)))) ((uA (α:=Sum (zM×Heap) (Sum (zB1×Heap) (Sum (zN×Heap) (Sum ((Unit)×Heap) (Empty))))) ((uA (α:=Sum (zN×Heap) (Sum (zB1×Heap) (Sum (zM×Heap) (Sum (zN×Heap) (Sum ((Unit)×Heap) (Empty)))))) ((uA (α:=Sum (zN×Heap) (Sum (zB1×Heap) (Sum (zN×Heap) (Sum (zM×Heap) (Sum (zN×Heap) (Sum ((Unit)×Heap) (Empty))))))) ((uA (α:=Sum (zM×Heap) (Sum (zN×Heap) (Sum (zN×Heap) (Sum (zM×Heap) (Sum (zN×Heap) (Sum ((Unit)×Heap) (Empty))))))) ((uA (α:=Sum (zN1×Heap) (Sum (zM×Heap) (Empty))) ( let x6:=pA x5 2;(bif x6 then(bif x6 then some (Sum.inr (Sum.inl (((some (h.next,0)),(some (h1.next,0)),()),h4)))else some (Sum.inl (((some (h.next,0)),true,(some (h1.next,0)),x5,()),h4)))else let x7:=pA x5 3;(bif x7 then some (Sum.inr (Sum.inl (((some (h.next,0)),(some (h1.next,0)),()),h4)))else some (Sum.inl (((some (h.next,0)),true,(some (h1.next,0)),x5,()),h4))))) fun j8=>(dC j8 (fun (j9:zN1) h10=>let x12:=pA j9.2.2.2.1 7;(bif x12 then some (Sum.inr (Sum.inl ((j9.1,j9.2.1,j9.2.2.1,()),h10)))else let x13:=pA j9.2.2.2.1 6;(bif x13 then some (Sum.inr (Sum.inr (Sum.inl ((j9.1,j9.2.1,j9.2.2.1,()),h10))))
 else let x14:=pA j9.2.2.2.1 5;(bif x14 then some (Sum.inr (Sum.inr (Sum.inr (Sum.inl ((j9.1,j9.2.2.1,()),h10)))))else let x15:=pA j9.2.2.2.1 1;(bif x15 then(bif x15 then some (Sum.inr (Sum.inr (Sum.inr (Sum.inr (Sum.inl ((j9.1,j9.2.1,j9.2.2.1,()),h10))))))else some (Sum.inr (Sum.inr (Sum.inr (Sum.inr (Sum.inr (Sum.inl ((()),h10))))))))else let x16:=pA j9.2.2.2.1 4;(bif x16 then some (Sum.inr (Sum.inr (Sum.inr (Sum.inr (Sum.inl ((j9.1,j9.2.1,j9.2.2.1,()),h10))))))else some (Sum.inr (Sum.inr (Sum.inr (Sum.inr (Sum.inr (Sum.inl ((()),h10))))))))))))) fun j11=>(dC j11 (fun (j17:zM) h18=>some (Sum.inl ((j17.1,j17.2.1,()),h18))) fun _=>none)))) fun j20=>(dC j20 (fun (j21:zM) h22=>(uA j21.1 fun q24=>(iA (.val zI) (h22.cells (q24.1,q24.2+10) 2) fun (x25:zY)=>(kA (f198 N (x25.1,x25.2.1,()) h22) fun (x26:Bool) h27=>(uA j21.2.1 fun q28=>(uA (h27.store (q28.1,q28.2+10) yZJ) fun h29=>some (Sum.inr (Sum.inl ((x26,j21.2.1,()),h29))))))))) fun j23=>(dC j23 (fun (j30:zN) h31=>some (Sum.inl ((j30.1,j30.2.1,j30.2.2.1,()),h31))) fun j32=>(dC j32 (fun (j33:zN) h34=>some (Sum.inr (Sum.inr (Sum.inl ((j33.1,j33.2.1,j33.2.2.1,()),h34))))) fun j35=>(dC j35 (fun (j36:zM) h37=>some (Sum.inr (Sum.inr (Sum.inr (Sum.inl ((j36.1,j36.2.1,()),h37)))))) fun j38=>(dC j38 (fun (j39:zN) h40=>some (Sum.inr (Sum.inr (Sum.inr (Sum.inr (Sum.inl ((j39.1,j39.2.1,j39.2.2.1,()),h40))))))) fun j41=>(dC j41 (fun (j42:(Unit)) h43=>some (Sum.inr (Sum.inr (Sum.inr (Sum.inr (Sum.inr (Sum.inl ((()),h43)))))))) fun _=>
 none)))))))) fun j45=>(dC j45 (fun (j46:zN) h47=>(uA j46.1 fun q49=>(iA (.val zV2) (h47.cell (q49.1,q49.2+13)) fun (x50:SL)=>(eE (tA1 N N j46.1 j46.2.1 j46.2.2.1 x50 (Int.ofNat x50.len) 0 h47) fun _ (j60:zN) h61=>(kA (α:=zN) ((bif j60.2.1 then(uA j60.1 fun q62=>(iA (.val zV2) (h61.cell (q62.1,q62.2+13)) fun (x63:SL)=>(uA j60.1 fun q64=>(iA (.val zV2) (h61.cell (q64.1,q64.2+14)) fun (x65:SL)=>let x66:=pA (Int.ofNat x63.len) (Int.ofNat x65.len);some ((j60.1,x66,j60.2.2.1,()),h61)))))else some ((j60.1,false,j60.2.2.1,()),h61))) fun (j67:zN) h68=>(uA j67.2.2.1 fun q69=>(uA (h68.store (q69.1,q69.2+13) yZK) fun h70=>some (Sum.inl ((j67.1,j67.2.1,j67.2.2.1,()),h70))))))))) fun j48=>(dC j48 (fun (j71:zB1) h72=>some (Sum.inr (Sum.inl ((j71.1,j71.2.1,()),h72)))) fun j73=>(dC j73 (fun (j74:zN) h75=>some (Sum.inl ((j74.1,j74.2.1,j74.2.2.1,()),h75))) fun j76=>(dC j76 (fun (j77:zM) h78=>some (Sum.inr (Sum.inr (Sum.inl ((j77.1,j77.2.1,()),h78))))) fun j79=>(dC j79 (fun (j80:zN) h81=>some (Sum.inr (Sum.inr (Sum.inr (Sum.inl ((j80.1,j80.2.1,j80.2.2.1,()),h81)))))) fun j82=>(dC j82 (fun (j83:(Unit)) h84=>some (Sum.inr (Sum.inr (Sum.inr (Sum.inr (Sum.inl ((()),h84))))))) fun _=>none)))))))) fun j86=>(dC j86 (fun (j87:zN) h88=>(kA (α:=zB1) ((bif j87.2.1 then(uA j87.1 fun q90=>(iA (.val zW2) (h88.cell (q90.1,q90.2+12)) fun (x91:zA3)=>(kA (f173 N x91 h88) fun (x92:Bool) h93=>(bif x92 then(uA j87.1 fun q94=>(iA (.val zV2) (h93.cell (q94.1,q94.2+14)) fun (x95:SL)=>
 (kA (f216 N x95 h93) fun (x96:Bool) h97=>some ((x96,j87.2.2.1,()),h97))))else some ((false,j87.2.2.1,()),h93)))))else some ((false,j87.2.2.1,()),h88))) fun (j98:zB1) h99=>(uA j98.2.1 fun q100=>(uA (h99.store (q100.1,q100.2+12) [(.str [])]) fun h101=>(uA j98.2.1 fun q102=>(uA (h101.store (q102.1,q102.2+14) yZK) fun h103=>some (Sum.inr (Sum.inl ((j98.1,j98.2.1,()),h103))))))))) fun j89=>(dC j89 (fun (j104:zB1) h105=>some (Sum.inr (Sum.inl ((j104.1,j104.2.1,()),h105)))) fun j106=>(dC j106 (fun (j107:zM) h108=>some (Sum.inl ((j107.1,j107.2.1,()),h108))) fun j109=>(dC j109 (fun (j110:zN) h111=>some (Sum.inr (Sum.inr (Sum.inl ((j110.1,j110.2.1,j110.2.2.1,()),h111))))) fun j112=>(dC j112 (fun (j113:(Unit)) h114=>some (Sum.inr (Sum.inr (Sum.inr (Sum.inl ((()),h114)))))) fun _=>none))))))) fun j116=>(dC j116 (fun (j117:zM) h118=>(kA (α:=zN) ((uA j117.1 fun q120=>(iA (.val zY2) (h118.cell (q120.1,q120.2+9)) fun (x121:Int)=>let x122:Bool:=uC 1 x121;(bif x122 then(uA j117.1 fun q123=>(iA (.val zY2) (h118.cell (q123.1,q123.2+9)) fun (x124:Int)=>let x125:Bool:=uC x124 4;(bif x125 then(uA j117.1 fun q126=>(iA (.val zE) (h118.cells (q126.1,q126.2+5) 4) fun (x127:zT)=>(kA (f200 N (x127.1,x127.2.1,x127.2.2.1,x127.2.2.2.1,()) h118) fun (x128:Bool) h129=>some ((j117.1,x128,j117.2.1,()),h129))))else some ((j117.1,false,j117.2.1,()),h118))))else some ((j117.1,false,j117.2.1,()),h118))))) fun (j130:zN) h131=>(uA j130.2.2.1 fun q132=>(uA (h131.store (q132.1,q132.2+9) yZL) fun h133=>
 (uA j130.2.2.1 fun q134=>(uA (h133.store (q134.1,q134.2+5) yZH) fun h135=>some (Sum.inl ((j130.1,j130.2.1,j130.2.2.1,()),h135)))))))) fun j119=>(dC j119 (fun (j136:zB1) h137=>some (Sum.inr (Sum.inl ((j136.1,j136.2.1,()),h137)))) fun j138=>(dC j138 (fun (j139:zN) h140=>some (Sum.inl ((j139.1,j139.2.1,j139.2.2.1,()),h140))) fun j141=>(dC j141 (fun (j142:(Unit)) h143=>some (Sum.inr (Sum.inr (Sum.inl ((()),h143))))) fun _=>none)))))) fun j145=>(dC j145 (fun (j146:zN) h147=>(kA (α:=zB1) ((bif j146.2.1 then(uA j146.1 fun q149=>(iA (.val zE) (h147.cells (q149.1,q149.2+1) 4) fun (x150:zT)=>(kA (f200 N (x150.1,x150.2.1,x150.2.2.1,x150.2.2.2.1,()) h147) fun (x151:Bool) h152=>some ((x151,j146.2.2.1,()),h152))))else some ((false,j146.2.2.1,()),h147))) fun (j153:zB1) h154=>(uA j153.2.1 fun q155=>(uA (h154.store (q155.1,q155.2+1) yZH) fun h156=>some (Sum.inl ((j153.1,j153.2.1,()),h156)))))) fun j148=>(dC j148 (fun (j157:zB1) h158=>some (Sum.inl ((j157.1,j157.2.1,()),h158))) fun j159=>(dC j159 (fun (j160:(Unit)) h161=>some (Sum.inr (Sum.inl ((false,()),h161)))) fun _=>none)))))) fun j163=>(dC j163 (fun (j164:zB1) h165=>(uA j164.2.1 fun q167=>(uA (h165.store (q167.1,q167.2+0) yZL) fun h168=>(bif j164.1 then(uA j164.2.1 fun q169=>(iA (.val zB) (h168.cells q169 15) fun (x170:zO)=>(kA (f165 N (x170.1,x170.2.1,x170.2.2.1,x170.2.2.2.1,x170.2.2.2.2.1,x170.2.2.2.2.2.1,x170.2.2.2.2.2.2.1,x170.2.2.2.2.2.2.2.1,x170.2.2.2.2.2.2.2.2.1,x170.2.2.2.2.2.2.2.2.2.1,x170.2.2.2.2.2.2.2.2.2.2.1,x170.2.2.2.2.2.2.2.2.2.2.2.1,x170.2.2.2.2.2.2.2.2.2.2.2.2.1,x170.2.2.2.2.2.2.2.2.2.2.2.2.2.1,x170.2.2.2.2.2.2.2.2.2.2.2.2.2.2.1,()) (0,0,0,[],⟨none,0,0,0⟩,0,0,[],⟨none,0,0,0⟩,0,[],⟨none,0,0,0⟩,[],⟨none,0,0,0⟩,⟨none,0,0,0⟩,()) h168) fun (x171:Bool) h172=>
 some (x171,h172))))else some (false,h168))))) fun j166=>(dC j166 (fun (j173:zA1) h174=>some (j173.1,h174)) fun _=>none)))))
def gBb:Ann:=(.two .n (.two .n (.two .n (.two (.joinO [(.norm,[(3,zX2),(4,zU2)]),(.ret,[(2,zX2)])] (.two .n (.two (.two (.two (.two (.joinO [(.norm,[(1,zU2),(3,zX2),(4,zU2)]),((.exit 0),[(3,zX2),(4,zU2)]),((.exit 6),[])] (.two (.two (.joinO [(.norm,[(1,zU2),(4,zU2)]),((.exit 0),[(3,zX2),(4,zU2)]),((.exit 5),[(1,zU2),(3,zX2),(4,zU2)]),((.exit 6),[])] (.two (.two (.joinO [(.norm,[(1,zU2),(3,zX2),(4,zU2)]),((.exit 0),[(3,zX2),(4,zU2)]),((.exit 4),[(1,zU2),(4,zU2)]),((.exit 5),[(1,zU2),(3,zX2),(4,zU2)]),((.exit 6),[])] (.two (.two (.joinO [(.norm,[(1,zU2),(3,zX2),(4,zU2)]),((.exit 0),[(3,zX2),(4,zU2)]),((.exit 3),[(1,zU2),(3,zX2),(4,zU2)]),((.exit 4),[(1,zU2),(4,zU2)]),((.exit 5),[(1,zU2),(3,zX2),(4,zU2)]),((.exit 6),[])] (.two (.two (.joinO [(.norm,[(1,zU2),(4,zU2)]),((.exit 2),[(1,zU2),(3,zX2),(4,zU2)]),((.exit 3),[(1,zU2),(3,zX2),(4,zU2)]),((.exit 4),[(1,zU2),(4,zU2)]),((.exit 5),[(1,zU2),(3,zX2),(4,zU2)]),((.exit 6),[])] (.two (.two (.two (.joinO [(.norm,[(1,zU2),(3,zX2),(4,zU2),(9,zY2)]),((.exit 1),[(1,zU2),(4,zU2)])] .n) .n) .n) .n)) .n) .n)) (.two (.two .n (.two (.loop [(1,zU2),(3,zX2),(4,zU2),(28,zV2),(29,zY2),(30,zY2)] [(.exit 7)] [(1,zU2),(3,zX2),(4,zU2)] (.two .n (.two .n (.two (.join [(1,zU2),(3,zX2),(4,zU2),(28,zV2),(29,zY2),(30,zY2)] .n) .n)))) .n)) (.two (.join [(1,zU2),(3,zX2),(4,zU2)] .n) .n))) .n)) (.two (.two (.join [(3,zX2),(4,zU2)] .n) .n) .n)) .n)) (.two (.join [(1,zU2),(3,zX2),(4,zU2)] .n) .n)) .n)) (.two (.two (.join [(3,zX2),(4,zU2)] .n) .n) .n)) .n) .n) .n))) .n))))
theorem dAt (N:Nat):cD Tryz.prog 199 [zB] (.val zX2) (fun x h=>f199 N x.1 h):=pD (dA (uB3 N) (dA (yAf N) (dA (wAf N) (dA (wAs N) (dA (mAr N) (dA (oN N) lA)))))) N gBb Tryz.f199
def f197 (N:Nat) (a0:zL) (h:Heap):Option (Bool×Heap):=let h1:=h.push (.row (yRA a0) .own);(iA (.val zX2) (h1.cell ((h.next,0).1,(h.next,0).2+8)) fun (x2:Bool)=>(bif x2 then(iA (.val zB) (h1.cells ((h.next,0).1,(h.next,0).2+11) 15) fun (x3:zO)=>(kA (f199 N (x3.1,x3.2.1,x3.2.2.1,x3.2.2.2.1,x3.2.2.2.2.1,x3.2.2.2.2.2.1,x3.2.2.2.2.2.2.1,x3.2.2.2.2.2.2.2.1,x3.2.2.2.2.2.2.2.2.1,x3.2.2.2.2.2.2.2.2.2.1,x3.2.2.2.2.2.2.2.2.2.2.1,x3.2.2.2.2.2.2.2.2.2.2.2.1,x3.2.2.2.2.2.2.2.2.2.2.2.2.1,x3.2.2.2.2.2.2.2.2.2.2.2.2.2.1,x3.2.2.2.2.2.2.2.2.2.2.2.2.2.2.1,()) h1) fun (x4:Bool) h5=>(bif x4 then some (true,h5)else(iA (.val zX2) (h5.cell ((h.next,0).1,(h.next,0).2+8)) fun (x6:Bool)=>let x7:=!x6;some (x7,h5)))))else(iA (.val zX2) (h1.cell ((h.next,0).1,(h.next,0).2+8)) fun (x8:Bool)=>let x9:=!x8;some (x9,h1))))
def iBb:Ann:=.n
theorem vB3 (N:Nat):cD Tryz.prog 197 [zA] (.val zX2) (fun x h=>f197 N x.1 h):=pD (dA (dAt N) lA) N iBb Tryz.f197
def f201 (N:Nat) (a0 a1:zL) (h:Heap):Option (zL×Heap):=let h1:=h.push (.row (yRA a0) .own);let h2:=h1.push (.row (yRA a1) .own);let h3:=h2.push (.row yZA .own);(iA (.val zX2) (h3.cell ((h.next,0).1,(h.next,0).2+8)) fun (x4:Bool)=>let x5:=!x4;(bif x5 then(iA (.val zA) (h3.cells (h1.next,0) 32) fun (x6:zL)=>(uA (h3.store (h2.next,0) (yRA x6)) fun h7=>(iA (.val zA) (h7.cells (h2.next,0) 32) fun (x8:zL)=>some ((x8.1,x8.2.1,x8.2.2.1,x8.2.2.2.1,x8.2.2.2.2.1,x8.2.2.2.2.2.1,x8.2.2.2.2.2.2.1,x8.2.2.2.2.2.2.2.1,x8.2.2.2.2.2.2.2.2.1,x8.2.2.2.2.2.2.2.2.2.1,x8.2.2.2.2.2.2.2.2.2.2.1,x8.2.2.2.2.2.2.2.2.2.2.2.1,x8.2.2.2.2.2.2.2.2.2.2.2.2.1,x8.2.2.2.2.2.2.2.2.2.2.2.2.2.1,x8.2.2.2.2.2.2.2.2.2.2.2.2.2.2.1,x8.2.2.2.2.2.2.2.2.2.2.2.2.2.2.2.1,x8.2.2.2.2.2.2.2.2.2.2.2.2.2.2.2.2.1,x8.2.2.2.2.2.2.2.2.2.2.2.2.2.2.2.2.2.1,x8.2.2.2.2.2.2.2.2.2.2.2.2.2.2.2.2.2.2.1,x8.2.2.2.2.2.2.2.2.2.2.2.2.2.2.2.2.2.2.2.1,x8.2.2.2.2.2.2.2.2.2.2.2.2.2.2.2.2.2.2.2.2.1,x8.2.2.2.2.2.2.2.2.2.2.2.2.2.2.2.2.2.2.2.2.2.1,x8.2.2.2.2.2.2.2.2.2.2.2.2.2.2.2.2.2.2.2.2.2.2.1,x8.2.2.2.2.2.2.2.2.2.2.2.2.2.2.2.2.2.2.2.2.2.2.2.1,x8.2.2.2.2.2.2.2.2.2.2.2.2.2.2.2.2.2.2.2.2.2.2.2.2.1,x8.2.2.2.2.2.2.2.2.2.2.2.2.2.2.2.2.2.2.2.2.2.2.2.2.2.1,x8.2.2.2.2.2.2.2.2.2.2.2.2.2.2.2.2.2.2.2.2.2.2.2.2.2.2.1,x8.2.2.2.2.2.2.2.2.2.2.2.2.2.2.2.2.2.2.2.2.2.2.2.2.2.2.2.1,x8.2.2.2.2.2.2.2.2.2.2.2.2.2.2.2.2.2.2.2.2.2.2.2.2.2.2.2.2.1,x8.2.2.2.2.2.2.2.2.2.2.2.2.2.2.2.2.2.2.2.2.2.2.2.2.2.2.2.2.2.1,x8.2.2.2.2.2.2.2.2.2.2.2.2.2.2.2.2.2.2.2.2.2.2.2.2.2.2.2.2.2.2.1,x8.2.2.2.2.2.2.2.2.2.2.2.2.2.2.2.2.2.2.2.2.2.2.2.2.2.2.2.2.2.2.2.1,()),h7))))
 else(kA (α:=zM) ((iA (.val zY2) (h3.cell ((h.next,0).1,(h.next,0).2+0)) fun (x9:Int)=>(kA (α:=zC2) ( let x10:=pA x9 1;(bif x10 then some (((some (h1.next,0)),(some (h2.next,0)),x9,x10,()),h3)else let x11:=pA x9 10;some (((some (h1.next,0)),(some (h2.next,0)),x9,x11,()),h3))) fun (j12:zC2) h13=>(bif j12.2.2.2.1 then(uA j12.1 fun q14=>(uA (h13.store (q14.1,q14.2+8) [(.bool false)]) fun h15=>(uA j12.1 fun q16=>(uA (h15.store (q16.1,q16.2+11) yZB) fun h17=>some ((j12.1,j12.2.1,()),h17)))))else let x18:=pA j12.2.2.1 4;(bif x18 then(uA j12.1 fun q19=>(uA (h13.store (q19.1,q19.2+8) [(.bool false)]) fun h20=>(uA j12.1 fun q21=>(uA (h20.store (q21.1,q21.2+31) yZK) fun h22=>some ((j12.1,j12.2.1,()),h22)))))else some ((j12.1,j12.2.1,()),h13)))))) fun (j23:zM) h24=>(uA j23.1 fun q25=>(iA (.val zA) (h24.cells q25 32) fun (x26:zL)=>(uA j23.2.1 fun q28=>(uA (h24.store q28 (yRA x26)) fun h27=>(uA j23.2.1 fun q29=>(iA (.val zA) (h27.cells q29 32) fun (x30:zL)=>some ((x30.1,x30.2.1,x30.2.2.1,x30.2.2.2.1,x30.2.2.2.2.1,x30.2.2.2.2.2.1,x30.2.2.2.2.2.2.1,x30.2.2.2.2.2.2.2.1,x30.2.2.2.2.2.2.2.2.1,x30.2.2.2.2.2.2.2.2.2.1,x30.2.2.2.2.2.2.2.2.2.2.1,x30.2.2.2.2.2.2.2.2.2.2.2.1,x30.2.2.2.2.2.2.2.2.2.2.2.2.1,x30.2.2.2.2.2.2.2.2.2.2.2.2.2.1,x30.2.2.2.2.2.2.2.2.2.2.2.2.2.2.1,x30.2.2.2.2.2.2.2.2.2.2.2.2.2.2.2.1,x30.2.2.2.2.2.2.2.2.2.2.2.2.2.2.2.2.1,x30.2.2.2.2.2.2.2.2.2.2.2.2.2.2.2.2.2.1,x30.2.2.2.2.2.2.2.2.2.2.2.2.2.2.2.2.2.2.1,x30.2.2.2.2.2.2.2.2.2.2.2.2.2.2.2.2.2.2.2.1,x30.2.2.2.2.2.2.2.2.2.2.2.2.2.2.2.2.2.2.2.2.1,x30.2.2.2.2.2.2.2.2.2.2.2.2.2.2.2.2.2.2.2.2.2.1,x30.2.2.2.2.2.2.2.2.2.2.2.2.2.2.2.2.2.2.2.2.2.2.1,x30.2.2.2.2.2.2.2.2.2.2.2.2.2.2.2.2.2.2.2.2.2.2.2.1,x30.2.2.2.2.2.2.2.2.2.2.2.2.2.2.2.2.2.2.2.2.2.2.2.2.1,x30.2.2.2.2.2.2.2.2.2.2.2.2.2.2.2.2.2.2.2.2.2.2.2.2.2.1,x30.2.2.2.2.2.2.2.2.2.2.2.2.2.2.2.2.2.2.2.2.2.2.2.2.2.2.1,x30.2.2.2.2.2.2.2.2.2.2.2.2.2.2.2.2.2.2.2.2.2.2.2.2.2.2.2.1,x30.2.2.2.2.2.2.2.2.2.2.2.2.2.2.2.2.2.2.2.2.2.2.2.2.2.2.2.2.1,x30.2.2.2.2.2.2.2.2.2.2.2.2.2.2.2.2.2.2.2.2.2.2.2.2.2.2.2.2.2.1,x30.2.2.2.2.2.2.2.2.2.2.2.2.2.2.2.2.2.2.2.2.2.2.2.2.2.2.2.2.2.2.1,x30.2.2.2.2.2.2.2.2.2.2.2.2.2.2.2.2.2.2.2.2.2.2.2.2.2.2.2.2.2.2.2.1,()),h27))))))))))
def jBb:Ann:=(.two .n (.two .n (.two (.join [(3,zU2),(4,zU2)] (.two .n (.two (.two (.join [(3,zU2),(4,zU2),(10,zY2),(11,zX2)] .n) .n) .n))) .n)))
theorem wB3 (N:Nat):cD Tryz.prog 201 [zA,zA] (.val zA) (fun x h=>f201 N x.1 x.2.1 h):=pD lA N jBb Tryz.f201
def uA1 (N:Nat) (rec125:SL→Int→Heap→Option (Bool×Heap)) (rec174:zL→Int→Heap→Option (Bool×Heap)) (go:Int→Bool→SL→Int→Int→Heap→Option (Out×zA1×Heap)) (v1:Int) (v4:Bool) (v9:SL) (v10 v11:Int) (h:Heap):Option (Out×zA1×Heap):=let x2:=uB v11 v10;(bif x2 then(ixK v9.a v9.len v11 32 fun q3=>(iA (.val zA) (h.cells q3 32) fun (x4:zL)=>let h5:=h.push (.row yZA .own);(uA (h5.store (h.next,0) (yRA x4)) fun h6=>(iA (.val zA) (h6.cells (h.next,0) 32) fun (x7:zL)=>(kA (rec174 (x7.1,x7.2.1,x7.2.2.1,x7.2.2.2.1,x7.2.2.2.2.1,x7.2.2.2.2.2.1,x7.2.2.2.2.2.2.1,x7.2.2.2.2.2.2.2.1,x7.2.2.2.2.2.2.2.2.1,x7.2.2.2.2.2.2.2.2.2.1,x7.2.2.2.2.2.2.2.2.2.2.1,x7.2.2.2.2.2.2.2.2.2.2.2.1,x7.2.2.2.2.2.2.2.2.2.2.2.2.1,x7.2.2.2.2.2.2.2.2.2.2.2.2.2.1,x7.2.2.2.2.2.2.2.2.2.2.2.2.2.2.1,x7.2.2.2.2.2.2.2.2.2.2.2.2.2.2.2.1,x7.2.2.2.2.2.2.2.2.2.2.2.2.2.2.2.2.1,x7.2.2.2.2.2.2.2.2.2.2.2.2.2.2.2.2.2.1,x7.2.2.2.2.2.2.2.2.2.2.2.2.2.2.2.2.2.2.1,x7.2.2.2.2.2.2.2.2.2.2.2.2.2.2.2.2.2.2.2.1,x7.2.2.2.2.2.2.2.2.2.2.2.2.2.2.2.2.2.2.2.2.1,x7.2.2.2.2.2.2.2.2.2.2.2.2.2.2.2.2.2.2.2.2.2.1,x7.2.2.2.2.2.2.2.2.2.2.2.2.2.2.2.2.2.2.2.2.2.2.1,x7.2.2.2.2.2.2.2.2.2.2.2.2.2.2.2.2.2.2.2.2.2.2.2.1,x7.2.2.2.2.2.2.2.2.2.2.2.2.2.2.2.2.2.2.2.2.2.2.2.2.1,x7.2.2.2.2.2.2.2.2.2.2.2.2.2.2.2.2.2.2.2.2.2.2.2.2.2.1,x7.2.2.2.2.2.2.2.2.2.2.2.2.2.2.2.2.2.2.2.2.2.2.2.2.2.2.1,x7.2.2.2.2.2.2.2.2.2.2.2.2.2.2.2.2.2.2.2.2.2.2.2.2.2.2.2.1,x7.2.2.2.2.2.2.2.2.2.2.2.2.2.2.2.2.2.2.2.2.2.2.2.2.2.2.2.2.1,x7.2.2.2.2.2.2.2.2.2.2.2.2.2.2.2.2.2.2.2.2.2.2.2.2.2.2.2.2.2.1,x7.2.2.2.2.2.2.2.2.2.2.2.2.2.2.2.2.2.2.2.2.2.2.2.2.2.2.2.2.2.2.1,x7.2.2.2.2.2.2.2.2.2.2.2.2.2.2.2.2.2.2.2.2.2.2.2.2.2.2.2.2.2.2.2.1,()) v1 h6) fun (x8:Bool) h9=>
 let x10:=!x8;(bif x10 then some (Out.ret,(false,()),h9)else let x11:=bB .i64 (v11+1);go v1 v4 v9 v10 x11 h9))))))else some ((Out.exit 0),(v4,()),h))
def vA7 (N:Nat) (rec125:SL→Int→Heap→Option (Bool×Heap)) (rec174:zL→Int→Heap→Option (Bool×Heap)) (M:Nat) (v1:Int) (v4:Bool) (v9:SL) (v10 v11:Int) (h:Heap):Option (Out×zA1×Heap):=iter (fun go s h=>uA1 N rec125 rec174 (fun v1 v4 v9 v10 v11 h=>go (v1,v4,v9,v10,v11,()) h) s.1 s.2.1 s.2.2.1 s.2.2.2.1 s.2.2.2.2.1 h) M (v1,v4,v9,v10,v11,()) h
theorem wAb (N rec125 rec174 M v1 v4 v9 v10 v11 h):vA7 N rec125 rec174 (M+1) v1 v4 v9 v10 v11 h=uA1 N rec125 rec174 (vA7 N rec125 rec174 M) v1 v4 v9 v10 v11 h:=rfl
def eAt (N:Nat) (rec125:SL→Int→Heap→Option (Bool×Heap)) (rec174:zL→Int→Heap→Option (Bool×Heap)) (a0:SL) (a1:Int) (h:Heap):Option (Bool×Heap):=let x1:=uB 64 a1;(bif x1 then some (false,h)else(eE (vA7 N rec125 rec174 N a1 false a0 (Int.ofNat a0.len) 0 h) fun o12 (j13:zA1) h14=>(bif mD o12 (.exit 0) then some (true,h14)else some (j13.1,h14))))
def kBb:Ann:=(.two .n (.two .n (.two (.two .n (.two (.loop [(1,zY2),(4,zX2),(9,zV2),(10,zY2),(11,zY2)] [(.exit 0),.ret] [(4,zX2)] .n) .n)) .n)))
def iAj (N:Nat) (rec125:SL→Int→Heap→Option (Bool×Heap)) (rec174:zL→Int→Heap→Option (Bool×Heap)) (a0:zL) (a1:Int) (h:Heap):Option (Bool×Heap):=let h1:=h.push (.row (yRA a0) .own);(iA (.val zA) (h1.cells (h.next,0) 32) fun (x2:zL)=>let h3:=h1.push (.row yZA .own);(uA (h3.store (h1.next,0) (yRA x2)) fun h4=>(uA (α:=Sum (zN×Heap) (Sum (zA1×Heap) (Empty))) ((iA (.val zY2) (h4.cell ((h.next,0).1,(h.next,0).2+0)) fun (x5:Int)=>(uA (α:=Sum (zM×Heap) (Sum (zN×Heap) (Sum ((Unit)×Heap) (Sum (zN×Heap) (Empty))))) ((uA (α:=Sum (zM×Heap) (Sum (zN×Heap) (Sum ((Unit)×Heap) (Sum (zM×Heap) (Sum (zN×Heap) (Empty)))))) ((uA (α:=Sum (zC1×Heap) (Sum (zN×Heap) (Sum ((Unit)×Heap) (Sum (zM×Heap) (Sum (zM×Heap) (Sum (zN×Heap) (Empty))))))) ((uA (α:=Sum (zC1×Heap) (Sum (zN×Heap) (Sum ((Unit)×Heap) (Sum (zC1×Heap) (Sum (zM×Heap) (Sum (zM×Heap) (Sum (zN×Heap) (Empty)))))))) ( let x6:=pA x5 1;(bif x6 then(kA (α:=zN) ((iA (.val zW2) (h4.cell ((h.next,0).1,(h.next,0).2+3)) fun (x7:zA3)=>(kA (f119 N x7 h4) fun (x8:Bool) h9=>(bif x8 then(iA (.val zC) (h9.cells ((h.next,0).1,(h.next,0).2+4) 4) fun (x10:zP)=>(kA (f124 N N (x10.1,x10.2.1,x10.2.2.1,x10.2.2.2.1,()) 1 h9) fun (x11:Bool) h12=>(bif x11 then(iA (.val zA) (h12.cells (h.next,0) 32) fun (x13:zL)=>(kA (f197 N (x13.1,x13.2.1,x13.2.2.1,x13.2.2.2.1,x13.2.2.2.2.1,x13.2.2.2.2.2.1,x13.2.2.2.2.2.2.1,x13.2.2.2.2.2.2.2.1,x13.2.2.2.2.2.2.2.2.1,x13.2.2.2.2.2.2.2.2.2.1,x13.2.2.2.2.2.2.2.2.2.2.1,x13.2.2.2.2.2.2.2.2.2.2.2.1,x13.2.2.2.2.2.2.2.2.2.2.2.2.1,x13.2.2.2.2.2.2.2.2.2.2.2.2.2.1,x13.2.2.2.2.2.2.2.2.2.2.2.2.2.2.1,x13.2.2.2.2.2.2.2.2.2.2.2.2.2.2.2.1,x13.2.2.2.2.2.2.2.2.2.2.2.2.2.2.2.2.1,x13.2.2.2.2.2.2.2.2.2.2.2.2.2.2.2.2.2.1,x13.2.2.2.2.2.2.2.2.2.2.2.2.2.2.2.2.2.2.1,x13.2.2.2.2.2.2.2.2.2.2.2.2.2.2.2.2.2.2.2.1,x13.2.2.2.2.2.2.2.2.2.2.2.2.2.2.2.2.2.2.2.2.1,x13.2.2.2.2.2.2.2.2.2.2.2.2.2.2.2.2.2.2.2.2.2.1,x13.2.2.2.2.2.2.2.2.2.2.2.2.2.2.2.2.2.2.2.2.2.2.1,x13.2.2.2.2.2.2.2.2.2.2.2.2.2.2.2.2.2.2.2.2.2.2.2.1,x13.2.2.2.2.2.2.2.2.2.2.2.2.2.2.2.2.2.2.2.2.2.2.2.2.1,x13.2.2.2.2.2.2.2.2.2.2.2.2.2.2.2.2.2.2.2.2.2.2.2.2.2.1,x13.2.2.2.2.2.2.2.2.2.2.2.2.2.2.2.2.2.2.2.2.2.2.2.2.2.2.1,x13.2.2.2.2.2.2.2.2.2.2.2.2.2.2.2.2.2.2.2.2.2.2.2.2.2.2.2.1,x13.2.2.2.2.2.2.2.2.2.2.2.2.2.2.2.2.2.2.2.2.2.2.2.2.2.2.2.2.1,x13.2.2.2.2.2.2.2.2.2.2.2.2.2.2.2.2.2.2.2.2.2.2.2.2.2.2.2.2.2.1,x13.2.2.2.2.2.2.2.2.2.2.2.2.2.2.2.2.2.2.2.2.2.2.2.2.2.2.2.2.2.2.1,x13.2.2.2.2.2.2.2.2.2.2.2.2.2.2.2.2.2.2.2.2.2.2.2.2.2.2.2.2.2.2.2.1,()) h12) fun (x14:Bool) h15=>
 some (((some (h.next,0)),x14,(some (h1.next,0)),()),h15)))else some (((some (h.next,0)),false,(some (h1.next,0)),()),h12))))else some (((some (h.next,0)),false,(some (h1.next,0)),()),h9))))) fun (j16:zN) h17=>(uA j16.2.2.1 fun q18=>(uA (h17.store (q18.1,q18.2+2) [(.bool false)]) fun h19=>(uA j16.2.2.1 fun q20=>(uA (h19.store (q20.1,q20.2+3) [(.str [])]) fun h21=>(uA j16.2.2.1 fun q22=>(uA (h21.store (q22.1,q22.2+4) yZC) fun h23=>some (Sum.inr (Sum.inl ((j16.1,j16.2.1,j16.2.2.1,()),h23))))))))))else let x24:=pA x5 2;(bif x24 then(kA (α:=zN) ((iA (.val zI) (h4.cells ((h.next,0).1,(h.next,0).2+9) 2) fun (x25:zY)=>(kA (f198 N (x25.1,x25.2.1,()) h4) fun (x26:Bool) h27=>(bif x26 then(iA (.val zB) (h27.cells ((h.next,0).1,(h.next,0).2+11) 15) fun (x28:zO)=>(kA (f199 N (x28.1,x28.2.1,x28.2.2.1,x28.2.2.2.1,x28.2.2.2.2.1,x28.2.2.2.2.2.1,x28.2.2.2.2.2.2.1,x28.2.2.2.2.2.2.2.1,x28.2.2.2.2.2.2.2.2.1,x28.2.2.2.2.2.2.2.2.2.1,x28.2.2.2.2.2.2.2.2.2.2.1,x28.2.2.2.2.2.2.2.2.2.2.2.1,x28.2.2.2.2.2.2.2.2.2.2.2.2.1,x28.2.2.2.2.2.2.2.2.2.2.2.2.2.1,x28.2.2.2.2.2.2.2.2.2.2.2.2.2.2.1,()) h27) fun (x29:Bool) h30=>some (((some (h.next,0)),x29,(some (h1.next,0)),()),h30)))else some (((some (h.next,0)),false,(some (h1.next,0)),()),h27))))) fun (j31:zN) h32=>(uA j31.2.2.1 fun q33=>(uA (h32.store (q33.1,q33.2+9) yZJ) fun h34=>(uA j31.2.2.1 fun q35=>(uA (h34.store (q35.1,q35.2+11) yZB) fun h36=>some (Sum.inr (Sum.inl ((j31.1,j31.2.1,j31.2.2.1,()),h36))))))))else let x37:=pA x5 3
 (bif x37 then(kA (α:=zN) ((iA (.val zY2) (h4.cell (((h.next,0).1,(h.next,0).2+11).1,((h.next,0).1,(h.next,0).2+11).2+0)) fun (x38:Int)=>let x39:=pA x38 6;(bif x39 then(iA (.val zB) (h4.cells ((h.next,0).1,(h.next,0).2+11) 15) fun (x40:zO)=>(kA (f199 N (x40.1,x40.2.1,x40.2.2.1,x40.2.2.2.1,x40.2.2.2.2.1,x40.2.2.2.2.2.1,x40.2.2.2.2.2.2.1,x40.2.2.2.2.2.2.2.1,x40.2.2.2.2.2.2.2.2.1,x40.2.2.2.2.2.2.2.2.2.1,x40.2.2.2.2.2.2.2.2.2.2.1,x40.2.2.2.2.2.2.2.2.2.2.2.1,x40.2.2.2.2.2.2.2.2.2.2.2.2.1,x40.2.2.2.2.2.2.2.2.2.2.2.2.2.1,x40.2.2.2.2.2.2.2.2.2.2.2.2.2.2.1,()) h4) fun (x41:Bool) h42=>some (((some (h.next,0)),x41,(some (h1.next,0)),()),h42)))else some (((some (h.next,0)),false,(some (h1.next,0)),()),h4)))) fun (j43:zN) h44=>(uA j43.2.2.1 fun q45=>(uA (h44.store (q45.1,q45.2+11) yZB) fun h46=>some (Sum.inr (Sum.inl ((j43.1,j43.2.1,j43.2.2.1,()),h46))))))else let x47:=pA x5 4;(bif x47 then(iA (.val zX2) (h4.cell ((h.next,0).1,(h.next,0).2+8)) fun (x48:Bool)=>let x49:=!x48;(bif x49 then some (Sum.inl ((a1,(some (h.next,0)),true,(some (h1.next,0)),()),h4))else(iA (.val zV2) (h4.cell ((h.next,0).1,(h.next,0).2+31)) fun (x50:SL)=>let x51:=bB .i64 (a1+1);(kA (rec125 x50 x51 h4) fun (x52:Bool) h53=>some (Sum.inl ((a1,(some (h.next,0)),x52,(some (h1.next,0)),()),h53))))))else let x54:=pA x5 5;(bif x54 then some (Sum.inl ((a1,(some (h.next,0)),true,(some (h1.next,0)),()),h4))else(uA (α:=Sum (zN1×Heap) (Sum (zC1×Heap) (Empty))) ( let x55:=pA x5 6;(bif x55 then
 (bif x55 then some (Sum.inr (Sum.inl ((a1,(some (h.next,0)),true,(some (h1.next,0)),()),h4)))else some (Sum.inl (((some (h.next,0)),true,(some (h1.next,0)),x5,()),h4)))else let x56:=pA x5 7;(bif x56 then some (Sum.inr (Sum.inl ((a1,(some (h.next,0)),true,(some (h1.next,0)),()),h4)))else some (Sum.inl (((some (h.next,0)),true,(some (h1.next,0)),x5,()),h4))))) fun j57=>(dC j57 (fun (j58:zN1) h59=>let x61:=pA j58.2.2.2.1 10;(bif x61 then some (Sum.inr (Sum.inr (Sum.inr (Sum.inr (Sum.inl ((j58.1,j58.2.2.1,()),h59))))))else let x62:=pA j58.2.2.2.1 11;(bif x62 then some (Sum.inr (Sum.inr (Sum.inr (Sum.inr (Sum.inr (Sum.inl ((j58.1,j58.2.2.1,()),h59)))))))else let x63:=pA j58.2.2.2.1 8;(bif x63 then(bif x63 then some (Sum.inr (Sum.inr (Sum.inr (Sum.inr (Sum.inr (Sum.inr (Sum.inl ((j58.1,j58.2.1,j58.2.2.1,()),h59))))))))else some (Sum.inr (Sum.inr (Sum.inl ((()),h59)))))else let x64:=pA j58.2.2.2.1 9;(bif x64 then some (Sum.inr (Sum.inr (Sum.inr (Sum.inr (Sum.inr (Sum.inr (Sum.inl ((j58.1,j58.2.1,j58.2.2.1,()),h59))))))))else some (Sum.inr (Sum.inr (Sum.inl ((()),h59))))))))) fun j60=>(dC j60 (fun (j65:zC1) h66=>some (Sum.inr (Sum.inr (Sum.inr (Sum.inl ((j65.1,j65.2.1,j65.2.2.1,j65.2.2.2.1,()),h66)))))) fun _=>none))))))))) fun j68=>(dC j68 (fun (j69:zC1) h70=>(kA (α:=zC1) ((bif j69.2.2.1 then(uA j69.2.1 fun q72=>(iA (.val zE) (h70.cells (q72.1,q72.2+26) 4) fun (x73:zT)=>(kA (f200 N (x73.1,x73.2.1,x73.2.2.1,x73.2.2.2.1,()) h70) fun (x74:Bool) h75=>some ((j69.1,j69.2.1,x74,j69.2.2.2.1,()),h75))))
 else some ((j69.1,j69.2.1,false,j69.2.2.2.1,()),h70))) fun (j76:zC1) h77=>(uA j76.2.2.2.1 fun q78=>(uA (h77.store (q78.1,q78.2+26) yZH) fun h79=>some (Sum.inl ((j76.1,j76.2.1,j76.2.2.1,j76.2.2.2.1,()),h79)))))) fun j71=>(dC j71 (fun (j80:zN) h81=>some (Sum.inr (Sum.inl ((j80.1,j80.2.1,j80.2.2.1,()),h81)))) fun j82=>(dC j82 (fun (j83:(Unit)) h84=>some (Sum.inr (Sum.inr (Sum.inl ((()),h84))))) fun j85=>(dC j85 (fun (j86:zC1) h87=>some (Sum.inl ((j86.1,j86.2.1,j86.2.2.1,j86.2.2.2.1,()),h87))) fun j88=>(dC j88 (fun (j89:zM) h90=>some (Sum.inr (Sum.inr (Sum.inr (Sum.inl ((j89.1,j89.2.1,()),h90)))))) fun j91=>(dC j91 (fun (j92:zM) h93=>some (Sum.inr (Sum.inr (Sum.inr (Sum.inr (Sum.inl ((j92.1,j92.2.1,()),h93))))))) fun j94=>(dC j94 (fun (j95:zN) h96=>some (Sum.inr (Sum.inr (Sum.inr (Sum.inr (Sum.inr (Sum.inl ((j95.1,j95.2.1,j95.2.2.1,()),h96)))))))) fun _=>none))))))))) fun j98=>(dC j98 (fun (j99:zC1) h100=>(kA (α:=zN) ((bif j99.2.2.1 then(uA j99.2.1 fun q102=>(iA (.val zV2) (h100.cell (q102.1,q102.2+30)) fun (x103:SL)=>let x104:=bB .i64 (j99.1+1);(kA (rec125 x103 x104 h100) fun (x105:Bool) h106=>some ((j99.2.1,x105,j99.2.2.2.1,()),h106))))else some ((j99.2.1,false,j99.2.2.2.1,()),h100))) fun (j107:zN) h108=>(uA j107.2.2.1 fun q109=>(uA (h108.store (q109.1,q109.2+30) yZK) fun h110=>some (Sum.inr (Sum.inl ((j107.1,j107.2.1,j107.2.2.1,()),h110))))))) fun j101=>(dC j101 (fun (j111:zN) h112=>some (Sum.inr (Sum.inl ((j111.1,j111.2.1,j111.2.2.1,()),h112)))) fun j113=>
 (dC j113 (fun (j114:(Unit)) h115=>some (Sum.inr (Sum.inr (Sum.inl ((()),h115))))) fun j116=>(dC j116 (fun (j117:zM) h118=>some (Sum.inl ((j117.1,j117.2.1,()),h118))) fun j119=>(dC j119 (fun (j120:zM) h121=>some (Sum.inr (Sum.inr (Sum.inr (Sum.inl ((j120.1,j120.2.1,()),h121)))))) fun j122=>(dC j122 (fun (j123:zN) h124=>some (Sum.inr (Sum.inr (Sum.inr (Sum.inr (Sum.inl ((j123.1,j123.2.1,j123.2.2.1,()),h124))))))) fun _=>none)))))))) fun j126=>(dC j126 (fun (j127:zM) h128=>(uA j127.1 fun q130=>(iA (.val zA) (h128.cells q130 32) fun (x131:zL)=>(kA (f197 N (x131.1,x131.2.1,x131.2.2.1,x131.2.2.2.1,x131.2.2.2.2.1,x131.2.2.2.2.2.1,x131.2.2.2.2.2.2.1,x131.2.2.2.2.2.2.2.1,x131.2.2.2.2.2.2.2.2.1,x131.2.2.2.2.2.2.2.2.2.1,x131.2.2.2.2.2.2.2.2.2.2.1,x131.2.2.2.2.2.2.2.2.2.2.2.1,x131.2.2.2.2.2.2.2.2.2.2.2.2.1,x131.2.2.2.2.2.2.2.2.2.2.2.2.2.1,x131.2.2.2.2.2.2.2.2.2.2.2.2.2.2.1,x131.2.2.2.2.2.2.2.2.2.2.2.2.2.2.2.1,x131.2.2.2.2.2.2.2.2.2.2.2.2.2.2.2.2.1,x131.2.2.2.2.2.2.2.2.2.2.2.2.2.2.2.2.2.1,x131.2.2.2.2.2.2.2.2.2.2.2.2.2.2.2.2.2.2.1,x131.2.2.2.2.2.2.2.2.2.2.2.2.2.2.2.2.2.2.2.1,x131.2.2.2.2.2.2.2.2.2.2.2.2.2.2.2.2.2.2.2.2.1,x131.2.2.2.2.2.2.2.2.2.2.2.2.2.2.2.2.2.2.2.2.2.1,x131.2.2.2.2.2.2.2.2.2.2.2.2.2.2.2.2.2.2.2.2.2.2.1,x131.2.2.2.2.2.2.2.2.2.2.2.2.2.2.2.2.2.2.2.2.2.2.2.1,x131.2.2.2.2.2.2.2.2.2.2.2.2.2.2.2.2.2.2.2.2.2.2.2.2.1,x131.2.2.2.2.2.2.2.2.2.2.2.2.2.2.2.2.2.2.2.2.2.2.2.2.2.1,x131.2.2.2.2.2.2.2.2.2.2.2.2.2.2.2.2.2.2.2.2.2.2.2.2.2.2.1,x131.2.2.2.2.2.2.2.2.2.2.2.2.2.2.2.2.2.2.2.2.2.2.2.2.2.2.2.1,x131.2.2.2.2.2.2.2.2.2.2.2.2.2.2.2.2.2.2.2.2.2.2.2.2.2.2.2.2.1,x131.2.2.2.2.2.2.2.2.2.2.2.2.2.2.2.2.2.2.2.2.2.2.2.2.2.2.2.2.2.1,x131.2.2.2.2.2.2.2.2.2.2.2.2.2.2.2.2.2.2.2.2.2.2.2.2.2.2.2.2.2.2.1,x131.2.2.2.2.2.2.2.2.2.2.2.2.2.2.2.2.2.2.2.2.2.2.2.2.2.2.2.2.2.2.2.1,()) h128) fun (x132:Bool) h133=>
 some (Sum.inr (Sum.inl ((j127.1,x132,j127.2.1,()),h133))))))) fun j129=>(dC j129 (fun (j134:zN) h135=>some (Sum.inr (Sum.inl ((j134.1,j134.2.1,j134.2.2.1,()),h135)))) fun j136=>(dC j136 (fun (j137:(Unit)) h138=>some (Sum.inr (Sum.inr (Sum.inl ((()),h138))))) fun j139=>(dC j139 (fun (j140:zM) h141=>some (Sum.inl ((j140.1,j140.2.1,()),h141))) fun j142=>(dC j142 (fun (j143:zN) h144=>some (Sum.inr (Sum.inr (Sum.inr (Sum.inl ((j143.1,j143.2.1,j143.2.2.1,()),h144)))))) fun _=>none))))))) fun j146=>(dC j146 (fun (j147:zM) h148=>(uA j147.1 fun q150=>(iA (.val zI) (h148.cells (q150.1,q150.2+9) 2) fun (x151:zY)=>(kA (f198 N (x151.1,x151.2.1,()) h148) fun (x152:Bool) h153=>(uA j147.2.1 fun q154=>(uA (h153.store (q154.1,q154.2+9) yZJ) fun h155=>some (Sum.inl ((j147.1,x152,j147.2.1,()),h155)))))))) fun j149=>(dC j149 (fun (j156:zN) h157=>some (Sum.inl ((j156.1,j156.2.1,j156.2.2.1,()),h157))) fun j158=>(dC j158 (fun (j159:(Unit)) h160=>some (Sum.inr (Sum.inl ((false,()),h160)))) fun j161=>(dC j161 (fun (j162:zN) h163=>some (Sum.inl ((j162.1,j162.2.1,j162.2.2.1,()),h163))) fun _=>none))))))) fun j165=>(dC j165 (fun (j166:zN) h167=>(uA j166.2.2.1 fun q169=>(uA (h167.store (q169.1,q169.2+0) yZL) fun h170=>(uA j166.2.2.1 fun q171=>(uA (h170.store (q171.1,q171.2+1) yZL) fun h172=>(bif j166.2.1 then(uA j166.1 fun q173=>(iA (.val zA) (h172.cells q173 32) fun (x174:zL)=>(uA j166.2.2.1 fun q175=>(iA (.val zA) (h172.cells q175 32) fun (x176:zL)=>
 (kA (f201 N (x174.1,x174.2.1,x174.2.2.1,x174.2.2.2.1,x174.2.2.2.2.1,x174.2.2.2.2.2.1,x174.2.2.2.2.2.2.1,x174.2.2.2.2.2.2.2.1,x174.2.2.2.2.2.2.2.2.1,x174.2.2.2.2.2.2.2.2.2.1,x174.2.2.2.2.2.2.2.2.2.2.1,x174.2.2.2.2.2.2.2.2.2.2.2.1,x174.2.2.2.2.2.2.2.2.2.2.2.2.1,x174.2.2.2.2.2.2.2.2.2.2.2.2.2.1,x174.2.2.2.2.2.2.2.2.2.2.2.2.2.2.1,x174.2.2.2.2.2.2.2.2.2.2.2.2.2.2.2.1,x174.2.2.2.2.2.2.2.2.2.2.2.2.2.2.2.2.1,x174.2.2.2.2.2.2.2.2.2.2.2.2.2.2.2.2.2.1,x174.2.2.2.2.2.2.2.2.2.2.2.2.2.2.2.2.2.2.1,x174.2.2.2.2.2.2.2.2.2.2.2.2.2.2.2.2.2.2.2.1,x174.2.2.2.2.2.2.2.2.2.2.2.2.2.2.2.2.2.2.2.2.1,x174.2.2.2.2.2.2.2.2.2.2.2.2.2.2.2.2.2.2.2.2.2.1,x174.2.2.2.2.2.2.2.2.2.2.2.2.2.2.2.2.2.2.2.2.2.2.1,x174.2.2.2.2.2.2.2.2.2.2.2.2.2.2.2.2.2.2.2.2.2.2.2.1,x174.2.2.2.2.2.2.2.2.2.2.2.2.2.2.2.2.2.2.2.2.2.2.2.2.1,x174.2.2.2.2.2.2.2.2.2.2.2.2.2.2.2.2.2.2.2.2.2.2.2.2.2.1,x174.2.2.2.2.2.2.2.2.2.2.2.2.2.2.2.2.2.2.2.2.2.2.2.2.2.2.1,x174.2.2.2.2.2.2.2.2.2.2.2.2.2.2.2.2.2.2.2.2.2.2.2.2.2.2.2.1,x174.2.2.2.2.2.2.2.2.2.2.2.2.2.2.2.2.2.2.2.2.2.2.2.2.2.2.2.2.1,x174.2.2.2.2.2.2.2.2.2.2.2.2.2.2.2.2.2.2.2.2.2.2.2.2.2.2.2.2.2.1,x174.2.2.2.2.2.2.2.2.2.2.2.2.2.2.2.2.2.2.2.2.2.2.2.2.2.2.2.2.2.2.1,x174.2.2.2.2.2.2.2.2.2.2.2.2.2.2.2.2.2.2.2.2.2.2.2.2.2.2.2.2.2.2.2.1,()) (x176.1,x176.2.1,x176.2.2.1,x176.2.2.2.1,x176.2.2.2.2.1,x176.2.2.2.2.2.1,x176.2.2.2.2.2.2.1,x176.2.2.2.2.2.2.2.1,x176.2.2.2.2.2.2.2.2.1,x176.2.2.2.2.2.2.2.2.2.1,x176.2.2.2.2.2.2.2.2.2.2.1,x176.2.2.2.2.2.2.2.2.2.2.2.1,x176.2.2.2.2.2.2.2.2.2.2.2.2.1,x176.2.2.2.2.2.2.2.2.2.2.2.2.2.1,x176.2.2.2.2.2.2.2.2.2.2.2.2.2.2.1,x176.2.2.2.2.2.2.2.2.2.2.2.2.2.2.2.1,x176.2.2.2.2.2.2.2.2.2.2.2.2.2.2.2.2.1,x176.2.2.2.2.2.2.2.2.2.2.2.2.2.2.2.2.2.1,x176.2.2.2.2.2.2.2.2.2.2.2.2.2.2.2.2.2.2.1,x176.2.2.2.2.2.2.2.2.2.2.2.2.2.2.2.2.2.2.2.1,x176.2.2.2.2.2.2.2.2.2.2.2.2.2.2.2.2.2.2.2.2.1,x176.2.2.2.2.2.2.2.2.2.2.2.2.2.2.2.2.2.2.2.2.2.1,x176.2.2.2.2.2.2.2.2.2.2.2.2.2.2.2.2.2.2.2.2.2.2.1,x176.2.2.2.2.2.2.2.2.2.2.2.2.2.2.2.2.2.2.2.2.2.2.2.1,x176.2.2.2.2.2.2.2.2.2.2.2.2.2.2.2.2.2.2.2.2.2.2.2.2.1,x176.2.2.2.2.2.2.2.2.2.2.2.2.2.2.2.2.2.2.2.2.2.2.2.2.2.1,x176.2.2.2.2.2.2.2.2.2.2.2.2.2.2.2.2.2.2.2.2.2.2.2.2.2.2.1,x176.2.2.2.2.2.2.2.2.2.2.2.2.2.2.2.2.2.2.2.2.2.2.2.2.2.2.2.1,x176.2.2.2.2.2.2.2.2.2.2.2.2.2.2.2.2.2.2.2.2.2.2.2.2.2.2.2.2.1,x176.2.2.2.2.2.2.2.2.2.2.2.2.2.2.2.2.2.2.2.2.2.2.2.2.2.2.2.2.2.1,x176.2.2.2.2.2.2.2.2.2.2.2.2.2.2.2.2.2.2.2.2.2.2.2.2.2.2.2.2.2.2.1,x176.2.2.2.2.2.2.2.2.2.2.2.2.2.2.2.2.2.2.2.2.2.2.2.2.2.2.2.2.2.2.2.1,()) h172) fun (x177:zL) h178=>
 (kA (f114 N N (x177.1,x177.2.1,x177.2.2.1,x177.2.2.2.1,x177.2.2.2.2.1,x177.2.2.2.2.2.1,x177.2.2.2.2.2.2.1,x177.2.2.2.2.2.2.2.1,x177.2.2.2.2.2.2.2.2.1,x177.2.2.2.2.2.2.2.2.2.1,x177.2.2.2.2.2.2.2.2.2.2.1,x177.2.2.2.2.2.2.2.2.2.2.2.1,x177.2.2.2.2.2.2.2.2.2.2.2.2.1,x177.2.2.2.2.2.2.2.2.2.2.2.2.2.1,x177.2.2.2.2.2.2.2.2.2.2.2.2.2.2.1,x177.2.2.2.2.2.2.2.2.2.2.2.2.2.2.2.1,x177.2.2.2.2.2.2.2.2.2.2.2.2.2.2.2.2.1,x177.2.2.2.2.2.2.2.2.2.2.2.2.2.2.2.2.2.1,x177.2.2.2.2.2.2.2.2.2.2.2.2.2.2.2.2.2.2.1,x177.2.2.2.2.2.2.2.2.2.2.2.2.2.2.2.2.2.2.2.1,x177.2.2.2.2.2.2.2.2.2.2.2.2.2.2.2.2.2.2.2.2.1,x177.2.2.2.2.2.2.2.2.2.2.2.2.2.2.2.2.2.2.2.2.2.1,x177.2.2.2.2.2.2.2.2.2.2.2.2.2.2.2.2.2.2.2.2.2.2.1,x177.2.2.2.2.2.2.2.2.2.2.2.2.2.2.2.2.2.2.2.2.2.2.2.1,x177.2.2.2.2.2.2.2.2.2.2.2.2.2.2.2.2.2.2.2.2.2.2.2.2.1,x177.2.2.2.2.2.2.2.2.2.2.2.2.2.2.2.2.2.2.2.2.2.2.2.2.2.1,x177.2.2.2.2.2.2.2.2.2.2.2.2.2.2.2.2.2.2.2.2.2.2.2.2.2.2.1,x177.2.2.2.2.2.2.2.2.2.2.2.2.2.2.2.2.2.2.2.2.2.2.2.2.2.2.2.1,x177.2.2.2.2.2.2.2.2.2.2.2.2.2.2.2.2.2.2.2.2.2.2.2.2.2.2.2.2.1,x177.2.2.2.2.2.2.2.2.2.2.2.2.2.2.2.2.2.2.2.2.2.2.2.2.2.2.2.2.2.1,x177.2.2.2.2.2.2.2.2.2.2.2.2.2.2.2.2.2.2.2.2.2.2.2.2.2.2.2.2.2.2.1,x177.2.2.2.2.2.2.2.2.2.2.2.2.2.2.2.2.2.2.2.2.2.2.2.2.2.2.2.2.2.2.2.1,()) (0,0,false,[],0,[],⟨none,0,0,0⟩,⟨none,0,0,0⟩,false,[],⟨none,0,0,0⟩,0,0,0,[],⟨none,0,0,0⟩,0,0,[],⟨none,0,0,0⟩,0,[],⟨none,0,0,0⟩,[],⟨none,0,0,0⟩,⟨none,0,0,0⟩,0,0,[],⟨none,0,0,0⟩,⟨none,0,0,0⟩,⟨none,0,0,0⟩,()) h178) fun (x179:Bool) h180=>some (x179,h180)))))))else some (false,h172))))))) fun j168=>
 (dC j168 (fun (j181:zA1) h182=>some (j181.1,h182)) fun _=>none)))))
def lBb:Ann:=(.two .n (.two .n (.two .n (.two (.joinO [(.norm,[(2,zU2),(5,zX2),(6,zU2)]),(.ret,[(4,zX2)])] (.two .n (.two (.two (.two (.two (.two (.two (.joinO [(.norm,[(2,zU2),(6,zU2)]),((.exit 0),[(2,zU2),(5,zX2),(6,zU2)]),((.exit 10),[]),((.exit 9),[(2,zU2),(5,zX2),(6,zU2)])] (.two (.two (.joinO [(.norm,[(2,zU2),(6,zU2)]),((.exit 0),[(2,zU2),(5,zX2),(6,zU2)]),((.exit 10),[]),((.exit 8),[(2,zU2),(6,zU2)]),((.exit 9),[(2,zU2),(5,zX2),(6,zU2)])] (.two (.two (.joinO [(.norm,[(1,zY2),(2,zU2),(5,zX2),(6,zU2)]),((.exit 0),[(2,zU2),(5,zX2),(6,zU2)]),((.exit 10),[]),((.exit 7),[(2,zU2),(6,zU2)]),((.exit 8),[(2,zU2),(6,zU2)]),((.exit 9),[(2,zU2),(5,zX2),(6,zU2)])] (.two (.two (.joinO [(.norm,[(1,zY2),(2,zU2),(5,zX2),(6,zU2)]),((.exit 0),[(2,zU2),(5,zX2),(6,zU2)]),((.exit 10),[]),((.exit 6),[(1,zY2),(2,zU2),(5,zX2),(6,zU2)]),((.exit 7),[(2,zU2),(6,zU2)]),((.exit 8),[(2,zU2),(6,zU2)]),((.exit 9),[(2,zU2),(5,zX2),(6,zU2)])] (.two (.two (.two (.two (.two (.two (.two (.two (.two (.two (.two .n (.two .n (.two .n (.two .n (.two .n (.two (.joinO [(.norm,[(2,zU2),(5,zX2),(6,zU2),(9,zY2)]),((.exit 6),[(1,zY2),(2,zU2),(5,zX2),(6,zU2)])] .n) .n)))))) .n) .n) (.two (.two (.join [(2,zU2),(5,zX2),(6,zU2)] .n) .n) .n)) .n) (.two (.two (.join [(2,zU2),(5,zX2),(6,zU2)] .n) .n) .n)) .n) (.two (.two (.join [(2,zU2),(5,zX2),(6,zU2)] .n) .n) .n)) .n) .n) .n)) (.two (.join [(1,zY2),(2,zU2),(5,zX2),(6,zU2)] .n) .n)) .n)) (.two (.two (.join [(2,zU2),(5,zX2),(6,zU2)] .n) .n) .n)) .n)) .n) .n)) .n) .n) .n) .n) .n) .n))) .n))))
def fAt (N M:Nat):((SL→Int→Heap→Option (Bool×Heap))×(zL→Int→Heap→Option (Bool×Heap))×Unit):=Nat.rec (fun _ _ _=>none,fun _ _ _=>none,()) (fun _ r=>(eAt N r.1 r.2.1,iAj N r.1 r.2.1,())) M
def f125 (N M:Nat):SL→Int→Heap→Option (Bool×Heap):=(fAt N M).1
def f174 (N M:Nat):zL→Int→Heap→Option (Bool×Heap):=(fAt N M).2.1
theorem gAt (N M a0 a1 h):f125 N (M+1) a0 a1 h=eAt N (f125 N M) (f174 N M) a0 a1 h:=rfl
theorem iAt (N M a0 a1 h):f174 N (M+1) a0 a1 h=iAj N (f125 N M) (f174 N M) a0 a1 h:=rfl
theorem mR (N:Nat):∀ M:Nat,(cD Tryz.prog 125 [zV2,zY2] (.val zX2) (fun x h=>f125 N M x.1 x.2.1 h))∧(cD Tryz.prog 174 [zA,zY2] (.val zX2) (fun x h=>f174 N M x.1 x.2.1 h))∧True
 | 0=>⟨(fun xs h r h' hx=>by cases hx),(fun xs h r h' hx=>by cases hx),trivial⟩
 | M+1=>⟨pD (dA (mR N M).2.1 lA) N kBb Tryz.f125,pD (dA (wB3 N) (dA (yAf N) (dA (dAt N) (dA (wAf N) (dA (vB3 N) (dA (mR N M).1 (dA (vAf N) (dA (oN N) (dA (mB2 N) lA))))))))) N lBb Tryz.f174,trivial⟩
theorem yB3 (N:Nat):cD Tryz.prog 125 [zV2,zY2] (.val zX2) (fun x h=>f125 N N x.1 x.2.1 h):=(mR N N).1
def vA1 (N:Nat) (rec126:SL→Heap→Option (Int×Heap)) (go:Int→SL→Int→Int→Heap→Option (Out×zQ1×Heap)) (v3:Int) (v8:SL) (v9 v10:Int) (h:Heap):Option (Out×zQ1×Heap):=let x1:=uB v10 v9;(bif x1 then(ixK v8.a v8.len v10 32 fun q2=>(iA (.val zA) (h.cells q2 32) fun (x3:zL)=>let h4:=h.push (.row yZA .own);(uA (h4.store (h.next,0) (yRA x3)) fun h5=>(iA (.val zV2) (h5.cell ((h.next,0).1,(h.next,0).2+30)) fun (x6:SL)=>(kA (rec126 x6 h5) fun (x7:Int) h8=>let x9:=bB .i64 (v3+x7);(iA (.val zV2) (h8.cell ((h.next,0).1,(h.next,0).2+31)) fun (x10:SL)=>(kA (rec126 x10 h8) fun (x11:Int) h12=>let x13:=bB .i64 (x9+x11);(uE (bif (mC (h8.cell ((h.next,0).1,(h.next,0).2+31)) (.slice x10.a x10.len x10.cap x10.sz)) then (bif (mC (h5.cell ((h.next,0).1,(h.next,0).2+31)) (.slice x10.a x10.len x10.cap x10.sz)) then (bif (mC (h5.cell ((h.next,0).1,(h.next,0).2+30)) (.slice x6.a x6.len x6.cap x6.sz)) then true else false) else false) else false) ( let x14:=bB .i64 (v10+1);go x13 v8 v9 x14 h12)))))))))else some ((Out.exit 0),(v3,()),h))
def wA7 (N:Nat) (rec126:SL→Heap→Option (Int×Heap)) (M:Nat) (v3:Int) (v8:SL) (v9 v10:Int) (h:Heap):Option (Out×zQ1×Heap):=iter (fun go s h=>vA1 N rec126 (fun v3 v8 v9 v10 h=>go (v3,v8,v9,v10,()) h) s.1 s.2.1 s.2.2.1 s.2.2.2.1 h) M (v3,v8,v9,v10,()) h
theorem yAb (N rec126 M v3 v8 v9 v10 h):wA7 N rec126 (M+1) v3 v8 v9 v10 h=vA1 N rec126 (wA7 N rec126 M) v3 v8 v9 v10 h:=rfl
def jAj (N:Nat) (rec126:SL→Heap→Option (Int×Heap)) (a0:SL) (h:Heap):Option (Int×Heap):=(eE (wA7 N rec126 N (Int.ofNat a0.len) a0 (Int.ofNat a0.len) 0 h) fun _ (j16:zQ1) h17=>some (j16.1,h17))
def mBb:Ann:=(.two .n (.two .n (.two (.two .n (.two (.loop [(3,zY2),(8,zV2),(9,zY2),(10,zY2)] [(.exit 0)] [(3,zY2)] .n) .n)) .n)))
def aB4 (N M:Nat):((SL→Heap→Option (Int×Heap))×Unit):=Nat.rec (fun _ _=>none,()) (fun _ r=>(jAj N r.1,())) M
def f126 (N M:Nat):SL→Heap→Option (Int×Heap):=(aB4 N M).1
theorem aAc (N M a0 h):f126 N (M+1) a0 h=jAj N (f126 N M) a0 h:=rfl
theorem wA1 (N:Nat):∀ M:Nat,(cD Tryz.prog 126 [zV2] (.val zY2) (fun x h=>f126 N M x.1 h))∧True
 | 0=>⟨(fun xs h r h' hx=>by cases hx),trivial⟩
 | M+1=>⟨pD (dA (wA1 N M).1 lA) N mBb Tryz.f126,trivial⟩
theorem bB4 (N:Nat):cD Tryz.prog 126 [zV2] (.val zY2) (fun x h=>f126 N N x.1 h):=(wA1 N N).1
def yA7 (N:Nat) (go:zT2→Bool→SL→Int→Int→Heap→Option (Out×zW×Heap)) (v1:zT2) (v2:Bool) (v7:SL) (v8 v9:Int) (h:Heap):Option (Out×zW×Heap):=let x3:=uB v9 v8;(bif x3 then(ixK v7.a v7.len v9 2 fun q4=>(iA (.val zI) (h.cells q4 2) fun (x5:zY)=>let h6:=h.push (.row yZJ .own);(uA (h6.store (h.next,0) (yRI x5)) fun h7=>(iA (.val zW2) (h7.cell ((h.next,0).1,(h.next,0).2+0)) fun (x8:zA3)=>(kA (f122 N x8 h7) fun (x9:Bool) h10=>let x11:=!x9;(bif x11 then some (Out.ret,(v1,false,()),h10)else(iA (.val zV2) (h10.cell ((h.next,0).1,(h.next,0).2+1)) fun (x12:SL)=>(kA (f120 N x12 h10) fun (x13:Bool) h14=>let x15:=!x13;(bif x15 then some (Out.ret,(v1,false,()),h14)else let x16:=bB .i64 (v9+1);go v1 v2 v7 v8 x16 h14)))))))))else some ((Out.exit 0),(v1,v2,()),h))
def bAc (N M:Nat) (v1:zT2) (v2:Bool) (v7:SL) (v8 v9:Int) (h:Heap):Option (Out×zW×Heap):=iter (fun go s h=>yA7 N (fun v1 v2 v7 v8 v9 h=>go (v1,v2,v7,v8,v9,()) h) s.1 s.2.1 s.2.2.1 s.2.2.2.1 s.2.2.2.2.1 h) M (v1,v2,v7,v8,v9,()) h
theorem cAg (N M v1 v2 v7 v8 v9 h):bAc N (M+1) v1 v2 v7 v8 v9 h=yA7 N (bAc N M) v1 v2 v7 v8 v9 h:=rfl
def f80 (N:Nat) (a0:zU) (h:Heap):Option (Bool×Heap):=let h1:=h.push (.row (yRD a0) .own);(iA (.val zV2) (h1.cell ((h.next,0).1,(h.next,0).2+2)) fun (x2:SL)=>(eE (bAc N N (some (h.next,0)) false x2 (Int.ofNat x2.len) 0 h1) fun o17 (j18:zW) h19=>(bif mD o17 (.exit 0) then(kA (α:=zW) ((uA j18.1 fun q20=>(iA (.val zY2) (h19.cell ((q20.1,q20.2+4).1,(q20.1,q20.2+4).2+0)) fun (x21:Int)=>let x22:=pA x21 0;(bif x22 then(uA j18.1 fun q23=>(iA (.val zC) (h19.cells (q23.1,q23.2+4) 4) fun (x24:zP)=>(kA (f123 N (x24.1,x24.2.1,x24.2.2.1,x24.2.2.2.1,()) h19) fun (x25:Bool) h26=>(bif x25 then some ((j18.1,true,()),h26)else(uA j18.1 fun q27=>(iA (.val zC) (h26.cells (q27.1,q27.2+4) 4) fun (x28:zP)=>(kA (f124 N N (x28.1,x28.2.1,x28.2.2.1,x28.2.2.2.1,()) 1 h26) fun (x29:Bool) h30=>some ((j18.1,x29,()),h30))))))))else(uA j18.1 fun q31=>(iA (.val zC) (h19.cells (q31.1,q31.2+4) 4) fun (x32:zP)=>(kA (f124 N N (x32.1,x32.2.1,x32.2.2.1,x32.2.2.2.1,()) 1 h19) fun (x33:Bool) h34=>some ((j18.1,x33,()),h34)))))))) fun (j35:zW) h36=>(uA j35.1 fun q37=>(iA (.val zW2) (h36.cell (q37.1,q37.2+1)) fun (x38:zA3)=>(kA (f119 N x38 h36) fun (x39:Bool) h40=>(bif x39 then(uA j35.1 fun q41=>(iA (.val zV2) (h40.cell (q41.1,q41.2+2)) fun (x42:SL)=>let x43:Bool:=uC (Int.ofNat x42.len) 64;(bif x43 then(uA j35.1 fun q44=>(iA (.val zV2) (h40.cell (q44.1,q44.2+3)) fun (x45:SL)=>(kA (f121 N x45 true h40) fun (x46:Bool) h47=>(bif x46 then(bif j35.2.1 then(uA j35.1 fun q48=>
 (iA (.val zV2) (h47.cell (q48.1,q48.2+8)) fun (x49:SL)=>(kA (f125 N N x49 1 h47) fun (x50:Bool) h51=>(bif x50 then(uA j35.1 fun q52=>(iA (.val zV2) (h51.cell (q52.1,q52.2+8)) fun (x53:SL)=>(kA (f126 N N x53 h51) fun (x54:Int) h55=>let x56:Bool:=uC x54 2000;some (x56,h55))))else some (false,h51)))))else some (false,h47))else some (false,h47)))))else some (false,h40))))else some (false,h40))))))else some (j18.2.1,h19))))
def nBf:Ann:=(.two .n (.two (.two .n (.two (.loop [(1,zU2),(2,zX2),(7,zV2),(8,zY2),(9,zY2)] [(.exit 0),.ret] [(1,zU2),(2,zX2)] .n) .n)) (.two (.join [(1,zU2),(5,zX2)] .n) .n)))
theorem nBb (N:Nat):cD Tryz.prog 80 [zD] (.val zX2) (fun x h=>f80 N x.1 h):=pD (dA (bB4 N) (dA (yB3 N) (dA (vAf N) (dA (yAs N) (dA (vAs N) (dA (cAt N) (dA (uAf N) (dA (oN N) lA)))))))) N nBf Tryz.f80
def aA8 (N:Nat) (go:Bool→SL→Int→Int→Heap→Option (Out×zA1×Heap)) (v2:Bool) (v27:SL) (v28 v29:Int) (h:Heap):Option (Out×zA1×Heap):=let x22:=uB v29 v28;(bif x22 then(ixK v27.a v27.len v29 10 fun q23=>(iA (.val zD) (h.cells q23 10) fun (x24:zU)=>let h25:=h.push (.row yZD .own);(uA (h25.store (h.next,0) (yRD x24)) fun h26=>(iA (.val zD) (h26.cells (h.next,0) 10) fun (x27:zU)=>(kA (f80 N (x27.1,x27.2.1,x27.2.2.1,x27.2.2.2.1,x27.2.2.2.2.1,x27.2.2.2.2.2.1,x27.2.2.2.2.2.2.1,x27.2.2.2.2.2.2.2.1,x27.2.2.2.2.2.2.2.2.1,x27.2.2.2.2.2.2.2.2.2.1,()) h26) fun (x28:Bool) h29=>let x30:=!x28;(bif x30 then some (Out.ret,(false,()),h29)else let x31:=bB .i64 (v29+1);go v2 v27 v28 x31 h29))))))else some ((Out.exit 2),(v2,()),h))
def cAc (N M:Nat) (v2:Bool) (v27:SL) (v28 v29:Int) (h:Heap):Option (Out×zA1×Heap):=iter (fun go s h=>aA8 N (fun v2 v27 v28 v29 h=>go (v2,v27,v28,v29,()) h) s.1 s.2.1 s.2.2.1 s.2.2.2.1 h) M (v2,v27,v28,v29,()) h
theorem dAg (N M v2 v27 v28 v29 h):cAc N (M+1) v2 v27 v28 v29 h=aA8 N (cAc N M) v2 v27 v28 v29 h:=rfl
def bA8 (N:Nat) (go:zT2→Bool→SL→Int→Int→Heap→Option (Out×zW×Heap)) (v1:zT2) (v2:Bool) (v16:SL) (v17 v18:Int) (h:Heap):Option (Out×zW×Heap):=let x7:=uB v18 v17;(bif x7 then(ixK v16.a v16.len v18 5 fun q8=>(iA (.val zH) (h.cells q8 5) fun (x9:zD1)=>let h10:=h.push (.row yZG .own);(uA (h10.store (h.next,0) (yRH x9)) fun h11=>(iA (.val zH) (h11.cells (h.next,0) 5) fun (x12:zD1)=>(kA (f79 N (x12.1,x12.2.1,x12.2.2.1,x12.2.2.2.1,x12.2.2.2.2.1,()) h11) fun (x13:Bool) h14=>let x15:=!x13;(bif x15 then some (Out.ret,(v1,false,()),h14)else let x16:=bB .i64 (v18+1);go v1 v2 v16 v17 x16 h14))))))else some ((Out.exit 0),(v1,v2,()),h))
def dAc (N M:Nat) (v1:zT2) (v2:Bool) (v16:SL) (v17 v18:Int) (h:Heap):Option (Out×zW×Heap):=iter (fun go s h=>bA8 N (fun v1 v2 v16 v17 v18 h=>go (v1,v2,v16,v17,v18,()) h) s.1 s.2.1 s.2.2.1 s.2.2.2.1 s.2.2.2.2.1 h) M (v1,v2,v16,v17,v18,()) h
theorem eAg (N M v1 v2 v16 v17 v18 h):dAc N (M+1) v1 v2 v16 v17 v18 h=bA8 N (dAc N M) v1 v2 v16 v17 v18 h:=rfl
def f33 (N:Nat) (a0:zM1) (h:Heap):Option (Bool×Heap):=let h1:=h.push (.row (yRJ a0) .own);(iA (.val zV2) (h1.cell ((h.next,0).1,(h.next,0).2+0)) fun (x2:SL)=>(iA (.val zV2) (h1.cell ((h.next,0).1,(h.next,0).2+1)) fun (x3:SL)=>let x4:=bB .i64 ((Int.ofNat x2.len)+(Int.ofNat x3.len));let x5:=uB 256 x4;(bif x5 then some (false,h1)else(iA (.val zV2) (h1.cell ((h.next,0).1,(h.next,0).2+0)) fun (x6:SL)=>(eE (dAc N N (some (h.next,0)) false x6 (Int.ofNat x6.len) 0 h1) fun o17 (j18:zW) h19=>(bif mD o17 (.exit 0) then(uA j18.1 fun q20=>(iA (.val zV2) (h19.cell (q20.1,q20.2+1)) fun (x21:SL)=>(eE (cAc N N j18.2.1 x21 (Int.ofNat x21.len) 0 h19) fun o32 (j33:zA1) h34=>(bif mD o32 (.exit 2) then some (true,h34)else some (j33.1,h34)))))else some (j18.2.1,h19)))))))
def oBf:Ann:=(.two .n (.two .n (.two (.two .n (.two (.loop [(1,zU2),(2,zX2),(16,zV2),(17,zY2),(18,zY2)] [(.exit 0),.ret] [(1,zU2),(2,zX2)] .n) .n)) (.two (.two .n (.two (.loop [(2,zX2),(27,zV2),(28,zY2),(29,zY2)] [(.exit 2),.ret] [(2,zX2)] .n) .n)) .n))))
theorem oBb (N:Nat):cD Tryz.prog 33 [zK] (.val zX2) (fun x h=>f33 N x.1 h):=pD (dA (nBb N) (dA (bBb N) lA)) N oBf Tryz.f33
def cA8 (N:Nat) (go:zA3→Bool→zT2→Int→Heap→Option (Out×zB1×Heap)) (v0:zA3) (v2:Bool) (v3:zT2) (v7:Int) (h:Heap):Option (Out×zB1×Heap):=(uA v3 fun q38=>(iA (.val zV2) (h.cell (q38.1,q38.2+0)) fun (x39:SL)=>let x40:=uB v7 (Int.ofNat x39.len);(bif x40 then(uA v3 fun q41=>(iA (.val zV2) (h.cell (q41.1,q41.2+0)) fun (x42:SL)=>(ixK x42.a x42.len v7 5 fun q43=>(iA (.val zY2) (h.cell (q43.1,q43.2+4)) fun (x44:Int)=>let x45:=uB x44 0;(bif x45 then some (Out.ret,(false,v3,()),h)else let x46:=bB .i64 (x44+6);let x47:=uB (Int.ofNat v0.length) x46;(bif x47 then some (Out.ret,(false,v3,()),h)else let x48:=bB .i64 (x44+6);(iA (.val zW2) (qD E h 9 (.str v0) (some (.int .i64 x44)) (some (.int .i64 x48))) fun (x49:zA3)=>let x50:=!pB x49 [115,116,114,117,99,116];(bif x50 then some (Out.ret,(false,v3,()),h)else let x51:=bB .i64 (v7+1);go v0 v2 v3 x51 h))))))))else some ((Out.exit 2),(v2,v3,()),h))))
def kAj (N M:Nat) (v0:zA3) (v2:Bool) (v3:zT2) (v7:Int) (h:Heap):Option (Out×zB1×Heap):=iter (fun go s h=>cA8 N (fun v0 v2 v3 v7 h=>go (v0,v2,v3,v7,()) h) s.1 s.2.1 s.2.2.1 s.2.2.2.1 h) M (v0,v2,v3,v7,()) h
theorem fAg (N M v0 v2 v3 v7 h):kAj N (M+1) v0 v2 v3 v7 h=cA8 N (kAj N M) v0 v2 v3 v7 h:=rfl
def dA8 (N:Nat) (go:zA3→Bool→zT2→Int→Heap→Option (Out×zS1×Heap)) (v0:zA3) (v2:Bool) (v3:zT2) (v5:Int) (h:Heap):Option (Out×zS1×Heap):=(uA v3 fun q14=>(iA (.val zV2) (h.cell (q14.1,q14.2+1)) fun (x15:SL)=>let x16:=uB v5 (Int.ofNat x15.len);(bif x16 then(uA v3 fun q17=>(iA (.val zV2) (h.cell (q17.1,q17.2+1)) fun (x18:SL)=>(ixK x18.a x18.len v5 10 fun q19=>(iA (.val zY2) (h.cell (q19.1,q19.2+9)) fun (x20:Int)=>let x21:=uB x20 0;(bif x21 then some (Out.ret,(v0,false,v3,()),h)else let x22:=bB .i64 (x20+2);let x23:=uB (Int.ofNat v0.length) x22;(bif x23 then some (Out.ret,(v0,false,v3,()),h)else let x24:=bB .i64 (x20+2);(iA (.val zW2) (qD E h 9 (.str v0) (some (.int .i64 x20)) (some (.int .i64 x24))) fun (x25:zA3)=>let x26:=!pB x25 [102,110];(bif x26 then some (Out.ret,(v0,false,v3,()),h)else(uA v3 fun q27=>(iA (.val zV2) (h.cell (q27.1,q27.2+1)) fun (x28:SL)=>(ixK x28.a x28.len v5 10 fun q29=>(iA (.val zV2) (h.cell (q29.1,q29.2+8)) fun (x30:SL)=>(kA (f32 N N v0 x30 h) fun (x31:Bool) h32=>let x33:=!x31;(bif x33 then some (Out.ret,(v0,false,v3,()),h32)else let x34:=bB .i64 (v5+1);go v0 v2 v3 x34 h32))))))))))))))else some ((Out.exit 0),(v0,v2,v3,()),h))))
def lAj (N M:Nat) (v0:zA3) (v2:Bool) (v3:zT2) (v5:Int) (h:Heap):Option (Out×zS1×Heap):=iter (fun go s h=>dA8 N (fun v0 v2 v3 v5 h=>go (v0,v2,v3,v5,()) h) s.1 s.2.1 s.2.2.1 s.2.2.2.1 h) M (v0,v2,v3,v5,()) h
theorem gAg (N M v0 v2 v3 v5 h):lAj N (M+1) v0 v2 v3 v5 h=dA8 N (lAj N M) v0 v2 v3 v5 h:=rfl
def f11 (N:Nat) (a0:zA3) (h:Heap):Option (Bool×Heap):=let x1:=uB 4000 (Int.ofNat a0.length);(bif x1 then(kA (g22 N  h) fun (x2:Bool) h3=>some (x2,h3))else(kA (f27 N a0 h) fun (x4:(zM1×AV×Unit)) h5=>let h6:=h5.push (.row yZI .own);(uA (h6.store (h5.next,0) (yRJ x4.1)) fun h7=>(iA (.val zX2) (wJ E .neq 29 (.tmp 18) (.const .nilIface) x4.2.1 AV.nilIface) fun (x8:Bool)=>(bif x8 then(kA (g22 N  h7) fun (x9:Bool) h10=>(bif x9 then(iA (.val zK) (h10.cells (h5.next,0) 2) fun (x11:zM1)=>(kA (f30 N (x11.1,x11.2.1,()) (⟨none,0,0,0⟩,⟨none,0,0,0⟩,()) h10) fun (x12:Bool) h13=>some (x12,h13)))else some (false,h10)))else(eE (lAj N N a0 false (some (h5.next,0)) 0 h7) fun o35 (j36:zS1) h37=>(bif mD o35 (.exit 0) then(eE (kAj N N j36.1 j36.2.1 j36.2.2.1 0 h37) fun o52 (j53:zB1) h54=>(bif mD o52 (.exit 2) then(kA (g22 N  h54) fun (x55:Bool) h56=>(bif x55 then(uA j53.2.1 fun q57=>(iA (.val zK) (h56.cells q57 2) fun (x58:zM1)=>(kA (f33 N (x58.1,x58.2.1,()) h56) fun (x59:Bool) h60=>some (x59,h60))))else some (false,h56)))else some (j53.1,h54)))else some (j36.2.1,h37))))))))
def pBf:Ann:=(.two .n (.two .n (.two .n (.two .n (.two (.two .n (.two (.loop [(0,zW2),(2,zX2),(3,zU2),(5,zY2)] [(.exit 0),.ret] [(0,zW2),(2,zX2),(3,zU2)] .n) .n)) (.two (.two .n (.two (.loop [(0,zW2),(2,zX2),(3,zU2),(7,zY2)] [(.exit 2),.ret] [(2,zX2),(3,zU2)] .n) .n)) .n))))))
theorem f11_ok (N:Nat):cD Tryz.prog 11 [zW2] (.val zX2) (fun x h=>f11 N x.1 h):=pD (dA (oBb N) (dA (qBa N) (dA (uB9 N) (dA (yAx N) (dA (nBa N) lA))))) N pBf Tryz.f11
end
end Qp
namespace Qp
def PK (h:Heap):Prop:=Qk.pinned h=true∧5≤h.next
theorem PK.chg {h h':Heap} (x:PK h) (c:Chg [] h h'):PK h':=by
 obtain ⟨h1,h2⟩:=x;refine ⟨?_,Nat.le_trans h2 c.next⟩;unfold Qk.pinned at h1 ⊢;simp only [Bool.and_eq_true] at h1 ⊢;obtain ⟨⟨a,b⟩,d⟩:=h1;have e4:h'.t.get 4=h.t.get 4:=c.g 4 (by omega) (by simp);exact ⟨⟨jN c (by simp) (by omega) a,by rw [c.pins];exact b⟩,by rw [e4];exact d⟩
theorem cJ {N:Nat} (hN:40≤N) (s:Bs) (h:Heap):f119 N s h=some (yG s,h):=by
 unfold f119
 cases s with
 | nil=>rfl
 | cons c r=>
  have e0:pB (c::r) []=false:=rfl;have e1:uC (Int.ofNat (c::r).length) 32=decide ((c::r).length≤32):=by
   rw [leI];show decide (((c::r).length:Int)≤32)=_
   by_cases q:(c::r).length≤32
   ·rw [decide_eq_true q,decide_eq_true];omega
   ·rw [decide_eq_false q,decide_eq_false];omega
  have e2:decide (1≤(c::r).length)=true:=by simp
  simp only [e0,Bool.not_false,cond_true,e1,yG,dN,e2,Bool.true_and]
  by_cases q:(c::r).length≤32
  ·rw [decide_eq_true q,cond_true,Bool.true_and]
   have sk:∀ {β:Type} (K:Int→Option β),eJ (c::r) 0 K=K (c.toNat:Int):=fun K=>qH (s:=c::r) (i:=0) (by simp) K;rw [sk,yAd,aA];show (bif bD c then _ else _)=some (bD c&&_&&_,h)
   cases bD c with
   | false=>rfl
   | true=>
    have f:=dA6 (N:=N) (s:=c::r) (by omega) (by omega) (i:=0) (Nat.zero_le _) h;rw [show ((0:Nat):Int)=0 from rfl,List.drop_zero,Nat.zero_add] at f;rw [cond_true,f,aA,Bool.true_and];have e3:pA ((runN (c::r):Nat):Int) (Int.ofNat (c::r).length)=decide (runN (c::r)=(c::r).length):=by
     rw [eqI];show decide (((runN (c::r):Nat):Int)=((c::r).length:Int))=_
     by_cases q2:runN (c::r)=(c::r).length
     ·rw [decide_eq_true q2,decide_eq_true];omega
     ·rw [decide_eq_false q2,decide_eq_false];omega
    simp only [e3]
    by_cases q2:runN (c::r)=(c::r).length
    ·rw [decide_eq_true q2,cond_true,aAe,aA,Bool.true_and]
    ·rw [decide_eq_false q2,cond_false,Bool.false_and]
  ·rw [decide_eq_false q,cond_false];rfl
theorem jAt {N:Nat} (hN:40≤N) {s:Bs} (hs:dN s=true) (h:Heap):f122 N s h=some (true,h):=by
 unfold f122;rw [cJ hN,aA];unfold yG;rw [hs,Bool.true_and,aAe];cases isWord s <;> rfl
section
variable {N:Nat} {h:Heap} {V:Nat→Prop}
theorem pBb {n:Nat} (h:n≤64):uC (Int.ofNat n) 64=true:=by rw [leI,decide_eq_true_eq];show (n:Int)≤64;omega
theorem eA8 (hN:40≤N) {s:SL} {xs:List Bs} (x:Sl h V s (xs.map D.s)) (hx:∀ y∈xs,dN y=true) (hl:xs.length≤100):∀ (M i:Nat),i≤xs.length→xs.length-i<M→qA7 N M s false s (xs.length:Int) (i:Int) h=some (.exit 0,(s,false,()),h):=by
 intro M
 induction M with
 | zero=>intro i _ h;omega
 | succ M ih=>
  intro i hi hM;rw [rAb];unfold lA1;simp only [pG]
  by_cases q:i<xs.length
  ·simp only [q,decide_true,cond_true]
   have q':i<(xs.map D.s).length:=by rw [List.length_map];exact q
   rw [x.ix q' 1,cAb x q];simp only [fA,mB];rw [jAt hN (hx _ (List.getElem_mem q)),aA];simp only [Bool.not_true,cond_false];rw [rB (by omega)];exact ih (i+1) q (by omega)
  ·simp only [q,decide_false,cond_false]
theorem fA8 (hN:200≤N) {s:SL} {xs:List Bs} (x:Sl h V s (xs.map D.s)) (hx:eB5 64 xs):f120 N s h=some (true,h):=by
 unfold f120;have l1:s.len=xs.length:=by rw [x.len,List.length_map]
 have hle:=hx.1
 have:=eA8 (N:=N) (by omega) x hx.2 (by omega) N 0 (Nat.zero_le _) (by omega)
 rw [show ((0:Nat):Int)=0 from rfl] at this;rw [l1,show Int.ofNat xs.length=(xs.length:Int) from rfl,this];simp only [yB,fE,decide_true,cond_true,l1,pBb hx.1]
end
theorem eAc {x:Bs} (h:yG x=true):∀ c∈x,c≠58:=fun c hc e=>by
 simp only [yG,Bool.and_eq_true] at h;obtain ⟨_,_,_,_,hg,_⟩:=bAf h.1
 have:=hg c hc
 rw [e] at this;cases this
theorem mAj {x r:Bs} (h:∀ c∈x,c≠58) {j:Nat} (hj:j<x.length):Lib.occAt (x++r) [58,58] j=false:=by
 unfold Lib.occAt;rw [List.drop_append_of_le_length (by omega),List.drop_eq_getElem_cons hj,List.cons_append];have hne:(58:UInt8)≠x[j]:=fun e=>h _ (List.getElem_mem hj) e.symm;simp [List.isPrefixOf,hne]
theorem oAw {x:Bs} (h:∀ c∈x,c≠58):Lib.cut x [58,58]=(x,[],false):=by
 have e:Lib.index x [58,58] = -1:=Lib.index_none fun j hj=>by
  by_cases q:j<x.length
  ·have:=mAj (r:=[]) h q
   rwa [List.append_nil] at this
  ·have:j=x.length:=by omega
   subst this;simp [Lib.occAt]
 unfold Lib.cut;rw [e];rfl
theorem cB4 {a b:Bs} (h:∀ c∈a,c≠58):Lib.cut (a++[58,58]++b) [58,58]=(a,b,true):=by
 have e:Lib.index (a++[58,58]++b) [58,58]=(a.length:Int):=Lib.index_first (i:=a.length) (by simp) (by simp [Lib.occAt,List.isPrefixOf]) (fun j hj=>by
  rw [List.append_assoc];exact mAj h hj)
 unfold Lib.cut;rw [e,if_pos (by omega)];have e1:((a.length:Int)).toNat=a.length:=rfl;rw [e1];have e2:(a++[58,58]++b).take a.length=a:=by rw [List.append_assoc];exact List.take_left' rfl
 have e3:(a++[58,58]++b).drop (a.length + [58,58].length)=b:=List.drop_left' (by simp);rw [e2];exact Prod.ext rfl (Prod.ext e3 rfl)
section
variable {N:Nat} {h:Heap} {V:Nat→Prop}
theorem kAt (hN:40≤N) {x:Bs} (hx:longP x) (pk:PK h):f173 N x h=some (true,h):=by
 have hb:(Qk.pinned h&&Nat.blt x.length 4294967281)=true:=by
  rw [pk.1,Bool.true_and,Nat.blt_eq]
  have:=eAr hx;omega
 unfold f173 f196 Qk.oBa;rw [hb,cond_true,aA];rcases hx with hx | ⟨a,b,rfl,h1,h2⟩
 ·rw [oAw (eAc hx)]
  simp only [cJ hN,aA,hx,cond_true,Bool.not_false]
 ·rw [cB4 (eAc h1)]
  simp only [cJ hN,aA,h1,h2,cond_true,Bool.not_true,cond_false]
theorem iAg {k:Int} {s1 s2:SL} (h1:s1.len=0) (h2:s2.len=0):∃ h',f123 N (k,[],s1,s2,()) h=some (true,h')∧Chg [] h h':=by
 unfold f123;have o:=wA h (tyc (k,[],s1,s2,()));have c:=vA h (.row (tyc (k,[],s1,s2,())) .own);have e1:h.push (.row [(.int .i64 k),(.str []),(.slice s1.a s1.len s1.cap s1.sz),(.slice s2.a s2.len s2.cap s2.sz)] .own)=h.push (.row (tyc (k,[],s1,s2,())) .own):=rfl;dsimp only;rw [e1];generalize h.push (.row (tyc (k,[],s1,s2,())) .own)=H at *;have a1:H.cell (h.next,1)=some (.str []):=o.cell 1;have a2:H.cell (h.next,2)=some (.slice s1.a s1.len s1.cap s1.sz):=o.cell 2;have a3:H.cell (h.next,3)=some (.slice s2.a s2.len s2.cap s2.sz):=o.cell 3;simp only [Nat.zero_add,a1,fA,mB,eqB.2,cond_true,a2,qA,h1,a3,h2];exact ⟨H,rfl,c⟩
theorem dB4 (hN:200≤N):∀ (g M:Nat) (h:Heap) (r:TyV) (p:PT) (V:Nat→Prop),g≤M→g≤64→p.ok g→PK h→Dt h V p.D (tyc r)→∃ h',f124 N M r ((65-g:Nat):Int) h=some (true,h')∧Chg [] h h':=by
 intro g
 induction g with
 | zero=>intro M h r p V _ _ hp;exact hp.elim
 | succ g ih=>
  intro M h r p V hM hg hp pk x;obtain ⟨M,rfl⟩:∃ m,M=m+1:=⟨M-1,by omega⟩;obtain ⟨k,y,s1,s2,⟨⟩⟩:=r;rw [bAt];unfold aAt;have o:=wA h (tyc (k,y,s1,s2,()));have c:=vA h (.row (tyc (k,y,s1,s2,())) .own);have e1:h.push (.row [(.int .i64 k),(.str y),(.slice s1.a s1.len s1.cap s1.sz),(.slice s2.a s2.len s2.cap s2.sz)] .own)=h.push (.row (tyc (k,y,s1,s2,())) .own):=rfl;dsimp only;rw [e1];have pk1:=pk.chg c;have x1:=Dt.chg c (by simp) x;generalize h.push (.row (tyc (k,y,s1,s2,())) .own)=H at *;have z:uB 64 ((65-(g+1):Nat):Int)=false:=by rw [ltI,decide_eq_false_iff_not];omega
  have a0:H.cell (h.next,0)=some (.int .i64 k):=o.cell 0;have a1:H.cell (h.next,1)=some (.str y):=o.cell 1;have a2:H.cell (h.next,2)=some (.slice s1.a s1.len s1.cap s1.sz):=o.cell 2;have a3:H.cell (h.next,3)=some (.slice s2.a s2.len s2.cap s2.sz):=o.cell 3;have aa:H.cells (h.next,0) 4=some (.agg (tyc (k,y,s1,s2,()))):=o.cells (j:=0) (m:=4) (Nat.le_refl _);simp only [z,cond_false,Nat.zero_add,a0,fA,kB]
  cases p with
  | int=>
   obtain ⟨t1,t2,hc,y1,y2⟩:=eN.1 (show Dt H V (tyD 1 [] [] []) _ from x1);have er:=(vU 1).inj hc;simp only [Prod.mk.injEq,and_true] at er;obtain ⟨rfl,rfl,rfl,rfl⟩:=er;have b3:pA 1 3=false:=rfl;have b4:pA 1 4=false:=rfl;have b5:pA 1 5=false:=rfl;have b1:pA 1 1=true:=rfl;simp only [b3,b4,b5,b1,cond_false,cond_true,aA,bA];rw [aa,vAk];obtain ⟨h',e,c'⟩:=iAg (N:=N) (h:=H) (k:=1) y1.len y2.len;rw [e,aA];exact ⟨h',rfl,c.trans c'⟩
  | bool=>
   obtain ⟨t1,t2,hc,y1,y2⟩:=eN.1 (show Dt H V (tyD 2 [] [] []) _ from x1);have er:=(vU 1).inj hc;simp only [Prod.mk.injEq,and_true] at er;obtain ⟨rfl,rfl,rfl,rfl⟩:=er;have b3:pA 2 3=false:=rfl;have b4:pA 2 4=false:=rfl;have b5:pA 2 5=false:=rfl;have b1:pA 2 1=false:=rfl;have b2:pA 2 2=true:=rfl;simp only [b3,b4,b5,b1,b2,cond_false,cond_true,aA,bA];rw [aa,vAk];obtain ⟨h',e,c'⟩:=iAg (N:=N) (h:=H) (k:=2) y1.len y2.len;rw [e,aA];exact ⟨h',rfl,c.trans c'⟩
  | st nm lv=>
   obtain ⟨t1,t2,hc,y1,y2⟩:=eN.1 (show Dt H V (tyD 3 nm lv []) _ from x1);have er:=(vU 1).inj hc;simp only [Prod.mk.injEq,and_true] at er;obtain ⟨rfl,rfl,rfl,rfl⟩:=er;have b3:pA 3 3=true:=rfl;simp only [b3,cond_true,a1,fA,mB];rw [kAt (by omega) hp.1 pk1,aA,cond_true];simp only [a2,fA,qA];rw [fA8 hN y1 ⟨hp.2.1,hp.2.2⟩,aA,cond_true];have l0:s2.len=0:=y2.len;simp only [a3,fA,qA,l0];exact ⟨H,rfl,c⟩
  | ref mu lv t=>
   obtain ⟨t1,t2,hc,y1,y2⟩:=eN.1 (show Dt H V (tyD (if mu=true then 5 else 4) [] lv [t.D]) _ from x1);have er:=(vU 1).inj hc;simp only [Prod.mk.injEq,and_true] at er;obtain ⟨rfl,rfl,rfl,rfl⟩:=er;have b3:pA (if mu=true then 5 else 4) 3=false:=by cases mu <;> rfl
   have bj:∀ {β:Type} (K:zZ1→Heap→Option β),(kA (bif pA (if mu=true then 5 else 4) 4 then some ((((65-(g+1):Nat):Int),some (h.next,0),(if mu=true then (5:Int) else 4),pA (if mu=true then 5 else 4) 4,()),H) else some ((((65-(g+1):Nat):Int),some (h.next,0),(if mu=true then (5:Int) else 4),pA (if mu=true then 5 else 4) 5,()),H)) K)=K (((65-(g+1):Nat):Int),some (h.next,0),(if mu=true then 5 else 4),true,()) H:=by
    intro β K;cases mu <;> rfl
   simp only [b3,cond_false];rw [bj];have l1:uC (Int.ofNat s1.len) 1=true:=by
    rw [leI,decide_eq_true_eq];show (s1.len:Int)≤1
    have:=hp.1
    have e:=y1.len;rw [List.length_map] at e;omega
   have l2:s2.len=1:=y2.len;have b1:pA (Int.ofNat 1) 1=true:=rfl;simp only [cond_true,bA,Nat.zero_add,a1,fA,mB,eqB.2,a2,qA,l1];rw [fA8 hN y1 ⟨Nat.le_trans hp.1 (by decide),hp.2.1⟩,aA,cond_true];simp only [a3,fA,qA,l2,b1,cond_true];have hi:0 < [t.D].length:=by simp
   have hix:∀ {β:Type} (K:Nat×Nat→Option β),ixK s2.a 1 ((0:Nat):Int) 4 K=K (s2.at 0 4):=fun K=>by
    have:=y2.ix hi 4 K
    rwa [l2] at this
   rw [show (0:Int)=((0:Nat):Int) from rfl,hix];obtain ⟨r1,hr1,d1⟩:=(vU g).elt y2 hi (jB2 hp.2.2);rw [hr1,vAk];have ew:bB .i64 (((65-(g+1):Nat):Int)+1)=((65-g:Nat):Int):=by
    rw [rB (by omega),show 65-(g+1)+1=65-g by omega]
   rw [ew];obtain ⟨h',e,c'⟩:=ih M H r1 t V (by omega) (by omega) hp.2.2 pk1 d1;have e':f124 N M (r1.1,r1.2.1,r1.2.2.1,r1.2.2.2.1,()) ((65-g:Nat):Int) H=some (true,h'):=e;rw [e',aA];exact ⟨h',rfl,c.trans c'⟩
theorem gA8 (hN:200≤N) {r:TyV} {d:D} (hp:mA2 64 d) (pk:PK h) (x:Dt h V d (tyc r)):∃ h',f124 N N (r.1,r.2.1,r.2.2.1,r.2.2.2.1,()) 1 h=some (true,h')∧Chg [] h h':=by
 obtain ⟨p,rfl,hp⟩:=hp;obtain ⟨h',e,c⟩:=dB4 hN 64 N h r p V (by omega) (Nat.le_refl _) hp pk x;exact ⟨h',e,c⟩
theorem nAj {g:Nat} {d:D} (h:mA2 g d):isTy (g+1) d:=by
 obtain ⟨p,rfl,hp⟩:=h;exact (jB2 hp).up (Nat.le_succ _)
theorem pAw {mu:Bool} {d:D} (h:kA7 mu d):isFd d:=by
 obtain ⟨m,nm,ty,rfl,_,_,ht⟩:=h;exact ⟨m,nm,ty,rfl,nAj ht⟩
theorem qA2 (hN:200≤N) {mu:Bool} {xs:List D} (hx:∀ x∈xs,kA7 mu x) (hl:xs.length≤100) {s:SL}:∀ (M i:Nat) (h:Heap),i≤xs.length→xs.length-i<M→PK h→Sl h V s xs→∃ h',rA7 N M s mu false s (xs.length:Int) (i:Int) h=some (.exit 0,(s,false,()),h')∧Chg [] h h':=by
 intro M
 induction M with
 | zero=>intro i h _ h;omega
 | succ M ih=>
  intro i h hi hM pk x;rw [tAb];unfold nA1;simp only [pG]
  by_cases q:i<xs.length
  ·simp only [q,decide_true,cond_true]
   have hm:=hx _ (List.getElem_mem q);obtain ⟨r,g,d⟩:=uB2.elt x q (pAw hm);rw [x.ix q 6,g,nBe];obtain ⟨h5,p5,c5,o5⟩:=uB2.park (z:=fdc fd0) rfl h r;have p5':∀ {β:Type} (K:Heap→Option β),uA ((h.push (.row [(.bool false),(.str []),(.int .i64 0),(.str []),(.slice none 0 0 0),(.slice none 0 0 0)] .own)).store (h.next,0) [(.bool r.1),(.str r.2.1),(.int .i64 r.2.2.1),(.str r.2.2.2.1),(.slice r.2.2.2.2.1.a r.2.2.2.2.1.len r.2.2.2.2.1.cap r.2.2.2.2.1.sz),(.slice r.2.2.2.2.2.1.a r.2.2.2.2.2.1.len r.2.2.2.2.2.1.cap r.2.2.2.2.2.1.sz)]) K=K h5:=p5;rw [p5'];have d5:=Dt.chg c5 (by simp) d;have pk5:=pk.chg c5;obtain ⟨m,nm,ty,hd,hmu,hn,ht⟩:=hm;rw [hd] at d5;obtain ⟨q1,hc1,y1⟩:=jAy (nAj ht) d5;obtain rfl:=uB2.inj hc1;have a0:h5.cell (h.next,0)=some (.bool m):=o5.cell 0;have a1:h5.cell (h.next,1)=some (.str nm):=o5.cell 1;have aa:h5.cells (h.next,2) 4=some (.agg (tyc q1)):=o5.cells (j:=2) (m:=4) (Nat.le_refl _);obtain ⟨h6,e6,c6⟩:=gA8 hN ht pk5 y1;have c06:=c5.trans c6;obtain ⟨h',e',c'⟩:=ih (i+1) h6 q (by omega) (pk.chg c06) (x.chg c06 (by simp));simp only [Nat.zero_add,a0,fA,jB]
   cases m with
   | true=>
    rw [hmu rfl] at e' ⊢;simp only [cond_true,Bool.not_true,cond_false,a1,fA,mB];rw [cJ (by omega),aA,hn];simp only [Bool.not_true,cond_false];rw [aa,vAk,e6,aA];simp only [Bool.not_true,cond_false];rw [rB (by omega)];exact ⟨h',e',c06.trans c'⟩
   | false=>
    simp only [cond_false,a1,fA,mB];rw [cJ (by omega),aA,hn];simp only [Bool.not_true,cond_false];rw [aa,vAk,e6,aA];simp only [Bool.not_true,cond_false];rw [rB (by omega)];exact ⟨h',e',c06.trans c'⟩
  ·simp only [q,decide_false,cond_false]
   exact ⟨h,rfl,Chg.refl _ _⟩
theorem lAt (hN:200≤N) {mu:Bool} {xs:List D} (hx:qAb 64 (kA7 mu) xs) {s:SL} (pk:PK h) (x:Sl h V s xs):∃ h',f121 N s mu h=some (true,h')∧Chg [] h h':=by
 unfold f121;have l1:s.len=xs.length:=x.len;have hle:=hx.1;obtain ⟨h',e,c⟩:=qA2 hN hx.2 (by omega) N 0 h (Nat.zero_le _) (by omega) pk x;rw [show ((0:Nat):Int)=0 from rfl] at e;rw [l1,show Int.ofNat xs.length=(xs.length:Int) from rfl,e];simp only [yB,fE,decide_true,cond_true,l1,pBb hx.1];exact ⟨h',rfl,c⟩
theorem qBb (hN:200≤N) {t:Bs} {d:D} (hd:nA2 t d) {r:StV} (pk:PK h) (x:Dt h V d (stc r)):∃ h',f79 N r h=some (true,h')∧Chg [] h h':=by
 obtain ⟨pub,nm,lv,fs,a,rfl,hn,hlv,hfs,_⟩:=hd;obtain ⟨s1,s2,hc,y1,y2⟩:=uAr x;obtain rfl:=fAm.inj hc;unfold f79;have o:=wA h (stc (pub,nm,s1,s2,(a:Int),()));have c:=vA h (.row (stc (pub,nm,s1,s2,(a:Int),())) .own);have e1:h.push (.row [(.bool pub),(.str nm),(.slice s1.a s1.len s1.cap s1.sz),(.slice s2.a s2.len s2.cap s2.sz),(.int .i64 (a:Int))] .own)=h.push (.row (stc (pub,nm,s1,s2,(a:Int),())) .own):=rfl;dsimp only;rw [e1];have pk1:=pk.chg c;have y1:=y1.chg c (by simp);have y2:=y2.chg c (by simp);generalize h.push (.row (stc (pub,nm,s1,s2,(a:Int),())) .own)=H at *;have a1:H.cell (h.next,1)=some (.str nm):=o.cell 1;have a2:H.cell (h.next,2)=some (.slice s1.a s1.len s1.cap s1.sz):=o.cell 2;have a3:H.cell (h.next,3)=some (.slice s2.a s2.len s2.cap s2.sz):=o.cell 3;simp only [Nat.zero_add,a1,fA,mB];rw [cJ (by omega),aA,hn,cond_true];simp only [a2,fA,qA];rw [fA8 hN y1 hlv,aA,cond_true];simp only [a3,fA,qA];obtain ⟨h',e,c'⟩:=lAt hN hfs pk1 y2;rw [e,aA];exact ⟨h',rfl,c.trans c'⟩
end
end Qp
namespace Qp
abbrev tV (v:VaV):VaV:=(v.1,v.2.1,v.2.2.1,v.2.2.2.1,v.2.2.2.2.1,v.2.2.2.2.2.1,v.2.2.2.2.2.2.1,v.2.2.2.2.2.2.2.1,v.2.2.2.2.2.2.2.2.1,v.2.2.2.2.2.2.2.2.2.1,v.2.2.2.2.2.2.2.2.2.2.1,v.2.2.2.2.2.2.2.2.2.2.2.1,v.2.2.2.2.2.2.2.2.2.2.2.2.1,v.2.2.2.2.2.2.2.2.2.2.2.2.2.1,v.2.2.2.2.2.2.2.2.2.2.2.2.2.2.1,())
abbrev oV:VaV:=(0,0,0,[],⟨none,0,0,0⟩,0,0,[],⟨none,0,0,0⟩,0,[],⟨none,0,0,0⟩,[],⟨none,0,0,0⟩,⟨none,0,0,0⟩,())
abbrev yV:VTy:=.agg [(.int .i64),(.int .i64),(.int .i64),.str,.slice,(.int .i64),(.int .i64),.str,.slice,(.int .i64),.str,.slice,.str,.slice,.slice]
section
variable {N:Nat} {h:Heap} {V:Nat→Prop}
theorem fAc (hN:40≤N) {R:zT2} {s:SL} {xs:List Bs} (x:Sl h V s (xs.map D.s)) (hx:∀ y∈xs,jB3 y) (hl:xs.length≤100):∀ (M i:Nat),i≤xs.length→xs.length-i<M→qA1 N M R false s (xs.length:Int) (i:Int) h=some (.exit 0,(R,false,()),h):=by
 intro M
 induction M with
 | zero=>intro i _ h;omega
 | succ M ih=>
  intro i hi hM;rw [uAb];unfold pA1;simp only [pG]
  by_cases q:i<xs.length
  ·simp only [q,decide_true,cond_true]
   have q':i<(xs.map D.s).length:=by rw [List.length_map];exact q
   rw [x.ix q' 1,cAb x q];simp only [fA,mB];have hs:=hx _ (List.getElem_mem q)
   cases he:pB xs[i] [42] with
   | true=>
    simp only [Bool.not_true,cond_false];rw [rB (by omega)];exact ih (i+1) q (by omega)
   | false=>
    have hn:yG xs[i]=true:=by
     rcases hs with hs | hs
     ·rw [hs] at he;cases he
     ·exact hs
    simp only [Bool.not_false,cond_true];rw [cJ hN,aA,hn];simp only [Bool.not_true,cond_false];rw [rB (by omega)];exact ih (i+1) q (by omega)
  ·simp only [q,decide_false,cond_false]
theorem iA8 (hN:200≤N) {d:D} (hd:mayPl d) {r:LfV} (x:Dt h V d (lfc r)):∃ h',f198 N (r.1,r.2.1,()) h=some (true,h')∧Chg [] h h':=by
 obtain ⟨nm,xs,rfl,hn,hp⟩:=hd;obtain ⟨s,hc,y⟩:=jW x;obtain rfl:=fA7.inj hc;unfold f198;have o:=wA h (lfc (nm,s,()));have c:=vA h (.row (lfc (nm,s,())) .own);have e1:h.push (.row [(.str nm),(.slice s.a s.len s.cap s.sz)] .own)=h.push (.row (lfc (nm,s,())) .own):=rfl;dsimp only;rw [e1];have y:=y.chg c (by simp);generalize h.push (.row (lfc (nm,s,())) .own)=H at *;have a0:H.cell (h.next,0)=some (.str nm):=o.cell 0;have a1:H.cell (h.next,1)=some (.slice s.a s.len s.cap s.sz):=o.cell 1;have l1:s.len=xs.length:=by rw [y.len,List.length_map]
 have hle:=hp.1;have lp:=fAc (N:=N) (by omega) (R:=some (h.next,0)) y hp.2 (by omega) N 0 (Nat.zero_le _) (by omega);rw [show ((0:Nat):Int)=0 from rfl,show (xs.length:Int)=Int.ofNat s.len by rw [l1];rfl] at lp;have lp':qA1 N N (some (h.next,0)) false ⟨s.a,s.len,s.cap,s.sz⟩ (Int.ofNat s.len) 0 H=some (.exit 0,(some (h.next,0),false,()),H):=lp;simp only [Nat.zero_add,a1,fA,qA];rw [lp'];simp only [yB,fE,decide_true,cond_true,bA,a0,Nat.zero_add,fA,mB];rw [cJ (by omega),aA,hn];simp only [cond_true,bA,Nat.zero_add,a1,fA,qA];rw [l1,pBb hp.1];exact ⟨H,rfl,c⟩
theorem eB4 {nm:Bs} (hn:nm≠[]) {s1 s2:SL}:∃ h',f164 N (nm,s1,()) ([],s2,()) h=some (false,h')∧Chg [] h h':=by
 unfold f164;have o1:=wA h [(.str nm),(.slice s1.a s1.len s1.cap s1.sz)];have c1:=vA h (.row [(.str nm),(.slice s1.a s1.len s1.cap s1.sz)] .own);dsimp only;generalize h.push (.row [(.str nm),(.slice s1.a s1.len s1.cap s1.sz)] .own)=h1 at *;have o2:=wA h1 [(.str []),(.slice s2.a s2.len s2.cap s2.sz)];have c2:=vA h1 (.row [(.str []),(.slice s2.a s2.len s2.cap s2.sz)] .own);have o1:=o1.chg c2 (by simp);generalize h1.push (.row [(.str []),(.slice s2.a s2.len s2.cap s2.sz)] .own)=h2 at *;have a0:h2.cell (h.next,0)=some (.str nm):=o1.cell 0;have b0:h2.cell (h1.next,0)=some (.str []):=o2.cell 0;have e:pB nm []=false:=by
  cases nm with
  | nil=>exact absurd rfl hn
  | cons c r=>rfl
 simp only [Nat.zero_add,a0,b0,fA,mB,e,cond_false];exact ⟨h2,rfl,c1.trans c2⟩
theorem oAj {d:D} (h:mayPl d):isLf d:=by
 obtain ⟨nm,xs,rfl,_,hp⟩:=h;exact ⟨nm,xs,rfl,Nat.le_trans hp.1 (by decide)⟩
theorem uO {d:D} (h:mayOp d):isOp d:=by
 rcases h with ⟨n,rfl,_⟩ | ⟨n,_,rfl⟩ | ⟨p,rfl,hp⟩
 ·exact ⟨_,_,_,rfl,dG⟩
 ·exact ⟨_,_,_,rfl,dG⟩
 ·exact ⟨_,_,_,rfl,oAj hp⟩
theorem qAw {x:Bs} (h:yG x=true):x≠[]:=fun e=>by rw [e] at h;cases h
theorem jAg (hN:3001≤N) {d:D} (hd:mayOp d) {r:OpV} (x:Dt h V d (opc r)):∃ h',f200 N (r.1,r.2.1,r.2.2.1,r.2.2.2.1,()) h=some (true,h')∧Chg [] h h':=by
 have hi:=uO hd;obtain ⟨k,n,pl,rfl,tp⟩:=hi;obtain ⟨p,hc,y⟩:=vAi tp x;obtain rfl:=vAr.inj hc;unfold f200;have o:=wA h (opc (k,n,p.1,p.2.1,()));have c:=vA h (.row (opc (k,n,p.1,p.2.1,())) .own);have e1:h.push (.row [(.int .i64 k),(.int .i64 n),(.str p.1),(.slice p.2.1.a p.2.1.len p.2.1.cap p.2.1.sz)] .own)=h.push (.row (opc (k,n,p.1,p.2.1,())) .own):=rfl;dsimp only;rw [e1];have y:=Dt.chg c (by simp) y;generalize h.push (.row (opc (k,n,p.1,p.2.1,())) .own)=H at *;have aa:H.cells (h.next,2) 2=some (.agg (lfc p)):=o.cells (j:=2) (m:=2) (Nat.le_refl _);simp only [Nat.zero_add];rw [aa,tAe];have fin0:∀ (hpl:pl=pl0),∃ H',f164 N (p.1,p.2.1,()) ([],⟨none,0,0,0⟩,()) H=some (true,H')∧Chg [] H H':=fun hpl=>by
  subst hpl;obtain ⟨s,hc,z⟩:=jW y;obtain rfl:=fA7.inj hc;exact rAr (xs:=[]) z (Sl.nil H V 0) (by simp) (by simp;omega)
 have rd:∀ {H':Heap},Chg [] H H'→H'.cell (h.next,0)=some (.int .i64 k)∧H'.cell (h.next,1)=some (.int .i64 n)∧H'.cells (h.next,2) 2=some (.agg (lfc p)):=fun c'=>by
  have o':=o.chg c' (by simp);exact ⟨o'.cell 0,o'.cell 1,o'.cells (j:=2) (m:=2) (Nat.le_refl _)⟩
 have dinj:∀ {k' n':Int} {pl':D},opD k n pl=opD k' n' pl'→k=k'∧n=n'∧pl=pl':=fun e=>by
  simp only [opD,D.t.injEq,List.cons.injEq,D.i.injEq,and_true] at e;exact e
 rcases hd with ⟨m,he,hm⟩ | ⟨m,hm,he⟩ | ⟨q,he,hq⟩
 ·obtain ⟨rfl,rfl,rfl⟩:=dinj he
  obtain ⟨H',e,c'⟩:=fin0 rfl;obtain ⟨a0,a1,a2⟩:=rd c';have e':f164 N (p.1,p.2.1,()) ([],⟨none,0,0,0⟩,()) H=some (true,H'):=e;rw [e',aA];have z1:pA 1 1=true:=rfl;have z2:uC 0 (m:Int)=true:=by rw [leI,decide_eq_true_eq];omega
  have z3:uC (m:Int) 2147483647=true:=by rw [leI,decide_eq_true_eq];omega
  simp only [Nat.zero_add,a0,a1,fA,kB,z1,z2,z3,cond_true];exact ⟨H',rfl,c.trans c'⟩
 ·obtain ⟨rfl,rfl,rfl⟩:=dinj he
  obtain ⟨H',e,c'⟩:=fin0 rfl;obtain ⟨a0,a1,a2⟩:=rd c';have e':f164 N (p.1,p.2.1,()) ([],⟨none,0,0,0⟩,()) H=some (true,H'):=e;rw [e',aA];have z1:pA 2 1=false:=rfl;have z2:pA 2 2=true:=rfl;rcases hm with rfl | rfl
  ·have z3:pA 0 0=true:=rfl
   simp only [Nat.zero_add,a0,a1,fA,kB,z1,z2,z3,cond_true,cond_false];exact ⟨H',rfl,c.trans c'⟩
  ·have z3:pA 1 0=false:=rfl
   have z4:pA 1 1=true:=rfl;simp only [Nat.zero_add,a0,a1,fA,kB,z1,z2,z3,z4,cond_true,cond_false];exact ⟨H',rfl,c.trans c'⟩
 ·obtain ⟨rfl,rfl,rfl⟩:=dinj he
  have hne:p.1≠[]:=by
   obtain ⟨nm,xs,rfl,hn,_⟩:=hq;obtain ⟨s,hc,z⟩:=jW y;obtain rfl:=fA7.inj hc;exact qAw hn
  obtain ⟨H',e,c'⟩:=eB4 (N:=N) (h:=H) hne (s1:=p.2.1) (s2:=⟨none,0,0,0⟩);obtain ⟨a0,a1,a2⟩:=rd c';rw [e,aA];have z1:pA 3 1=false:=rfl;have z2:pA 3 2=false:=rfl;have z3:pA 3 3=true:=rfl;have z4:pA 0 0=true:=rfl;simp only [Nat.zero_add,a0,a1,fA,kB,z1,z2,z3,z4,cond_true,cond_false];rw [a2,tAe];obtain ⟨H2,e2,c2⟩:=iA8 (N:=N) (by omega) hq (Dt.chg c' (by simp) y);rw [e2,aA];exact ⟨H2,rfl,(c.trans c').trans c2⟩
theorem fB4 (hN:3001≤N) {d:D} (hd:mayOp d) {r:OpV} (x:Dt h V d (opc r)):∃ h',f229 N (r.1,r.2.1,r.2.2.1,r.2.2.2.1,()) h=some (false,h')∧Chg [] h h':=by
 unfold f229;have o:=wA h (opc r);have c:=vA h (.row (opc r) .own);have e1:h.push (.row [(.int .i64 r.1),(.int .i64 r.2.1),(.str r.2.2.1),(.slice r.2.2.2.1.a r.2.2.2.1.len r.2.2.2.1.cap r.2.2.2.1.sz)] .own)=h.push (.row (opc r) .own):=rfl;dsimp only;rw [e1];have x:=Dt.chg c (by simp) x;generalize h.push (.row (opc r) .own)=H at *;have aa:H.cells (h.next,0) 4=some (.agg (opc r)):=o.cells (j:=0) (m:=4) (Nat.le_refl _);rw [aa,gAb];obtain ⟨H',e,c'⟩:=jAg hN hd x;rw [e,aA];exact ⟨H',rfl,c.trans c'⟩
theorem jA8 (hN:3001≤N) {xs:List D} (hx:∀ x∈xs,mayOp x) (hl:xs.length≤100) {s:SL}:∀ (M i:Nat) (h:Heap),i≤xs.length→xs.length-i<M→Sl h V s xs→∃ h',eM N M s () 0 (xs.length:Int) (i:Int) h=some (.exit 0,(0,()),h')∧Chg [] h h':=by
 intro M
 induction M with
 | zero=>intro i h _ h;omega
 | succ M ih=>
  intro i h hi hM x;rw [fX];unfold dM;simp only [pG]
  by_cases q:i<xs.length
  ·simp only [q,decide_true,cond_true]
   have hm:=hx _ (List.getElem_mem q);obtain ⟨r,g,d⟩:=vAr.elt x q (uO hm);rw [x.ix q 4,g,gAb];obtain ⟨h6,e6,c6⟩:=fB4 hN hm d;rw [e6,aA];simp only [cond_false];rw [rB (by omega)];obtain ⟨h',e',c'⟩:=ih (i+1) h6 q (by omega) (x.chg c6 (by simp));exact ⟨h',e',c6.trans c'⟩
  ·simp only [q,decide_false,cond_false]
   exact ⟨h,rfl,Chg.refl _ _⟩
theorem gB4 (hN:3001≤N) {xs:List D} (hx:qAb 64 mayOp xs) {s:SL} (x:Sl h V s xs):∃ h',f216 N s h=some (true,h')∧Chg [] h h':=by
 unfold f216 uA7 tA7;have l1:s.len=xs.length:=x.len;have hle:=hx.1;obtain ⟨h',e,c⟩:=jA8 hN hx.2 (by omega) N 0 h (Nat.zero_le _) (by omega) x;rw [show ((0:Nat):Int)=0 from rfl] at e;simp only [l1,pBb hx.1,cond_true];rw [show Int.ofNat xs.length=(xs.length:Int) from rfl,e];simp only [yB,aA,fE,decide_true,cond_true];exact ⟨h',rfl,c⟩
theorem yA1 {r r':VaV} (h:vac r=vac r'):r=r':=by
 have h1:=tAm r (fun x=>some x);rw [h,tAm] at h1;exact (Option.some.inj h1).symm
theorem iB4 (hN:3001≤N) {z:VaV} (x:Dt h V va00 (vac z)):∃ h',f165 N z va0 h=some (true,h')∧Chg [] h h':=lAf yU x (yA0 h V) hN (Chg.refl _ _)
theorem kA8 (hN:40≤N) {P Q:zT2} {s:SL} {xs:List Bs} (x:Sl h V s (xs.map D.s)) (hx:∀ y∈xs,yG y=true) (hl:xs.length≤100):∀ (M i:Nat),i≤xs.length→xs.length-i<M→tA1 N M P true Q s (xs.length:Int) (i:Int) h=some (.exit 7,(P,true,Q,()),h):=by
 intro M
 induction M with
 | zero=>intro i _ h;omega
 | succ M ih=>
  intro i hi hM;rw [vAb];unfold rA1;simp only [pG]
  by_cases q:i<xs.length
  ·simp only [q,decide_true,cond_true]
   have q':i<(xs.map D.s).length:=by rw [List.length_map];exact q
   rw [x.ix q' 1,cAb x q];simp only [fA,mB];rw [cJ hN,aA,aA,hx _ (List.getElem_mem q)];rw [rB (by omega)];exact ih (i+1) q (by omega)
  ·simp only [q,decide_false,cond_false]
theorem kAg (hN:3001≤N) {d:D} (hd:mayVa d) {r:VaV} (pk:PK h) (x:Dt h V d (vac r)):∃ h',f199 N (tV r) h=some (true,h')∧Chg [] h h':=by
 unfold f199;have x:=Dt.weak (W:=fun A=>A<h.next) (fun A _ hl=>hl) x;have pk0:=pk;have o:=wA h (vac r);have c:=vA h (.row (vac r) .own);have e1:h.push (.row (yRB r) .own)=h.push (.row (vac r) .own):=rfl;dsimp only;rw [e1];have x:=Dt.chg c (by simp) x;have pk:=pk.chg c;generalize h.push (.row (vac r) .own)=H1 at *;have aa:H1.cells (h.next,0) 15=some (.agg (vac r)):=o.cells (j:=0) (m:=15) (Nat.le_refl _);rw [aa,tAm];have oz:=wA H1 (vac va0);have cz:=vA H1 (.row (vac va0) .own);have nz:(H1.push (.row (vac va0) .own)).next=H1.next+1:=rfl;have hst:(H1.push (.row (vac va0) .own)).store (H1.next,0) (vac r)=some ((H1.push (.row (vac va0) .own)).put H1.next (.row (vac r) .own)):=oz.store rfl;obtain ⟨H2,hH2⟩:∃ H2,H2=(H1.push (.row (vac va0) .own)).put H1.next (.row (vac r) .own):=⟨_,rfl⟩;have w:W1 H1 H2 (vac r):=by rw [hH2];exact ⟨iB oz _,cz.put (.inr (Nat.le_refl _)) _,Nat.le_refl _⟩
 rw [← hH2] at hst;have hz:∀ {β:Type} (K:Heap→Option β),uA ((H1.push (.row yZB .own)).store (H1.next,0) (yRB r)) K=K H2:=fun K=>by
  show uA ((H1.push (.row (vac va0) .own)).store (H1.next,0) (vac r)) K=_;rw [hst,bA]
 rw [hz]
 clear hz hst hH2 cz nz oz
 have hlt:h.next<H1.next:=o.2;have o:=o.chg w.c (by simp);have x:=Dt.chg w.c (by simp) x;have pk:=pk.chg w.c;have hV:∀ A,A<h.next→A ∉ [H1.next]:=fun A hA=>by simp;omega
 -- the last step
 have fin:∀ {H:Heap} {z:VaV},W1 H1 H (vac z)→Dt H (fun A=>A<h.next) va00 (vac (0,z.2))→∃ h',(uA (H.store (H1.next,0) [(.int .i64 0)]) fun h168=>iA (.val (yV)) (h168.cells (H1.next,0) 15) fun x170=>kA (f165 N (tV x170) (oV) h168) fun x171 h172=>some (x171,h172))=some (true,h')∧Chg [] h h':=by
  intro H z wz hx;obtain ⟨H',p',w',c',n'⟩:=wz.set (j:=0) (vs:=[(.int .i64 0)]) (by show 0+1≤15;omega) (ds:=vac (0,z.2)) rfl;rw [p'];have aa:H'.cells (H1.next,0) 15=some (.agg (vac (0,z.2))):=w'.o.cells (j:=0) (m:=15) (Nat.le_refl _);rw [aa,tAm];obtain ⟨h',e,c2⟩:=iB4 hN (Dt.chg c' hV hx);have e':f165 N (tV ((0,z.2):VaV)) (oV) H'=some (true,h'):=e;rw [e',aA];exact ⟨h',rfl,(c.trans w'.c).trans c2⟩
 have a0:H2.cell (h.next,0)=some (.int .i64 r.1):=o.cell 0
 -- an operand
 have one:∀ {H:Heap} {cs ds:List AV} {ra:OpV} {a:D} (k:Nat),k+4≤15→W1 H1 H cs→Chg [H1.next] H2 H→mayOp a→Dt H2 (fun A=>A<h.next) a (opc ra)→((vac r).drop k).take 4=opc ra→cs.length=15→cs.take k++[(.int .i64 0),(.int .i64 0),(.str []),(.slice none 0 0 0)]++cs.drop (k+4)=ds→
   ∃ H3 H4,H.cells (h.next,k) 4=some (.agg (opc ra))∧f200 N (ra.1,ra.2.1,ra.2.2.1,ra.2.2.2.1,()) H=some (true,H3)∧(∀ {β:Type} (K:Heap→Option β),uA (H3.store (H1.next,k) [(.int .i64 0),(.int .i64 0),(.str []),(.slice none 0 0 0)]) K=K H4)∧W1 H1 H3 cs∧Chg [H1.next] H2 H3∧W1 H1 H4 ds∧Chg [H1.next] H2 H4:=by
  intro H cs ds ra a k hk wz cz ha xa hra hl hds;have aa:H.cells (h.next,k) 4=some (.agg (opc ra)):=by
   rw [← hra];exact (o.chg cz (by simp;omega)).cells (j:=k) (m:=4) hk
  obtain ⟨H3,e3,c3⟩:=jAg hN ha (Dt.chg cz hV xa);obtain ⟨H4,p4,w4,c4,n4⟩:=(wz.call c3).set (j:=k) (vs:=[(.int .i64 0),(.int .i64 0),(.str []),(.slice none 0 0 0)]) (by rw [hl];exact hk) (ds:=ds) hds;exact ⟨H3,H4,aa,e3,p4,wz.call c3,cz.trans (c3.mono (by simp)),w4,(cz.trans (c3.mono (by simp))).trans c4⟩
 have hc2:∀ {H':Heap} {b:D} {cs:List AV},Chg [H1.next] H2 H'→Dt H2 (fun A=>A<h.next) b cs→Dt H' (fun A=>A<h.next) b cs:=fun c' y=>Dt.chg c' hV y;have hs2:∀ {H':Heap} {b:List D} {s:SL},Chg [H1.next] H2 H'→Sl H2 (fun A=>A<h.next) s b→Sl H' (fun A=>A<h.next) s b:=fun c' y=>y.chg c' hV
 -- a name, operands
 have named:∀ {H:Heap} {k:Int} {ra rb:OpV} {rp:LfV} {s1 s2:SL} {nm:Bs} {ag:List D},W1 H1 H (vac (gE k ra rb 0 rp nm s1 s2))→Chg [H1.next] H2 H→longP nm→qAb 64 mayOp ag→Sl H2 (fun A=>A<h.next) s2 ag→PK H→
   ∃ H3 H4 H5,f173 N nm H=some (true,H)∧f216 N s2 H=some (true,H3)∧(∀ {β:Type} (K:Heap→Option β),uA (H3.store (H1.next,12) [(.str [])]) K=K H4)∧(∀ {β:Type} (K:Heap→Option β),uA (H4.store (H1.next,14) [(.slice none 0 0 0)]) K=K H5)∧W1 H1 H5 (vac (gE k ra rb 0 rp [] s1 sl0))∧Chg [H1.next] H2 H5:=by
  intro H k ra rb rp s1 s2 nm ag wz cz hn hg y2 pk;obtain ⟨H3,e3,c3⟩:=gB4 hN hg (hs2 cz y2);obtain ⟨H4,p4,w4,c4,n4⟩:=(wz.call c3).set (j:=12) (vs:=[(.str [])]) (show 12+1≤15 by decide) (ds:=vac (gE k ra rb 0 rp [] s1 s2)) rfl;obtain ⟨H5,p5,w5,c5,n5⟩:=w4.set (j:=14) (vs:=[(.slice none 0 0 0)]) (show 14+1≤15 by decide) (ds:=vac (gE k ra rb 0 rp [] s1 sl0)) rfl;exact ⟨H3,H4,H5,kAt (by omega) hn pk,e3,p4,p5,w5,((cz.trans (c3.mono (by simp))).trans c4).trans c5⟩
 cases hd with
 | @op a ha=>
  obtain ⟨ra,rb,rp,s1,s2,hc,xa,xb,xp,y1,y2⟩:=dQ (uO ha) vF dG x;obtain rfl:=yA1 hc;have e2:pA 1 2=false:=rfl;have e3:pA 1 3=false:=rfl;have e7:pA 1 7=false:=rfl;have e6:pA 1 6=false:=rfl;have e5:pA 1 5=false:=rfl;have e1:pA 1 1=true:=rfl;simp only [gE,Nat.zero_add,a0,fA,kB,e1,e2,e3,e5,e6,e7,cond_true,cond_false,bA,yA,aB,aA];obtain ⟨H3,H4,g1,g2,g3,_,_,g4,g5⟩:=one (ds:=vac (gE 1 uD rb 0 rp [] s1 s2)) 1 (by decide) w (Chg.refl _ _) ha xa rfl rfl rfl;rw [g1,gAb,g2];simp only [aA,bA,Nat.zero_add];rw [g3];simp only [aA,bA,yA,aB,cond_true,Nat.zero_add];exact fin g4 (kN (k:=0) (op:=0) (nm:=[]) (fF _ _) (hc2 g5 xb) (hc2 g5 xp) (hs2 g5 y1) (hs2 g5 y2))
 | @no a ha=>
  obtain ⟨ra,rb,rp,s1,s2,hc,xa,xb,xp,y1,y2⟩:=dQ (uO ha) vF dG x;obtain rfl:=yA1 hc;have e2:pA 4 2=false:=rfl;have e3:pA 4 3=false:=rfl;have e7:pA 4 7=false:=rfl;have e6:pA 4 6=false:=rfl;have e5:pA 4 5=false:=rfl;have e1:pA 4 1=false:=rfl;have e4:pA 4 4=true:=rfl;simp only [gE,Nat.zero_add,a0,fA,kB,e1,e2,e3,e4,e5,e6,e7,cond_true,cond_false,bA,yA,aB,aA];obtain ⟨H3,H4,g1,g2,g3,_,_,g4,g5⟩:=one (ds:=vac (gE 4 uD rb 0 rp [] s1 s2)) 1 (by decide) w (Chg.refl _ _) ha xa rfl rfl rfl;rw [g1,gAb,g2];simp only [aA,bA,Nat.zero_add];rw [g3];simp only [aA,bA,yA,aB,cond_true,Nat.zero_add];exact fin g4 (kN (k:=0) (op:=0) (nm:=[]) (fF _ _) (hc2 g5 xb) (hc2 g5 xp) (hs2 g5 y1) (hs2 g5 y2))
 | @ref k p hk hp=>
  obtain ⟨ra,rb,rp,s1,s2,hc,xa,xb,xp,y1,y2⟩:=dQ vF vF (oAj hp) x;obtain rfl:=yA1 hc;obtain ⟨H3,g2,c3⟩:=iA8 (N:=N) (by omega) hp xp;have g1:H2.cells (h.next,10) 2=some (.agg (lfc rp)):=o.cells (j:=10) (m:=2) (show 10+2≤15 by decide);obtain ⟨H4,g3,g4,c4,n4⟩:=(w.call c3).set (j:=10) (vs:=[(.str []),(.slice none 0 0 0)]) (show 10+2≤15 by decide) (ds:=vac (gE k ra rb 0 lf0 [] s1 s2)) rfl;have g5:Chg [H1.next] H2 H4:=(c3.mono (by simp)).trans c4;rcases hk with rfl | rfl
  ·have e2:pA 2 2=true:=rfl
   simp only [gE,Nat.zero_add,a0,fA,kB,e2,cond_true,cond_false,bA,yA,aB,aA];rw [g1,tAe,g2];simp only [aA,bA,Nat.zero_add];rw [g3];simp only [aA,bA,yA,aB,cond_true,Nat.zero_add];exact fin g4 (kN (k:=0) (op:=0) (nm:=[]) (hc2 g5 xa) (hc2 g5 xb) (iH _ _) (hs2 g5 y1) (hs2 g5 y2))
  ·have e2:pA 3 2=false:=rfl
   have e3:pA 3 3=true:=rfl;simp only [gE,Nat.zero_add,a0,fA,kB,e2,e3,cond_true,cond_false,bA,yA,aB,aA];rw [g1,tAe,g2];simp only [aA,bA,Nat.zero_add];rw [g3];simp only [aA,bA,yA,aB,cond_true,Nat.zero_add];exact fin g4 (kN (k:=0) (op:=0) (nm:=[]) (hc2 g5 xa) (hc2 g5 xb) (iH _ _) (hs2 g5 y1) (hs2 g5 y2))
 | @bin a b k ha hb hk=>
  obtain ⟨ra,rb,rp,s1,s2,hc,xa,xb,xp,y1,y2⟩:=dQ (uO ha) (uO hb) dG x;obtain rfl:=yA1 hc;have e2:pA 5 2=false:=rfl;have e3:pA 5 3=false:=rfl;have e7:pA 5 7=false:=rfl;have e6:pA 5 6=false:=rfl;have e5:pA 5 5=true:=rfl;have a9:H2.cell (h.next,9)=some (.int .i64 k):=o.cell 9;have l1:uC 1 k=true:=by rw [leI,decide_eq_true_eq];omega
  have l4:uC k 4=true:=by rw [leI,decide_eq_true_eq];omega
  simp only [gE,Nat.zero_add,a0,fA,kB,e2,e3,e5,e6,e7,a9,l1,l4,cond_true,cond_false,bA,yA,aB,aA];obtain ⟨H3,_,g1,g2,_,w3,c3,_,_⟩:=one (ds:=vac (gE 5 ra uD k rp [] s1 s2)) 5 (by decide) w (Chg.refl _ _) hb xb rfl rfl rfl;rw [g1,gAb,g2];simp only [aA,bA,Nat.zero_add];obtain ⟨H4,p4,w4,c4,n4⟩:=w3.set (j:=9) (vs:=[(.int .i64 0)]) (show 9+1≤15 by decide) (ds:=vac (gE 5 ra rb 0 rp [] s1 s2)) rfl;rw [p4];obtain ⟨H5,p5,w5,c5,n5⟩:=w4.set (j:=5) (vs:=[(.int .i64 0),(.int .i64 0),(.str []),(.slice none 0 0 0)]) (show 5+4≤15 by decide) (ds:=vac (gE 5 ra uD 0 rp [] s1 s2)) rfl;rw [p5];simp only [aA,bA,yA,aB,cond_true,Nat.zero_add];obtain ⟨H6,H7,q1,q2,q3,_,_,q4,q5⟩:=one (ds:=vac (gE 5 uD uD 0 rp [] s1 s2)) 1 (by decide) w5 ((c3.trans c4).trans c5) ha xa rfl rfl rfl;rw [q1,gAb,q2];simp only [aA,bA,Nat.zero_add];rw [q3];simp only [aA,bA,yA,aB,cond_true,Nat.zero_add];exact fin q4 (kN (k:=0) (op:=0) (nm:=[]) (fF _ _) (fF _ _) (hc2 q5 xp) (hs2 q5 y1) (hs2 q5 y2))
 | @call nm ag hn hg=>
  obtain ⟨ra,rb,rp,s1,s2,hc,xa,xb,xp,y1,y2⟩:=dQ vF vF dG x;obtain rfl:=yA1 hc;have e2:pA 6 2=false:=rfl;have e3:pA 6 3=false:=rfl;have e7:pA 6 7=false:=rfl;have e6:pA 6 6=true:=rfl;have a12:H2.cell (h.next,12)=some (.str nm):=o.cell 12;have a14:H2.cell (h.next,14)=some (.slice s2.a s2.len s2.cap s2.sz):=o.cell 14;simp only [gE,Nat.zero_add,a0,fA,kB,e2,e3,e6,e7,a12,mB,cond_true,cond_false,bA,yA,aB,aA];obtain ⟨H3,H4,H5,g1,g2,g3,g4,g5,g6⟩:=named w (Chg.refl _ _) hn hg y2 pk;rw [g1];simp only [aA,bA,Nat.zero_add,cond_true,a14,fA,qA];rw [g2];simp only [aA,bA,Nat.zero_add];rw [g3,g4];simp only [aA,bA,yA,aB,cond_true,Nat.zero_add];exact fin g5 (kN (k:=0) (op:=0) (nm:=[]) (hc2 g6 xa) (hc2 g6 xb) (hc2 g6 xp) (hs2 g6 y1) (Sl.nil _ _ _))
 | @make nm ns ag hn hl hs hg=>
  obtain ⟨ra,rb,rp,s1,s2,hc,xa,xb,xp,y1,y2⟩:=dQ vF vF dG x;obtain rfl:=yA1 hc;have e2:pA 7 2=false:=rfl;have e3:pA 7 3=false:=rfl;have e7:pA 7 7=true:=rfl;have a12:H2.cell (h.next,12)=some (.str nm):=o.cell 12;have a13:H2.cell (h.next,13)=some (.slice s1.a s1.len s1.cap s1.sz):=o.cell 13;have a14:H2.cell (h.next,14)=some (.slice s2.a s2.len s2.cap s2.sz):=o.cell 14;have l1:s1.len=ns.length:=by rw [y1.len,List.length_map]
  have l2:s2.len=ag.length:=y2.len;have hle:=hg.1;have lp:=kA8 (N:=N) (by omega) (P:=some (h.next,0)) (Q:=some (H1.next,0)) y1 hs (by omega) N 0 (Nat.zero_le _) (by omega);rw [show ((0:Nat):Int)=0 from rfl,show (ns.length:Int)=Int.ofNat s1.len by rw [l1];rfl] at lp;have lp':tA1 N N (some (h.next,0)) true (some (H1.next,0)) ⟨s1.a,s1.len,s1.cap,s1.sz⟩ (Int.ofNat s1.len) 0 H2=some (.exit 7,(some (h.next,0),true,some (H1.next,0),()),H2):=lp;have ll:pA (Int.ofNat s1.len) (Int.ofNat s2.len)=true:=by rw [eqI,l1,l2,hl];exact decide_eq_true rfl
  simp only [gE,Nat.zero_add,a0,fA,kB,e2,e3,e7,a13,qA,cond_true,cond_false,bA,yA,aB,aA];rw [lp'];simp only [yB,aA,bA,Nat.zero_add,cond_true,a13,a14,fA,qA,ll];obtain ⟨H6,p6,w6,c6,n6⟩:=w.set (j:=13) (vs:=[(.slice none 0 0 0)]) (show 13+1≤15 by decide) (ds:=vac (gE 7 ra rb 0 rp nm sl0 s2)) rfl;rw [p6];have o6:=o.chg c6 (by simp;omega);have b12:H6.cell (h.next,12)=some (.str nm):=o6.cell 12;have b14:H6.cell (h.next,14)=some (.slice s2.a s2.len s2.cap s2.sz):=o6.cell 14;simp only [aA,bA,yA,aB,cond_true,Nat.zero_add,b12,fA,mB];have pk6:PK H6:=by
   obtain ⟨q1,q2⟩:=pk;refine ⟨?_,by rw [n6];exact q2⟩;have hp:Qk.pinned H6=Qk.pinned H2:=by
    have hlow:∀ A,A<5→H6.t.get A=H2.t.get A:=fun A hA=>c6.g A (by omega) (by have:=(PK.chg pk0 c).2;simp;omega);unfold Qk.pinned Qw.pinned Qx.pinned;rw [c6.pins,hlow 0 (by omega),hlow 2 (by omega),hlow 4 (by omega)]
   rw [hp];exact q1
  obtain ⟨H3,H4,H5,g1,g2,g3,g4,g5,g6⟩:=named w6 c6 hn hg y2 pk6;rw [g1];simp only [aA,bA,Nat.zero_add,cond_true,b14,fA,qA];rw [g2];simp only [aA,bA,Nat.zero_add];rw [g3,g4];simp only [aA,bA,yA,aB,cond_true,Nat.zero_add];exact fin g5 (kN (k:=0) (op:=0) (nm:=[]) (hc2 g6 xa) (hc2 g6 xb) (hc2 g6 xp) (Sl.nil _ _ _) (Sl.nil _ _ _))
end
end Qp
namespace Qp
abbrev tS (v:SmV):SmV:=(v.1,v.2.1,v.2.2.1,v.2.2.2.1,v.2.2.2.2.1,v.2.2.2.2.2.1,v.2.2.2.2.2.2.1,v.2.2.2.2.2.2.2.1,v.2.2.2.2.2.2.2.2.1,v.2.2.2.2.2.2.2.2.2.1,v.2.2.2.2.2.2.2.2.2.2.1,v.2.2.2.2.2.2.2.2.2.2.2.1,v.2.2.2.2.2.2.2.2.2.2.2.2.1,v.2.2.2.2.2.2.2.2.2.2.2.2.2.1,v.2.2.2.2.2.2.2.2.2.2.2.2.2.2.1,v.2.2.2.2.2.2.2.2.2.2.2.2.2.2.2.1,v.2.2.2.2.2.2.2.2.2.2.2.2.2.2.2.2.1,v.2.2.2.2.2.2.2.2.2.2.2.2.2.2.2.2.2.1,v.2.2.2.2.2.2.2.2.2.2.2.2.2.2.2.2.2.2.1,v.2.2.2.2.2.2.2.2.2.2.2.2.2.2.2.2.2.2.2.1,v.2.2.2.2.2.2.2.2.2.2.2.2.2.2.2.2.2.2.2.2.1,v.2.2.2.2.2.2.2.2.2.2.2.2.2.2.2.2.2.2.2.2.2.1,v.2.2.2.2.2.2.2.2.2.2.2.2.2.2.2.2.2.2.2.2.2.2.1,v.2.2.2.2.2.2.2.2.2.2.2.2.2.2.2.2.2.2.2.2.2.2.2.1,v.2.2.2.2.2.2.2.2.2.2.2.2.2.2.2.2.2.2.2.2.2.2.2.2.1,v.2.2.2.2.2.2.2.2.2.2.2.2.2.2.2.2.2.2.2.2.2.2.2.2.2.1,v.2.2.2.2.2.2.2.2.2.2.2.2.2.2.2.2.2.2.2.2.2.2.2.2.2.2.1,v.2.2.2.2.2.2.2.2.2.2.2.2.2.2.2.2.2.2.2.2.2.2.2.2.2.2.2.1,v.2.2.2.2.2.2.2.2.2.2.2.2.2.2.2.2.2.2.2.2.2.2.2.2.2.2.2.2.1,v.2.2.2.2.2.2.2.2.2.2.2.2.2.2.2.2.2.2.2.2.2.2.2.2.2.2.2.2.2.1,v.2.2.2.2.2.2.2.2.2.2.2.2.2.2.2.2.2.2.2.2.2.2.2.2.2.2.2.2.2.2.1,v.2.2.2.2.2.2.2.2.2.2.2.2.2.2.2.2.2.2.2.2.2.2.2.2.2.2.2.2.2.2.2.1,())
abbrev oS:SmV:=(0,0,false,[],0,[],⟨none,0,0,0⟩,⟨none,0,0,0⟩,false,[],⟨none,0,0,0⟩,0,0,0,[],⟨none,0,0,0⟩,0,0,[],⟨none,0,0,0⟩,0,[],⟨none,0,0,0⟩,[],⟨none,0,0,0⟩,⟨none,0,0,0⟩,0,0,[],⟨none,0,0,0⟩,⟨none,0,0,0⟩,⟨none,0,0,0⟩,())
theorem PK.chgM {h h':Heap} {M:List Nat} (x:PK h) (c:Chg M h h') (hM:∀ A∈M,5≤A):PK h':=by
 obtain ⟨q1,q2⟩:=x;refine ⟨?_,Nat.le_trans q2 c.next⟩;have hlow:∀ A,A<5→h'.t.get A=h.t.get A:=fun A hA=>c.g A (by omega) (fun hm=>by have:=hM A hm;omega);have hp:Qk.pinned h'=Qk.pinned h:=by
  unfold Qk.pinned Qw.pinned Qx.pinned;rw [c.pins,hlow 0 (by omega),hlow 2 (by omega),hlow 4 (by omega)]
 rw [hp];exact q1
section
variable {N:Nat} {h:Heap} {V:Nat→Prop}
theorem mAt (hN:3001≤N) {va:D} (rr:SmR) (hv:fBf rr.has va) (pk:PK h) (x:Dt h V va (vac rr.va)):∃ h',f197 N (smv rr) h=some (true,h')∧Chg [] h h':=by
 unfold f197;have o:=wA h (smc rr);have c:=vA h (.row (smc rr) .own);have e1:h.push (.row (yRA (smv rr)) .own)=h.push (.row (smc rr) .own):=rfl;dsimp only;rw [e1];have x:=Dt.chg c (by simp) x;have pk:=pk.chg c;generalize h.push (.row (smc rr) .own)=H at *;have a8:H.cell (h.next,8)=some (.bool rr.has):=o.cell 8;simp only [Nat.zero_add,a8,fA,jB];rcases hv with ⟨hs,hv⟩ | ⟨hs,hv⟩
 ·rw [hs]
  simp only [cond_true];have aa:H.cells (h.next,11) 15=some (.agg (vac rr.va)):=o.cells (j:=11) (m:=15) (show 11+15≤32 by decide);rw [aa,tAm];obtain ⟨h',e,c'⟩:=kAg hN hv pk x;have e':f199 N (tV rr.va) H=some (true,h'):=e;rw [e',aA];exact ⟨h',rfl,c.trans c'⟩
 ·rw [hs]
  exact ⟨H,rfl,c⟩
def vO (s z:SmR):SmR:=bif s.has then (bif pA s.k 1||pA s.k 10 then { z with has:=false,va:=va0 } else bif pA s.k 4 then { z with has:=false,el:=sl0 } else z) else z
theorem jB4 (rs rz:SmR):∃ h',f201 N (smv rs) (smv rz) h=some (smv (vO rs rz),h')∧Chg [] h h':=by
 unfold f201;have o:=wA h (smc rs);have c:=vA h (.row (smc rs) .own);have e1:h.push (.row (yRA (smv rs)) .own)=h.push (.row (smc rs) .own):=rfl;dsimp only;rw [e1];generalize h.push (.row (smc rs) .own)=h1 at *;have oz:=wA h1 (smc rz);have cz:=vA h1 (.row (smc rz) .own);have nz:(h1.push (.row (smc rz) .own)).next=h1.next+1:=rfl;have e2:h1.push (.row (yRA (smv rz)) .own)=h1.push (.row (smc rz) .own):=rfl;rw [e2];have hlt:h.next<h1.next:=o.2;have o:=o.chg cz (by simp);generalize h1.push (.row (smc rz) .own)=h2 at *;have ow:=wA h2 (smc (bE 0));have cw:=vA h2 (.row (smc (bE 0)) .own);have e3:h2.push (.row yZA .own)=h2.push (.row (smc (bE 0)) .own):=rfl;rw [e3];have o:=o.chg cw (by simp);have oz:=oz.chg cw (by simp);have wz:W1 h1 (h2.push (.row (smc (bE 0)) .own)) (smc rz):=⟨oz,cz.trans cw,Nat.le_trans (Nat.le_of_eq nz.symm) cw.next⟩;have hlt2:h1.next<h2.next:=by omega
 have hlt3:h2.next<(h2.push (.row (smc (bE 0)) .own)).next:=ow.2;generalize h2.push (.row (smc (bE 0)) .own)=H at *;have c0:=(c.trans cz).trans cw
 -- the last step
 have fin:∀ {H':Heap} {z:SmR},W1 h1 H' (smc z)→H'.own h2.next (smc (bE 0))→∃ H'',H'.cells (h1.next,0) 32=some (.agg (smx (smv z)))∧H'.store (h2.next,0) (yRA (smv z))=some H''∧H''.cells (h2.next,0) 32=some (.agg (smx (smv z)))∧Chg [] h H'':=by
  intro H' z w ow;have hst:H'.store (h2.next,0) (smc z)=some (H'.put h2.next (.row (smc z) .own)):=ow.store rfl;exact ⟨_,w.o.cells (j:=0) (m:=32) (Nat.le_refl _),hst,(iB ow _).cells (j:=0) (m:=32) (Nat.le_refl _),(c.trans w.c).put (.inr (by omega)) _⟩
 have a8:H.cell (h.next,8)=some (.bool rs.has):=o.cell 8;have a0:H.cell (h.next,0)=some (.int .i64 rs.k):=o.cell 0;simp only [Nat.zero_add,a8,fA,jB]
 cases hs:rs.has with
 | false=>
  have ez:vO rs rz=rz:=by unfold vO;rw [hs];rfl
  rw [ez];simp only [Bool.not_false,cond_true];obtain ⟨H9,g1,g2,g3,g4⟩:=fin wz ow;rw [g1,yJ,g2,bA,g3,yJ];exact ⟨_,rfl,g4⟩
 | true=>
  simp only [Bool.not_true,cond_false,a0,fA,kB]
  cases h1':pA rs.k 1 with
  | true=>
   have ez:vO rs rz = { rz with has:=false,va:=va0 }:=by unfold vO;rw [hs,h1'];rfl
   rw [ez];simp only [cond_true,aA,bA,Nat.zero_add];obtain ⟨H3,p3,w3,c3,n3⟩:=wz.set (j:=8) (vs:=[(.bool false)]) (show 8+1≤32 by decide) (ds:=smc { rz with has:=false }) (by simp only [smc,smx,smv];rfl);obtain ⟨H4,p4,w4,c4,n4⟩:=w3.set (j:=11) (vs:=yZB) (show 11+15≤32 by decide) (ds:=smc { rz with has:=false,va:=va0 }) (by simp only [smc,smx,smv];rfl);rw [p3,p4];simp only [aA,bA];obtain ⟨H9,g1,g2,g3,g4⟩:=fin w4 ((ow.chg c3 (by simp;omega)).chg c4 (by simp;omega));rw [g1,yJ,g2,bA,g3,yJ];exact ⟨_,rfl,g4⟩
  | false=>
   cases h10:pA rs.k 10 with
   | true=>
    have ez:vO rs rz = { rz with has:=false,va:=va0 }:=by unfold vO;rw [hs,h1',h10];rfl
    rw [ez];simp only [cond_true,cond_false,aA,bA,Nat.zero_add];obtain ⟨H3,p3,w3,c3,n3⟩:=wz.set (j:=8) (vs:=[(.bool false)]) (show 8+1≤32 by decide) (ds:=smc { rz with has:=false }) (by simp only [smc,smx,smv];rfl);obtain ⟨H4,p4,w4,c4,n4⟩:=w3.set (j:=11) (vs:=yZB) (show 11+15≤32 by decide) (ds:=smc { rz with has:=false,va:=va0 }) (by simp only [smc,smx,smv];rfl);rw [p3,p4];simp only [aA,bA];obtain ⟨H9,g1,g2,g3,g4⟩:=fin w4 ((ow.chg c3 (by simp;omega)).chg c4 (by simp;omega));rw [g1,yJ,g2,bA,g3,yJ];exact ⟨_,rfl,g4⟩
   | false=>
    cases h4:pA rs.k 4 with
    | true=>
     have ez:vO rs rz = { rz with has:=false,el:=sl0 }:=by unfold vO;rw [hs,h1',h10,h4];rfl
     rw [ez];simp only [h4,cond_true,cond_false,aA,bA,Nat.zero_add];obtain ⟨H3,p3,w3,c3,n3⟩:=wz.set (j:=8) (vs:=[(.bool false)]) (show 8+1≤32 by decide) (ds:=smc { rz with has:=false }) (by simp only [smc,smx,smv];rfl);obtain ⟨H4,p4,w4,c4,n4⟩:=w3.set (j:=31) (vs:=[(.slice none 0 0 0)]) (show 31+1≤32 by decide) (ds:=smc { rz with has:=false,el:=sl0 }) (by simp only [smc,smx,smv];rfl);rw [p3,p4];simp only [aA,bA];obtain ⟨H9,g1,g2,g3,g4⟩:=fin w4 ((ow.chg c3 (by simp;omega)).chg c4 (by simp;omega));rw [g1,yJ,g2,bA,g3,yJ];exact ⟨_,rfl,g4⟩
    | false=>
     have ez:vO rs rz=rz:=by unfold vO;rw [hs,h1',h10,h4];rfl
     rw [ez];simp only [h4,cond_false,aA,bA];obtain ⟨H9,g1,g2,g3,g4⟩:=fin wz ow;rw [g1,yJ,g2,bA,g3,yJ];exact ⟨_,rfl,g4⟩
def bV:D:=smT 0 0 false [] ty0D false pl0 va00 op0 [] []
theorem kB4 (hN:3001≤N) {rz:SmR} (x:Dt h V bV (smc rz)):∃ h',f114 N N (smv rz) (smv (bE 0)) h=some (true,h')∧Chg [] h h':=by
 obtain ⟨r,p,v,o,s1,s2,hc,x1,x2,x3,x4,x5,x6⟩:=kW jR dG yU vF x;have hr:=(iR 1).inj hc;obtain ⟨M,rfl⟩:∃ m,N=m+1:=⟨N-1,by omega⟩;rw [hr,oAb];exact tAi (fun H c=>yAi jR (by omega) x1 (fN h V 0 []) hN c) (fun H c=>gA7 dG x2 (iH h V) hN c) (fun H c=>lAf yU x3 (yA0 h V) hN c) (fun H c=>gA1 vF x4 (fF h V) hN c)
  (fun H c=>wAr hN 0 M [] s1 sl0 H V V (by omega) (by simp) (by simp) (x5.chg c (by simp)) (Sl.nil _ _ _)) (fun H c=>wAr hN 0 M [] s2 sl0 H V V (by omega) (by simp) (by simp) (x6.chg c (by simp)) (Sl.nil _ _ _))
theorem lAg {m:Nat} {k a:Int} {mu:Bool} {nm:Bs} {ty:D} {hs:Bool} {pl va co:D} {th el:List D} (t:isSm (m+1) (smT k a mu nm ty hs pl va co th el)):isTy 65 ty∧isLf pl∧tAr va∧isOp co∧th.length≤3000∧el.length≤3000∧(∀ s∈th,isSm m s)∧∀ s∈el,isSm m s:=by
 obtain ⟨k',a',mu',nm',ty',hs',pl',va',co',th',el',e,h1,h2,h3,h4,h5,h6,h7,h8⟩:=t;simp only [smT,D.t.injEq,List.cons.injEq,D.i.injEq,D.b.injEq,D.s.injEq,D.l.injEq,and_true] at e;obtain ⟨rfl,rfl,rfl,rfl,rfl,rfl,rfl,rfl,rfl,rfl,rfl⟩:=e;exact ⟨h1,h2,h3,h4,h5,h6,h7,h8⟩
set_option maxHeartbeats 2000000 in
theorem lB4 (hN:3001≤N) {rec125 rec174} {t:Bs} {n m:Nat} {d:D} (hd:lM t (n+1) d) (ti:isSm (m+1) d) {r:SmV} (pk:PK h) (x:Dt h V d (smx r)) {deep:Int}
  (hb:∀ (l:List D) (s1:SL) (H:Heap),(l=thD d∨l=elD d)→0<n→PK H→Sl H (fun A=>A<h.next) s1 l→∃ H',rec125 s1 (bB .i64 (deep+1)) H=some (true,H')∧Chg [] H H'):∃ h',iAj N rec125 rec174 r deep h=some (true,h')∧Chg [] h h':=by
 obtain ⟨k,a,mu,nm,ty,hs,pl,va,co,th,el,rfl,hth,hel,hk⟩:=hd;obtain ⟨t1,t2,t3,t4,_⟩:=lAg ti;obtain ⟨rt,rp,rv,ro,s1,s2,hc,x1,x2,x3,x4,x5,x6⟩:=kW t1 t2 t3 t4 x;obtain ⟨rr,hrr⟩:∃ rr:SmR,rr=⟨k,(a:Int),mu,nm,rt,hs,rp,rv,ro,s1,s2⟩:=⟨_,rfl⟩;rw [← hrr] at hc;have hr:r=smv rr:=(iR 1).inj hc;subst hr;unfold iAj;have x:=Dt.weak (W:=fun A=>A<h.next) (fun A _ hl=>hl) x;have x1:=Dt.weak (W:=fun A=>A<h.next) (fun A _ hl=>hl) x1;have x2:=Dt.weak (W:=fun A=>A<h.next) (fun A _ hl=>hl) x2;have x3:=Dt.weak (W:=fun A=>A<h.next) (fun A _ hl=>hl) x3;have x4:=Dt.weak (W:=fun A=>A<h.next) (fun A _ hl=>hl) x4;have x5:=x5.weak (W:=fun A=>A<h.next) (fun A _ hl=>hl);have x6:=x6.weak (W:=fun A=>A<h.next) (fun A _ hl=>hl);have pk0:=pk;have o:=wA h (smc rr);have c:=vA h (.row (smc rr) .own);have e1:h.push (.row (yRA (smv rr)) .own)=h.push (.row (smc rr) .own):=rfl;dsimp only;rw [e1];have pk:=pk.chg c;generalize h.push (.row (smc rr) .own)=H1 at *;have aa:H1.cells (h.next,0) 32=some (.agg (smx (smv rr))):=o.cells (j:=0) (m:=32) (Nat.le_refl _);rw [aa,yJ];have oz:=wA H1 (smc (bE 0));have cz:=vA H1 (.row (smc (bE 0)) .own);have nz:(H1.push (.row (smc (bE 0)) .own)).next=H1.next+1:=rfl;have hst:(H1.push (.row (smc (bE 0)) .own)).store (H1.next,0) (smc rr)=some ((H1.push (.row (smc (bE 0)) .own)).put H1.next (.row (smc rr) .own)):=oz.store rfl;obtain ⟨H2,hH2⟩:∃ H2,H2=(H1.push (.row (smc (bE 0)) .own)).put H1.next (.row (smc rr) .own):=⟨_,rfl⟩;have w:W1 H1 H2 (smc rr):=by rw [hH2];exact ⟨iB oz _,cz.put (.inr (Nat.le_refl _)) _,Nat.le_refl _⟩
 rw [← hH2] at hst;have hz:∀ {β:Type} (K:Heap→Option β),uA ((H1.push (.row yZA .own)).store (H1.next,0) (yRA (smv rr))) K=K H2:=fun K=>by
  show uA ((H1.push (.row (smc (bE 0)) .own)).store (H1.next,0) (smc rr)) K=_;rw [hst,bA]
 rw [hz]
 clear hz hst hH2 cz nz oz
 have hlt:h.next<H1.next:=o.2;have o:=o.chg w.c (by simp);have c02:=c.trans w.c;have x1:=Dt.chg c02 (by simp) x1;have x2:=Dt.chg c02 (by simp) x2;have x3:=Dt.chg c02 (by simp) x3;have x4:=Dt.chg c02 (by simp) x4;have x5:=x5.chg c02 (by simp);have x6:=x6.chg c02 (by simp);have pk:=pk.chg w.c;have hV:∀ A,A<h.next→A ∉ [H1.next]:=fun A hA=>by simp;omega
 have hM5:∀ A∈[H1.next],5≤A:=fun A hA=>by
  rw [List.mem_singleton] at hA
  have:=pk0.2;omega
 have oX:∀ {H:Heap},Chg [H1.next] H2 H→H.own h.next (smc rr):=fun cc=>o.chg cc (by simp;omega);have pX:∀ {H:Heap},Chg [H1.next] H2 H→PK H:=fun cc=>pk.chgM cc hM5;have dX:∀ {H':Heap} {b:D} {cs:List AV},Chg [H1.next] H2 H'→Dt H2 (fun A=>A<h.next) b cs→Dt H' (fun A=>A<h.next) b cs:=fun c' y=>Dt.chg c' hV y;have sX:∀ {H':Heap} {b:List D} {s:SL},Chg [H1.next] H2 H'→Sl H2 (fun A=>A<h.next) s b→Sl H' (fun A=>A<h.next) s b:=fun c' y=>y.chg c' hV;have aX:∀ {H:Heap},Chg [H1.next] H2 H→H.cells (h.next,0) 32=some (.agg (smx (smv rr))):=fun cc=>(oX cc).cells (j:=0) (m:=32) (Nat.le_refl _)
 -- the last step
 have fin:∀ {H:Heap} {rz:SmR},W1 H1 H (smc rz)→Chg [H1.next] H2 H→(∀ {H':Heap},Chg [H1.next] H2 H'→Dt H' (fun A=>A<h.next) bV (smc (vO rr { rz with k:=0,at_:=0 })))→∃ H3 H4 H5 h',(∀ {β:Type} (K:Heap→Option β),uA (H.store (H1.next,0) [(.int .i64 0)]) K=K H3)∧(∀ {β:Type} (K:Heap→Option β),uA (H3.store (H1.next,1) [(.int .i64 0)]) K=K H4)∧H4.cells (h.next,0) 32=some (.agg (smx (smv rr)))∧H4.cells (H1.next,0) 32=some (.agg (smx (smv { rz with k:=0,at_:=0 })))∧
   f201 N (tS (smv rr)) (tS (smv { rz with k:=0,at_:=0 })) H4=some (smv (vO rr { rz with k:=0,at_:=0 }),H5)∧f114 N N (tS (smv (vO rr { rz with k:=0,at_:=0 }))) (oS) H5=some (true,h')∧Chg [] h h':=by
  intro H rz wz cc hx;obtain ⟨H3,p3,w3,c3,n3⟩:=wz.set (j:=0) (vs:=[(.int .i64 0)]) (show 0+1≤32 by decide) (ds:=smc { rz with k:=0 }) (by simp only [smc,smx,smv];rfl);obtain ⟨H4,p4,w4,c4,n4⟩:=w3.set (j:=1) (vs:=[(.int .i64 0)]) (show 1+1≤32 by decide) (ds:=smc { rz with k:=0,at_:=0 }) (by simp only [smc,smx,smv];rfl);have cc4:=(cc.trans c3).trans c4;have ab:H4.cells (H1.next,0) 32=some (.agg (smx (smv { rz with k:=0,at_:=0 }))):=w4.o.cells (j:=0) (m:=32) (Nat.le_refl _);obtain ⟨H5,e5,c5⟩:=jB4 (N:=N) (h:=H4) rr { rz with k:=0,at_:=0 };obtain ⟨h',e6,c6⟩:=kB4 hN (hx (cc4.trans (c5.mono (by simp))));exact ⟨H3,H4,H5,h',p3,p4,aX cc4,ab,e5,e6,((c.trans w4.c).trans c5).trans c6⟩
 -- an operand
 have one:∀ {H:Heap} {cs ds:List AV} {a:D},W1 H1 H cs→Chg [H1.next] H2 H→mayOp a→Dt H2 (fun A=>A<h.next) a (opc rr.co)→cs.length=32→cs.take 26++[(.int .i64 0),(.int .i64 0),(.str []),(.slice none 0 0 0)]++cs.drop 30=ds→
   ∃ H3 H4,H.cells (h.next,26) 4=some (.agg (opc rr.co))∧f200 N (rr.co.1,rr.co.2.1,rr.co.2.2.1,rr.co.2.2.2.1,()) H=some (true,H3)∧(∀ {β:Type} (K:Heap→Option β),uA (H3.store (H1.next,26) [(.int .i64 0),(.int .i64 0),(.str []),(.slice none 0 0 0)]) K=K H4)∧W1 H1 H4 ds∧Chg [H1.next] H2 H4:=by
  intro H cs ds a wz cz ha xa hl hds;have aa:H.cells (h.next,26) 4=some (.agg (opc rr.co)):=(oX cz).cells (j:=26) (m:=4) (show 26+4≤32 by decide);obtain ⟨H3,e3,c3⟩:=jAg hN ha (dX cz xa);obtain ⟨H4,p4,w4,c4,n4⟩:=(wz.call c3).set (j:=26) (vs:=[(.int .i64 0),(.int .i64 0),(.str []),(.slice none 0 0 0)]) (by rw [hl];exact (show 26+4≤32 by decide)) (ds:=ds) hds;exact ⟨H3,H4,aa,e3,p4,w4,(cz.trans (c3.mono (by simp))).trans c4⟩
 -- the statements within
 have inn:∀ {H:Heap} {cs ds:List AV},0<n→W1 H1 H cs→Chg [H1.next] H2 H→Sl H2 (fun A=>A<h.next) rr.th th→cs.length=32→cs.take 30++[(.slice none 0 0 0)]++cs.drop 31=ds→
   ∃ H3 H4,H.cell (h.next,30)=some (.slice rr.th.a rr.th.len rr.th.cap rr.th.sz)∧rec125 rr.th (bB .i64 (deep+1)) H=some (true,H3)∧(∀ {β:Type} (K:Heap→Option β),uA (H3.store (H1.next,30) [(.slice none 0 0 0)]) K=K H4)∧W1 H1 H4 ds∧Chg [H1.next] H2 H4:=by
  intro H cs ds h0 wz cz xs hl hds;obtain ⟨H3,e3,c3⟩:=hb th rr.th H (.inl rfl) h0 (pX cz) (sX cz xs);obtain ⟨H4,p4,w4,c4,n4⟩:=(wz.call c3).set (j:=30) (vs:=[(.slice none 0 0 0)]) (by rw [hl];exact (show 30+1≤32 by decide)) (ds:=ds) hds;exact ⟨H3,H4,(oX cz).cell 30,e3,p4,w4,(cz.trans (c3.mono (by simp))).trans c4⟩
 have x1:Dt H2 (fun A=>A<h.next) ty (tyc rr.ty):=by rw [hrr];exact x1
 have x2:Dt H2 (fun A=>A<h.next) pl (lfc rr.pl):=by rw [hrr];exact x2
 have x3:Dt H2 (fun A=>A<h.next) va (vac rr.va):=by rw [hrr];exact x3
 have x4:Dt H2 (fun A=>A<h.next) co (opc rr.co):=by rw [hrr];exact x4
 have x5:Sl H2 (fun A=>A<h.next) rr.th th:=by rw [hrr];exact x5
 have x6:Sl H2 (fun A=>A<h.next) rr.el el:=by rw [hrr];exact x6
 have q0:rr.k=k:=by rw [hrr]
 have q2:rr.m=mu:=by rw [hrr]
 have q3:rr.nm=nm:=by rw [hrr]
 have q8:rr.has=hs:=by rw [hrr]
 have a0:H2.cell (h.next,0)=some (.int .i64 k):=by rw [← q0];exact o.cell 0
 have a3:H2.cell (h.next,3)=some (.str nm):=by rw [← q3];exact o.cell 3
 have a8:H2.cell (h.next,8)=some (.bool hs):=by rw [← q8];exact o.cell 8
 have a9:H2.cells (h.next,9) 2=some (.agg (lfc rr.pl)):=o.cells (j:=9) (m:=2) (show 9+2≤32 by decide);have a11:H2.cell (h.next,11)=some (.int .i64 rr.va.1):=o.cell 11;have optN:∀ {z:SmR},rr.has=false→vO rr z=z:=fun {z} h=>by unfold vO;rw [h];rfl
 cases hk with
 | let_ hn ht hv hw=>
  have e1:pA 1 1=true:=rfl;simp only [Nat.zero_add,fA,kB,jB,mB,qA,a0,e1,a3,cond_true,cond_false,bA,yA,aB,aA,Bool.not_true,Bool.not_false];rw [cJ (by omega),aA,hn];have g1:H2.cells (h.next,4) 4=some (.agg (tyc rr.ty)):=o.cells (j:=4) (m:=4) (show 4+4≤32 by decide);simp only [cond_true];rw [g1,vAk];obtain ⟨H3,g2,c3⟩:=gA8 (N:=N) (by omega) ht pk x1;rw [g2,aA];have cc3:Chg [H1.next] H2 H3:=c3.mono (by simp);simp only [cond_true];rw [aX cc3,yJ];obtain ⟨H4,e4,c4⟩:=mAt hN rr (by rw [q8];exact hv) (pX cc3) (dX cc3 x3);have e4':f197 N (tS (smv rr)) H3=some (true,H4):=e4;rw [e4',aA,aA]
  try simp only [bA,Nat.zero_add]
  obtain ⟨H5,p5,w5,c5,n5⟩:=((w.call c3).call c4).set (j:=2) (vs:=[(.bool false)]) (show 2+1≤32 by decide) (ds:=smc { rr with m:=false }) (by simp only [smc,smx,smv];rfl);obtain ⟨H6,p6,w6,c6,n6⟩:=w5.set (j:=3) (vs:=[(.str [])]) (show 3+1≤32 by decide) (ds:=smc { rr with m:=false,nm:=[] }) (by simp only [smc,smx,smv];rfl);obtain ⟨H7,p7,w7,c7,n7⟩:=w6.set (j:=4) (vs:=[(.int .i64 0),(.str []),(.slice none 0 0 0),(.slice none 0 0 0)]) (show 4+4≤32 by decide) (ds:=smc { rr with m:=false,nm:=[],ty:=eAy }) (by simp only [smc,smx,smv];rfl);rw [p5,p6,p7];have cc7:Chg [H1.next] H2 H7:=(((cc3.trans (c4.mono (by simp))).trans c5).trans c6).trans c7
  try simp only [aA,bA,yA,aB,cond_true,cond_false,Nat.zero_add]
  have hx:∀ {H':Heap},Chg [H1.next] H2 H'→Dt H' (fun A=>A<h.next) bV (smc (vO rr { { rr with m:=false,nm:=[],ty:=eAy } with k:=0,at_:=0 })):=by
   intro H' cc;have ek:pA rr.k 1=true:=by rw [q0];rfl
   rcases hv with ⟨h1,_⟩ | ⟨h1,h2⟩
   ·have ez:∀ z:SmR,vO rr z = { z with has:=false,va:=va0 }:=fun z=>by unfold vO;rw [q8,h1,ek];rfl
    rw [ez];exact rJ (r:={ rr with m:=false,nm:=[],ty:=eAy,k:=0,at_:=0,has:=false,va:=va0 }) (fN _ _ _ _) (dX cc x2) (yA0 _ _) (dX cc x4) (sX cc x5) (sX cc x6)
   ·rw [optN (by rw [q8,h1])]
    have y:=rJ (r:={ rr with m:=false,nm:=[],ty:=eAy,k:=0,at_:=0 }) (fN _ _ _ _) (dX cc x2) (dX cc x3) (dX cc x4) (sX cc x5) (sX cc x6);rw [h2] at y;have y':Dt _ (fun A=>A<h.next) (smT 0 0 false [] ty0D rr.has pl0 va00 op0 [] []) (smc { rr with m:=false,nm:=[],ty:=eAy,k:=0,at_:=0 }):=y;have e:smT 0 0 false [] ty0D rr.has pl0 va00 op0 [] []=bV:=by rw [q8,h1];rfl
    rw [e] at y';exact y'
  obtain ⟨F3,F4,F5,Fh,f1,f2,f3,f4,f5,f6,f7⟩:=fin w7 cc7 hx;rw [f1,f2,f3,yJ,f4,yJ,f5,aA,f6,aA];exact ⟨Fh,rfl,f7⟩
 | set hn hx hv hw=>
  have e1:pA 2 1=false:=rfl;have e2:pA 2 2=true:=rfl;simp only [Nat.zero_add,fA,kB,jB,mB,qA,a0,e1,e2,cond_true,cond_false,bA,yA,aB,aA,Bool.not_true,Bool.not_false];rw [a9,tAe];obtain ⟨H3,g2,c3⟩:=iA8 (N:=N) (by omega) ⟨_,_,rfl,hn,hx⟩ x2;rw [g2,aA];have cc3:Chg [H1.next] H2 H3:=c3.mono (by simp);simp only [cond_true];have g3:H3.cells (h.next,11) 15=some (.agg (vac rr.va)):=(oX cc3).cells (j:=11) (m:=15) (show 11+15≤32 by decide);rw [g3,tAm];obtain ⟨H4,e4,c4⟩:=kAg hN hv (pX cc3) (dX cc3 x3);have e4':f199 N (tV rr.va) H3=some (true,H4):=e4;rw [e4',aA,aA]
  try simp only [bA,Nat.zero_add]
  obtain ⟨H5,p5,w5,c5,n5⟩:=((w.call c3).call c4).set (j:=9) (vs:=[(.str []),(.slice none 0 0 0)]) (show 9+2≤32 by decide) (ds:=smc { rr with pl:=lf0 }) (by simp only [smc,smx,smv];rfl);obtain ⟨H6,p6,w6,c6,n6⟩:=w5.set (j:=11) (vs:=yZB) (show 11+15≤32 by decide) (ds:=smc { rr with pl:=lf0,va:=va0 }) (by simp only [smc,smx,smv];rfl);rw [p5,p6];have cc6:Chg [H1.next] H2 H6:=((cc3.trans (c4.mono (by simp))).trans c5).trans c6
  try simp only [aA,bA,yA,aB,cond_true,cond_false,Nat.zero_add]
  have hx:∀ {H':Heap},Chg [H1.next] H2 H'→Dt H' (fun A=>A<h.next) bV (smc (vO rr { { rr with pl:=lf0,va:=va0 } with k:=0,at_:=0 })):=by
   intro H' cc;rw [optN (by rw [q8])];have y:=rJ (r:={ { rr with pl:=lf0,va:=va0 } with k:=0,at_:=0 }) (dX cc x1) (iH _ _) (yA0 _ _) (dX cc x4) (sX cc x5) (sX cc x6);have y':Dt _ (fun A=>A<h.next) (smT 0 0 rr.m rr.nm ty0D rr.has pl0 va00 op0 [] []) (smc { { rr with pl:=lf0,va:=va0 } with k:=0,at_:=0 }):=y;have e:smT 0 0 rr.m rr.nm ty0D rr.has pl0 va00 op0 [] []=bV:=by rw [q2,q3,q8];rfl
   rw [e] at y';exact y'
  obtain ⟨F3,F4,F5,Fh,f1,f2,f3,f4,f5,f6,f7⟩:=fin w6 cc6 hx;rw [f1,f2,f3,yJ,f4,yJ,f5,aA,f6,aA];exact ⟨Fh,rfl,f7⟩
 | call hn hag hw=>
  have e1:pA 3 1=false:=rfl;have e2:pA 3 2=false:=rfl;have e3:pA 3 3=true:=rfl;simp only [Nat.zero_add,fA,kB,jB,mB,qA,a0,e1,e2,e3,cond_true,cond_false,bA,yA,aB,aA,Bool.not_true,Bool.not_false];have hva:mayVa (vaD 6 op0 op0 0 pl0 _ [] _):=mayVa.call hn hag;obtain ⟨ra,rb,rp',u1,u2,hcv,_⟩:=dQ vF vF dG x3;have hv6:rr.va.1=6:=by rw [yA1 hcv];rfl
  have e66:pA rr.va.1 6=true:=by rw [hv6];rfl
  simp only [a11,fA,kB,e66,cond_true];have g3:H2.cells (h.next,11) 15=some (.agg (vac rr.va)):=o.cells (j:=11) (m:=15) (show 11+15≤32 by decide);rw [g3,tAm];obtain ⟨H4,e4,c4⟩:=kAg hN hva pk x3;have e4':f199 N (tV rr.va) H2=some (true,H4):=e4;rw [e4',aA,aA]
  try simp only [bA,Nat.zero_add]
  obtain ⟨H6,p6,w6,c6,n6⟩:=(w.call c4).set (j:=11) (vs:=yZB) (show 11+15≤32 by decide) (ds:=smc { rr with va:=va0 }) (by simp only [smc,smx,smv];rfl);rw [p6];have cc6:Chg [H1.next] H2 H6:=Chg.trans (c4.mono (by simp)) c6
  try simp only [aA,bA,yA,aB,cond_true,cond_false,Nat.zero_add]
  have hx:∀ {H':Heap},Chg [H1.next] H2 H'→Dt H' (fun A=>A<h.next) bV (smc (vO rr { { rr with va:=va0 } with k:=0,at_:=0 })):=by
   intro H' cc;rw [optN (by rw [q8])];have y:=rJ (r:={ { rr with va:=va0 } with k:=0,at_:=0 }) (dX cc x1) (dX cc x2) (yA0 _ _) (dX cc x4) (sX cc x5) (sX cc x6);have y':Dt _ (fun A=>A<h.next) (smT 0 0 rr.m rr.nm ty0D rr.has pl0 va00 op0 [] []) (smc { { rr with va:=va0 } with k:=0,at_:=0 }):=y;have e:smT 0 0 rr.m rr.nm ty0D rr.has pl0 va00 op0 [] []=bV:=by rw [q2,q3,q8];rfl
   rw [e] at y';exact y'
  obtain ⟨F3,F4,F5,Fh,f1,f2,f3,f4,f5,f6,f7⟩:=fin w6 cc6 hx;rw [f1,f2,f3,yJ,f4,yJ,f5,aA,f6,aA];exact ⟨Fh,rfl,f7⟩
 | if_ h0 hco he hw=>
  have e1:pA 4 1=false:=rfl;have e2:pA 4 2=false:=rfl;have e3:pA 4 3=false:=rfl;have e4:pA 4 4=true:=rfl;simp only [Nat.zero_add,fA,kB,jB,mB,qA,a0,e1,e2,e3,e4,cond_true,cond_false,bA,yA,aB,aA,Bool.not_true,Bool.not_false]
  cases hs with
  | false=>
   simp only [a8,fA,jB,Bool.not_false,cond_true,bA,yA,aB,aA,Nat.zero_add];obtain rfl:=he rfl;obtain ⟨H3,H4,g1,g2,g3,g4,g5⟩:=one (ds:=smc { rr with co:=uD }) w (Chg.refl _ _) hco x4 rfl (by simp only [smc,smx,smv];rfl);rw [g1,gAb,g2];simp only [aA,bA,Nat.zero_add];rw [g3];simp only [aA,bA,yA,aB,cond_true,Nat.zero_add];obtain ⟨H5,H6,k1,k2,k3,k4,k5⟩:=inn (ds:=smc { rr with co:=uD,th:=sl0 }) h0 g4 g5 x5 rfl (by simp only [smc,smx,smv];rfl);simp only [k1,fA,qA];rw [k2,aA,aA]
   try simp only [bA,Nat.zero_add]
   rw [k3]
   try simp only [aA,bA,yA,aB,cond_true,cond_false,Nat.zero_add]
   have hx:∀ {H':Heap},Chg [H1.next] H2 H'→Dt H' (fun A=>A<h.next) bV (smc (vO rr { { rr with co:=uD,th:=sl0 } with k:=0,at_:=0 })):=by
    intro H' cc;rw [optN (by rw [q8])];have y:=rJ (r:={ { rr with co:=uD,th:=sl0 } with k:=0,at_:=0 }) (dX cc x1) (dX cc x2) (dX cc x3) (fF _ _) (Sl.nil _ _ _) (sX cc x6);have y':Dt _ (fun A=>A<h.next) (smT 0 0 rr.m rr.nm ty0D rr.has pl0 va00 op0 [] []) (smc { { rr with co:=uD,th:=sl0 } with k:=0,at_:=0 }):=y;have e:smT 0 0 rr.m rr.nm ty0D rr.has pl0 va00 op0 [] []=bV:=by rw [q2,q3,q8];rfl
    rw [e] at y';exact y'
   obtain ⟨F3,F4,F5,Fh,f1,f2,f3,f4,f5,f6,f7⟩:=fin k4 k5 hx;rw [f1,f2,f3,yJ,f4,yJ,f5,aA,f6,aA];exact ⟨Fh,rfl,f7⟩
  | true=>
   have a31:H2.cell (h.next,31)=some (.slice rr.el.a rr.el.len rr.el.cap rr.el.sz):=o.cell 31;obtain ⟨H0,e0,c0⟩:=hb el rr.el H2 (.inr rfl) h0 pk x6;simp only [a8,fA,jB,Bool.not_true,cond_false,a31,qA];rw [e0];simp only [bA,yA,aB,aA,Nat.zero_add,cond_true];obtain ⟨H3,H4,g1,g2,g3,g4,g5⟩:=one (ds:=smc { rr with co:=uD }) (w.call c0) (c0.mono (by simp)) hco x4 rfl (by simp only [smc,smx,smv];rfl);rw [g1,gAb,g2];simp only [aA,bA,Nat.zero_add];rw [g3];simp only [aA,bA,yA,aB,cond_true,Nat.zero_add];obtain ⟨H5,H6,k1,k2,k3,k4,k5⟩:=inn (ds:=smc { rr with co:=uD,th:=sl0 }) h0 g4 g5 x5 rfl (by simp only [smc,smx,smv];rfl);simp only [k1,fA,qA];rw [k2,aA,aA]
   try simp only [bA,Nat.zero_add]
   rw [k3]
   try simp only [aA,bA,yA,aB,cond_true,cond_false,Nat.zero_add]
   have hx:∀ {H':Heap},Chg [H1.next] H2 H'→Dt H' (fun A=>A<h.next) bV (smc (vO rr { { rr with co:=uD,th:=sl0 } with k:=0,at_:=0 })):=by
    intro H' cc;have ek1:pA rr.k 1=false:=by rw [q0];rfl
    have ek2:pA rr.k 10=false:=by rw [q0];rfl
    have ek3:pA rr.k 4=true:=by rw [q0];rfl
    have ez:∀ z:SmR,vO rr z = { z with has:=false,el:=sl0 }:=fun z=>by unfold vO;rw [q8,ek1,ek2,ek3];rfl
    rw [ez];have y:=rJ (r:={ rr with co:=uD,th:=sl0,k:=0,at_:=0,has:=false,el:=sl0 }) (dX cc x1) (dX cc x2) (dX cc x3) (fF _ _) (Sl.nil _ _ _) (Sl.nil _ _ _);have y':Dt _ (fun A=>A<h.next) (smT 0 0 rr.m rr.nm ty0D false pl0 va00 op0 [] []) (smc { rr with co:=uD,th:=sl0,k:=0,at_:=0,has:=false,el:=sl0 }):=y;have e:smT 0 0 rr.m rr.nm ty0D false pl0 va00 op0 [] []=bV:=by rw [q2,q3];rfl
    rw [e] at y';exact y'
   obtain ⟨F3,F4,F5,Fh,f1,f2,f3,f4,f5,f6,f7⟩:=fin k4 k5 hx;rw [f1,f2,f3,yJ,f4,yJ,f5,aA,f6,aA];exact ⟨Fh,rfl,f7⟩
 | while_ h0 hco hw=>
  have e1:pA 5 1=false:=rfl;have e2:pA 5 2=false:=rfl;have e3:pA 5 3=false:=rfl;have e4:pA 5 4=false:=rfl;have e5:pA 5 5=true:=rfl;simp only [Nat.zero_add,fA,kB,jB,mB,qA,a0,e1,e2,e3,e4,e5,cond_true,cond_false,bA,yA,aB,aA,Bool.not_true,Bool.not_false];obtain ⟨H3,H4,g1,g2,g3,g4,g5⟩:=one (ds:=smc { rr with co:=uD }) w (Chg.refl _ _) hco x4 rfl (by simp only [smc,smx,smv];rfl);rw [g1,gAb,g2];simp only [aA,bA,Nat.zero_add];rw [g3];simp only [aA,bA,yA,aB,cond_true,Nat.zero_add];obtain ⟨H5,H6,k1,k2,k3,k4,k5⟩:=inn (ds:=smc { rr with co:=uD,th:=sl0 }) h0 g4 g5 x5 rfl (by simp only [smc,smx,smv];rfl);simp only [k1,fA,qA];rw [k2,aA,aA]
  try simp only [bA,Nat.zero_add]
  rw [k3]
  try simp only [aA,bA,yA,aB,cond_true,cond_false,Nat.zero_add]
  have hx:∀ {H':Heap},Chg [H1.next] H2 H'→Dt H' (fun A=>A<h.next) bV (smc (vO rr { { rr with co:=uD,th:=sl0 } with k:=0,at_:=0 })):=by
   intro H' cc;rw [optN (by rw [q8])];have y:=rJ (r:={ { rr with co:=uD,th:=sl0 } with k:=0,at_:=0 }) (dX cc x1) (dX cc x2) (dX cc x3) (fF _ _) (Sl.nil _ _ _) (sX cc x6);have y':Dt _ (fun A=>A<h.next) (smT 0 0 rr.m rr.nm ty0D rr.has pl0 va00 op0 [] []) (smc { { rr with co:=uD,th:=sl0 } with k:=0,at_:=0 }):=y;have e:smT 0 0 rr.m rr.nm ty0D rr.has pl0 va00 op0 [] []=bV:=by rw [q2,q3,q8];rfl
   rw [e] at y';exact y'
  obtain ⟨F3,F4,F5,Fh,f1,f2,f3,f4,f5,f6,f7⟩:=fin k4 k5 hx;rw [f1,f2,f3,yJ,f4,yJ,f5,aA,f6,aA];exact ⟨Fh,rfl,f7⟩
 | loop h0 hw=>
  have e1:pA 6 1=false:=rfl;have e2:pA 6 2=false:=rfl;have e3:pA 6 3=false:=rfl;have e4:pA 6 4=false:=rfl;have e5:pA 6 5=false:=rfl;have e6:pA 6 6=true:=rfl;simp only [Nat.zero_add,fA,kB,jB,mB,qA,a0,e1,e2,e3,e4,e5,e6,cond_true,cond_false,bA,yA,aB,aA,Bool.not_true,Bool.not_false];obtain ⟨H5,H6,k1,k2,k3,k4,k5⟩:=inn (ds:=smc { rr with th:=sl0 }) h0 w (Chg.refl _ _) x5 rfl (by simp only [smc,smx,smv];rfl);simp only [k1,fA,qA];rw [k2,aA,aA]
  try simp only [bA,Nat.zero_add]
  rw [k3]
  try simp only [aA,bA,yA,aB,cond_true,cond_false,Nat.zero_add]
  have hx:∀ {H':Heap},Chg [H1.next] H2 H'→Dt H' (fun A=>A<h.next) bV (smc (vO rr { { rr with th:=sl0 } with k:=0,at_:=0 })):=by
   intro H' cc;rw [optN (by rw [q8])];have y:=rJ (r:={ { rr with th:=sl0 } with k:=0,at_:=0 }) (dX cc x1) (dX cc x2) (dX cc x3) (dX cc x4) (Sl.nil _ _ _) (sX cc x6);have y':Dt _ (fun A=>A<h.next) (smT 0 0 rr.m rr.nm ty0D rr.has pl0 va00 op0 [] []) (smc { { rr with th:=sl0 } with k:=0,at_:=0 }):=y;have e:smT 0 0 rr.m rr.nm ty0D rr.has pl0 va00 op0 [] []=bV:=by rw [q2,q3,q8];rfl
   rw [e] at y';exact y'
  obtain ⟨F3,F4,F5,Fh,f1,f2,f3,f4,f5,f6,f7⟩:=fin k4 k5 hx;rw [f1,f2,f3,yJ,f4,yJ,f5,aA,f6,aA];exact ⟨Fh,rfl,f7⟩
 | block h0 hw=>
  have e1:pA 7 1=false:=rfl;have e2:pA 7 2=false:=rfl;have e3:pA 7 3=false:=rfl;have e4:pA 7 4=false:=rfl;have e5:pA 7 5=false:=rfl;have e6:pA 7 6=false:=rfl;have e7:pA 7 7=true:=rfl;simp only [Nat.zero_add,fA,kB,jB,mB,qA,a0,e1,e2,e3,e4,e5,e6,e7,cond_true,cond_false,bA,yA,aB,aA,Bool.not_true,Bool.not_false];obtain ⟨H5,H6,k1,k2,k3,k4,k5⟩:=inn (ds:=smc { rr with th:=sl0 }) h0 w (Chg.refl _ _) x5 rfl (by simp only [smc,smx,smv];rfl);simp only [k1,fA,qA];rw [k2,aA,aA]
  try simp only [bA,Nat.zero_add]
  rw [k3]
  try simp only [aA,bA,yA,aB,cond_true,cond_false,Nat.zero_add]
  have hx:∀ {H':Heap},Chg [H1.next] H2 H'→Dt H' (fun A=>A<h.next) bV (smc (vO rr { { rr with th:=sl0 } with k:=0,at_:=0 })):=by
   intro H' cc;rw [optN (by rw [q8])];have y:=rJ (r:={ { rr with th:=sl0 } with k:=0,at_:=0 }) (dX cc x1) (dX cc x2) (dX cc x3) (dX cc x4) (Sl.nil _ _ _) (sX cc x6);have y':Dt _ (fun A=>A<h.next) (smT 0 0 rr.m rr.nm ty0D rr.has pl0 va00 op0 [] []) (smc { { rr with th:=sl0 } with k:=0,at_:=0 }):=y;have e:smT 0 0 rr.m rr.nm ty0D rr.has pl0 va00 op0 [] []=bV:=by rw [q2,q3,q8];rfl
   rw [e] at y';exact y'
  obtain ⟨F3,F4,F5,Fh,f1,f2,f3,f4,f5,f6,f7⟩:=fin k4 k5 hx;rw [f1,f2,f3,yJ,f4,yJ,f5,aA,f6,aA];exact ⟨Fh,rfl,f7⟩
 | break_ hw=>
  have e1:pA 8 1=false:=rfl;have e2:pA 8 2=false:=rfl;have e3:pA 8 3=false:=rfl;have e4:pA 8 4=false:=rfl;have e5:pA 8 5=false:=rfl;have e6:pA 8 6=false:=rfl;have e7:pA 8 7=false:=rfl;have e10:pA 8 10=false:=rfl;have e11:pA 8 11=false:=rfl;have e8:pA 8 8=true:=rfl;simp only [Nat.zero_add,fA,kB,jB,mB,qA,a0,e1,e2,e3,e4,e5,e6,e7,e10,e11,e8,cond_true,cond_false,bA,yA,aB,aA,Bool.not_true,Bool.not_false];have hx:∀ {H':Heap},Chg [H1.next] H2 H'→Dt H' (fun A=>A<h.next) bV (smc (vO rr { rr with k:=0,at_:=0 })):=by
   intro H' cc;rw [optN (by rw [q8])];have y:=rJ (r:={ rr with k:=0,at_:=0 }) (dX cc x1) (dX cc x2) (dX cc x3) (dX cc x4) (sX cc x5) (sX cc x6);have y':Dt _ (fun A=>A<h.next) (smT 0 0 rr.m rr.nm ty0D rr.has pl0 va00 op0 [] []) (smc { rr with k:=0,at_:=0 }):=y;have e:smT 0 0 rr.m rr.nm ty0D rr.has pl0 va00 op0 [] []=bV:=by rw [q2,q3,q8];rfl
   rw [e] at y';exact y'
  obtain ⟨F3,F4,F5,Fh,f1,f2,f3,f4,f5,f6,f7⟩:=fin w (Chg.refl _ _) hx;rw [f1,f2,f3,yJ,f4,yJ,f5,aA,f6,aA];exact ⟨Fh,rfl,f7⟩
 | cont hw=>
  have e1:pA 9 1=false:=rfl;have e2:pA 9 2=false:=rfl;have e3:pA 9 3=false:=rfl;have e4:pA 9 4=false:=rfl;have e5:pA 9 5=false:=rfl;have e6:pA 9 6=false:=rfl;have e7:pA 9 7=false:=rfl;have e10:pA 9 10=false:=rfl;have e11:pA 9 11=false:=rfl;have e8:pA 9 8=false:=rfl;have e9:pA 9 9=true:=rfl;simp only [Nat.zero_add,fA,kB,jB,mB,qA,a0,e1,e2,e3,e4,e5,e6,e7,e10,e11,e8,e9,cond_true,cond_false,bA,yA,aB,aA,Bool.not_true,Bool.not_false];have hx:∀ {H':Heap},Chg [H1.next] H2 H'→Dt H' (fun A=>A<h.next) bV (smc (vO rr { rr with k:=0,at_:=0 })):=by
   intro H' cc;rw [optN (by rw [q8])];have y:=rJ (r:={ rr with k:=0,at_:=0 }) (dX cc x1) (dX cc x2) (dX cc x3) (dX cc x4) (sX cc x5) (sX cc x6);have y':Dt _ (fun A=>A<h.next) (smT 0 0 rr.m rr.nm ty0D rr.has pl0 va00 op0 [] []) (smc { rr with k:=0,at_:=0 }):=y;have e:smT 0 0 rr.m rr.nm ty0D rr.has pl0 va00 op0 [] []=bV:=by rw [q2,q3,q8];rfl
   rw [e] at y';exact y'
  obtain ⟨F3,F4,F5,Fh,f1,f2,f3,f4,f5,f6,f7⟩:=fin w (Chg.refl _ _) hx;rw [f1,f2,f3,yJ,f4,yJ,f5,aA,f6,aA];exact ⟨Fh,rfl,f7⟩
 | ret hv hw=>
  have e1:pA 10 1=false:=rfl;have e2:pA 10 2=false:=rfl;have e3:pA 10 3=false:=rfl;have e4:pA 10 4=false:=rfl;have e5:pA 10 5=false:=rfl;have e6:pA 10 6=false:=rfl;have e7:pA 10 7=false:=rfl;have e10:pA 10 10=true:=rfl;simp only [Nat.zero_add,fA,kB,jB,mB,qA,a0,e1,e2,e3,e4,e5,e6,e7,e10,cond_true,cond_false,bA,yA,aB,aA,Bool.not_true,Bool.not_false];have cc0:Chg [H1.next] H2 H2:=Chg.refl _ _;rw [aX cc0,yJ];obtain ⟨H4,e4,c4⟩:=mAt hN rr (by rw [q8];exact hv) pk x3;have e4':f197 N (tS (smv rr)) H2=some (true,H4):=e4;rw [e4',aA]
  try simp only [aA,bA,yA,aB,cond_true,cond_false,Nat.zero_add]
  have hx:∀ {H':Heap},Chg [H1.next] H2 H'→Dt H' (fun A=>A<h.next) bV (smc (vO rr { rr with k:=0,at_:=0 })):=by
   intro H' cc;have ek1:pA rr.k 1=false:=by rw [q0];rfl
   have ek2:pA rr.k 10=true:=by rw [q0];rfl
   rcases hv with ⟨h1,_⟩ | ⟨h1,h2⟩
   ·have ez:∀ z:SmR,vO rr z = { z with has:=false,va:=va0 }:=fun z=>by unfold vO;rw [q8,h1,ek1,ek2];rfl
    rw [ez];have y:=rJ (r:={ rr with k:=0,at_:=0,has:=false,va:=va0 }) (dX cc x1) (dX cc x2) (yA0 _ _) (dX cc x4) (sX cc x5) (sX cc x6);have y':Dt _ (fun A=>A<h.next) (smT 0 0 rr.m rr.nm ty0D false pl0 va00 op0 [] []) (smc { rr with k:=0,at_:=0,has:=false,va:=va0 }):=y;have e:smT 0 0 rr.m rr.nm ty0D false pl0 va00 op0 [] []=bV:=by rw [q2,q3];rfl
    rw [e] at y';exact y'
   ·rw [optN (by rw [q8,h1])]
    have y:=rJ (r:={ rr with k:=0,at_:=0 }) (dX cc x1) (dX cc x2) (dX cc x3) (dX cc x4) (sX cc x5) (sX cc x6);rw [h2] at y;have y':Dt _ (fun A=>A<h.next) (smT 0 0 rr.m rr.nm ty0D rr.has pl0 va00 op0 [] []) (smc { rr with k:=0,at_:=0 }):=y;have e:smT 0 0 rr.m rr.nm ty0D rr.has pl0 va00 op0 [] []=bV:=by rw [q2,q3,q8,h1];rfl
    rw [e] at y';exact y'
  obtain ⟨F3,F4,F5,Fh,f1,f2,f3,f4,f5,f6,f7⟩:=fin (w.call c4) (c4.mono (by simp)) hx;rw [f1,f2,f3,yJ,f4,yJ,f5,aA,f6,aA];exact ⟨Fh,rfl,f7⟩
 | drop hp hw=>
  have e1:pA 11 1=false:=rfl;have e2:pA 11 2=false:=rfl;have e3:pA 11 3=false:=rfl;have e4:pA 11 4=false:=rfl;have e5:pA 11 5=false:=rfl;have e6:pA 11 6=false:=rfl;have e7:pA 11 7=false:=rfl;have e10:pA 11 10=false:=rfl;have e11:pA 11 11=true:=rfl;simp only [Nat.zero_add,fA,kB,jB,mB,qA,a0,e1,e2,e3,e4,e5,e6,e7,e10,e11,cond_true,cond_false,bA,yA,aB,aA,Bool.not_true,Bool.not_false];rw [a9,tAe];obtain ⟨H3,g2,c3⟩:=iA8 (N:=N) (by omega) hp x2;rw [g2,aA]
  try simp only [bA,Nat.zero_add]
  obtain ⟨H5,p5,w5,c5,n5⟩:=(w.call c3).set (j:=9) (vs:=[(.str []),(.slice none 0 0 0)]) (show 9+2≤32 by decide) (ds:=smc { rr with pl:=lf0 }) (by simp only [smc,smx,smv];rfl);rw [p5];have cc5:Chg [H1.next] H2 H5:=Chg.trans (c3.mono (by simp)) c5
  try simp only [aA,bA,yA,aB,cond_true,cond_false,Nat.zero_add]
  have hx:∀ {H':Heap},Chg [H1.next] H2 H'→Dt H' (fun A=>A<h.next) bV (smc (vO rr { { rr with pl:=lf0 } with k:=0,at_:=0 })):=by
   intro H' cc;rw [optN (by rw [q8])];have y:=rJ (r:={ { rr with pl:=lf0 } with k:=0,at_:=0 }) (dX cc x1) (iH _ _) (dX cc x3) (dX cc x4) (sX cc x5) (sX cc x6);have y':Dt _ (fun A=>A<h.next) (smT 0 0 rr.m rr.nm ty0D rr.has pl0 va00 op0 [] []) (smc { { rr with pl:=lf0 } with k:=0,at_:=0 }):=y;have e:smT 0 0 rr.m rr.nm ty0D rr.has pl0 va00 op0 [] []=bV:=by rw [q2,q3,q8];rfl
   rw [e] at y';exact y'
  obtain ⟨F3,F4,F5,Fh,f1,f2,f3,f4,f5,f6,f7⟩:=fin w5 cc5 hx;rw [f1,f2,f3,yJ,f4,yJ,f5,aA,f6,aA];exact ⟨Fh,rfl,f7⟩
end
end Qp
namespace Qp
abbrev tF (v:FuV):FuV:=(v.1,v.2.1,v.2.2.1,v.2.2.2.1,v.2.2.2.2.1,v.2.2.2.2.2.1,v.2.2.2.2.2.2.1,v.2.2.2.2.2.2.2.1,v.2.2.2.2.2.2.2.2.1,v.2.2.2.2.2.2.2.2.2.1,())
section
variable {N:Nat} {h:Heap} {V:Nat→Prop}
theorem lA8 {rec125 rec174} {m:Nat} {deep:Int} {xs:List D} (ht:∀ x∈xs,isSm m x) (hF:∀ x∈xs,∀ (r:SmV) (H:Heap),PK H→Dt H V x (smx r)→∃ H',rec174 r deep H=some (true,H')∧Chg [] H H') (hl:xs.length≤3000) {s:SL}:∀ (M i:Nat) (h:Heap),i≤xs.length→xs.length-i<M→PK h→Sl h V s xs→∃ h',vA7 N rec125 rec174 M deep false s (xs.length:Int) (i:Int) h=some (.exit 0,(false,()),h')∧Chg [] h h':=by
 intro M
 induction M with
 | zero=>intro i h _ h;omega
 | succ M ih=>
  intro i h hi hM pk x;rw [wAb];unfold uA1;simp only [pG]
  by_cases q:i<xs.length
  ·simp only [q,decide_true,cond_true]
   have hm:=List.getElem_mem q;obtain ⟨r,g,d⟩:=(iR m).elt x q (ht _ hm);rw [x.ix q 32,g,yJ];obtain ⟨h5,p5,c5,o5⟩:=(iR m).park (z:=smx (smv (bE 0))) rfl h r;have p5':∀ {β:Type} (K:Heap→Option β),uA ((h.push (.row yZA .own)).store (h.next,0) (yRA r)) K=K h5:=p5;rw [p5',(iR m).cells o5];obtain ⟨h6,e6,c6⟩:=hF _ hm r h5 (pk.chg c5) (Dt.chg c5 (by simp) d);have e6':rec174 (tS r) deep h5=some (true,h6):=e6;rw [e6',aA];simp only [Bool.not_true,cond_false];rw [rB (by omega)];have c06:=c5.trans c6;obtain ⟨h',e',c'⟩:=ih (i+1) h6 q (by omega) (pk.chg c06) (x.chg c06 (by simp));exact ⟨h',e',c06.trans c'⟩
  ·simp only [q,decide_false,cond_false]
   exact ⟨h,rfl,Chg.refl _ _⟩
theorem mAg {t:Bs} {k m:Nat} {d:D} (hd:lM t (k+1) d) (ti:isSm (m+1) d) {l:List D} (hl:l=thD d∨l=elD d):(∀ x∈l,lM t k x)∧(∀ x∈l,isSm m x)∧l.length≤3000:=by
 obtain ⟨kk,a,mu,nm,ty,hs,pl,va,co,th,el,rfl,hth,hel,hk⟩:=hd;obtain ⟨_,_,_,_,l1,l2,i1,i2⟩:=lAg ti;rcases hl with rfl | rfl
 ·exact ⟨hth,i1,l1⟩
 ·exact ⟨hel,i2,l2⟩
theorem mB4 (hN:3001≤N) {t:Bs}:∀ (n M:Nat) (xs:List D) (s1:SL) (h:Heap) (V:Nat→Prop),2 * n≤M→n≤64→0<n→(∀ x∈xs,lM t n x)→(∀ x∈xs,isSm (n+1) x)→xs.length≤3000→PK h→Sl h V s1 xs→∃ h',f125 N M s1 ((65-n:Nat):Int) h=some (true,h')∧Chg [] h h':=by
 intro n
 induction n with
 | zero=>intro M xs s1 h V _ _ h0;omega
 | succ k ih=>
  intro M xs s1 h V hM hn _ hx ti hl pk x;obtain ⟨M,rfl⟩:∃ m,M=m+2:=⟨M-2,by omega⟩;rw [gAt];unfold eAt;have z:uB 64 ((65-(k+1):Nat):Int)=false:=by rw [ltI,decide_eq_false_iff_not];omega
  simp only [z,cond_false];obtain ⟨h',e,c⟩:=lA8 (N:=N) (rec125:=f125 N (M+1)) (rec174:=f174 N (M+1)) (deep:=((65-(k+1):Nat):Int)) (m:=k+2) ti (fun x hm r H pkH d=>by
   show ∃ H',f174 N (M+1) r _ H=_∧_;rw [iAt];refine lB4 hN (hx x hm) (ti x hm) pkH d fun l s2 H2 hl h0 pk2 sl=>?_;obtain ⟨q1,q2,q3⟩:=mAg (hx x hm) (ti x hm) hl
   have:=ih M l s2 H2 (fun A=>A<H.next) (by omega) (by omega) h0 q1 q2 q3 pk2 sl
   rwa [show bB .i64 (((65-(k+1):Nat):Int)+1)=((65-k:Nat):Int) by rw [rB (by omega),show 65-(k+1)+1=65-k by omega]]) hl N 0 h (Nat.zero_le _) (by omega) pk x
  rw [show ((0:Nat):Int)=0 from rfl] at e;have l1:s1.len=xs.length:=x.len;rw [l1,show Int.ofNat xs.length=(xs.length:Int) from rfl,e];exact ⟨h',rfl,c⟩
def yBc (n:Nat) (d:D):Nat:=aI n (thD d)+aI n (elD d)
theorem rAw (n:Nat) (l:List D):aI (n+1) l=l.length+(l.map (yBc n)).sum:=rfl
theorem tAw {l:List D} {f:D→Nat} {i:Nat} (hi:i<l.length):((l.drop i).map f).sum=f l[i]+((l.drop (i+1)).map f).sum:=by
 rw [List.drop_eq_getElem_cons hi,List.map_cons,List.sum_cons]
theorem rA4 {rec126} {m n:Nat} {xs:List D} (ht:∀ x∈xs,isSm (m+1) x) (hF:∀ x∈xs,∀ (l:List D) (s2:SL) (H:Heap),(l=thD x∨l=elD x)→aI n l≤2000→Sl H V s2 l→∃ H',rec126 s2 H=some (((aI n l:Nat):Int),H')∧Chg [] H H') (hl:xs.length≤3000) {s:SL}:∀ (M i v:Nat) (h:Heap),i≤xs.length→xs.length-i<M→v+((xs.drop i).map (yBc n)).sum≤2000→Sl h V s xs→∃ h',wA7 N rec126 M (v:Int) s (xs.length:Int) (i:Int) h=some (.exit 0,(((v+((xs.drop i).map (yBc n)).sum:Nat):Int),()),h')∧Chg [] h h':=by
 intro M
 induction M with
 | zero=>intro i v h _ h;omega
 | succ M ih=>
  intro i v h hi hM hv x;rw [yAb];unfold vA1;simp only [pG]
  by_cases q:i<xs.length
  ·simp only [q,decide_true,cond_true]
   have hm:=List.getElem_mem q;obtain ⟨r,g,d⟩:=(iR (m+1)).elt x q (ht _ hm);rw [x.ix q 32,g,yJ];obtain ⟨h5,p5,c5,o5⟩:=(iR (m+1)).park (z:=smx (smv (bE 0))) rfl h r;have p5':∀ {β:Type} (K:Heap→Option β),uA ((h.push (.row yZA .own)).store (h.next,0) (yRA r)) K=K h5:=p5;rw [p5'];rw [tAw q] at hv ⊢;have hti:=ht _ hm;have hFx:=hF _ hm;obtain ⟨kk,a,mu,nm,ty,hs,pl,va,co,th,el,hd,t1,t2,t3,t4,_⟩:=hti;rw [hd] at d hFx;have hcs:yBc n xs[i]=aI n th+aI n el:=by rw [hd];rfl
   rw [hcs] at hv ⊢;obtain ⟨rt,rp,rv,ro,s1,s2,hc,_,_,_,_,x5,x6⟩:=kW t1 t2 t3 t4 d;have hr:=(iR (m+1)).inj (r':=smv ⟨kk,a,mu,nm,rt,hs,rp,rv,ro,s1,s2⟩) hc;subst hr;have a30:h5.cell (h.next,30)=some (.slice s1.a s1.len s1.cap s1.sz):=o5.cell 30;have a31:h5.cell (h.next,31)=some (.slice s2.a s2.len s2.cap s2.sz):=o5.cell 31;simp only [Nat.zero_add,a30,fA,qA];obtain ⟨h6,e6,c6⟩:=hFx th s1 h5 (.inl rfl) (by omega) (x5.chg c5 (by simp));have e6':rec126 ⟨s1.a,s1.len,s1.cap,s1.sz⟩ h5=some (((aI n th:Nat):Int),h6):=e6;rw [e6',aA];have b31:h6.cell (h.next,31)=some (.slice s2.a s2.len s2.cap s2.sz):=(o5.chg c6 (by simp)).cell 31;simp only [b31,fA,qA];obtain ⟨h7,e7,c7⟩:=hFx el s2 h6 (.inr rfl) (by omega) (x6.chg (c5.trans c6) (by simp));have e7':rec126 ⟨s2.a,s2.len,s2.cap,s2.sz⟩ h6=some (((aI n el:Nat):Int),h7):=e7;rw [e7',aA];simp only [a31,rD,cond_true,yC];have w1:bB .i64 (bB .i64 ((v:Int)+((aI n th:Nat):Int))+((aI n el:Nat):Int))=((v+(aI n th+aI n el):Nat):Int):=by
    rw [lD (x:=(v:Int)+_) (by omega) (by omega),lD (by omega) (by omega)];omega
   rw [w1,rB (by omega)];have c07:=(c5.trans c6).trans c7;obtain ⟨h',e',c'⟩:=ih (i+1) (v+(aI n th+aI n el)) h7 q (by omega) (by omega) (x.chg c07 (by simp));exact ⟨h',by rw [e'];simp only [Nat.add_assoc],c07.trans c'⟩
  ·simp only [q,decide_false,cond_false]
   have:i=xs.length:=by omega
   subst this;exact ⟨h,by simp,Chg.refl _ _⟩
theorem nB4 (hN:3001≤N) {t:Bs}:∀ (n M:Nat) (xs:List D) (s1:SL) (h:Heap) (V:Nat→Prop),n+1≤M→(∀ x∈xs,lM t n x)→(∀ x∈xs,isSm (n+1) x)→xs.length≤3000→aI n xs≤2000→Sl h V s1 xs→∃ h',f126 N M s1 h=some (((aI n xs:Nat):Int),h')∧Chg [] h h':=by
 intro n
 induction n with
 | zero=>
  intro M xs s1 h V hM hx ti hl hc x;obtain ⟨M,rfl⟩:∃ m,M=m+1:=⟨M-1,by omega⟩;have hx0:xs=[]:=by
   cases xs with
   | nil=>rfl
   | cons y r=>exact (hx y (by simp)).elim
  subst hx0;rw [aAc];unfold jAj;have l1:s1.len=0:=x.len;obtain ⟨h',e,c⟩:=rA4 (N:=N) (V:=V) (rec126:=f126 N M) (m:=0) (n:=0) (xs:=[]) (by simp) (by simp) (by simp) N 0 0 h (Nat.zero_le _) (by simp;omega) (by simp) x;rw [l1];rw [show ((0:Nat):Int)=0 from rfl,show (([]:List D).length:Int)=0 from rfl] at e;rw [show Int.ofNat 0=(0:Int) from rfl,e];exact ⟨h',rfl,c⟩
 | succ k ih=>
  intro M xs s1 h V hM hx ti hl hc x;obtain ⟨M,rfl⟩:∃ m,M=m+1:=⟨M-1,by omega⟩;rw [aAc];unfold jAj;have l1:s1.len=xs.length:=x.len;rw [rAw] at hc ⊢;obtain ⟨h',e,c⟩:=rA4 (N:=N) (V:=V) (rec126:=f126 N M) (m:=k+1) (n:=k) ti (fun x hm l s2 H hl hcl sl=>by
   obtain ⟨q1,q2,q3⟩:=mAg (hx x hm) (ti x hm) hl;exact ih M l s2 H V (by omega) q1 q2 q3 hcl sl) hl N 0 xs.length h (Nat.zero_le _) (by omega) (by rw [List.drop_zero];exact hc) x
  rw [show ((0:Nat):Int)=0 from rfl,List.drop_zero] at e;rw [l1,show Int.ofNat xs.length=(xs.length:Int) from rfl,e];exact ⟨h',rfl,c⟩
theorem uAw {d:D} (h:mayLf d):isLf d:=by
 obtain ⟨nm,xs,rfl,_,hp⟩:=h;exact ⟨nm,xs,rfl,Nat.le_trans hp.1 (by decide)⟩
theorem mA8 (hN:200≤N) {R:zT2} {xs:List D} (hx:∀ x∈xs,mayLf x) (hl:xs.length≤100) {s:SL}:∀ (M i:Nat) (h:Heap),i≤xs.length→xs.length-i<M→Sl h V s xs→∃ h',bAc N M R false s (xs.length:Int) (i:Int) h=some (.exit 0,(R,false,()),h')∧Chg [] h h':=by
 intro M
 induction M with
 | zero=>intro i h _ h;omega
 | succ M ih=>
  intro i h hi hM x;rw [cAg];unfold yA7;simp only [pG]
  by_cases q:i<xs.length
  ·simp only [q,decide_true,cond_true]
   have hm:=hx _ (List.getElem_mem q);obtain ⟨r,g,d⟩:=fA7.elt x q (uAw hm);rw [x.ix q 2,g,tAe];obtain ⟨h5,p5,c5,o5⟩:=fA7.park (z:=lfc lf0) rfl h r;have p5':∀ {β:Type} (K:Heap→Option β),uA ((h.push (.row [(.str []),(.slice none 0 0 0)] .own)).store (h.next,0) [(.str r.1),(.slice r.2.1.a r.2.1.len r.2.1.cap r.2.1.sz)]) K=K h5:=p5;rw [p5'];have d5:=Dt.chg c5 (by simp) d;obtain ⟨nm,ys,hd,hn,hy⟩:=hm;rw [hd] at d5;obtain ⟨s2,hc,y⟩:=jW d5;obtain rfl:=fA7.inj hc;have a0:h5.cell (h.next,0)=some (.str nm):=o5.cell 0;have a1:h5.cell (h.next,1)=some (.slice s2.a s2.len s2.cap s2.sz):=o5.cell 1;simp only [Nat.zero_add,a0,fA,mB];rw [jAt (by omega) hn,aA];simp only [Bool.not_true,cond_false,a1,fA,qA];rw [fA8 hN y hy,aA];simp only [Bool.not_true,cond_false];rw [rB (by omega)];obtain ⟨h',e',c'⟩:=ih (i+1) h5 q (by omega) (x.chg c5 (by simp));exact ⟨h',e',c5.trans c'⟩
  ·simp only [q,decide_false,cond_false]
   exact ⟨h,rfl,Chg.refl _ _⟩
theorem vAw {g:Nat} {d:D} {r:TyV} (hp:mA2 g d) (x:Dt h V d (tyc r)):pA r.1 0=false:=by
 obtain ⟨p,rfl,hp⟩:=hp
 cases p with
 | int=>
  obtain ⟨t1,t2,hc,_⟩:=eN.1 (show Dt h V (tyD 1 [] [] []) _ from x);rw [(vU 1).inj hc];rfl
 | bool=>
  obtain ⟨t1,t2,hc,_⟩:=eN.1 (show Dt h V (tyD 2 [] [] []) _ from x);rw [(vU 1).inj hc];rfl
 | st nm lv=>
  obtain ⟨t1,t2,hc,_⟩:=eN.1 (show Dt h V (tyD 3 nm lv []) _ from x);rw [(vU 1).inj hc];rfl
 | ref mu lv t=>
  obtain ⟨t1,t2,hc,_⟩:=eN.1 (show Dt h V (tyD (if mu=true then 5 else 4) [] lv [t.D]) _ from x);rw [(vU 1).inj hc];cases mu <;> rfl
theorem rBb (hN:3001≤N) {t:Bs} {d:D} (hd:pA2 t d) (ti:isFu d) {r:FuV} (pk:PK h) (x:Dt h V d (fux r)):∃ h',f80 N r h=some (true,h')∧Chg [] h h':=by
 obtain ⟨pub,nm,lv,ps,ty,bd,a,rfl,hn,hlv,hps,hty,hbd,hct,_⟩:=hd;have tt:isTy 65 ty∧bd.length≤3000∧∀ s∈bd,isSm 65 s:=by
  obtain ⟨pub',nm',lv',ps',ty',bd',a',e,_,_,_,_,h1,h2,h3⟩:=ti;simp only [fuT,D.t.injEq,List.cons.injEq,D.i.injEq,D.b.injEq,D.s.injEq,D.l.injEq,and_true] at e;obtain ⟨rfl,rfl,rfl,rfl,rfl,rfl,rfl⟩:=e;exact ⟨h1,h2,h3⟩
 obtain ⟨t1,t2,t3⟩:=tt;obtain ⟨s1,s2,s3,rt,hc,y1,y2,yt,y3⟩:=wAi t1 x;obtain ⟨rr,hrr⟩:∃ rr:FuR,rr=⟨pub,nm,s1,s2,rt,s3,(a:Int)⟩:=⟨_,rfl⟩;rw [← hrr] at hc;have hr:r=fuv rr:=gAm.inj hc;subst hr;unfold f80;have o:=wA h (fuc rr);have c:=vA h (.row (fuc rr) .own);have e1:h.push (.row (yRD (fuv rr)) .own)=h.push (.row (fuc rr) .own):=rfl;dsimp only;rw [e1];have pk:=pk.chg c;have y1:=y1.chg c (by simp);have y2:=y2.chg c (by simp);have yt:=Dt.chg c (by simp) yt;have y3:=y3.chg c (by simp);generalize h.push (.row (fuc rr) .own)=H at *;have rd:∀ {H':Heap},Chg [] H H'→H'.cell (h.next,1)=some (.str nm)∧H'.cell (h.next,2)=some (.slice s1.a s1.len s1.cap s1.sz)∧H'.cell (h.next,3)=some (.slice s2.a s2.len s2.cap s2.sz)∧H'.cell (h.next,4)=some (.int .i64 rt.1)∧H'.cells (h.next,4) 4=some (.agg (tyc rt))∧H'.cell (h.next,8)=some (.slice s3.a s3.len s3.cap s3.sz):=fun c'=>by
  have o':=o.chg c' (by simp);rw [hrr] at o';exact ⟨o'.cell 1,o'.cell 2,o'.cell 3,o'.cell 4,o'.cells (j:=4) (m:=4) (show 4+4≤10 by decide),o'.cell 8⟩
 obtain ⟨_,a2,_,_,_,_⟩:=rd (Chg.refl _ _);simp only [Nat.zero_add,a2,fA,qA];have l1:s1.len=lv.length:=y1.len;have hle:=hlv.1;obtain ⟨H1,e,c1⟩:=mA8 (N:=N) (by omega) (R:=some (h.next,0)) hlv.2 (by omega) N 0 H (Nat.zero_le _) (by omega) y1;rw [show ((0:Nat):Int)=0 from rfl,show (lv.length:Int)=Int.ofNat s1.len by rw [l1];rfl] at e;have e':bAc N N (some (h.next,0)) false ⟨s1.a,s1.len,s1.cap,s1.sz⟩ (Int.ofNat s1.len) 0 H=some (.exit 0,(some (h.next,0),false,()),H1):=e;rw [e'];obtain ⟨a1,a2,a3,a4,a44,a8⟩:=rd c1;simp only [yB,fE,decide_true,cond_true,bA,Nat.zero_add,a4,fA,kB]
 -- what it gives
 have hres:∃ H2,(bif pA rt.1 0 then (iA (.val zC) (H1.cells (h.next,4) 4) fun x24=>kA (f123 N (x24.1,x24.2.1,x24.2.2.1,x24.2.2.2.1,()) H1) fun x25 h26=>bif x25 then some (((some (h.next,0),true,()):zT2×Bool×Unit),h26) else (iA (.val zC) (h26.cells (h.next,4) 4) fun x28=>kA (f124 N N (x28.1,x28.2.1,x28.2.2.1,x28.2.2.2.1,()) 1 h26) fun x29 h30=>some ((some (h.next,0),x29,()),h30))) else (iA (.val zC) (H1.cells (h.next,4) 4) fun x32=>kA (f124 N N (x32.1,x32.2.1,x32.2.2.1,x32.2.2.2.1,()) 1 H1) fun x33 h34=>some ((some (h.next,0),x33,()),h34)))=some ((some (h.next,0),true,()),H2)∧Chg [] H1 H2:=by
  rw [a44];rcases hty with h0 | hmt
  ·subst h0
   obtain ⟨u1,u2,hc,z1,z2⟩:=eN.1 (show Dt H V (tyD 0 [] [] []) _ from yt);have er:=(vU 1).inj hc;rw [er,vAk];have e0:pA ((0,[],u1,u2,()):TyV).1 0=true:=rfl;obtain ⟨H2,e2,c2⟩:=iAg (N:=N) (h:=H1) (k:=0) (s1:=u1) (s2:=u2) z1.len z2.len;have e2':f123 N (((0,[],u1,u2,()):TyV).1,((0,[],u1,u2,()):TyV).2.1,((0,[],u1,u2,()):TyV).2.2.1,((0,[],u1,u2,()):TyV).2.2.2.1,()) H1=some (true,H2):=e2;rw [e0,cond_true,e2',aA];exact ⟨H2,rfl,c2⟩
  ·rw [vAw hmt yt,cond_false,vAk]
   obtain ⟨H2,e2,c2⟩:=gA8 (N:=N) (by omega) hmt (pk.chg c1) (Dt.chg c1 (by simp) yt);rw [e2,aA];exact ⟨H2,rfl,c2⟩
 obtain ⟨H2,e2,c2⟩:=hres;rw [e2,aA];have c12:=c1.trans c2;obtain ⟨a1,a2,a3,_,_,a8⟩:=rd c12;simp only [bA,Nat.zero_add,a1,fA,mB];rw [cJ (by omega),aA,hn];simp only [cond_true,bA,Nat.zero_add,a2,fA,qA,l1,pBb hlv.1,a3];obtain ⟨H3,e3,c3⟩:=lAt (N:=N) (by omega) hps (pk.chg c12) (y2.chg c12 (by simp));have e3':f121 N ⟨s2.a,s2.len,s2.cap,s2.sz⟩ true H2=some (true,H3):=e3;rw [e3',aA];have c13:=c12.trans c3;obtain ⟨_,_,_,_,_,a8⟩:=rd c13;simp only [cond_true,bA,Nat.zero_add,a8,fA,qA];obtain ⟨H4,e4,c4⟩:=mB4 hN 64 N bd s3 H3 V (by omega) (Nat.le_refl _) (by decide) hbd t3 t2 (pk.chg c13) (y3.chg c13 (by simp));have e4':f125 N N ⟨s3.a,s3.len,s3.cap,s3.sz⟩ 1 H3=some (true,H4):=e4;rw [e4',aA];have c14:=c13.trans c4;obtain ⟨_,_,_,_,_,a8⟩:=rd c14;simp only [cond_true,bA,Nat.zero_add,a8,fA,qA];obtain ⟨H5,e5,c5⟩:=nB4 hN 64 N bd s3 H4 V (by omega) hbd t3 t2 hct (y3.chg c14 (by simp));have e5':f126 N N ⟨s3.a,s3.len,s3.cap,s3.sz⟩ H4=some (((aI 64 bd:Nat):Int),H5):=e5;rw [e5',aA];have l2:uC ((aI 64 bd:Nat):Int) 2000=true:=by rw [leI,decide_eq_true_eq];omega
 rw [l2];exact ⟨H5,rfl,(c.trans c14).trans c5⟩
theorem aA2 (hN:3001≤N) {t:Bs} {R:zT2} {xs:List D} (hx:∀ x∈xs,nA2 t x) (ti:∀ x∈xs,isSt x) (hl:xs.length≤300) {s:SL}:∀ (M i:Nat) (h:Heap),i≤xs.length→xs.length-i<M→PK h→Sl h V s xs→∃ h',dAc N M R false s (xs.length:Int) (i:Int) h=some (.exit 0,(R,false,()),h')∧Chg [] h h':=by
 intro M
 induction M with
 | zero=>intro i h _ h;omega
 | succ M ih=>
  intro i h hi hM pk x;rw [eAg];unfold bA8;simp only [pG]
  by_cases q:i<xs.length
  ·simp only [q,decide_true,cond_true]
   have hm:=List.getElem_mem q;obtain ⟨r,g,d⟩:=fAm.elt x q (ti _ hm);rw [x.ix q 5,g,oBe];obtain ⟨h5,p5,c5,o5⟩:=fAm.park (z:=stc st0) rfl h r;have p5':∀ {β:Type} (K:Heap→Option β),uA ((h.push (.row [(.bool false),(.str []),(.slice none 0 0 0),(.slice none 0 0 0),(.int .i64 0)] .own)).store (h.next,0) [(.bool r.1),(.str r.2.1),(.slice r.2.2.1.a r.2.2.1.len r.2.2.1.cap r.2.2.1.sz),(.slice r.2.2.2.1.a r.2.2.2.1.len r.2.2.2.1.cap r.2.2.2.1.sz),(.int .i64 r.2.2.2.2.1)]) K=K h5:=p5;rw [p5',fAm.cells o5];obtain ⟨h6,e6,c6⟩:=qBb (N:=N) (by omega) (hx _ hm) (pk.chg c5) (Dt.chg c5 (by simp) d);have e6':f79 N (r.1,r.2.1,r.2.2.1,r.2.2.2.1,r.2.2.2.2.1,()) h5=some (true,h6):=e6;rw [e6',aA];simp only [Bool.not_true,cond_false];rw [rB (by omega)];have c06:=c5.trans c6;obtain ⟨h',e',c'⟩:=ih (i+1) h6 q (by omega) (pk.chg c06) (x.chg c06 (by simp));exact ⟨h',e',c06.trans c'⟩
  ·simp only [q,decide_false,cond_false]
   exact ⟨h,rfl,Chg.refl _ _⟩
theorem nA8 (hN:3001≤N) {t:Bs} {xs:List D} (hx:∀ x∈xs,pA2 t x) (ti:∀ x∈xs,isFu x) (hl:xs.length≤300) {s:SL}:∀ (M i:Nat) (h:Heap),i≤xs.length→xs.length-i<M→PK h→Sl h V s xs→∃ h',cAc N M false s (xs.length:Int) (i:Int) h=some (.exit 2,(false,()),h')∧Chg [] h h':=by
 intro M
 induction M with
 | zero=>intro i h _ h;omega
 | succ M ih=>
  intro i h hi hM pk x;rw [dAg];unfold aA8;simp only [pG]
  by_cases q:i<xs.length
  ·simp only [q,decide_true,cond_true]
   have hm:=List.getElem_mem q;obtain ⟨r,g,d⟩:=gAm.elt x q (ti _ hm);rw [x.ix q 10,g,uBe];obtain ⟨h5,p5,c5,o5⟩:=gAm.park (z:=fux (fuv (dJ false [] 0))) rfl h r;have p5':∀ {β:Type} (K:Heap→Option β),uA ((h.push (.row yZD .own)).store (h.next,0) (yRD r)) K=K h5:=p5;rw [p5',gAm.cells o5];obtain ⟨h6,e6,c6⟩:=rBb hN (hx _ hm) (ti _ hm) (pk.chg c5) (Dt.chg c5 (by simp) d);have e6':f80 N (tF r) h5=some (true,h6):=e6;rw [e6',aA];simp only [Bool.not_true,cond_false];rw [rB (by omega)];have c06:=c5.trans c6;obtain ⟨h',e',c'⟩:=ih (i+1) h6 q (by omega) (pk.chg c06) (x.chg c06 (by simp));exact ⟨h',e',c06.trans c'⟩
  ·simp only [q,decide_false,cond_false]
   exact ⟨h,rfl,Chg.refl _ _⟩
theorem tBb (hN:3001≤N) {t:Bs} {xs ys:List D} (hx:∀ x∈xs,nA2 t x) (hy:∀ y∈ys,pA2 t y) (tx:∀ x∈xs,isSt x) (ty:∀ y∈ys,isFu y) (hl:xs.length+ys.length≤256) (pk:PK h) {s1 s2:SL} (y1:Sl h V s1 xs) (y2:Sl h V s2 ys):∃ h',f33 N (s1,s2,()) h=some (true,h')∧Chg [] h h':=by
 unfold f33;have o:=wA h [SL.av s1,SL.av s2];have c:=vA h (.row [SL.av s1,SL.av s2] .own);have e1:h.push (.row [(.slice s1.a s1.len s1.cap s1.sz),(.slice s2.a s2.len s2.cap s2.sz)] .own)=h.push (.row [SL.av s1,SL.av s2] .own):=rfl;dsimp only;rw [e1];have pk:=pk.chg c;have y1:=y1.chg c (by simp);have y2:=y2.chg c (by simp);generalize h.push (.row [SL.av s1,SL.av s2] .own)=H at *;have a0:H.cell (h.next,0)=some (.slice s1.a s1.len s1.cap s1.sz):=o.cell 0;have a1:H.cell (h.next,1)=some (.slice s2.a s2.len s2.cap s2.sz):=o.cell 1;have l1:s1.len=xs.length:=y1.len;have l2:s2.len=ys.length:=y2.len;have z:uB 256 (bB .i64 (Int.ofNat s1.len+Int.ofNat s2.len))=false:=by
  rw [l1,l2];show uB 256 (bB .i64 ((xs.length:Int)+(ys.length:Int)))=false;rw [lD (by omega) (by omega),ltI,decide_eq_false_iff_not];omega
 simp only [Nat.zero_add,a0,a1,fA,qA,z,cond_false];obtain ⟨H1,e,c1⟩:=aA2 hN (R:=some (h.next,0)) hx tx (by omega) N 0 H (Nat.zero_le _) (by omega) pk y1;rw [show ((0:Nat):Int)=0 from rfl,show (xs.length:Int)=Int.ofNat s1.len by rw [l1];rfl] at e;have e':dAc N N (some (h.next,0)) false ⟨s1.a,s1.len,s1.cap,s1.sz⟩ (Int.ofNat s1.len) 0 H=some (.exit 0,(some (h.next,0),false,()),H1):=e;rw [e'];have b1:H1.cell (h.next,1)=some (.slice s2.a s2.len s2.cap s2.sz):=(o.chg c1 (by simp)).cell 1;simp only [yB,fE,decide_true,cond_true,bA,Nat.zero_add,b1,fA,qA];obtain ⟨H2,e2,c2⟩:=nA8 hN hy ty (by omega) N 0 H1 (Nat.zero_le _) (by omega) (pk.chg c1) (y2.chg c1 (by simp));rw [show ((0:Nat):Int)=0 from rfl,show (ys.length:Int)=Int.ofNat s2.len by rw [l2];rfl] at e2;have e2':cAc N N false ⟨s2.a,s2.len,s2.cap,s2.sz⟩ (Int.ofNat s2.len) 0 H1=some (.exit 2,(false,()),H2):=e2;rw [e2'];simp only [yB,fE,decide_true,cond_true];exact ⟨H2,rfl,(c.trans c1).trans c2⟩
end
end Qp
namespace Qp
end Qp
namespace Qy
open Qa
def h0:Heap:={ t:=Tr.set (Tr.set .nil 0 (.row [hdl] .ro)) 2 (.row [Qw.sen] .ro),next:=4,pins:=[(0,rAm),(1,loc1),(2,Qw.jB0)] }
def mu0 (l:Ai.Loc):Mu:=fun A=>if A=0 then some rAm else if A=1 then some loc1 else if A=2 then some Qw.jB0 else if A=3 then some l else none
theorem mu0_inv {l:Ai.Loc} {A:Nat} {m:Ai.Loc} (h:mu0 l A=some m):(A=0∧m=rAm)∨(A=1∧m=loc1)∨(A=2∧m=Qw.jB0)∨(A=3∧m=l):=by
 unfold mu0 at h
 split at h
 ·cases h;exact .inl ⟨by assumption,rfl⟩
 ·split at h
  ·cases h;exact .inr (.inl ⟨by assumption,rfl⟩)
  ·split at h
   ·cases h;exact .inr (.inr (.inl ⟨by assumption,rfl⟩))
   ·split at h
    ·cases h;exact .inr (.inr (.inr ⟨by assumption,rfl⟩))
    ·cases h
theorem vH {A:Nat} {b:Blk} (h:h0.t.get A=some b):(A=0∧b=.row [hdl] .ro)∨(A=2∧b=.row [Qw.sen] .ro):=by
 rcases Tr.get_set h with h | ⟨_,h⟩
 ·exact .inr h
 ·rcases Tr.get_set h with h | ⟨_,h⟩
  ·exact .inl h
  ·simp [Tr.get_nil] at h
theorem h0_rof:Rof h0:=by
 refine ⟨fun A b hA=>?_,fun A hA=>?_⟩
 ·rcases vH hA with ⟨_,rfl⟩ | ⟨_,rfl⟩ <;> exact ⟨_,rfl⟩
 ·cases hb:h0.t.get A with
  | none=>rfl
  | some b=>
   have h1:(4:Nat)≤A:=hA;rcases vH hb with ⟨h,_⟩ | ⟨h,_⟩ <;> omega
theorem jAx {w:World} {l:Ai.Loc} (hs:7<w.heap.size) {e e':TypeId} (hsh:w.shape? 1=some (e,1)) (hc:w.cell? ⟨1,0,none⟩=some (.iface 232 (.agg #[.pointer (some ⟨7,29,none⟩)])))
  (hsh3:w.shape? 3=some (e',1)) (hc3:w.cell? ⟨3,0,none⟩=some (.iface 275 (.pointer (some ⟨l.b,l.sh,none⟩)))) (hl:l.b<w.heap.size):HR (mu0 l) h0 w:=by
 refine ⟨fun A m hA=>?_,fun A B la lb ba bb hA hB gA gB _ _ hne hb=>?_,fun A m b hA hb=>?_,fun x hx=>?_⟩
 ·rcases mu0_inv hA with ⟨rfl,rfl⟩ | ⟨rfl,rfl⟩ | ⟨rfl,rfl⟩ | ⟨rfl,rfl⟩
  ·exact ⟨by show 0<4;omega,by show 1<w.heap.size;omega⟩
  ·exact ⟨by show 1<4;omega,hs⟩
  ·exact ⟨by show 2<4;omega,by show 3<w.heap.size;omega⟩
  ·exact ⟨by show 3<4;omega,hl⟩
 ·rcases vH gA with ⟨_,rfl⟩ | ⟨_,rfl⟩ <;> rcases vH gB with ⟨_,rfl⟩ | ⟨_,rfl⟩ <;> exact ⟨rfl,rfl⟩
 ·rcases vH hb with ⟨rfl,rfl⟩ | ⟨rfl,rfl⟩
  ·rcases mu0_inv hA with ⟨_,rfl⟩ | ⟨h,_⟩ | ⟨h,_⟩ | ⟨h,_⟩
   ·refine ⟨⟨e,hsh⟩,Nat.le_refl _,fun i x hx=>?_⟩
    cases i with
    | zero=>
     have:x=hdl:=by simpa using hx.symm
     subst this;refine ⟨_,hc,?_⟩;simp only [hdl,VR,VRs];exact ⟨_,rfl,_,rfl,_,[],rfl,⟨loc1,rfl,rfl⟩,rfl⟩
    | succ i=>simp at hx
   ·cases h
   ·cases h
   ·cases h
  ·rcases mu0_inv hA with ⟨h,_⟩ | ⟨h,_⟩ | ⟨_,rfl⟩ | ⟨h,_⟩
   ·cases h
   ·cases h
   ·refine ⟨⟨e',hsh3⟩,Nat.le_refl _,fun i x hx=>?_⟩
    cases i with
    | zero=>
     have:x=Qw.sen:=by simpa using hx.symm
     subst this;refine ⟨_,hc3,?_⟩;simp only [Qw.sen,VR];exact ⟨_,rfl,l,rfl,rfl⟩
    | succ i=>simp at hx
   ·cases h
 ·simp only [h0,List.mem_cons,List.not_mem_nil,or_false] at hx
  rcases hx with rfl | rfl | rfl <;> rfl
theorem gAc:Qw.pinned h0=true:=by kernel_rfl
theorem bA2 {h:Heap} (hl:HLe h0 h):Qw.pinned h=true∧4≤h.next:=by
 refine ⟨?_,hl.next⟩;have h1:=gAc;have g0:h0.t.get 0=some (.row [hdl] .ro):=by kernel_rfl
 have g2:h0.t.get 2=some (.row [Qw.sen] .ro):=by kernel_rfl
 have e0:h.t.get 0=h0.t.get 0:=(hl.get 0 _ g0).trans g0.symm;have e2:h.t.get 2=h0.t.get 2:=(hl.get 2 _ g2).trans g2.symm;unfold Qw.pinned Qx.pinned at h1 ⊢;rw [hl.pins,e0,e2];exact h1
end Qy
namespace Qp
section
variable {N:Nat} {h:Heap} {b:Bool} {n:Nat}
end
theorem oB4 (h:Heap) (a b:SL):∃ h',(∀ {β:Type} (K:Heap→Option β),uA ((h.push (.row [(.slice none 0 0 0),(.slice none 0 0 0)] .own)).store (h.next,0) [(.slice a.a a.len a.cap a.sz),(.slice b.a b.len b.cap b.sz)]) K=K h')∧Chg [] h h'∧h'.own h.next [SL.av a,SL.av b]:=by
 have o:=wA h [SL.av sl0,SL.av sl0];have c:=vA h (.row [SL.av sl0,SL.av sl0] .own);have hst:(h.push (.row [SL.av sl0,SL.av sl0] .own)).store (h.next,0) [SL.av a,SL.av b]=some ((h.push (.row [SL.av sl0,SL.av sl0] .own)).put h.next (.row [SL.av a,SL.av b] .own)):=o.store rfl;refine ⟨_,fun K=>?_,c.put (.inr (Nat.le_refl _)) _,iB o _⟩;have e:h.push (.row [(.slice none 0 0 0),(.slice none 0 0 0)] .own)=h.push (.row [SL.av sl0,SL.av sl0] .own):=rfl;have e2:[(AV.slice a.a a.len a.cap a.sz),(.slice b.a b.len b.cap b.sz)]=[SL.av a,SL.av b]:=rfl;rw [e,e2,hst,bA]
theorem ErrW.keep {h h':Heap} {v:AV} {e:Er3} (x:ErrW h v e) (c:Chg [] h h'):ErrW h' v e:=x.chg c (by simp)
section
variable {h:Heap}
end
end Qp
end Go.Proofs.YtkcjphhjmlienaaGreatDoor

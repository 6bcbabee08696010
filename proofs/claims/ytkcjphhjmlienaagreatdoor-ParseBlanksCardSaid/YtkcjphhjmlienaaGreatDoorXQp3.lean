import Derived.Test.YtkcjphhjmlienaaGreatDoorXQp2
import Derived.Test.YtkcjphhjmlienaaGreatDoorXQp1
import Derived.Test.YtkcjphhjmlienaaGreatDoorAi2
import Derived.Test.YtkcjphhjmlienaaGreatDoorRows
import Derived.Test.YtkcjphhjmlienaaGreatDoorProg
/- Functions of the program as plain functions, and what they come to; part 3. -/
namespace Go.Proofs.YtkcjphhjmlienaaGreatDoor
set_option linter.unusedVariables false
set_option linter.unusedSimpArgs false
open Go Ai Go.Proofs
namespace Qp
section
variable {N:Nat} {T:List Tok} {P:Nat} {X:List Nat} {h:Heap} {σ:St} {st:Int}
theorem oB3 (hT:Toks T) (hN:3000≤N) (x:PC T P X h σ st) (pub:Bool) (at_:Int):∃ r h',f103 N (some (P,0)) pub at_ h=some (r,h')∧PC T P X h' (wI T pub at_ σ).2.1 ((wI T pub at_ σ).2.2:Int)∧Chg [P] h h'∧Dt h' (fun C=>h.next≤C) (wI T pub at_ σ).1 (fux r):=by
 unfold f103;have hN1:100≤N:=by omega
 have hP:=x.P_lt;have oQ:=vA h [AV.ptr (some (P,0))];have cQ:=qA h (.row [AV.ptr (some (P,0))] .own);have nQ:(h.push (.row [AV.ptr (some (P,0))] .own)).next=h.next+1:=rfl;dsimp only;generalize h.push (.row [AV.ptr (some (P,0))] .own)=h1 at *;have oR:=vA h1 (fuc (fJ false [] 0));have cR:=qA h1 (.row (fuc (fJ false [] 0)) .own);have eR:h1.push (.row [(.bool false),(.str []),(.slice none 0 0 0),(.slice none 0 0 0),(.int .i64 0),(.str []),(.slice none 0 0 0),(.slice none 0 0 0),(.slice none 0 0 0),(.int .i64 0)] .own)=h1.push (.row (fuc (fJ false [] 0)) .own):=rfl;have nR:(h1.push (.row (fuc (fJ false [] 0)) .own)).next=h1.next+1:=rfl;have x2:=(x.chg cQ).add cR (A:=h1.next) (Nat.le_refl _) (Nat.lt_succ_self _);rw [eR];generalize h1.push (.row (fuc (fJ false [] 0)) .own)=h2 at *;have oQ2:=oQ.chg cR (by simp);have c02:=cQ.trans cR;have r2:h2.cell (h.next,0)=some (.ptr (some (P,0))):=oQ2.cell 0;simp only [r2,fA,uB,dA,Nat.zero_add];obtain ⟨h5,e5,c5,x5⟩:=x2.setSt 0;rw [e5,dA];have oQ5:=oQ2.chg c5 (by simp;omega);have r5:h5.cell (h.next,0)=some (.ptr (some (P,0))):=oQ5.cell 0;simp only [r5,fA,uB];obtain ⟨h8,e8,c8,x8⟩:=aU (N:=N) hT x5 (k:=1) (by decide);rw [e8,aA];have c28:=c5.trans c8;have oQ8:=oQ5.chg c8 (by simp;omega);have oR8:=oR.chg c28 (by simp;omega);have hn8:=c28.next;simp only [wI];generalize (iC T 1 σ).1=nm at *;generalize (iC T 1 σ).2=σ1 at *;have oO0:=vA h8 (fuc (fJ false [] 0));have cO0:=qA h8 (.row (fuc (fJ false [] 0)) .own);have eO:h8.push (.row [(.bool false),(.str []),(.slice none 0 0 0),(.slice none 0 0 0),(.int .i64 0),(.str []),(.slice none 0 0 0),(.slice none 0 0 0),(.slice none 0 0 0),(.int .i64 0)] .own)=h8.push (.row (fuc (fJ false [] 0)) .own):=rfl;have hstO:(h8.push (.row (fuc (fJ false [] 0)) .own)).store (h8.next,0) [(.bool pub),(.str nm),(.slice none 0 0 0),(.slice none 0 0 0),(.int .i64 0),(.str []),(.slice none 0 0 0),(.slice none 0 0 0),(.slice none 0 0 0),(.int .i64 at_)]=some ((h8.push (.row (fuc (fJ false [] 0)) .own)).put h8.next (.row (fuc (fJ pub nm at_)) .own)):=oO0.store rfl;rw [eO,hstO,dA];have oO:=yA oO0 (fuc (fJ pub nm at_));have cO:Chg [] h8 ((h8.push (.row (fuc (fJ false [] 0)) .own)).put h8.next (.row (fuc (fJ pub nm at_)) .own)):=cO0.put (.inr (Nat.le_refl _)) _;have nO:((h8.push (.row (fuc (fJ false [] 0)) .own)).put h8.next (.row (fuc (fJ pub nm at_)) .own)).next=h8.next+1:=rfl;have x10:=x8.add cO (A:=h8.next) (Nat.le_refl _) (Nat.lt_succ_self _);have oQ10:=oQ8.chg cO (by simp);have oR10:=oR8.chg cO (by simp);have c010:Chg [P] h ((h8.push (.row (fuc (fJ false [] 0)) .own)).put h8.next (.row (fuc (fJ pub nm at_)) .own)):=((c02.mono (by simp)).trans c28).trans (cO.mono (by simp));generalize (h8.push (.row (fuc (fJ false [] 0)) .own)).put h8.next (.row (fuc (fJ pub nm at_)) .own)=h10 at *;have i10:FI T P X h h.next h1.next h8.next (fJ pub nm at_) eB6 h10 σ1 0:=⟨x10,c010,oQ10,oR10,oO,⟨Nat.le_refl _,by omega,by omega,hP⟩,Sl.nil _ _ _,Sl.nil _ _ _,uW _ _ _ _,Sl.nil _ _ _⟩;generalize hQe:h.next=Q at *;generalize h1.next=R at *;generalize h8.next=O at *;have q10:h10.cell (Q,0)=some (.ptr (some (P,0))):=i10.oQ.cell 0;simp only [q10,fA,uB];obtain ⟨h13,e13,c13,y13⟩:=pI (N:=N) hT i10.pc (w:=[60]) (by decide);rw [e13,aA];have i13:=i10.step c13 y13;have q13:h13.cell (Q,0)=some (.ptr (some (P,0))):=i13.oQ.cell 0
 -- lifetimes
 have h21s:∃ v h21,(bif (kB T [60] σ1).1 then
    (iA (.val zP2) (h13.cell (Q,0)) fun (x14:zO2)=>
    (lA (tT N x14 [44] ((some (O,0)),(some (Q,0)),()) h13) fun (x15:(Unit)) h16=>
    (iA (.val zP2) (h16.cell (Q,0)) fun (x17:zO2)=>
    (lA (f149 N x17 [62] h16) fun (x18:(Unit)) h19=>
    some (((some (Q,0)),(some (R,0)),(some (O,0)),()),h19)))))
    else
    some (((some (Q,0)),(some (R,0)),(some (O,0)),()),h13))=some (((some (Q,0)),(some (R,0)),(some (O,0)),()),h21)∧
   FI T P X h Q R O { fJ pub nm at_ with lv:=v } { eB6 with lv:=(if (kB T [60] σ1).1=true then ((bE T (wX T) [44] (kB T [60] σ1).2).1,gD T [62] (bE T (wX T) [44] (kB T [60] σ1).2).2) else ([],(kB T [60] σ1).2)).1 } h21 (if (kB T [60] σ1).1=true then ((bE T (wX T) [44] (kB T [60] σ1).2).1,gD T [62] (bE T (wX T) [44] (kB T [60] σ1).2).2) else ([],(kB T [60] σ1).2)).2 0:=by
  have hle:=i13.le
  cases hb:(kB T [60] σ1).1 with
  | false=>exact ⟨sl0,h13,rfl,i13⟩
  | true=>
   simp only [cond_true,if_true,q13,fA,uB];have hl:=i13.lt;have f:CF P (O::R::X) h13 O Q 2 2 (fun v=>fuc { fJ pub nm at_ with lv:=v }):=⟨by omega,by omega,by simp,fun v=>fu2 _ v,fun v v'=>fs2 _ v v'⟩;obtain ⟨h16,e16,ci⟩:=tAr (N:=N) hT hN1 f ⟨i13.pc,Chg.refl _ _,i13.oQ,sl0,i13.oO,Ow.nil _ _ _ _⟩;rw [e16,aA];obtain ⟨v,oO16,w16⟩:=ci.ex;have q16:h16.cell (Q,0)=some (.ptr (some (P,0))):=ci.q.cell 0;simp only [q16,fA,uB];obtain ⟨g1,g2,g3,g4,g5,g6,g7⟩:=i13.old ci.chg;have i16:FI T P X h Q R O { fJ pub nm at_ with lv:=v } { eB6 with lv:=(bE T (wX T) [44] (kB T [60] σ1).2).1 } h16 (bE T (wX T) [44] (kB T [60] σ1).2).2 0:=⟨ci.pc,g1,g2,g3,oO16,i13.le,w16.sl.weak (fun C hC _=>by omega),g5,g6,g7⟩;obtain ⟨h19,e19,c19,y19⟩:=tF (N:=N) hT i16.pc (w:=[62]) (by decide);rw [e19,aA];exact ⟨v,h19,rfl,i16.step c19 y19⟩
 obtain ⟨lv,h21,e21,i21⟩:=h21s;rw [e21,aA];generalize (if (kB T [60] σ1).1=true then ((bE T (wX T) [44] (kB T [60] σ1).2).1,gD T [62] (bE T (wX T) [44] (kB T [60] σ1).2).2) else ([],(kB T [60] σ1).2))=zl at *;have q21:h21.cell (Q,0)=some (.ptr (some (P,0))):=i21.oQ.cell 0;simp only [dA,q21,fA,uB];obtain ⟨h25,e25,c25,y25⟩:=tF (N:=N) hT i21.pc (w:=[40]) (by decide);rw [e25,aA];have i25:=i21.step c25 y25;have q25:h25.cell (Q,0)=some (.ptr (some (P,0))):=i25.oQ.cell 0;simp only [q25,fA,uB];obtain ⟨h29,e29,c29,y29⟩:=pI (N:=N) hT i25.pc (w:=[41]) (by decide);rw [e29,aA];have i29:=i25.step c29 y29;have q29:h29.cell (Q,0)=some (.ptr (some (P,0))):=i29.oQ.cell 0;have h40s:∃ v h40,(bif !(kB T [41] (gD T [40] zl.2)).1 then
    (iA (.val zP2) (h29.cell (Q,0)) fun (x32:zO2)=>
    (lA (uT N x32 [44] ((some (Q,0)),(some (O,0)),()) h29) fun (x33:(Unit)) h34=>
    (iA (.val zP2) (h34.cell (Q,0)) fun (x36:zO2)=>
    (lA (f149 N x36 [41] h34) fun (x37:(Unit)) h38=>
    some (((some (Q,0)),(some (R,0)),(some (O,0)),()),h38)))))
    else
    some (((some (Q,0)),(some (R,0)),(some (O,0)),()),h29))=some (((some (Q,0)),(some (R,0)),(some (O,0)),()),h40)∧
   FI T P X h Q R O { fJ pub nm at_ with lv:=lv,ps:=v } { eB6 with lv:=zl.1,ps:=(if (kB T [41] (gD T [40] zl.2)).1=true then ([],(kB T [41] (gD T [40] zl.2)).2) else ((bE T (uF T) [44] (kB T [41] (gD T [40] zl.2)).2).1,gD T [41] (bE T (uF T) [44] (kB T [41] (gD T [40] zl.2)).2).2)).1 } h40 (if (kB T [41] (gD T [40] zl.2)).1=true then ([],(kB T [41] (gD T [40] zl.2)).2) else ((bE T (uF T) [44] (kB T [41] (gD T [40] zl.2)).2).1,gD T [41] (bE T (uF T) [44] (kB T [41] (gD T [40] zl.2)).2).2)).2 0:=by
  have hle:=i29.le
  cases hb:(kB T [41] (gD T [40] zl.2)).1 with
  | true=>exact ⟨sl0,h29,rfl,i29⟩
  | false=>
   simp only [Bool.not_false,cond_true,Bool.false_eq_true,if_false,q29,fA,uB];have hl:=i29.lt;have f:CF P (O::R::X) h29 O Q 6 3 (fun v=>fuc { fJ pub nm at_ with lv:=lv,ps:=v }):=⟨by omega,by omega,by simp,fun v=>fu3 { fJ pub nm at_ with lv:=lv } v,fun v v'=>fs3 { fJ pub nm at_ with lv:=lv } v v'⟩;obtain ⟨h34,e34,ci⟩:=kAf (N:=N) hT hN1 f ⟨i29.pc,Chg.refl _ _,i29.oQ,sl0,i29.oO,Ow.nil _ _ _ _⟩;rw [e34,aA];obtain ⟨v,oO34,w34⟩:=ci.ex;have q34:h34.cell (Q,0)=some (.ptr (some (P,0))):=ci.q.cell 0;simp only [q34,fA,uB];obtain ⟨g1,g2,g3,g4,g5,g6,g7⟩:=i29.old ci.chg;have i34:FI T P X h Q R O { fJ pub nm at_ with lv:=lv,ps:=v } { eB6 with lv:=zl.1,ps:=(bE T (uF T) [44] (kB T [41] (gD T [40] zl.2)).2).1 } h34 (bE T (uF T) [44] (kB T [41] (gD T [40] zl.2)).2).2 0:=⟨ci.pc,g1,g2,g3,oO34,i29.le,g4,w34.sl.weak (fun C hC _=>by omega),g6,g7⟩;obtain ⟨h38,e38,c38,y38⟩:=tF (N:=N) hT i34.pc (w:=[41]) (by decide);rw [e38,aA];exact ⟨v,h38,rfl,i34.step c38 y38⟩
 obtain ⟨ps,h40,e40,i40⟩:=h40s;rw [e40,aA];generalize (if (kB T [41] (gD T [40] zl.2)).1=true then ([],(kB T [41] (gD T [40] zl.2)).2) else ((bE T (uF T) [44] (kB T [41] (gD T [40] zl.2)).2).1,gD T [41] (bE T (uF T) [44] (kB T [41] (gD T [40] zl.2)).2).2))=zp at *;have q40:h40.cell (Q,0)=some (.ptr (some (P,0))):=i40.oQ.cell 0;simp only [dA,q40,fA,uB];obtain ⟨h44,e44,c44,y44⟩:=pI (N:=N) hT i40.pc (w:=[45,62]) (by decide);rw [e44,aA];have i44:=i40.step c44 y44;have q44:h44.cell (Q,0)=some (.ptr (some (P,0))):=i44.oQ.cell 0;have h52s:∃ v h52,(bif (kB T [45,62] zp.2).1 then
    (iA (.val zP2) (h44.cell (Q,0)) fun (x46:zO2)=>
    (lA (f55 N N x46 1 h44) fun (x47:zM) h48=>
    (rA (h48.store (O,4) [(.int .i64 x47.1),(.str x47.2.1),(.slice x47.2.2.1.a x47.2.2.1.len x47.2.2.1.cap x47.2.2.1.sz),(.slice x47.2.2.2.1.a x47.2.2.2.1.len x47.2.2.2.1.cap x47.2.2.2.1.sz)]) fun h50=>
    some (((some (Q,0)),(some (R,0)),(some (O,0)),()),h50))))
    else
    some (((some (Q,0)),(some (R,0)),(some (O,0)),()),h44))=some (((some (Q,0)),(some (R,0)),(some (O,0)),()),h52)∧
   FI T P X h Q R O { fJ pub nm at_ with lv:=lv,ps:=ps,ty:=v } { eB6 with lv:=zl.1,ps:=zp.1,ty:=(if (kB T [45,62] zp.2).1=true then yL T 64 (kB T [45,62] zp.2).2 else (ty0D,(kB T [45,62] zp.2).2)).1 } h52 (if (kB T [45,62] zp.2).1=true then yL T 64 (kB T [45,62] zp.2).2 else (ty0D,(kB T [45,62] zp.2).2)).2 0:=by
  have hle:=i44.le
  cases hb:(kB T [45,62] zp.2).1 with
  | false=>exact ⟨cBg,h44,rfl,i44⟩
  | true=>
   simp only [cond_true,if_true,q44,fA,uB];have hl:=i44.lt;obtain ⟨t,h48,e48,y48,c48,d48⟩:=eAz (N:=N) hT hN1 i44.pc;rw [e48,aA];have i48:=i44.step c48 y48;have hst:h48.store (O,4) [(.int .i64 t.1),(.str t.2.1),(.slice t.2.2.1.a t.2.2.1.len t.2.2.1.cap t.2.2.1.sz),(.slice t.2.2.2.1.a t.2.2.2.1.len t.2.2.2.1.cap t.2.2.2.1.sz)]=some (h48.put O (.row (fuc { fJ pub nm at_ with lv:=lv,ps:=ps,ty:=t }) .own)):=kD i48.oO (by simp only [fuc,fux,fuv,lE,kE,mF,Option.map_some]);rw [hst,dA];have cp:=i48.oO.put (fuc { fJ pub nm at_ with lv:=lv,ps:=ps,ty:=t });obtain ⟨g1,g2,g3,g4,g5,g6,g7⟩:=i48.old (cp.mono (N:=[P,O]) (by simp));exact ⟨t,_,rfl,i48.pc.chg1 cp (by simp),g1,g2,g3,yA i48.oO _,i48.le,g4,g5,(d48.chg cp (fun C hC=>by simp;omega)).weak (fun C hC _=>by omega),g7⟩
 obtain ⟨t,h52,e52,i52⟩:=h52s;rw [e52,aA];generalize (if (kB T [45,62] zp.2).1=true then yL T 64 (kB T [45,62] zp.2).2 else (ty0D,(kB T [45,62] zp.2).2))=zt at *;have q52:h52.cell (Q,0)=some (.ptr (some (P,0))):=i52.oQ.cell 0;simp only [dA,q52,fA,uB];have hlt:=i52.lt;have hle:=i52.le;obtain ⟨v,h56,e56,y56,c56,s56⟩:=lAw (N:=N) (P:=P) hT hN 64 N (Nat.le_refl _) (by omega) (O::R::X) h52 zt.2 0 i52.pc (.inl (by show 0≤2000;omega));rw [show ((65-64:Nat):Int)=1 from rfl] at e56;rw [e56,aA];have i56:=i52.step c56 y56;have hst:h56.store (O,8) [.slice v.a v.len v.cap v.sz]=some (h56.put O (.row (fuc { fJ pub nm at_ with lv:=lv,ps:=ps,ty:=t,bd:=v }) .own)):=kD i56.oO (by simp only [fuc,fux,fuv,lE,kE,mF,Option.map_some]);simp only [Nat.zero_add];rw [hst,dA];have cp:=i56.oO.put (fuc { fJ pub nm at_ with lv:=lv,ps:=ps,ty:=t,bd:=v });obtain ⟨g1,g2,g3,g4,g5,g6,g7⟩:=i56.old (cp.mono (N:=[P,O]) (by simp));have i58:FI T P X h Q R O { fJ pub nm at_ with lv:=lv,ps:=ps,ty:=t,bd:=v } ⟨zl.1,zp.1,zt.1,(yE T 64 (zt.2,0)).1⟩ (h56.put O (.row (fuc { fJ pub nm at_ with lv:=lv,ps:=ps,ty:=t,bd:=v }) .own)) (yE T 64 (zt.2,0)).2.1 ((yE T 64 (zt.2,0)).2.2:Int):=⟨i56.pc.chg1 cp (by simp),g1,g2,g3,yA i56.oO _,i56.le,g4,g5,g6,(s56.chg cp (fun C hC=>by simp;omega)).weak (fun C hC _=>by omega)⟩;generalize h56.put O (.row (fuc { fJ pub nm at_ with lv:=lv,ps:=ps,ty:=t,bd:=v }) .own)=h58 at *;rw [dAj (r:=fuv { fJ pub nm at_ with lv:=lv,ps:=ps,ty:=t,bd:=v }) i58.oO];refine ⟨fuv { fJ pub nm at_ with lv:=lv,ps:=ps,ty:=t,bd:=v },_,vBi i58.oR (fuv { fJ pub nm at_ with lv:=lv,ps:=ps,ty:=t,bd:=v }) (fun x h=>some (x,h)),?_,?_,?_⟩
 ·exact (i58.pc.chg1 (i58.oR.put _) (by simp)).sub (by simp +contextual)
 ·exact i58.chg.step (i58.oR.put _) (fun A hA hl=>by rw [List.mem_singleton] at hA;omega)
 ·exact (i58.dt.chg (i58.oR.put _) (fun C hC=>by simp;omega)).weak fun C hC _=>by omega
end
end Qp
namespace Qp
abbrev Er3:=Option (Int×Int×Option Int)
def ErrW (h:Heap) (v:AV):Er3→Prop
 | none=>v=AV.nilIface
 | some (c,a,none)=>iA1 h v c a
 | some (c,a,some b)=>∃ A B,v=AV.iface 127 (.ptr (some (A,0)))∧h.own A [.int .i64 c,.int .i64 a,AV.iface 127 (.ptr (some (B,0)))]∧h.own B [.int .i64 c,.int .i64 b,AV.iface 78 (.int .i64 c)]
def inS (at_:Int):Er→Er3
 | none=>none
 | some (c,a)=>some (c,at_,some a)
def gAs:Er→Er3
 | none=>none
 | some (c,a)=>some (c,a,none)
theorem iAs {h:Heap} {A:Nat} {p:Nat×Nat} {v:AV} (hp:Qw.pinned h=true) (o:h.own A [v]):Qz.asF (AV.iface 127 (.ptr (some p))) (AV.iface 214 (.ptr (some (A,0)))) h=some (true,h.put A (.row [.ptr (some p)] .own)):=by
 simp only [Qw.pinned,Qx.pinned,Bool.and_eq_true] at hp;obtain ⟨⟨⟨⟨b1,b2⟩,b3⟩,_⟩,_⟩:=hp;have hr:Qa.eAp h A=some ([v],.own):=by
  have:=o.1
  unfold Qa.eAp;unfold Heap.g at this;rw [this]
 simp [Qz.asF,Qa.asN,b1,b2,b3,hr,over]
section
variable {N:Nat} {T:List Tok} {P:Nat} {X:List Nat} {h:Heap} {σ:St} {st:Int}
theorem aAm {B:Nat} {c:Int} {w:List AV} (hp:Qw.pinned h=true) (h4:4≤h.next) (o:h.own B (.int .i64 c::w)):∃ h',f159 N (AV.iface 127 (.ptr (some (B,0)))) h=some (c,h')∧Chg [] h h':=by
 unfold f159 f191;simp only [mP,fA,wB,cond_false,pP,cond_true];have o1:=vA h [AV.ptr none];have c1:=qA h (.row [AV.ptr none] .own);have p1:=rJ c1 (by simp) h4 hp;have e2:f192 N (AV.iface 127 (.ptr (some (B,0)))) (AV.iface 214 (.ptr (some (h.next,0)))) (h.push (.row [AV.ptr none] .own))=_:=iAs p1 o1;rw [e2,aA];have o2:=yA o1 [AV.ptr (some (B,0))];have c2:Chg [] h ((h.push (.row [AV.ptr none] .own)).put h.next (.row [AV.ptr (some (B,0))] .own)):=c1.put (.inr (Nat.le_refl _)) _;have r2:((h.push (.row [AV.ptr none] .own)).put h.next (.row [AV.ptr (some (B,0))] .own)).cell (h.next,0)=some (.ptr (some (B,0))):=o2.cell 0;have r3:((h.push (.row [AV.ptr none] .own)).put h.next (.row [AV.ptr (some (B,0))] .own)).cell (B,0)=some (.int .i64 c):=(o.chg c2 (by simp)).cell 0;simp only [cond_true,r2,fA,uB,aA,Option.isNone_some,Bool.not_false,dA,Nat.zero_add,r3,yC];exact ⟨_,rfl,c2⟩
theorem pB3 (hp:Qw.pinned h=true) (h4:4≤h.next) {e:Er} {v:AV} (hv:ErrV h P X v e) (at_:Int):∃ v' h',f104 N v at_ h=some (v',h')∧Chg [] h h'∧ErrW h' v' (inS at_ e)∧AV.single v'=true:=by
 cases e with
 | none=>
  have hv:v=AV.nilIface:=hv;subst hv;exact ⟨AV.nilIface,h,eAw N at_ h,Chg.refl _ _,rfl,rfl⟩
 | some q=>
  obtain ⟨c,a⟩:=q;obtain ⟨B,rfl,_,o⟩:=hv;obtain ⟨h3,e3,c3⟩:=aAm (N:=N) hp h4 o;rw [lAl,e3,aA];have c4:=qA h3 (.row [(.int .i64 c),(.int .i64 at_),(AV.iface 127 (.ptr (some (B,0))))] .own);exact ⟨_,_,rfl,c3.trans c4,⟨h3.next,B,rfl,vA h3 _,(o.chg c3 (by simp)).chg c4 (by simp)⟩,rfl⟩
theorem ErrW.chg {h h':Heap} {v:AV} {e:Er3} {M:List Nat} (x:ErrW h v e) (c:Chg M h h') (hM:∀ A∈M,∃ cs w,h.own A (cs::w)∧∀ n,cs≠.int .i64 n):ErrW h' v e:=by
 have key:∀ {A:Nat} {n:Int} {w:List AV},h.own A (.int .i64 n::w)→h'.own A (.int .i64 n::w):=fun {A n w} o=>o.chg c fun hm=>by
  obtain ⟨cs,w',o',hn⟩:=hM A hm
  have:=o.1.symm.trans o'.1
  simp only [Option.some.injEq,Blk.row.injEq,List.cons.injEq,and_true] at this;exact hn n this.1.symm
 match e with
 | none=>exact x
 | some (c,a,none)=>
  obtain ⟨F,f1,f2⟩:=x;exact ⟨F,f1,key f2⟩
 | some (c,a,some b)=>
  obtain ⟨A,B,f1,f2,f3⟩:=x;exact ⟨A,B,f1,key f2,key f3⟩
theorem PC.chgC {h':Heap} {C:Nat} {a b:SL} (x:PC T P X h σ st) (o:h.own C [SL.av a,SL.av b]) (hC:C<P∧4≤C) (c:Chg [C] h h'):PC T P X h' σ st:=by
 obtain ⟨⟨⟨s,v,h1,h2,h3,h4⟩,h5,h6⟩,hp,p4⟩:=x;have hs:∀ A,s.blk=some A→A≠C:=by
  intro A hA e;subst e;obtain ⟨vs,hse,hde⟩:=h2.els
  cases hq:s.a with
  | none=>simp [SL.blk,hq] at hA
  | some q=>
   obtain ⟨A',off⟩:=q;simp [SL.blk,hq] at hA;subst hA;obtain ⟨_,cs,g1,g2⟩:=hse.2.2 A' off hq;rw [o.1] at g1;have g1':cs=[SL.av a,SL.av b]:=by
    have:(some [SL.av a,SL.av b]:Option (List AV))=some cs:=g1
    simpa using this.symm
   subst g1'
   cases T with
   | nil=>simp at h5
   | cons t r=>
    rw [List.map_cons] at hde;simp only [De] at hde;obtain ⟨x1,x2,hx,hl,hd,_⟩:=hde;have hd':=jA7 hd;subst hd';rw [hx] at g2;have hm:AV.int .i64 t.1∈[SL.av a,SL.av b]:=by
     have:AV.int .i64 t.1∈([SL.av a,SL.av b].drop off).take (tkc t.1 t.2.1 (t.2.2:Int)++x2).length:=by
      rw [g2];simp [tkc]
     exact List.mem_of_mem_drop (List.mem_of_mem_take this)
    simp [SL.av] at hm
 have h2':Sl h (fun A=>A<P∧A≠C) s (T.map pY):=by
  refine ⟨h2.len,h2.cap,fun A hA=>⟨h2.blk A hA,hs A hA⟩,?_⟩;obtain ⟨vs,hse,hde⟩:=h2.els;refine ⟨vs,hse,?_⟩;have gen:∀ (l:List Tok) (vs:List AV),De h (fun C=>C<P) s.sz (l.map pY) vs→De h (fun A=>A<P∧A≠C) s.sz (l.map pY) vs:=by
   intro l
   induction l with
   | nil=>intro vs hd;exact hd
   | cons t r ih=>
    intro vs hd;rw [List.map_cons] at hd ⊢;simp only [De] at hd ⊢;obtain ⟨x1,x2,e1,e2,e3,e4⟩:=hd;refine ⟨x1,x2,e1,e2,?_,ih _ e4⟩
    have:=jA7 e3
    subst this;exact pAu (wC (a:=[_]) (wAi h _ _) (wC (a:=[_]) (qJ h _ _) (wC (a:=[_]) (b:=[]) (wAi h _ _) (aX h _))))
  exact gen T vs hde
 have h4':ErrV h' P X v σ.2:=by
  cases he:σ.2 with
  | none=>rw [he] at h4;exact h4
  | some q=>
   rw [he] at h4;obtain ⟨A,g1,g2,g3⟩:=h4;refine ⟨A,g1,g2,g3.chg c fun hm=>?_⟩;rw [List.mem_singleton] at hm;subst hm
   have:=g3.1.symm.trans o.1
   simp [SL.av] at this
 exact ⟨⟨⟨s,v,h1.chg c (by simp;omega),(h2'.chg c (fun A hA=>by simp;exact hA.2)).weak fun A hA _=>hA.1,h3,h4'⟩,h5,fun A hA=>⟨(h6 A hA).1,Nat.lt_of_lt_of_le (h6 A hA).2 c.next⟩⟩,rJ c (by simp;omega) (by have:=o.2;omega) hp,p4⟩
end
end Qp
namespace Qp
structure ItS where
 d:Option (Bool×D)
 i:Nat
 e:Er3
 n:Nat
def cN (T:List Tok) (σ:St):ItS:=
 let p:=kB T [112,117,98] σ
 let at_:Int:=((tk T p.2.1).2.2:Int)
 let b:=kB T [115,116,114,117,99,116] p.2
 if b.1=true then ⟨some (true,(jF T p.1 at_ b.2).1),(jF T p.1 at_ b.2).2.1,inS at_ (jF T p.1 at_ b.2).2.2,0⟩ else
 let f:=kB T [102,110] b.2
 if f.1=true then ⟨some (false,(wI T p.1 at_ f.2).1),(wI T p.1 at_ f.2).2.1.1,inS at_ (wI T p.1 at_ f.2).2.1.2,(wI T p.1 at_ f.2).2.2⟩
 else ⟨none,(iF T 21 f.2).1,gAs (iF T 21 f.2).2,0⟩
theorem pBa:AppN E 22 72 5 1000:=AppN.of (by kernel_rfl)
theorem qBa:AppN E 23 44 10 1000:=AppN.of (by kernel_rfl)
def bAm (h0 h:Heap) (C:Nat) (xs ys:List D):Prop:=∃ v w,h.own C [SL.av v,SL.av w]∧OwV (fun A=>h0.next≤A∧w.blk≠some A) h v 5 xs∧OwV (fun A=>h0.next≤A∧v.blk≠some A) h w 10 ys
def rAc (d:Option (Bool×D)) (xs:List D):List D:=match d with | some (true,x)=>xs++[x] | _=>xs
def tAc (d:Option (Bool×D)) (ys:List D):List D:=match d with | some (false,y)=>ys++[y] | _=>ys
def PE (T:List Tok) (P:Nat) (h:Heap) (i:Nat) (e:Er3):Prop:=(∃ v,h.cell (P,3)=some v∧ErrW h v e)∧(e=none→∃ st,PC T P [] h (i,none) st)
section
variable {N:Nat} {T:List Tok} {P:Nat} {X:List Nat} {h:Heap} {σ:St} {st:Int}
theorem wAb (x:PC T P X h σ st) (at_:Int):∃ h',(rA (some (P,0)) fun q16=>
   (iA (.val zU2) (h.cell (q16.1,q16.2+3)) fun (x17:AV)=>
   (lA (f104 N x17 at_ h) fun (x18:AV) h19=>
   (rA (some (P,0)) fun q20=>
   (cE (AV.single x18)
   (rA (h19.store (q20.1,q20.2+3) [x18]) fun h21=>
   some ((()),h21)))))))=some ((),h')∧Chg [P] h h'∧PE T P h' σ.1 (inS at_ σ.2):=by
 obtain ⟨v,k3,hv⟩:=x.pa.readE;have hP:=x.P_lt;obtain ⟨v',h19,e19,c19,w19,s19⟩:=pB3 (N:=N) x.pin (by have:=x.p4;omega) hv at_;simp only [dA,Nat.zero_add,k3,fA,aE];rw [e19,aA,s19,mC];have x19:=x.chg c19;obtain ⟨⟨⟨s,v0,h1,h2,h3,h4⟩,h5,h6⟩,hp,p4⟩:=x19;have hst:h19.store (P,3) [v']=some (h19.put P (.row [SL.av s,.int .i64 (σ.1:Int),.int .i64 st,v'] .own)):=h1.store1 (j:=3) (by show 3<4;omega) _;rw [hst,dA];have cp:=h1.put [SL.av s,.int .i64 (σ.1:Int),.int .i64 st,v'];have hl:=h1.2;refine ⟨_,rfl,(c19.mono (by simp)).trans cp,⟨v',(yA h1 _).cell 3,w19.chg cp fun A hA=>by
  rw [List.mem_singleton] at hA;subst hA;exact ⟨_,_,h1,fun n=>by simp [SL.av]⟩⟩,fun he=>?_⟩
 obtain ⟨i,e⟩:=σ
 cases e with
 | some q=>obtain ⟨c,a⟩:=q;cases he
 | none=>
  have hv':v'=AV.nilIface:=w19;subst hv';exact ⟨st,⟨⟨⟨s,AV.nilIface,yA h1 _,h2.chg cp (fun A hA=>by simp;omega),h3,rfl⟩,h5,by simp⟩,rJ cp (by simp;omega) (by omega) hp,p4⟩⟩
theorem rBa (hT:Toks T) (hN:3000≤N) {h0:Heap} {C:Nat} {xs ys:List D} {i:Nat} (x:PC T P [] h (i,none) st) (hC:C<P∧4≤C) (hP0:P<h0.next) (ch:Chg [P,C] h0 h) (cr:bAm h0 h C xs ys) (hx:xs.length≤1000) (hy:ys.length≤1000) :
  ∃ h',f63 N (some (P,0)) (some (C,0)) h=some ((),h')∧Chg [P,C] h0 h'∧PE T P h' (cN T (i,none)).i (cN T (i,none)).e∧bAm h0 h' C (rAc (cN T (i,none)).d xs) (tAc (cN T (i,none)).d ys):=by
 unfold f63;obtain ⟨h2,e2,c2,x2⟩:=fI (N:=N) hT x (w:=[112,117,98]) (by decide);rw [e2,aA];simp only [cN];obtain ⟨h4,e4,c4⟩:=wM (N:=N) x2.pa;rw [e4,aA];have x4:=x2.chg c4;obtain ⟨h6,e6,c6,x6⟩:=fI (N:=N) hT x4 (w:=[115,116,114,117,99,116]) (by decide);rw [e6,aA];have c06:Chg [P] h h6:=(c2.trans (c4.mono (by simp))).trans c6;have ch6:=ch.trans (c06.mono (N:=[P,C]) (by simp));have crStep:∀ {h1 h2:Heap},Chg [P] h1 h2→bAm h0 h1 C xs ys→bAm h0 h2 C xs ys:=by
  rintro h1 h2 c ⟨v,w,o,w1,w2⟩;exact ⟨v,w,o.chg c (by simp;omega),w1.chg c (by intro A hA _;simp;omega),w2.chg c (by intro A hA _;simp;omega)⟩
 have cr6:=crStep c06 cr;have hn06:=ch6.next;generalize (kB T [112,117,98] (i,none)).1=pub at *;generalize (kB T [112,117,98] (i,none)).2=σ2 at *;simp only [kAi];generalize ((tk T σ2.1).2.2:Int)=at_ at *
 cases hb:(kB T [115,116,114,117,99,116] σ2).1 with
 | true=>
  obtain ⟨v,w,o6,w1,w2⟩:=cr6;have hs:=(eH hb).1;rw [hs] at x6;rw [hs];simp only [cond_true,if_true,dA,Nat.zero_add];have r6:h6.cell (C,0)=some (.slice v.a v.len v.cap v.sz):=o6.cell 0;simp only [r6,fA,uA];have hv:∀ A∈v.blk.toList,h0.next≤A∧A<h6.next∧w.blk≠some A:=fun A hA=>by
   have:=w1.ge A (by simpa using hA);exact ⟨this.1.1,this.2,this.1.2⟩
  have y6:PC T P v.blk.toList h6 (σ2.1+1,none) st:=x6.free fun A hA=>by have:=hv A hA;omega
  obtain ⟨r,h10,e10,x10,c10,d10⟩:=aB3 (N:=N) hT (by omega) y6 pub at_;rw [e10,aA];have o10:=o6.chg c10 (by simp;omega);have w1_10:=w1.chg c10 (by intro A hA _;simp;omega);have w2_10:=w2.chg c10 (by intro A hA _;simp;omega);have hn10:=c10.next;have hw:∀ A∈w.blk.toList,h0.next≤A∧A<h6.next:=fun A hA=>by have:=w2.ge A (by simpa using hA);exact ⟨this.1.1,this.2⟩
  obtain ⟨v',h13,eA,w1_13,c13,hb13⟩:=aI (cs:=stc r) pBa (by decide) w1_10 (d10.weak fun A hA _=>⟨⟨by omega,fun e=>by have:=hw A (by simpa using e);omega⟩,fun e=>by have:=hv A (by simpa using e);omega⟩) rfl (fun A hA=>⟨by omega,fun e=>by have:=hw A (by simpa using e);omega⟩) (by omega);have eA':fB E 22 22 (.slice v.a v.len v.cap v.sz) (.slice (some (h10.next,0)) 1 1 5) (h10.push (.row [(.bool r.1),(.str r.2.1),(.slice r.2.2.1.a r.2.2.1.len r.2.2.1.cap r.2.2.1.sz),(.slice r.2.2.2.1.a r.2.2.2.1.len r.2.2.2.1.cap r.2.2.2.1.sz),(.int .i64 r.2.2.2.2.1)] .own))=some (.slice v'.a v'.len v'.cap v'.sz,h13):=eA;rw [eA',wF,uA];have o13:=o10.chg c13 (fun hm=>by have:=hv C hm;omega);have o11:=o10.chg (qA h10 (.row (stc r) .own)) (by simp);have k11:(h10.push (.row [(.bool r.1),(.str r.2.1),(.slice r.2.2.1.a r.2.2.1.len r.2.2.1.cap r.2.2.1.sz),(.slice r.2.2.2.1.a r.2.2.2.1.len r.2.2.2.1.cap r.2.2.2.1.sz),(.int .i64 r.2.2.2.2.1)] .own)).cell (C,0)=some (.slice v.a v.len v.cap v.sz):=o11.cell 0;have k10:h10.cell (C,0)=some (.slice v.a v.len v.cap v.sz):=o10.cell 0;have hst:h13.store (C,0) [.slice v'.a v'.len v'.cap v'.sz]=some (h13.put C (.row [SL.av v',SL.av w] .own)):=o13.store1 (j:=0) (by show 0<2;omega) _;rw [hst,dA];simp only [k11,k10,r6,cD,cond_true,mC];have cp:=o13.put [SL.av v',SL.av w];have x13:=(x10.chgM c13 (fun A hA=>hA)).sub (X':=[]) (by simp);have x15:=x13.chgC o13 hC cp;have ch13:Chg [P,C] h0 h13:=(ch6.trans (c10.mono (by simp))).step c13 (fun A hA hl=>by have:=hv A hA;omega);have ch15:=ch13.trans (cp.mono (N:=[P,C]) (by simp));have w2_13:OwV (fun A=>h0.next≤A∧v'.blk≠some A) h13 w 10 ys:=by
   have a1:OwV (fun A=>(h0.next≤A∧v.blk≠some A)∧A<h10.next) h10 w 10 ys:=w2_10.weak fun A hA hl=>⟨hA,hl⟩;have a2:=a1.chg c13 (by intro A hA _ hm;exact hA.1.2 (by simpa using hm));exact a2.weak fun A hA _=>⟨hA.1.1,fun e=>by rcases hb13 A e with e | e;exact hA.1.2 e;omega⟩
  have hn13:=ch13.next;have cr15:bAm h0 (h13.put C (.row [SL.av v',SL.av w] .own)) C (xs++[(jF T pub at_ (σ2.1+1,none)).1]) ys:=⟨v',w,yA o13 _,w1_13.chg cp (by intro A hA _;simp;omega),w2_13.chg cp (by intro A hA _;simp;omega)⟩;obtain ⟨h21,e21,c21,pe⟩:=wAb (N:=N) x15 at_;simp only [dA,Nat.zero_add] at e21;refine ⟨h21,e21,ch15.trans (c21.mono (by simp)),pe,?_⟩;obtain ⟨v1,w1',o1,z1,z2⟩:=cr15;exact ⟨v1,w1',o1.chg c21 (by simp;omega),z1.chg c21 (by intro A hA _;simp;omega),z2.chg c21 (by intro A hA _;simp;omega)⟩
 | false=>
 rw [wD hb] at x6 ⊢;simp only [cond_false,Bool.false_eq_true,if_false];obtain ⟨h23,e23,c23,x23⟩:=fI (N:=N) hT x6 (w:=[102,110]) (by decide);rw [e23,aA];have cr23:=crStep c23 cr6;have ch23:=ch6.trans (c23.mono (N:=[P,C]) (by simp));have hn23:=ch23.next
 cases hb2:(kB T [102,110] σ2).1 with
 | true=>
  obtain ⟨v,w,o6,w1,w2⟩:=cr23;have hs:=(eH hb2).1;rw [hs] at x23;rw [hs];simp only [cond_true,if_true,dA,Nat.zero_add];have r6:h23.cell (C,1)=some (.slice w.a w.len w.cap w.sz):=o6.cell 1;simp only [r6,fA,uA];have hv:∀ A∈v.blk.toList,h0.next≤A∧A<h23.next:=fun A hA=>by have:=w1.ge A (by simpa using hA);exact ⟨this.1.1,this.2⟩
  have hw:∀ A∈w.blk.toList,h0.next≤A∧A<h23.next∧v.blk≠some A:=fun A hA=>by
   have:=w2.ge A (by simpa using hA);exact ⟨this.1.1,this.2,this.1.2⟩
  have y6:PC T P w.blk.toList h23 (σ2.1+1,none) st:=x23.free fun A hA=>by have:=hw A hA;omega
  obtain ⟨r,h10,e10,x10,c10,d10⟩:=oB3 (N:=N) hT hN y6 pub at_;rw [e10,aA];have o10:=o6.chg c10 (by simp;omega);have w1_10:=w1.chg c10 (by intro A hA _;simp;omega);have w2_10:=w2.chg c10 (by intro A hA _;simp;omega);have hn10:=c10.next;obtain ⟨w',h13,eA,w2_13,c13,hb13⟩:=aI (cs:=fux r) qBa (by decide) w2_10 (d10.weak fun A hA _=>⟨⟨by omega,fun e=>by have:=hv A (by simpa using e);omega⟩,fun e=>by have:=hw A (by simpa using e);omega⟩) rfl (fun A hA=>⟨by omega,fun e=>by have:=hv A (by simpa using e);omega⟩) (by omega);have eA':fB E 23 23 (.slice w.a w.len w.cap w.sz) (.slice (some (h10.next,0)) 1 1 10) (h10.push (.row [(.bool r.1),(.str r.2.1),(.slice r.2.2.1.a r.2.2.1.len r.2.2.1.cap r.2.2.1.sz),(.slice r.2.2.2.1.a r.2.2.2.1.len r.2.2.2.1.cap r.2.2.2.1.sz),(.int .i64 r.2.2.2.2.1),(.str r.2.2.2.2.2.1),(.slice r.2.2.2.2.2.2.1.a r.2.2.2.2.2.2.1.len r.2.2.2.2.2.2.1.cap r.2.2.2.2.2.2.1.sz),(.slice r.2.2.2.2.2.2.2.1.a r.2.2.2.2.2.2.2.1.len r.2.2.2.2.2.2.2.1.cap r.2.2.2.2.2.2.2.1.sz),(.slice r.2.2.2.2.2.2.2.2.1.a r.2.2.2.2.2.2.2.2.1.len r.2.2.2.2.2.2.2.2.1.cap r.2.2.2.2.2.2.2.2.1.sz),(.int .i64 r.2.2.2.2.2.2.2.2.2.1)] .own))=some (.slice w'.a w'.len w'.cap w'.sz,h13):=eA;rw [eA',wF,uA];have o13:=o10.chg c13 (fun hm=>by have:=hw C hm;omega);have o11:=o10.chg (qA h10 (.row (fux r) .own)) (by simp);have k11:(h10.push (.row [(.bool r.1),(.str r.2.1),(.slice r.2.2.1.a r.2.2.1.len r.2.2.1.cap r.2.2.1.sz),(.slice r.2.2.2.1.a r.2.2.2.1.len r.2.2.2.1.cap r.2.2.2.1.sz),(.int .i64 r.2.2.2.2.1),(.str r.2.2.2.2.2.1),(.slice r.2.2.2.2.2.2.1.a r.2.2.2.2.2.2.1.len r.2.2.2.2.2.2.1.cap r.2.2.2.2.2.2.1.sz),(.slice r.2.2.2.2.2.2.2.1.a r.2.2.2.2.2.2.2.1.len r.2.2.2.2.2.2.2.1.cap r.2.2.2.2.2.2.2.1.sz),(.slice r.2.2.2.2.2.2.2.2.1.a r.2.2.2.2.2.2.2.2.1.len r.2.2.2.2.2.2.2.2.1.cap r.2.2.2.2.2.2.2.2.1.sz),(.int .i64 r.2.2.2.2.2.2.2.2.2.1)] .own)).cell (C,1)=some (.slice w.a w.len w.cap w.sz):=o11.cell 1;have k10:h10.cell (C,1)=some (.slice w.a w.len w.cap w.sz):=o10.cell 1;have hst:h13.store (C,1) [.slice w'.a w'.len w'.cap w'.sz]=some (h13.put C (.row [SL.av v,SL.av w'] .own)):=o13.store1 (j:=1) (by show 1<2;omega) _;rw [hst,dA];simp only [k11,k10,r6,cD,cond_true,mC];have cp:=o13.put [SL.av v,SL.av w'];have x13:=(x10.chgM c13 (fun A hA=>hA)).sub (X':=[]) (by simp);have x15:=x13.chgC o13 hC cp;have ch13:Chg [P,C] h0 h13:=(ch23.trans (c10.mono (by simp))).step c13 (fun A hA hl=>by have:=hw A hA;omega);have ch15:=ch13.trans (cp.mono (N:=[P,C]) (by simp));have w1_13:OwV (fun A=>h0.next≤A∧w'.blk≠some A) h13 v 5 xs:=by
   have a1:OwV (fun A=>(h0.next≤A∧w.blk≠some A)∧A<h10.next) h10 v 5 xs:=w1_10.weak fun A hA hl=>⟨hA,hl⟩;have a2:=a1.chg c13 (by intro A hA _ hm;exact hA.1.2 (by simpa using hm));exact a2.weak fun A hA _=>⟨hA.1.1,fun e=>by rcases hb13 A e with e | e;exact hA.1.2 e;omega⟩
  have hn13:=ch13.next;have cr15:bAm h0 (h13.put C (.row [SL.av v,SL.av w'] .own)) C xs (ys++[(wI T pub at_ (σ2.1+1,none)).1]):=⟨v,w',yA o13 _,w1_13.chg cp (by intro A hA _;simp;omega),w2_13.chg cp (by intro A hA _;simp;omega)⟩;obtain ⟨h21,e21,c21,pe⟩:=wAb (N:=N) x15 at_;simp only [dA,Nat.zero_add] at e21;refine ⟨h21,e21,ch15.trans (c21.mono (by simp)),pe,?_⟩;obtain ⟨v1,w1',o1,z1,z2⟩:=cr15;exact ⟨v1,w1',o1.chg c21 (by simp;omega),z1.chg c21 (by intro A hA _;simp;omega),z2.chg c21 (by intro A hA _;simp;omega)⟩
 | false=>
  rw [wD hb2] at x23 ⊢;simp only [cond_false,Bool.false_eq_true,if_false];obtain ⟨h40,e40,c40,x40⟩:=uAi (N:=N) x23 (c:=21) (by decide);rw [e40,aA];obtain ⟨v,k3,hv⟩:=x40.pa.readE;refine ⟨h40,rfl,ch23.trans (c40.mono (by simp)),⟨⟨v,k3,?_⟩,fun he=>?_⟩,crStep c40 cr23⟩
  ·cases hh:(iF T 21 σ2).2 with
   | none=>rw [hh] at hv;exact hv
   | some q=>
    rw [hh] at hv;obtain ⟨A,g1,_,g3⟩:=hv;exact ⟨A,g1,g3⟩
  ·have:=jO T 21 σ2
   cases hh:(iF T 21 σ2).2 with
   | none=>rw [hh] at this;cases this
   | some q=>rw [hh] at he;cases he
end
end Qp
namespace Qp
def nE (T:List Tok):Nat→Nat→(List D×List D)×Er3
 | 0,i=>if (tk T i).1=0 then (([],[]),none) else (([],[]),gAs (iF T 5 (i,none)).2)
 | f+1,i=>if (tk T i).1=0 then (([],[]),none) else
  let z:=cN T (i,none)
  match z.e with
  | some q=>(([],[]),some q)
  | none=>let r:=nE T f z.i;((rAc z.d []++r.1.1,tAc z.d []++r.1.2),r.2)
def eAj (T:List Tok):(List D×List D)×Er3:=
 let r:=nE T 256 0
 match r.2 with
 | some q=>(([],[]),some q)
 | none=>(r.1,none)
def bG (N:Nat) (s:Bs):(List D×List D)×Er3:=match gAb N s with
 | .inr a=>(([],[]),some (20,(a:Int),none))
 | .inl T=>eAj T
theorem mAw (d:Option (Bool×D)) (xs:List D):rAc d xs=xs++rAc d []:=by
 unfold rAc;split <;> simp
theorem nAw (d:Option (Bool×D)) (ys:List D):tAc d ys=ys++tAc d []:=by
 unfold tAc;split <;> simp
theorem fAj (d:Option (Bool×D)) (xs:List D):(rAc d xs).length≤xs.length+1:=by
 unfold rAc;split <;> simp
theorem gAj (d:Option (Bool×D)) (ys:List D):(tAc d ys).length≤ys.length+1:=by
 unfold tAc;split <;> simp
section
variable {N:Nat} {T:List Tok} {P:Nat} {X:List Nat} {h:Heap} {σ:St} {st:Int}
theorem ErrW.eq {h:Heap} {v:AV} {e:Er3} (x:ErrW h v e) (k:Nat):oK E .eql 29 (.tmp k) (.const .nilIface) v AV.nilIface=some (.bool e.isNone):=by
 match e with
 | none=>rw [show v=AV.nilIface from x];exact eq_nil k
 | some (c,a,none)=>obtain ⟨A,h1,_⟩:=x;rw [h1];exact mP k _
 | some (c,a,some b)=>obtain ⟨A,B,h1,_⟩:=x;rw [h1];exact mP k _
theorem ErrW.ne {h:Heap} {v:AV} {e:Er3} (x:ErrW h v e) (k:Nat):oK E .neq 29 (.tmp k) (.const .nilIface) v AV.nilIface=some (.bool e.isSome):=by
 match e with
 | none=>rw [show v=AV.nilIface from x];exact ne_nil k
 | some (c,a,none)=>obtain ⟨A,h1,_⟩:=x;rw [h1];exact pP k _
 | some (c,a,some b)=>obtain ⟨A,B,h1,_⟩:=x;rw [h1];exact pP k _
theorem PE.of (x:PC T P X h σ st) (hx:σ.2.isSome=true):PE T P h σ.1 (gAs σ.2):=by
 obtain ⟨v,k3,hv⟩:=x.pa.readE;refine ⟨⟨v,k3,?_⟩,fun he=>?_⟩
 ·cases hh:σ.2 with
  | none=>rw [hh] at hv;exact hv
  | some q=>
   rw [hh] at hv;obtain ⟨A,g1,_,g3⟩:=hv;exact ⟨A,g1,g3⟩
 ·cases hh:σ.2 with
  | none=>rw [hh] at hx;cases hx
  | some q=>rw [hh] at he;cases he
theorem cAm (hT:Toks T) (hN:3000≤N) {h0:Heap} {C:Nat} {R:zO2} (hC:C<P∧4≤C) (hP0:P<h0.next):∀ (f M:Nat) (h:Heap) (i:Nat) (st:Int) (xs ys:List D),f+1<M→f≤256→xs.length+f≤256→ys.length+f≤256→PC T P [] h (i,none) st→Chg [P,C] h0 h→bAm h0 h C xs ys→
  ∃ h' xs' ys',tAi N M R (some (C,0)) (some (P,0)) ((256-f:Nat):Int) h=some (.exit 0,(R,some (C,0),some (P,0),()),h')∧Chg [P,C] h0 h'∧bAm h0 h' C xs' ys'∧(∃ v,h'.cell (P,3)=some v∧ErrW h' v (nE T f i).2)∧((nE T f i).2=none→xs'=xs++(nE T f i).1.1∧ys'=ys++(nE T f i).1.2):=by
 intro f
 induction f with
 | zero=>
  intro M h i st xs ys hM hf hx hy x ch cr;obtain ⟨M,rfl⟩:∃ m,M=m+1:=⟨M-1,by omega⟩;rw [pR];unfold yT;obtain ⟨v,k3,hv⟩:=x.pa.readE;have hv:v=AV.nilIface:=hv;subst hv;simp only [dA,Nat.zero_add,k3,fA,aE,eq_nil,wB,cond_true];obtain ⟨h13,e13,c13⟩:=wM (N:=N) x.pa;rw [e13,aA];have x13:=x.chg c13;have ch13:=ch.trans (c13.mono (N:=[P,C]) (by simp));have crS:∀ {h1 h2:Heap},Chg [P] h1 h2→bAm h0 h1 C xs ys→bAm h0 h2 C xs ys:=by
   rintro h1 h2 c ⟨v,w,o,w1,w2⟩;exact ⟨v,w,o.chg c (by simp;omega),w1.chg c (by intro A hA _;simp;omega),w2.chg c (by intro A hA _;simp;omega)⟩
  have cr13:=crS (c13.mono (by simp)) cr;simp only [kAi,eqI,nE]
  by_cases q:(tk T i).1=0
  ·simp only [q,decide_true,Bool.not_true,cond_false,if_true]
   obtain ⟨v,k3,hv⟩:=x13.pa.readE;exact ⟨h13,xs,ys,rfl,ch13,cr13,⟨v,k3,hv⟩,fun _=>⟨by simp,by simp⟩⟩
  ·simp only [q,decide_false,Bool.not_false,cond_true,if_false,show decide (((256-0:Nat):Int)=256)=true from rfl]
   obtain ⟨h17,e17,c17,x17⟩:=uAi (N:=N) x13 (c:=5) (by decide);rw [e17,aA];have pe:=PE.of x17 (jO T 5 (i,none));exact ⟨h17,xs,ys,rfl,ch13.trans (c17.mono (by simp)),crS c17 cr13,pe.1,fun h=>by cases h⟩
 | succ f ih=>
  intro M h i st xs ys hM hf hx hy x ch cr;obtain ⟨M,rfl⟩:∃ m,M=m+1:=⟨M-1,by omega⟩;rw [pR];unfold yT;obtain ⟨v,k3,hv⟩:=x.pa.readE;have hv:v=AV.nilIface:=hv;subst hv;simp only [dA,Nat.zero_add,k3,fA,aE,eq_nil,wB,cond_true];obtain ⟨h13,e13,c13⟩:=wM (N:=N) x.pa;rw [e13,aA];have x13:=x.chg c13;have ch13:=ch.trans (c13.mono (N:=[P,C]) (by simp));have crS:∀ {h1 h2:Heap},Chg [P] h1 h2→bAm h0 h1 C xs ys→bAm h0 h2 C xs ys:=by
   rintro h1 h2 c ⟨v,w,o,w1,w2⟩;exact ⟨v,w,o.chg c (by simp;omega),w1.chg c (by intro A hA _;simp;omega),w2.chg c (by intro A hA _;simp;omega)⟩
  have cr13:=crS (c13.mono (by simp)) cr;simp only [kAi,eqI,nE]
  by_cases q:(tk T i).1=0
  ·simp only [q,decide_true,Bool.not_true,cond_false,if_true]
   obtain ⟨v,k3,hv⟩:=x13.pa.readE;exact ⟨h13,xs,ys,rfl,ch13,cr13,⟨v,k3,hv⟩,fun _=>⟨by simp,by simp⟩⟩
  ·have hne:decide (((256-(f+1):Nat):Int)=256)=false:=decide_eq_false (by omega)
   simp only [q,decide_false,Bool.not_false,cond_true,if_false,hne,cond_false];obtain ⟨h19,e19,ch19,pe,cr19⟩:=rBa (N:=N) hT hN x13 hC hP0 ch13 cr13 (by omega) (by omega);rw [e19,aA];rw [iB (by omega),show 256-(f+1)+1=256-f by omega];generalize cN T (i,none)=z at *
   cases he:z.e with
   | some q=>
    rw [he] at pe;obtain ⟨⟨v,k3,hv⟩,_⟩:=pe
    -- the loop ends at once
    obtain ⟨M,rfl⟩:∃ m,M=m+1:=⟨M-1,by omega⟩;rw [pR];unfold yT;simp only [dA,Nat.zero_add,k3,fA,aE,hv.eq 24,wB,Option.isNone_some,cond_false];exact ⟨h19,_,_,rfl,ch19,cr19,⟨v,k3,hv⟩,fun h=>by cases h⟩
   | none=>
    obtain ⟨st',x19⟩:=pe.2 he;have l1:=fAj z.d xs;have l2:=gAj z.d ys;obtain ⟨h',xs',ys',e',ch',cr',er',hres⟩:=ih M h19 z.i st' (rAc z.d xs) (tAc z.d ys) (by omega) (by omega) (by omega) (by omega) x19 ch19 cr19;refine ⟨h',xs',ys',e',ch',cr',er',fun h=>?_⟩;obtain ⟨h1,h2⟩:=hres h;rw [mAw] at h1;rw [nAw] at h2;exact ⟨by rw [h1,List.append_assoc],by rw [h2,List.append_assoc]⟩
abbrev CrV:=SL×SL×Unit
theorem wBi {β:Type} (r:CrV) (K:CrV→Option β):iA (.val zK) (some (.agg [SL.av r.1,SL.av r.2.1])) K=K r:=by
 obtain ⟨x1,x2,_⟩:=r;simp [SL.av]
theorem cX {H:Heap} {A:Nat} {v w:SL} (o:H.own A [SL.av v,SL.av w]) {β:Type} (K:CrV→Option β):iA (.val zK) (H.cells (A,0) 2) K=K (v,w,()):=by
 have:H.cells (A,0) 2=some (.agg [SL.av v,SL.av w]):=o.cells (j:=0) (m:=2) (Nat.le_refl _)
 rw [this,wBi (v,w,())]
theorem iAj {s:Bs} (hs:s.length≤1000000) (hN:s.length<N) (hN2:3000≤N) (hp:Qw.pinned h=true) (h4:4≤h.next) :
  ∃ v w e h',f27 N s h=some (((v,w,()),e,()),h')∧Chg [] h h'∧Sl h' (fun A=>h.next≤A) v (bG N s).1.1∧Sl h' (fun A=>h.next≤A) w (bG N s).1.2∧ErrW h' e (bG N s).2:=by
 unfold f27 bG;have o1:=vA h [SL.av sl0,SL.av sl0];have c1:=qA h (.row [SL.av sl0,SL.av sl0] .own);have e1:h.push (.row [(.slice none 0 0 0),(.slice none 0 0 0)] .own)=h.push (.row [SL.av sl0,SL.av sl0] .own):=rfl;have n1:(h.push (.row [SL.av sl0,SL.av sl0] .own)).next=h.next+1:=rfl;rw [e1];generalize h.push (.row [SL.av sl0,SL.av sl0] .own)=h1 at *;dsimp only;obtain ⟨r2,h3,e3,c3,p3⟩:=qAy (by omega) hN (by omega) h1;rw [e3,aA];have o3:=o1.chg c3 (by simp);have c03:=c1.trans c3;have hn3:=c3.next
 cases hl:gAb N s with
 | inr a=>
  rw [hl] at p3;obtain ⟨F,f1,f2⟩:=p3;rw [f1,pP];simp only [fA,wB,cond_true];have hne:=aAr o3 f2 (by show (2:Nat)≠3;decide);have cp:=o3.put [SL.av sl0,SL.av sl0];have hst:h3.store (h.next,0) [(.slice none 0 0 0),(.slice none 0 0 0)]=some (h3.put h.next (.row [SL.av sl0,SL.av sl0] .own)):=o3.store rfl;rw [hst,dA,cX (yA o3 _)];exact ⟨sl0,sl0,_,_,rfl,c03.put (.inr (Nat.le_refl _)) _,Sl.nil _ _ _,Sl.nil _ _ _,F,rfl,f2.chg cp (by simpa using fun e=>hne e.symm)⟩
 | inl T=>
  rw [hl] at p3;obtain ⟨pe,po,pl⟩:=p3;obtain ⟨hT,hT0⟩:=nAb (by omega) hl (by omega);rw [pe,ne_nil];simp only [fA,wB,cond_false];have sl3:=po.sl;have hz:r2.1.sz=3:=by
   rcases po with ⟨_,_,_,h4⟩ | ⟨A,cs,st',vs,_,h2,_⟩
   ·have:T.length=0:=by rw [← List.length_map (f:=pY),h4];rfl
    omega
   ·exact h2
  have oC:=vA h3 [SL.av sl0,SL.av sl0];have cC:=qA h3 (.row [SL.av sl0,SL.av sl0] .own);have eC:h3.push (.row [(.slice none 0 0 0),(.slice none 0 0 0)] .own)=h3.push (.row [SL.av sl0,SL.av sl0] .own):=rfl;have nC:(h3.push (.row [SL.av sl0,SL.av sl0] .own)).next=h3.next+1:=rfl;rw [eC];have o7:=o3.chg cC (by simp);have sl7:=(sl3.weak (W:=fun A=>A<h3.next) (fun C _ hlt=>hlt)).chg cC (by simp);generalize h3.push (.row [SL.av sl0,SL.av sl0] .own)=h7 at *;have oP:=vA h7 [SL.av r2.1,.int .i64 0,.int .i64 0,AV.nilIface];have cP:=qA h7 (.row [SL.av r2.1,.int .i64 0,.int .i64 0,AV.nilIface] .own);have eP:h7.push (.row [(.slice r2.1.a r2.1.len r2.1.cap r2.1.sz),(.int .i64 0),(.int .i64 0),AV.nilIface] .own)=h7.push (.row [SL.av r2.1,.int .i64 0,.int .i64 0,AV.nilIface] .own):=rfl;have nP:(h7.push (.row [SL.av r2.1,.int .i64 0,.int .i64 0,AV.nilIface] .own)).next=h7.next+1:=rfl;rw [eP];have oC8:=oC.chg cP (by simp);have o8:=o7.chg cP (by simp);have c08:=(c03.trans cC).trans cP;have p8:=rJ c08 (by simp) h4 hp;have sl8:=(sl7.weak (W:=fun A=>A<h7.next) (fun A hA _=>by omega)).chg cP (by simp);generalize h7.push (.row [SL.av r2.1,.int .i64 0,.int .i64 0,AV.nilIface] .own)=h8 at *;have x8:PC T h7.next [] h8 (0,none) 0:=⟨⟨⟨r2.1,AV.nilIface,oP,sl8,hz,rfl⟩,hT0,by simp⟩,p8,by omega⟩;have cr8:bAm h8 h8 h3.next [] []:=⟨sl0,sl0,oC8,OwV.nil _ _ _ _,OwV.nil _ _ _ _⟩;obtain ⟨h23,xs',ys',e23,c23,⟨v,w,o23,w1,w2⟩,⟨er,k23,her⟩,hres⟩:=cAm (N:=N) hT hN2 (R:=some (h.next,0)) (C:=h3.next) (P:=h7.next) (by omega) (by omega) 256 N h8 0 0 [] [] (by omega) (Nat.le_refl _) (by simp) (by simp) x8 (Chg.refl _ _) cr8;rw [show ((256-256:Nat):Int)=0 from rfl] at e23;rw [e23];simp only [pB,dA,Nat.zero_add,k23,fA,aE,her.ne 43,wB,eAj];have o23':=o8.chg c23 (by simp;omega);have c023:Chg [] h h23:=c08.step c23 (fun A hA hl=>by simp only [List.mem_cons,List.not_mem_nil,or_false] at hA;omega);have hn8:=c23.next;have herC:∀ {hh:Heap} {vs:List AV},Chg [h.next] h23 hh→ErrW hh er (nE T 256 0).2:=fun c=>her.chg c fun A hA=>by
   rw [List.mem_singleton] at hA;subst hA;exact ⟨_,_,o23',fun n=>by simp [SL.av]⟩
  cases he:(nE T 256 0).2 with
  | some q=>
   simp only [Option.isSome_some,cond_true];have hst:h23.store (h.next,0) [(.slice none 0 0 0),(.slice none 0 0 0)]=some (h23.put h.next (.row [SL.av sl0,SL.av sl0] .own)):=o23'.store rfl;rw [hst,dA];have cp:=o23'.put [SL.av sl0,SL.av sl0];have hPP:∀ x,h23.cell (h7.next,3)=some x→(h23.put h.next (.row [SL.av sl0,SL.av sl0] .own)).cell (h7.next,3)=some x:=by
    intro x hx;rw [Heap.cell_g,cp.g h7.next (by have:=c23.next;omega) (by simp;omega),← Heap.cell_g];exact hx
   rw [hPP _ k23];simp only [cD,cond_true,mC];rw [cX (yA o23' _)];exact ⟨sl0,sl0,er,_,rfl,c023.put (.inr (Nat.le_refl _)) _,Sl.nil _ _ _,Sl.nil _ _ _,by rw [← he];exact herC (vs:=[]) cp⟩
  | none=>
   obtain ⟨hx1,hy1⟩:=hres he;rw [List.nil_append] at hx1 hy1;subst hx1;subst hy1;simp only [Option.isSome_none,cond_false];rw [cX o23];have hst:h23.store (h.next,0) [(.slice v.a v.len v.cap v.sz),(.slice w.a w.len w.cap w.sz)]=some (h23.put h.next (.row [SL.av v,SL.av w] .own)):=o23'.store rfl;rw [hst,dA,cX (yA o23' _)];have cp:=o23'.put [SL.av v,SL.av w];refine ⟨v,w,AV.nilIface,_,rfl,c023.put (.inr (Nat.le_refl _)) _,?_,?_,rfl⟩
   ·exact (w1.sl.chg cp (fun A hA=>by have:=hA.1;simp;omega)).weak fun A hA _=>by have:=hA.1;omega
   ·exact (w2.sl.chg cp (fun A hA=>by have:=hA.1;simp;omega)).weak fun A hA _=>by have:=hA.1;omega
end
end Qp
namespace Qp
structure Cut (T' T:List Tok) (E:Nat) (Bd:Int×Int→Prop):Prop where
 k:(tk T' E).1=0
 lt:∀ i,i<E→tk T' i=tk T i
 bad:Bd (21,((tk T' E).2.2:Int))
def bnd {σ α β:Type} (f:σ→α×σ) (g:α→σ→β×σ):σ→β×σ:=fun s=>g (f s).1 (f s).2
def jI {σ α β:Type} (h:α→β) (f:σ→α×σ):σ→β×σ:=fun s=>(h (f s).1,(f s).2)
def oM {σ α:Type} (x:α):σ→α×σ:=fun s=>(x,s)
section
variable {α β γ:Type} {σ:Type} (st:σ→St) (inv:σ→Prop) (E:Nat) (Bd:Int×Int→Prop)
def bBi (s:σ):Prop:=∃ j e,st s=(j,some e)∧Bd e
def yBi (F:σ→α×σ):Prop:=∀ s,(st (F s).2).2.isSome=true
def AtE (s:σ):Prop:=st s=(E,none)∧inv s
def RA (F' F:σ→α×σ) (s:σ):Prop:=F' s=F s∧(st (F s).2).2=none∧(st (F s).2).1≤E∧inv (F s).2
def RB (F' F:σ→α×σ) (s:σ):Prop:=∃ j e,st (F' s).2=(j,some e)∧((st (F s).2).2.isSome=true∨Bd e)
structure GD (F' F:σ→α×σ):Prop where
 e':∀ s,(st s).2.isSome=true→st (F' s).2=st s
 e:∀ s,(st s).2.isSome=true→st (F s).2=st s
 c:∀ s,AtE st inv E s→AtE st inv E (F' s).2∨bBi st Bd (F' s).2∨((st (F' s).2).2.isSome=true∧yBi st F)
 a:∀ s,(st s).2=none→(st s).1<E→inv s→RA st inv E F' F s∨RB st Bd F' F s∨AtE st inv E (F' s).2
structure G (F' F:σ→α×σ):Prop extends GD st inv E Bd F' F where
 c1:∀ s,AtE st inv E s→AtE st inv E (F' s).2∨bBi st Bd (F' s).2
end
section
variable {α β γ:Type} {σ:Type} {st:σ→St} {inv:σ→Prop} {E:Nat} {Bd:Int×Int→Prop}
end
section
variable {T' T:List Tok} {E:Nat} {Bd:Int×Int→Prop} {α:Type}
theorem oAw {T:List Tok} (w:Bs) (i:Nat):gD T w (i,none)=if isS T w i=true then (i+1,none) else (i,some (21,((tk T i).2.2:Int))):=by
 by_cases h:isS T w i=true <;> simp [gD,kB,iF,h]
def lH (T:List Tok) (w:Bs):St→Unit×St:=fun σ=>((),gD T w σ)
def dAm (T:List Tok) (c:Int) (x:α):St→α×St:=fun σ=>(x,iF T c σ)
def yM (T:List Tok) (w:Bs) (Y X:St→α×St):St→α×St:=fun σ=>if (kB T w σ).1=true then Y (kB T w σ).2 else X (kB T w σ).2
end
end Qp
namespace Qp
section
variable {T' T:List Tok} {E:Nat} {Bd:Int×Int→Prop}
end
end Qp
set_option maxRecDepth 100000
namespace Qp
open Go.ChangeShapes Go.WideShapes
open Go.Proofs.YtkcjphhjmlienaaGreatDoor
section
variable {H:Type} {P:Program} {h:Heap} {S:List TypeId}
end
end Qp
namespace Qp
inductive PT where
 | int | bool | st (nm:Bs) (lv:List Bs) | ref (mu:Bool) (lv:List Bs) (t:PT)
end Qp
namespace Qp
end Qp
namespace Qp
section
variable {N:Nat} {h:Heap} {V:Nat→Prop}
end
end Qp
namespace Qp
abbrev KT:=Int×Bs
def kt (q:Tok):KT:=(q.1,q.2.1)
def Lx (t:Bs) (ks:List KT):Prop:=∀ (M a:Nat),t.length<M→∃ l,qY M t a=.inl l∧l.map kt=ks
def LxB (t:Bs) (ks:List KT):Prop:=Lx (t.drop (aC false t)) ks
theorem Lx.nil:Lx [] []:=fun M a hM=>by
 obtain ⟨M,rfl⟩:∃ m,M=m+1:=⟨M-1,by omega⟩;exact ⟨[],rfl,rfl⟩
theorem Lx.cons {t x:Bs} {k:Int} {n:Nat} {ks:List KT} (h:uC t=some (k,x,n)) (r:LxB (t.drop n) ks):Lx t ((k,x)::ks):=fun M a hM=>by
 obtain ⟨M,rfl⟩:∃ m,M=m+1:=⟨M-1,by omega⟩
 cases t with
 | nil=>cases h
 | cons c q=>
  have hn:=rF h;obtain ⟨l,h1,h2⟩:=r M (a+(n+aC false ((c::q).drop n))) (by rw [List.length_drop,List.length_drop];omega);rw [List.drop_drop] at h1;refine ⟨(k,x,a)::l,?_,by simp [kt,h2]⟩;simp only [qY,h,h1]
def noB (t:Bs):Prop:=aC false t=0
theorem pAw {c:UInt8} {r:Bs} (h1:oF c=false) (h2:c.toNat≠47):noB (c::r):=by
 have:nH [47,47] (c::r)=false:=by
  cases e:nH [47,47] (c::r) with
  | false=>rfl
  | true=>exact absurd (uAp e).1 h2
 simp [noB,aC,h1,this]
def brk (t:Bs):Prop:=dI uL t=false
end Qp
namespace Qp
def dU:Er3→Int×Int
 | none=>(0,0)
 | some (c,a,none)=>(c,a)
 | some (c,_,some b)=>(c,b)
section
variable {N:Nat} {h:Heap}
theorem jAs {B:Nat} {c a b k:Int} {M:Nat} (o:h.own B [.int .i64 c,.int .i64 a,AV.iface 78 (.int .i64 k)]) (v6 v7:Int) {n:Int} (hn:n<200):∃ o',fAi N (M+1) (some (B,0)) v6 v7 n h=some (o',(v6,v7,()),h):=by
 have k2:h.cell (B,2)=some (AV.iface 78 (.int .i64 k)):=o.cell 2;rw [eA1];unfold oY
 have:qB n 200=true:=by rw [ltI];exact decide_eq_true hn
 rw [this];simp only [cond_true,dA,Nat.zero_add,k2,fA,aE];rw [pAi];simp only [Bool.not_false,cond_true];exact ⟨_,rfl⟩
theorem qB3 {v:AV} {e:Er3} (x:ErrW h v e) (hN:10≤N):f29 N v h=some (((dU e).1,(dU e).2,()),h):=by
 unfold f29;obtain ⟨N,rfl⟩:∃ m,N=m+2:=⟨N-2,by omega⟩
 match e with
 | none=>rw [show v=AV.nilIface from x,eq_nil];rfl
 | some (c,a,none)=>
  obtain ⟨F,f1,f2⟩:=x;rw [f1,mP];simp only [fA,wB,cond_false];rw [rT];have k0:h.cell (F,0)=some (.int .i64 c):=f2.cell 0;have k1:h.cell (F,1)=some (.int .i64 a):=f2.cell 1;simp only [Bool.not_true,cond_false,Option.isNone_some,dA,Nat.add_zero,Nat.zero_add,k0,k1,fA,yC];obtain ⟨o',e'⟩:=jAs (N:=N+2) (M:=N+1) (b:=0) f2 c a (n:=0) (by omega);rw [e'];rfl
 | some (c,a,some b)=>
  obtain ⟨A,B,f1,f2,f3⟩:=x;rw [f1,mP];simp only [fA,wB,cond_false];rw [rT];have k0:h.cell (A,0)=some (.int .i64 c):=f2.cell 0;have k1:h.cell (A,1)=some (.int .i64 a):=f2.cell 1;have k2:h.cell (A,2)=some (AV.iface 127 (.ptr (some (B,0)))):=f2.cell 2;have j1:h.cell (B,1)=some (.int .i64 b):=f3.cell 1;simp only [Bool.not_true,cond_false,Option.isNone_some,dA,Nat.add_zero,Nat.zero_add,k0,k1,fA,yC];rw [eA1];unfold oY;rw [show qB 0 200=true from rfl];simp only [cond_true,dA,Nat.zero_add,k2,fA,aE];rw [rT];simp only [Bool.not_true,cond_false,Option.isNone_some,dA,Nat.zero_add,j1,fA,yC];rw [show wA .i64 (0+1)=1 from rfl];obtain ⟨o',e'⟩:=jAs (N:=N+2) (M:=N) (b:=0) f3 c b (n:=1) (by omega);rw [e'];rfl
theorem gBg {v:AV} {e:Er3} (x:ErrW h v e) (hN:10≤N) (c a:Int):f18 N v c a h=some (decide (dU e=(c,a)),h):=by
 unfold f18;rw [qB3 x hN,aA];simp only [eqI]
 by_cases q:(dU e).1=c
 ·simp only [q,decide_true,cond_true]
  by_cases q2:(dU e).2=a
  ·have:dU e=(c,a):=by rw [← q,← q2]
   simp only [q2,this,decide_true]
  ·have:¬ dU e=(c,a):=fun h=>q2 (by rw [h])
   simp [q2,this]
 ·have:¬ dU e=(c,a):=fun h=>q (by rw [h])
  simp [q,this]
end
section
variable {T l r:List Tok} {i:Nat} {k:Int} {x w:Bs} {a:Nat}
end
end Qp
namespace Qp
section
variable {T r:List Tok} {i a c:Nat}
theorem yAb (one:SC→D×SC) (f:Nat) (e:Int×Int):iE T one f ((i,some e),c)=(([],false),((i,some e),c)):=by
 cases f <;> simp [iE]
end
end Qp
namespace Qp
section
variable {T' T:List Tok} {E:Nat} {Bd:Int×Int→Prop} {α β γ:Type}
def tA7 (F:St→α×St):SC→α×SC:=fun s=>((F s.1).1,((F s.1).2,s.2))
def qAw (T:List Tok) (w:Bs) (Y X:SC→α×SC):SC→α×SC:=fun s=>if (kB T w s.1).1=true then Y ((kB T w s.1).2,s.2) else X ((kB T w s.1).2,s.2)
def isJ (T:List Tok) (w:Bs) (Y X:SC→α×SC):SC→α×SC:=fun s=>if (kB T w s.1).1=true then Y s else X s
def ifF (T:List Tok) (blk:SC→List D×SC):SC→(List D×Option (List D))×SC:=bnd blk fun t=>qAw T [101,108,115,101] (jI (fun f=>(t,some f)) blk) (oM (t,none))
def ifV (a:Int) (o:D):List D×Option (List D)→D
 | (t,some f)=>smD { aG a with k:=4,has:=true } { dN with co:=o,th:=t,el:=f }
 | (t,none)=>smD { aG a with k:=4 } { dN with co:=o,th:=t }
def rAw (T:List Tok) (blk:SC→List D×SC) (a:Int):SC→D×SC:=
 qAw T [108,101,116] (tA7 (eAn T a)) (qAw T [105,102] (bnd (tA7 (kF T)) fun o=>jI (ifV a o) (ifF T blk))
  (qAw T [119,104,105,108,101] (bnd (tA7 (kF T)) fun o=>jI (fun t=>smD { aG a with k:=5 } { dN with co:=o,th:=t }) blk)
   (qAw T [108,111,111,112] (jI (fun t=>smD { aG a with k:=6 } { dN with th:=t }) blk)
    (isJ T [123] (jI (fun t=>smD { aG a with k:=7 } { dN with th:=t }) blk) (tA7 (bnd (fH T a) fun x=>jI (fun _=>x) (lH T [59])))))))
theorem kAs (T:List Tok) (blk:SC→List D×SC) (s:SC):nM T blk s=rAw T blk ((tk T s.1.1).2.2:Int) s:=by
 simp only [nM,rAw,qAw,isJ,tA7,bnd,jI,lH,ifF,oM]
 split
 ·rfl
 ·split
  ·split
   ·rename_i h;simp only [h,if_true];rfl
   ·rename_i h;simp only [h,Bool.false_eq_true,if_false];rfl
  ·split
   ·rfl
   ·split
    ·rfl
    ·split
     ·rename_i hn hb
      rfl
     ·rfl
theorem jAj {one:SC→D×SC} {f i c:Nat}:iE T one (f+1) ((i,none),c)=if isS T [125] i=true then (([],false),((i+1,none),c)) else if c=2000∧(tk T i).1≠0 then (([],true),(iF T 5 (i,none),c)) else (((one ((i,none),c+1)).1::(iE T one f (one ((i,none),c+1)).2).1.1,(iE T one f (one ((i,none),c+1)).2).1.2),(iE T one f (one ((i,none),c+1)).2).2):=by
 by_cases h:isS T [125] i=true <;> simp [iE,kB,h]
def aBj (T:List Tok) (one:SC→D×SC) (f:Nat):SC→(List D×Bool)×SC:=iE T one f
def wA1 (r:List D×Bool):List D:=if r.2=true then [] else r.1
theorem tAw (T:List Tok) (F:SC→(List D×Bool)×SC) (s:SC):jI wA1 (bnd (tA7 (lH T [123])) fun _=>F) s=(wA1 (F (gD T [123] s.1,s.2)).1,(F (gD T [123] s.1,s.2)).2):=rfl
theorem kAj (T:List Tok) (g:Nat) (s:SC) (x:(List D×Bool)×SC) (h:iE T (nM T (yE T g)) 2001 (gD T [123] s.1,s.2)=x):yE T (g+1) s=(wA1 x.1,x.2):=by
 simp only [yE,h,wA1]
theorem yA1 (T:List Tok) (g:Nat):yE T (g+1)=jI wA1 (bnd (tA7 (lH T [123])) fun _=>aBj T (nM T (yE T g)) 2001):=by
 funext s
 rw [tAw];exact kAj T g s _ rfl
abbrev HdR:=Bs×List D×List D×D
def tR (T:List Tok):St→HdR×St:=
 bnd (iC T 1) fun n=>bnd (yM T [60] (bnd (bE T (wX T) [44]) fun l=>jI (fun _=>l) (lH T [62])) (oM [])) fun l=>bnd (lH T [40]) fun _=>bnd (yM T [41] (oM []) (bnd (bE T (uF T) [44]) fun p=>jI (fun _=>p) (lH T [41]))) fun p=>bnd (yM T [45,62] (yL T 64) (oM ty0D)) fun t=>oM (n,l,p,t)
def fnD (pub:Bool) (a:Int) (x:HdR) (b:List D):D:=fuD (fJ pub x.1 a) ⟨x.2.1,x.2.2.1,x.2.2.2,b⟩
theorem uA7 (T:List Tok) (pub:Bool) (a:Int) (σ:St):wI T pub a σ=(fnD pub a (tR T σ).1 (yE T 64 ((tR T σ).2,0)).1,(yE T 64 ((tR T σ).2,0)).2):=by
 simp only [wI,tR,bnd,jI,oM,lH,yM,fnD]
 split <;> split <;> split <;> rfl
end
end Qp
namespace Qp
noncomputable section
def f115 (N:Nat) (a0:SL) (h:Heap):Option (SL×Heap):=(tD (.val zQ2) (fB E 38 38 (.slice none 0 0 0) (.slice a0.a a0.len a0.cap a0.sz) h) fun (x1:SL) h2=>some (x1,h2))
def tBa:Ann:=.n
theorem aA2 (N:Nat):jD Tryz.prog 115 [zQ2] (.val zQ2) (fun x h=>f115 N x.1 h):=qD kA N tBa Tryz.f115
def eU (N:Nat) (rec117:zM→Heap→Option (zM×Heap)) (go:zO2→zO2→SL→SL→Int→Int→Heap→Option (Out×zZ×Heap)) (v1 v2:zO2) (v3 v11:SL) (v12 v13:Int) (h:Heap):Option (Out×zZ×Heap):=let x8:=qB v13 v12;(bif x8 then(ixK v11.a v11.len v13 4 fun q9=>(iA (.val zC) (h.cells q9 4) fun (x10:zM)=>let h11:=h.push (.row yZD .own);(rA (h11.store (h.next,0) (yRD x10)) fun h12=>(iA (.val zC) (h12.cells (h.next,0) 4) fun (x13:zM)=>(lA (rec117 (x13.1,x13.2.1,x13.2.2.1,x13.2.2.2.1,()) h12) fun (x14:zM) h15=>let h16:=h15.push (.row (yRD x14) .own);(tD (.val zQ2) (fB E 39 39 (.slice v3.a v3.len v3.cap v3.sz) (.slice (some (h15.next,0)) 1 1 4) h16) fun (x17:SL) h18=>let x19:=wA .i64 (v13+1);go v1 v2 x17 v11 v12 x19 h18))))))else some ((Out.exit 0),(v1,v2,v3,()),h))
def bA2 (N:Nat) (rec117:zM→Heap→Option (zM×Heap)) (M:Nat) (v1 v2:zO2) (v3 v11:SL) (v12 v13:Int) (h:Heap):Option (Out×zZ×Heap):=iter (fun go s h=>eU N rec117 (fun v1 v2 v3 v11 v12 v13 h=>go (v1,v2,v3,v11,v12,v13,()) h) s.1 s.2.1 s.2.2.1 s.2.2.2.1 s.2.2.2.2.1 s.2.2.2.2.2.1 h) M (v1,v2,v3,v11,v12,v13,()) h
theorem dX (N rec117 M v1 v2 v3 v11 v12 v13 h):bA2 N rec117 (M+1) v1 v2 v3 v11 v12 v13 h=eU N rec117 (bA2 N rec117 M) v1 v2 v3 v11 v12 v13 h:=rfl
def lAs (N:Nat) (rec117:zM→Heap→Option (zM×Heap)) (a0:zM) (h:Heap):Option (zM×Heap):=let h1:=h.push (.row (yRD a0) .own);let h2:=h1.push (.row yZD .own);(iA (.val zQ2) (h2.cell ((h.next,0).1,(h.next,0).2+2)) fun (x3:SL)=>(lA (f115 N x3 h2) fun (x4:SL) h5=>(rA (h5.store ((h.next,0).1,(h.next,0).2+2) [(.slice x4.a x4.len x4.cap x4.sz)]) fun h6=>(iA (.val zQ2) (h6.cell ((h.next,0).1,(h.next,0).2+3)) fun (x7:SL)=>(pD (bA2 N rec117 N (some (h.next,0)) (some (h1.next,0)) ⟨none,0,0,0⟩ x7 (Int.ofNat x7.len) 0 h6) fun _ (j21:zZ) h22=>(rA j21.1 fun q23=>(rA (h22.store (q23.1,q23.2+3) [(.slice j21.2.2.1.a j21.2.2.1.len j21.2.2.1.cap j21.2.2.1.sz)]) fun h24=>(rA j21.1 fun q25=>(iA (.val zC) (h24.cells q25 4) fun (x26:zM)=>(rA j21.2.1 fun q28=>(rA (h24.store q28 (yRD x26)) fun h27=>(rA j21.2.1 fun q29=>(iA (.val zC) (h27.cells q29 4) fun (x30:zM)=>some ((x30.1,x30.2.1,x30.2.2.1,x30.2.2.2.1,()),h27))))))))))))))
def uBa:Ann:=(.two .n (.two .n (.two .n (.two (.two .n (.two (.loop [(1,zP2),(2,zP2),(3,zQ2),(11,zQ2),(12,zT2),(13,zT2)] [(.exit 0)] [(1,zP2),(2,zP2),(3,zQ2)] .n) .n)) .n))))
def rB3 (N M:Nat):((zM→Heap→Option (zM×Heap))×Unit):=Nat.rec (fun _ _=>none,()) (fun _ r=>(lAs N r.1,())) M
def f117 (N M:Nat):zM→Heap→Option (zM×Heap):=(rB3 N M).1
theorem mAs (N M a0 h):f117 N (M+1) a0 h=lAs N (f117 N M) a0 h:=rfl
theorem dA2 (N:Nat):∀ M:Nat,(jD Tryz.prog 117 [zC] (.val zC) (fun x h=>f117 N M x.1 h))∧True
 | 0=>⟨(fun xs h r h' hx=>by cases hx),trivial⟩
 | M+1=>⟨qD (bA (dA2 N M).1 (bA (aA2 N) kA)) N uBa Tryz.f117,trivial⟩
theorem pAf (N:Nat):jD Tryz.prog 117 [zC] (.val zC) (fun x h=>f117 N N x.1 h):=(dA2 N N).1
def fU (N:Nat) (go:SL→SL→Int→Int→Heap→Option (Out×zU1×Heap)) (v3 v6:SL) (v7 v8:Int) (h:Heap):Option (Out×zU1×Heap):=let x1:=qB v8 v7;(bif x1 then(ixK v6.a v6.len v8 6 fun q2=>(iA (.val zI) (h.cells q2 6) fun (x3:zV)=>let h4:=h.push (.row yZF .own);(rA (h4.store (h.next,0) (yRF x3)) fun h5=>(iA (.val zC) (h5.cells ((h.next,0).1,(h.next,0).2+2) 4) fun (x6:zM)=>(lA (f117 N N (x6.1,x6.2.1,x6.2.2.1,x6.2.2.2.1,()) h5) fun (x7:zM) h8=>(rA (h8.store ((h.next,0).1,(h.next,0).2+2) (yRD x7)) fun h9=>(iA (.val zI) (h9.cells (h.next,0) 6) fun (x10:zV)=>let h11:=h9.push (.row (yRF x10) .own);(tD (.val zQ2) (fB E 37 37 (.slice v3.a v3.len v3.cap v3.sz) (.slice (some (h9.next,0)) 1 1 6) h11) fun (x12:SL) h13=>let x14:=wA .i64 (v8+1);go x12 v6 v7 x14 h13))))))))else some ((Out.exit 0),(v3,()),h))
def vA7 (N M:Nat) (v3 v6:SL) (v7 v8:Int) (h:Heap):Option (Out×zU1×Heap):=iter (fun go s h=>fU N (fun v3 v6 v7 v8 h=>go (v3,v6,v7,v8,()) h) s.1 s.2.1 s.2.2.1 s.2.2.2.1 h) M (v3,v6,v7,v8,()) h
theorem eX (N M v3 v6 v7 v8 h):vA7 N (M+1) v3 v6 v7 v8 h=fU N (vA7 N M) v3 v6 v7 v8 h:=rfl
def f116 (N:Nat) (a0:SL) (h:Heap):Option (SL×Heap):=(pD (vA7 N N ⟨none,0,0,0⟩ a0 (Int.ofNat a0.len) 0 h) fun _ (j16:zU1) h17=>some (j16.1,h17))
def vBa:Ann:=(.two .n (.two .n (.two (.two .n (.two (.loop [(3,zQ2),(6,zQ2),(7,zT2),(8,zT2)] [(.exit 0)] [(3,zQ2)] .n) .n)) .n)))
theorem nAs (N:Nat):jD Tryz.prog 116 [zQ2] (.val zQ2) (fun x h=>f116 N x.1 h):=qD (bA (pAf N) kA) N vBa Tryz.f116
def f76 (N:Nat) (a0:zW) (h:Heap):Option (zW×Heap):=let h1:=h.push (.row (yRG a0) .own);let h2:=h1.push (.row yZG .own);(iA (.val zQ2) (h2.cell ((h.next,0).1,(h.next,0).2+2)) fun (x3:SL)=>(lA (f115 N x3 h2) fun (x4:SL) h5=>(rA (h5.store ((h.next,0).1,(h.next,0).2+2) [(.slice x4.a x4.len x4.cap x4.sz)]) fun h6=>(iA (.val zQ2) (h6.cell ((h.next,0).1,(h.next,0).2+3)) fun (x7:SL)=>(lA (f116 N x7 h6) fun (x8:SL) h9=>(rA (h9.store ((h.next,0).1,(h.next,0).2+3) [(.slice x8.a x8.len x8.cap x8.sz)]) fun h10=>(iA (.val zG) (h10.cells (h.next,0) 5) fun (x11:zW)=>(rA (h10.store (h1.next,0) (yRG x11)) fun h12=>(iA (.val zG) (h12.cells (h1.next,0) 5) fun (x13:zW)=>some ((x13.1,x13.2.1,x13.2.2.1,x13.2.2.2.1,x13.2.2.2.2.1,()),h12))))))))))
def iBg:Ann:=.n
theorem wBa (N:Nat):jD Tryz.prog 76 [zG] (.val zG) (fun x h=>f76 N x.1 h):=qD (bA (nAs N) (bA (aA2 N) kA)) N iBg Tryz.f76
def f167 (N:Nat) (a0:zU) (h:Heap):Option (zU×Heap):=let h1:=h.push (.row (yRI a0) .own);let h2:=h1.push (.row yZJ .own);(iA (.val zQ2) (h2.cell ((h.next,0).1,(h.next,0).2+1)) fun (x3:SL)=>(lA (f115 N x3 h2) fun (x4:SL) h5=>(rA (h5.store ((h.next,0).1,(h.next,0).2+1) [(.slice x4.a x4.len x4.cap x4.sz)]) fun h6=>(iA (.val zJ) (h6.cells (h.next,0) 2) fun (x7:zU)=>(rA (h6.store (h1.next,0) (yRI x7)) fun h8=>(iA (.val zJ) (h8.cells (h1.next,0) 2) fun (x9:zU)=>some ((x9.1,x9.2.1,()),h8)))))))
def yBa:Ann:=.n
theorem qAf (N:Nat):jD Tryz.prog 167 [zJ] (.val zJ) (fun x h=>f167 N x.1 h):=qD (bA (aA2 N) kA) N yBa Tryz.f167
def f169 (N:Nat) (a0:zR) (h:Heap):Option (zR×Heap):=let h1:=h.push (.row (yRE a0) .own);let h2:=h1.push (.row yZI .own);(iA (.val zJ) (h2.cells ((h.next,0).1,(h.next,0).2+2) 2) fun (x3:zU)=>(lA (f167 N (x3.1,x3.2.1,()) h2) fun (x4:zU) h5=>(rA (h5.store ((h.next,0).1,(h.next,0).2+2) (yRI x4)) fun h6=>(iA (.val zE) (h6.cells (h.next,0) 4) fun (x7:zR)=>(rA (h6.store (h1.next,0) (yRE x7)) fun h8=>(iA (.val zE) (h8.cells (h1.next,0) 4) fun (x9:zR)=>some ((x9.1,x9.2.1,x9.2.2.1,x9.2.2.2.1,()),h8)))))))
def aBb:Ann:=.n
theorem oAs (N:Nat):jD Tryz.prog 169 [zE] (.val zE) (fun x h=>f169 N x.1 h):=qD (bA (qAf N) kA) N aBb Tryz.f169
def gU (N:Nat) (go:zO2→zO2→SL→SL→Int→Int→Heap→Option (Out×zZ×Heap)) (v1 v2:zO2) (v3 v23:SL) (v24 v25:Int) (h:Heap):Option (Out×zZ×Heap):=let x20:=qB v25 v24;(bif x20 then(ixK v23.a v23.len v25 4 fun q21=>(iA (.val zE) (h.cells q21 4) fun (x22:zR)=>let h23:=h.push (.row yZI .own);(rA (h23.store (h.next,0) (yRE x22)) fun h24=>(iA (.val zE) (h24.cells (h.next,0) 4) fun (x25:zR)=>(lA (f169 N (x25.1,x25.2.1,x25.2.2.1,x25.2.2.2.1,()) h24) fun (x26:zR) h27=>let h28:=h27.push (.row (yRE x26) .own);(tD (.val zQ2) (fB E 102 102 (.slice v3.a v3.len v3.cap v3.sz) (.slice (some (h27.next,0)) 1 1 4) h28) fun (x29:SL) h30=>let x31:=wA .i64 (v25+1);go v1 v2 x29 v23 v24 x31 h30))))))else some ((Out.exit 0),(v1,v2,v3,()),h))
def eA2 (N M:Nat) (v1 v2:zO2) (v3 v23:SL) (v24 v25:Int) (h:Heap):Option (Out×zZ×Heap):=iter (fun go s h=>gU N (fun v1 v2 v3 v23 v24 v25 h=>go (v1,v2,v3,v23,v24,v25,()) h) s.1 s.2.1 s.2.2.1 s.2.2.2.1 s.2.2.2.2.1 s.2.2.2.2.2.1 h) M (v1,v2,v3,v23,v24,v25,()) h
theorem fX (N M v1 v2 v3 v23 v24 v25 h):eA2 N (M+1) v1 v2 v3 v23 v24 v25 h=gU N (eA2 N M) v1 v2 v3 v23 v24 v25 h:=rfl
def f168 (N:Nat) (a0:zN) (h:Heap):Option (zN×Heap):=let h1:=h.push (.row (yRB a0) .own);let h2:=h1.push (.row yZB .own);(iA (.val zE) (h2.cells ((h.next,0).1,(h.next,0).2+1) 4) fun (x3:zR)=>(lA (f169 N (x3.1,x3.2.1,x3.2.2.1,x3.2.2.2.1,()) h2) fun (x4:zR) h5=>(iA (.val zE) (h5.cells ((h.next,0).1,(h.next,0).2+5) 4) fun (x6:zR)=>(lA (f169 N (x6.1,x6.2.1,x6.2.2.1,x6.2.2.2.1,()) h5) fun (x7:zR) h8=>(iA (.val zJ) (h8.cells ((h.next,0).1,(h.next,0).2+10) 2) fun (x9:zU)=>(lA (f167 N (x9.1,x9.2.1,()) h8) fun (x10:zU) h11=>(rA (h11.store ((h.next,0).1,(h.next,0).2+1) (yRE x4)) fun h12=>(rA (h12.store ((h.next,0).1,(h.next,0).2+5) (yRE x7)) fun h13=>(rA (h13.store ((h.next,0).1,(h.next,0).2+10) (yRI x10)) fun h14=>(cE (bif (mB (h8.cells ((h.next,0).1,(h.next,0).2+10) 2) (.agg (yRI x9))) then (bif (mB (h5.cells ((h.next,0).1,(h.next,0).2+10) 2) (.agg (yRI x9))) then (bif (mB (h2.cells ((h.next,0).1,(h.next,0).2+10) 2) (.agg (yRI x9))) then (bif (mB (h5.cells ((h.next,0).1,(h.next,0).2+5) 4) (.agg (yRE x6))) then (bif (mB (h2.cells ((h.next,0).1,(h.next,0).2+5) 4) (.agg (yRE x6))) then (bif (mB (h2.cells ((h.next,0).1,(h.next,0).2+1) 4) (.agg (yRE x3))) then true else false) else false) else false) else false) else false) else false) ((iA (.val zQ2) (h14.cell ((h.next,0).1,(h.next,0).2+13)) fun (x15:SL)=>(lA (f115 N x15 h14) fun (x16:SL) h17=>(rA (h17.store ((h.next,0).1,(h.next,0).2+13) [(.slice x16.a x16.len x16.cap x16.sz)]) fun h18=>
 (iA (.val zQ2) (h18.cell ((h.next,0).1,(h.next,0).2+14)) fun (x19:SL)=>(pD (eA2 N N (some (h.next,0)) (some (h1.next,0)) ⟨none,0,0,0⟩ x19 (Int.ofNat x19.len) 0 h18) fun _ (j33:zZ) h34=>(rA j33.1 fun q35=>(rA (h34.store (q35.1,q35.2+14) [(.slice j33.2.2.1.a j33.2.2.1.len j33.2.2.1.cap j33.2.2.1.sz)]) fun h36=>(rA j33.1 fun q37=>(iA (.val zB) (h36.cells q37 15) fun (x38:zN)=>(rA j33.2.1 fun q40=>(rA (h36.store q40 (yRB x38)) fun h39=>(rA j33.2.1 fun q41=>(iA (.val zB) (h39.cells q41 15) fun (x42:zN)=>some ((x42.1,x42.2.1,x42.2.2.1,x42.2.2.2.1,x42.2.2.2.2.1,x42.2.2.2.2.2.1,x42.2.2.2.2.2.2.1,x42.2.2.2.2.2.2.2.1,x42.2.2.2.2.2.2.2.2.1,x42.2.2.2.2.2.2.2.2.2.1,x42.2.2.2.2.2.2.2.2.2.2.1,x42.2.2.2.2.2.2.2.2.2.2.2.1,x42.2.2.2.2.2.2.2.2.2.2.2.2.1,x42.2.2.2.2.2.2.2.2.2.2.2.2.2.1,x42.2.2.2.2.2.2.2.2.2.2.2.2.2.2.1,()),h39)))))))))))))))))))))))))
def bBb:Ann:=(.two .n (.two .n (.two .n (.two .n (.two (.two .n (.two (.loop [(1,zP2),(2,zP2),(3,zQ2),(23,zQ2),(24,zT2),(25,zT2)] [(.exit 0)] [(1,zP2),(2,zP2),(3,zQ2)] .n) .n)) .n)))))
theorem tB3 (N:Nat):jD Tryz.prog 168 [zB] (.val zB) (fun x h=>f168 N x.1 h):=qD (bA (oAs N) (bA (qAf N) (bA (aA2 N) kA))) N bBb Tryz.f168
def kO (N:Nat) (rec118:SL→Heap→Option (SL×Heap)) (go:SL→SL→Int→Int→Heap→Option (Out×zU1×Heap)) (v3 v6:SL) (v7 v8:Int) (h:Heap):Option (Out×zU1×Heap):=let x1:=qB v8 v7;(bif x1 then(ixK v6.a v6.len v8 32 fun q2=>(iA (.val zA) (h.cells q2 32) fun (x3:zL)=>let h4:=h.push (.row yZA .own);(rA (h4.store (h.next,0) (yRA x3)) fun h5=>(iA (.val zC) (h5.cells ((h.next,0).1,(h.next,0).2+4) 4) fun (x6:zM)=>(lA (f117 N N (x6.1,x6.2.1,x6.2.2.1,x6.2.2.2.1,()) h5) fun (x7:zM) h8=>(iA (.val zJ) (h8.cells ((h.next,0).1,(h.next,0).2+9) 2) fun (x9:zU)=>(lA (f167 N (x9.1,x9.2.1,()) h8) fun (x10:zU) h11=>(iA (.val zB) (h11.cells ((h.next,0).1,(h.next,0).2+11) 15) fun (x12:zN)=>(lA (f168 N (x12.1,x12.2.1,x12.2.2.1,x12.2.2.2.1,x12.2.2.2.2.1,x12.2.2.2.2.2.1,x12.2.2.2.2.2.2.1,x12.2.2.2.2.2.2.2.1,x12.2.2.2.2.2.2.2.2.1,x12.2.2.2.2.2.2.2.2.2.1,x12.2.2.2.2.2.2.2.2.2.2.1,x12.2.2.2.2.2.2.2.2.2.2.2.1,x12.2.2.2.2.2.2.2.2.2.2.2.2.1,x12.2.2.2.2.2.2.2.2.2.2.2.2.2.1,x12.2.2.2.2.2.2.2.2.2.2.2.2.2.2.1,()) h11) fun (x13:zN) h14=>(iA (.val zE) (h14.cells ((h.next,0).1,(h.next,0).2+26) 4) fun (x15:zR)=>(lA (f169 N (x15.1,x15.2.1,x15.2.2.1,x15.2.2.2.1,()) h14) fun (x16:zR) h17=>(rA (h17.store ((h.next,0).1,(h.next,0).2+4) (yRD x7)) fun h18=>(rA (h18.store ((h.next,0).1,(h.next,0).2+9) (yRI x10)) fun h19=>(rA (h19.store ((h.next,0).1,(h.next,0).2+11) (yRB x13)) fun h20=>(rA (h20.store ((h.next,0).1,(h.next,0).2+26) (yRE x16)) fun h21=>(cE (bif (mB (h14.cells ((h.next,0).1,(h.next,0).2+26) 4) (.agg (yRE x15))) then (bif (mB (h11.cells ((h.next,0).1,(h.next,0).2+26) 4) (.agg (yRE x15))) then (bif (mB (h8.cells ((h.next,0).1,(h.next,0).2+26) 4) (.agg (yRE x15))) then (bif (mB (h5.cells ((h.next,0).1,(h.next,0).2+26) 4) (.agg (yRE x15))) then (bif (mB (h11.cells ((h.next,0).1,(h.next,0).2+11) 15) (.agg (yRB x12))) then (bif (mB (h8.cells ((h.next,0).1,(h.next,0).2+11) 15) (.agg (yRB x12))) then (bif (mB (h5.cells ((h.next,0).1,(h.next,0).2+11) 15) (.agg (yRB x12))) then (bif (mB (h8.cells ((h.next,0).1,(h.next,0).2+9) 2) (.agg (yRI x9))) then (bif (mB (h5.cells ((h.next,0).1,(h.next,0).2+9) 2) (.agg (yRI x9))) then (bif (mB (h5.cells ((h.next,0).1,(h.next,0).2+4) 4) (.agg (yRD x6))) then true else false) else false) else false) else false) else false) else false) else false) else false) else false) else false) (
 (iA (.val zQ2) (h21.cell ((h.next,0).1,(h.next,0).2+30)) fun (x22:SL)=>(lA (rec118 x22 h21) fun (x23:SL) h24=>(iA (.val zQ2) (h24.cell ((h.next,0).1,(h.next,0).2+31)) fun (x25:SL)=>(lA (rec118 x25 h24) fun (x26:SL) h27=>(rA (h27.store ((h.next,0).1,(h.next,0).2+30) [(.slice x23.a x23.len x23.cap x23.sz)]) fun h28=>(rA (h28.store ((h.next,0).1,(h.next,0).2+31) [(.slice x26.a x26.len x26.cap x26.sz)]) fun h29=>(cE (bif (mB (h24.cell ((h.next,0).1,(h.next,0).2+31)) (.slice x25.a x25.len x25.cap x25.sz)) then (bif (mB (h21.cell ((h.next,0).1,(h.next,0).2+31)) (.slice x25.a x25.len x25.cap x25.sz)) then (bif (mB (h21.cell ((h.next,0).1,(h.next,0).2+30)) (.slice x22.a x22.len x22.cap x22.sz)) then true else false) else false) else false) ((iA (.val zA) (h29.cells (h.next,0) 32) fun (x30:zL)=>let h31:=h29.push (.row (yRA x30) .own);(tD (.val zQ2) (fB E 42 42 (.slice v3.a v3.len v3.cap v3.sz) (.slice (some (h29.next,0)) 1 1 32) h31) fun (x32:SL) h33=>let x34:=wA .i64 (v8+1);go x32 v6 v7 x34 h33)))))))))))))))))))))))))))else some ((Out.exit 0),(v3,()),h))
def wA7 (N:Nat) (rec118:SL→Heap→Option (SL×Heap)) (M:Nat) (v3 v6:SL) (v7 v8:Int) (h:Heap):Option (Out×zU1×Heap):=iter (fun go s h=>kO N rec118 (fun v3 v6 v7 v8 h=>go (v3,v6,v7,v8,()) h) s.1 s.2.1 s.2.2.1 s.2.2.2.1 h) M (v3,v6,v7,v8,()) h
theorem lO (N rec118 M v3 v6 v7 v8 h):wA7 N rec118 (M+1) v3 v6 v7 v8 h=kO N rec118 (wA7 N rec118 M) v3 v6 v7 v8 h:=rfl
def lAj (N:Nat) (rec118:SL→Heap→Option (SL×Heap)) (a0:SL) (h:Heap):Option (SL×Heap):=(pD (wA7 N rec118 N ⟨none,0,0,0⟩ a0 (Int.ofNat a0.len) 0 h) fun _ (j36:zU1) h37=>some (j36.1,h37))
def cBb:Ann:=(.two .n (.two .n (.two (.two .n (.two (.loop [(3,zQ2),(6,zQ2),(7,zT2),(8,zT2)] [(.exit 0)] [(3,zQ2)] .n) .n)) .n)))
def uB3 (N M:Nat):((SL→Heap→Option (SL×Heap))×Unit):=Nat.rec (fun _ _=>none,()) (fun _ r=>(lAj N r.1,())) M
def f118 (N M:Nat):SL→Heap→Option (SL×Heap):=(uB3 N M).1
theorem aAc (N M a0 h):f118 N (M+1) a0 h=lAj N (f118 N M) a0 h:=rfl
theorem fA2 (N:Nat):∀ M:Nat,(jD Tryz.prog 118 [zQ2] (.val zQ2) (fun x h=>f118 N M x.1 h))∧True
 | 0=>⟨(fun xs h r h' hx=>by cases hx),trivial⟩
 | M+1=>⟨qD (bA (oAs N) (bA (tB3 N) (bA (qAf N) (bA (fA2 N M).1 (bA (pAf N) kA))))) N cBb Tryz.f118,trivial⟩
theorem vB3 (N:Nat):jD Tryz.prog 118 [zQ2] (.val zQ2) (fun x h=>f118 N N x.1 h):=(fA2 N N).1
def yY (N:Nat) (go:zO2→zO2→SL→SL→Int→Int→Heap→Option (Out×zZ×Heap)) (v1 v2:zO2) (v3 v7:SL) (v8 v9:Int) (h:Heap):Option (Out×zZ×Heap):=let x4:=qB v9 v8;(bif x4 then(ixK v7.a v7.len v9 2 fun q5=>(iA (.val zJ) (h.cells q5 2) fun (x6:zU)=>let h7:=h.push (.row yZJ .own);(rA (h7.store (h.next,0) (yRI x6)) fun h8=>(iA (.val zR2) (h8.cell ((h.next,0).1,(h.next,0).2+0)) fun (x9:zV2)=>(iA (.val zQ2) (h8.cell ((h.next,0).1,(h.next,0).2+1)) fun (x10:SL)=>(lA (f115 N x10 h8) fun (x11:SL) h12=>let h13:=h12.push (.row [(.str x9),(.slice x11.a x11.len x11.cap x11.sz)] .own);(tD (.val zQ2) (fB E 36 36 (.slice v3.a v3.len v3.cap v3.sz) (.slice (some (h12.next,0)) 1 1 2) h13) fun (x14:SL) h15=>(cE (bif (mB (h8.cell ((h.next,0).1,(h.next,0).2+1)) (.slice x10.a x10.len x10.cap x10.sz)) then (bif (mB (h12.cell ((h.next,0).1,(h.next,0).2+0)) (.str x9)) then (bif (mB (h8.cell ((h.next,0).1,(h.next,0).2+0)) (.str x9)) then true else false) else false) else false) ( let x16:=wA .i64 (v9+1);go v1 v2 x14 v7 v8 x16 h15)))))))))else some ((Out.exit 0),(v1,v2,v3,()),h))
def fA5 (N M:Nat) (v1 v2:zO2) (v3 v7:SL) (v8 v9:Int) (h:Heap):Option (Out×zZ×Heap):=iter (fun go s h=>yY N (fun v1 v2 v3 v7 v8 v9 h=>go (v1,v2,v3,v7,v8,v9,()) h) s.1 s.2.1 s.2.2.1 s.2.2.2.1 s.2.2.2.2.1 s.2.2.2.2.2.1 h) M (v1,v2,v3,v7,v8,v9,()) h
theorem gA2 (N M v1 v2 v3 v7 v8 v9 h):fA5 N (M+1) v1 v2 v3 v7 v8 v9 h=yY N (fA5 N M) v1 v2 v3 v7 v8 v9 h:=rfl
def f77 (N:Nat) (a0:zS) (h:Heap):Option (zS×Heap):=let h1:=h.push (.row (yRC a0) .own);let h2:=h1.push (.row yZC .own);(iA (.val zQ2) (h2.cell ((h.next,0).1,(h.next,0).2+2)) fun (x3:SL)=>(pD (fA5 N N (some (h.next,0)) (some (h1.next,0)) ⟨none,0,0,0⟩ x3 (Int.ofNat x3.len) 0 h2) fun _ (j18:zZ) h19=>(rA j18.1 fun q20=>(rA (h19.store (q20.1,q20.2+2) [(.slice j18.2.2.1.a j18.2.2.1.len j18.2.2.1.cap j18.2.2.1.sz)]) fun h21=>(rA j18.1 fun q22=>(iA (.val zQ2) (h21.cell (q22.1,q22.2+3)) fun (x23:SL)=>(lA (f116 N x23 h21) fun (x24:SL) h25=>(rA j18.1 fun q26=>(rA (h25.store (q26.1,q26.2+3) [(.slice x24.a x24.len x24.cap x24.sz)]) fun h27=>(rA j18.1 fun q28=>(iA (.val zC) (h27.cells (q28.1,q28.2+4) 4) fun (x29:zM)=>(lA (f117 N N (x29.1,x29.2.1,x29.2.2.1,x29.2.2.2.1,()) h27) fun (x30:zM) h31=>(rA j18.1 fun q32=>(rA (h31.store (q32.1,q32.2+4) (yRD x30)) fun h33=>(rA j18.1 fun q34=>(iA (.val zQ2) (h33.cell (q34.1,q34.2+8)) fun (x35:SL)=>(lA (f118 N N x35 h33) fun (x36:SL) h37=>(rA j18.1 fun q38=>(rA (h37.store (q38.1,q38.2+8) [(.slice x36.a x36.len x36.cap x36.sz)]) fun h39=>(rA j18.1 fun q40=>(iA (.val zD) (h39.cells q40 10) fun (x41:zS)=>(rA j18.2.1 fun q43=>(rA (h39.store q43 (yRC x41)) fun h42=>(rA j18.2.1 fun q44=>(iA (.val zD) (h42.cells q44 10) fun (x45:zS)=>some ((x45.1,x45.2.1,x45.2.2.1,x45.2.2.2.1,x45.2.2.2.2.1,x45.2.2.2.2.2.1,x45.2.2.2.2.2.2.1,x45.2.2.2.2.2.2.2.1,x45.2.2.2.2.2.2.2.2.1,x45.2.2.2.2.2.2.2.2.2.1,()),h42))))))))))))))))))))))))))
def jBg:Ann:=(.two .n (.two .n (.two (.two .n (.two (.loop [(1,zP2),(2,zP2),(3,zQ2),(7,zQ2),(8,zT2),(9,zT2)] [(.exit 0)] [(1,zP2),(2,zP2),(3,zQ2)] .n) .n)) .n)))
theorem dBb (N:Nat):jD Tryz.prog 77 [zD] (.val zD) (fun x h=>f77 N x.1 h):=qD (bA (vB3 N) (bA (pAf N) (bA (nAs N) (bA (aA2 N) kA)))) N jBg Tryz.f77
def iU (N:Nat) (rec78:SL→Heap→Option ((Unit)×Heap)) (go:SL→Int→Int→Heap→Option (Out×(Unit)×Heap)) (v0:SL) (v4 v5:Int) (h:Heap):Option (Out×(Unit)×Heap):=let x1:=qB v5 v4;(bif x1 then(ixK v0.a v0.len v5 32 fun q2=>(rA (h.store (q2.1,q2.2+1) yZK) fun h3=>(ixK v0.a v0.len v5 32 fun q4=>(iA (.val zQ2) (h3.cell (q4.1,q4.2+30)) fun (x5:SL)=>(lA (rec78 x5 h3) fun (x6:(Unit)) h7=>(ixK v0.a v0.len v5 32 fun q8=>(iA (.val zQ2) (h7.cell (q8.1,q8.2+31)) fun (x9:SL)=>(lA (rec78 x9 h7) fun (x10:(Unit)) h11=>let x12:=wA .i64 (v5+1);go v0 v4 x12 h11))))))))else some ((Out.exit 0),(()),h))
def mAj (N:Nat) (rec78:SL→Heap→Option ((Unit)×Heap)) (M:Nat) (v0:SL) (v4 v5:Int) (h:Heap):Option (Out×(Unit)×Heap):=iter (fun go s h=>iU N rec78 (fun v0 v4 v5 h=>go (v0,v4,v5,()) h) s.1 s.2.1 s.2.2.1 h) M (v0,v4,v5,()) h
theorem uR (N rec78 M v0 v4 v5 h):mAj N rec78 (M+1) v0 v4 v5 h=iU N rec78 (mAj N rec78 M) v0 v4 v5 h:=rfl
def uAw (N:Nat) (rec78:SL→Heap→Option ((Unit)×Heap)) (a0:SL) (h:Heap):Option ((Unit)×Heap):=(pD (mAj N rec78 N a0 (Int.ofNat a0.len) 0 h) fun _ (j14:(Unit)) h15=>some ((()),h15))
def kBg:Ann:=(.two .n (.two (.loop [(0,zQ2),(4,zT2),(5,zT2)] [(.exit 0)] [] .n) .n))
def eBb (N M:Nat):((SL→Heap→Option ((Unit)×Heap))×Unit):=Nat.rec (fun _ _=>none,()) (fun _ r=>(uAw N r.1,())) M
def f78 (N M:Nat):SL→Heap→Option ((Unit)×Heap):=(eBb N M).1
theorem nAj (N M a0 h):f78 N (M+1) a0 h=uAw N (f78 N M) a0 h:=rfl
theorem gA5 (N:Nat):∀ M:Nat,(jD Tryz.prog 78 [zQ2] (.tup []) (fun x h=>f78 N M x.1 h))∧True
 | 0=>⟨(fun xs h r h' hx=>by cases hx),trivial⟩
 | M+1=>⟨qD (bA (gA5 N M).1 kA) N kBg Tryz.f78,trivial⟩
theorem fBb (N:Nat):jD Tryz.prog 78 [zQ2] (.tup []) (fun x h=>f78 N N x.1 h):=(gA5 N N).1
def aZ (N:Nat) (go:zO2→zO2→SL→Int→Int→Heap→Option (Out×zO×Heap)) (v2 v3:zO2) (v26:SL) (v27 v28:Int) (h:Heap):Option (Out×zO×Heap):=let x29:=qB v28 v27;(bif x29 then(ixK v26.a v26.len v28 10 fun q30=>(iA (.val zD) (h.cells q30 10) fun (x31:zS)=>let h32:=h.push (.row yZC .own);(rA (h32.store (h.next,0) (yRC x31)) fun h33=>(iA (.val zD) (h33.cells (h.next,0) 10) fun (x34:zS)=>(lA (f77 N (x34.1,x34.2.1,x34.2.2.1,x34.2.2.2.1,x34.2.2.2.2.1,x34.2.2.2.2.2.1,x34.2.2.2.2.2.2.1,x34.2.2.2.2.2.2.2.1,x34.2.2.2.2.2.2.2.2.1,x34.2.2.2.2.2.2.2.2.2.1,()) h33) fun (x35:zS) h36=>(rA (h36.store (h.next,0) (yRC x35)) fun h37=>(rA (h37.store ((h.next,0).1,(h.next,0).2+9) yZK) fun h38=>(iA (.val zQ2) (h38.cell ((h.next,0).1,(h.next,0).2+8)) fun (x39:SL)=>(lA (f78 N N x39 h38) fun (x40:(Unit)) h41=>(rA v3 fun q42=>(iA (.val zQ2) (h41.cell (q42.1,q42.2+1)) fun (x43:SL)=>(iA (.val zD) (h41.cells (h.next,0) 10) fun (x44:zS)=>let h45:=h41.push (.row (yRC x44) .own);(tD (.val zQ2) (fB E 23 23 (.slice x43.a x43.len x43.cap x43.sz) (.slice (some (h41.next,0)) 1 1 10) h45) fun (x46:SL) h47=>(rA v3 fun q48=>(rA (h47.store (q48.1,q48.2+1) [(.slice x46.a x46.len x46.cap x46.sz)]) fun h49=>let x50:=wA .i64 (v28+1);go v2 v3 v26 v27 x50 h49)))))))))))))))else some ((Out.exit 2),(v2,v3,()),h))
def iA5 (N M:Nat) (v2 v3:zO2) (v26:SL) (v27 v28:Int) (h:Heap):Option (Out×zO×Heap):=iter (fun go s h=>aZ N (fun v2 v3 v26 v27 v28 h=>go (v2,v3,v26,v27,v28,()) h) s.1 s.2.1 s.2.2.1 s.2.2.2.1 s.2.2.2.2.1 h) M (v2,v3,v26,v27,v28,()) h
theorem iA2 (N M v2 v3 v26 v27 v28 h):iA5 N (M+1) v2 v3 v26 v27 v28 h=aZ N (iA5 N M) v2 v3 v26 v27 v28 h:=rfl
def bZ (N:Nat) (go:zO2→zO2→zO2→SL→Int→Int→Heap→Option (Out×zT×Heap)) (v1 v2 v3:zO2) (v9:SL) (v10 v11:Int) (h:Heap):Option (Out×zT×Heap):=let x5:=qB v11 v10;(bif x5 then(ixK v9.a v9.len v11 5 fun q6=>(iA (.val zG) (h.cells q6 5) fun (x7:zW)=>let h8:=h.push (.row yZG .own);(rA (h8.store (h.next,0) (yRG x7)) fun h9=>(iA (.val zG) (h9.cells (h.next,0) 5) fun (x10:zW)=>(lA (f76 N (x10.1,x10.2.1,x10.2.2.1,x10.2.2.2.1,x10.2.2.2.2.1,()) h9) fun (x11:zW) h12=>(rA (h12.store (h.next,0) (yRG x11)) fun h13=>(rA (h13.store ((h.next,0).1,(h.next,0).2+4) yZK) fun h14=>(rA v3 fun q15=>(iA (.val zQ2) (h14.cell (q15.1,q15.2+0)) fun (x16:SL)=>(iA (.val zG) (h14.cells (h.next,0) 5) fun (x17:zW)=>let h18:=h14.push (.row (yRG x17) .own);(tD (.val zQ2) (fB E 22 22 (.slice x16.a x16.len x16.cap x16.sz) (.slice (some (h14.next,0)) 1 1 5) h18) fun (x19:SL) h20=>(rA v3 fun q21=>(rA (h20.store (q21.1,q21.2+0) [(.slice x19.a x19.len x19.cap x19.sz)]) fun h22=>let x23:=wA .i64 (v11+1);go v1 v2 v3 v9 v10 x23 h22)))))))))))))else some ((Out.exit 0),(v1,v2,v3,()),h))
def jA5 (N M:Nat) (v1 v2 v3:zO2) (v9:SL) (v10 v11:Int) (h:Heap):Option (Out×zT×Heap):=iter (fun go s h=>bZ N (fun v1 v2 v3 v9 v10 v11 h=>go (v1,v2,v3,v9,v10,v11,()) h) s.1 s.2.1 s.2.2.1 s.2.2.2.1 s.2.2.2.2.1 s.2.2.2.2.2.1 h) M (v1,v2,v3,v9,v10,v11,()) h
theorem jA2 (N M v1 v2 v3 v9 v10 v11 h):jA5 N (M+1) v1 v2 v3 v9 v10 v11 h=bZ N (jA5 N M) v1 v2 v3 v9 v10 v11 h:=rfl
def f31 (N:Nat) (a0:zE1) (h:Heap):Option (zE1×Heap):=let h1:=h.push (.row (yRJ a0) .own);let h2:=h1.push (.row yZH .own);let h3:=h2.push (.row yZH .own);(iA (.val zQ2) (h3.cell ((h.next,0).1,(h.next,0).2+0)) fun (x4:SL)=>(pD (jA5 N N (some (h.next,0)) (some (h1.next,0)) (some (h2.next,0)) x4 (Int.ofNat x4.len) 0 h3) fun _ (j25:zT) h26=>(rA j25.1 fun q27=>(iA (.val zQ2) (h26.cell (q27.1,q27.2+1)) fun (x28:SL)=>(pD (iA5 N N j25.2.1 j25.2.2.1 x28 (Int.ofNat x28.len) 0 h26) fun _ (j52:zO) h53=>(rA j52.2.1 fun q54=>(iA (.val zK) (h53.cells q54 2) fun (x55:zE1)=>(rA j52.1 fun q57=>(rA (h53.store q57 (yRJ x55)) fun h56=>(rA j52.1 fun q58=>(iA (.val zK) (h56.cells q58 2) fun (x59:zE1)=>some ((x59.1,x59.2.1,()),h56))))))))))))
def lBg:Ann:=(.two .n (.two .n (.two (.two .n (.two (.loop [(1,zP2),(2,zP2),(3,zP2),(9,zQ2),(10,zT2),(11,zT2)] [(.exit 0)] [(1,zP2),(2,zP2),(3,zP2)] .n) .n)) (.two (.two .n (.two (.loop [(2,zP2),(3,zP2),(26,zQ2),(27,zT2),(28,zT2)] [(.exit 2)] [(2,zP2),(3,zP2)] .n) .n)) .n))))
theorem gBb (N:Nat):jD Tryz.prog 31 [zK] (.val zK) (fun x h=>f31 N x.1 h):=qD (bA (fBb N) (bA (dBb N) (bA (wBa N) kA))) N lBg Tryz.f31
def kA2 (N:Nat) (go:SL→SL→Bool→Int→Int→Heap→Option (Out×zY×Heap)) (v0 v1:SL) (v4:Bool) (v12 v13:Int) (h:Heap):Option (Out×zY×Heap):=let x2:=qB v13 v12;(bif x2 then(ixK v0.a v0.len v13 1 fun q3=>(iA (.val zR2) (h.cell q3) fun (x4:zV2)=>(ixK v1.a v1.len v13 1 fun q5=>(iA (.val zR2) (h.cell q5) fun (x6:zV2)=>let x7:=!jB x4 x6;(bif x7 then some (Out.ret,(false,()),h)else let x8:=wA .i64 (v13+1);go v0 v1 v4 v12 x8 h)))))else some ((Out.exit 0),(v4,()),h))
def yA7 (N M:Nat) (v0 v1:SL) (v4:Bool) (v12 v13:Int) (h:Heap):Option (Out×zY×Heap):=iter (fun go s h=>kA2 N (fun v0 v1 v4 v12 v13 h=>go (v0,v1,v4,v12,v13,()) h) s.1 s.2.1 s.2.2.1 s.2.2.2.1 s.2.2.2.2.1 h) M (v0,v1,v4,v12,v13,()) h
theorem bAc (N M v0 v1 v4 v12 v13 h):yA7 N (M+1) v0 v1 v4 v12 v13 h=kA2 N (yA7 N M) v0 v1 v4 v12 v13 h:=rfl
def f106 (N:Nat) (a0 a1:SL) (h:Heap):Option (Bool×Heap):=let x1:=!dB (Int.ofNat a0.len) (Int.ofNat a1.len);(bif x1 then some (false,h)else(pD (yA7 N N a0 a1 false (Int.ofNat a0.len) 0 h) fun o9 (j10:zY) h11=>(bif uD o9 (.exit 0) then some (true,h11)else some (j10.1,h11))))
def iBb:Ann:=(.two .n (.two .n (.two (.two .n (.two (.loop [(0,zQ2),(1,zQ2),(4,zS2),(12,zT2),(13,zT2)] [(.exit 0),.ret] [(4,zS2)] .n) .n)) .n)))
theorem lA2 (N:Nat):jD Tryz.prog 106 [zQ2,zQ2] (.val zS2) (fun x h=>f106 N x.1 x.2.1 h):=qD kA N iBb Tryz.f106
def oAj (N:Nat) (rec112:zM→zM→Heap→Option (Bool×Heap)) (rec162c112 rec193c112:SL→SL→(Unit)→Heap→Option (Bool×Heap)) (a0 a1:zM) (h:Heap):Option (Bool×Heap):=let h1:=h.push (.row (yRD a0) .own);let h2:=h1.push (.row (yRD a1) .own);(iA (.val zT2) (h2.cell ((h.next,0).1,(h.next,0).2+0)) fun (x3:Int)=>(iA (.val zT2) (h2.cell ((h1.next,0).1,(h1.next,0).2+0)) fun (x4:Int)=>let x5:=dB x3 x4;(bif x5 then(iA (.val zR2) (h2.cell ((h.next,0).1,(h.next,0).2+1)) fun (x6:zV2)=>(iA (.val zR2) (h2.cell ((h1.next,0).1,(h1.next,0).2+1)) fun (x7:zV2)=>let x8:=jB x6 x7;(bif x8 then(iA (.val zQ2) (h2.cell ((h.next,0).1,(h.next,0).2+2)) fun (x9:SL)=>(iA (.val zQ2) (h2.cell ((h1.next,0).1,(h1.next,0).2+2)) fun (x10:SL)=>(lA (f106 N x9 x10 h2) fun (x11:Bool) h12=>(bif x11 then(iA (.val zQ2) (h12.cell ((h.next,0).1,(h.next,0).2+3)) fun (x13:SL)=>(iA (.val zQ2) (h12.cell ((h1.next,0).1,(h1.next,0).2+3)) fun (x14:SL)=>(lA (rec162c112 x13 x14 (()) h12) fun (x15:Bool) h16=>some (x15,h16))))else some (false,h12)))))else some (false,h2))))else some (false,h2))))
def jBb:Ann:=.n
def wV (N:Nat) (rec112:zM→zM→Heap→Option (Bool×Heap)) (rec162c112 rec193c112:SL→SL→(Unit)→Heap→Option (Bool×Heap)) (a0 a1:SL) (a2:(Unit)) (h:Heap):Option (Bool×Heap):=(lA (rec193c112 a0 a1 (()) h) fun (x1:Bool) h2=>some (x1,h2))
def eAm:Ann:=.n
def aA8 (N:Nat) (rec112:zM→zM→Heap→Option (Bool×Heap)) (rec162c112 rec193c112:SL→SL→(Unit)→Heap→Option (Bool×Heap)) (go:SL→(Unit)→Bool→SL→Int→Int→Heap→Option (Out×zY×Heap)) (v1:SL) (v2:(Unit)) (v6:Bool) (v15:SL) (v16 v17:Int) (h:Heap):Option (Out×zY×Heap):=let x2:=qB v17 v16;(bif x2 then(ixK v15.a v15.len v17 4 fun q3=>(iA (.val zC) (h.cells q3 4) fun (x4:zM)=>let h5:=h.push (.row yZD .own);(rA (h5.store (h.next,0) (yRD x4)) fun h6=>(ixK v1.a v1.len v17 4 fun q7=>(iA (.val zC) (h6.cells q7 4) fun (x8:zM)=>let h9:=h6.push (.row yZD .own);(rA (h9.store (h6.next,0) (yRD x8)) fun h10=>(iA (.val zC) (h10.cells (h.next,0) 4) fun (x11:zM)=>(iA (.val zC) (h10.cells (h6.next,0) 4) fun (x12:zM)=>(lA (rec112 (x11.1,x11.2.1,x11.2.2.1,x11.2.2.2.1,()) (x12.1,x12.2.1,x12.2.2.1,x12.2.2.2.1,()) h10) fun (x13:Bool) h14=>let x15:=!x13;(bif x15 then some (Out.ret,(false,()),h14)else let x16:=wA .i64 (v17+1);go v1 (()) v6 v15 v16 x16 h14))))))))))else some ((Out.exit 0),(v6,()),h))
def mA2 (N:Nat) (rec112:zM→zM→Heap→Option (Bool×Heap)) (rec162c112 rec193c112:SL→SL→(Unit)→Heap→Option (Bool×Heap)) (M:Nat) (v1:SL) (v2:(Unit)) (v6:Bool) (v15:SL) (v16 v17:Int) (h:Heap):Option (Out×zY×Heap):=iter (fun go s h=>aA8 N rec112 rec162c112 rec193c112 (fun v1 v2 v6 v15 v16 v17 h=>go (v1,v2,v6,v15,v16,v17,()) h) s.1 s.2.1 s.2.2.1 s.2.2.2.1 s.2.2.2.2.1 s.2.2.2.2.2.1 h) M (v1,v2,v6,v15,v16,v17,()) h
def fAm (N:Nat) (rec112:zM→zM→Heap→Option (Bool×Heap)) (rec162c112 rec193c112:SL→SL→(Unit)→Heap→Option (Bool×Heap)) (a0 a1:SL) (a2:(Unit)) (h:Heap):Option (Bool×Heap):=let x1:=!dB (Int.ofNat a0.len) (Int.ofNat a1.len);(bif x1 then some (false,h)else(pD (mA2 N rec112 rec162c112 rec193c112 N a1 (()) false a0 (Int.ofNat a0.len) 0 h) fun o17 (j18:zY) h19=>(bif uD o17 (.exit 0) then some (true,h19)else some (j18.1,h19))))
def gAm:Ann:=(.two .n (.two .n (.two (.two .n (.two (.loop [(1,zQ2),(2,(.clo 112 [])),(6,zS2),(15,zQ2),(16,zT2),(17,zT2)] [(.exit 0),.ret] [(6,zS2)] .n) .n)) .n)))
def rAf (N M:Nat):((zM→zM→Heap→Option (Bool×Heap))×(SL→SL→(Unit)→Heap→Option (Bool×Heap))×(SL→SL→(Unit)→Heap→Option (Bool×Heap))×Unit):=Nat.rec (fun _ _ _=>none,fun _ _ _ _=>none,fun _ _ _ _=>none,()) (fun _ r=>(oAj N r.1 r.2.1 r.2.2.1,wV N r.1 r.2.1 r.2.2.1,fAm N r.1 r.2.1 r.2.2.1,())) M
def f112 (N M:Nat):zM→zM→Heap→Option (Bool×Heap):=(rAf N M).1
def jU (N M:Nat):SL→SL→(Unit)→Heap→Option (Bool×Heap):=(rAf N M).2.1
def kU (N M:Nat):SL→SL→(Unit)→Heap→Option (Bool×Heap):=(rAf N M).2.2.1
theorem pAs (N M a0 a1 h):f112 N (M+1) a0 a1 h=oAj N (f112 N M) (jU N M) (kU N M) a0 a1 h:=rfl
theorem bA8 (N M a0 a1 a2 h):jU N (M+1) a0 a1 a2 h=wV N (f112 N M) (jU N M) (kU N M) a0 a1 a2 h:=rfl
theorem pM (N:Nat):∀ M:Nat,(jD Tryz.prog 112 [zC,zC] (.val zS2) (fun x h=>f112 N M x.1 x.2.1 h))∧(jD Tryz.prog 162 [zQ2,zQ2,(.clo 112 [])] (.val zS2) (fun x h=>jU N M x.1 x.2.1 x.2.2.1 h))∧(jD Tryz.prog 193 [zQ2,zQ2,(.clo 112 [])] (.val zS2) (fun x h=>kU N M x.1 x.2.1 x.2.2.1 h))∧True
 | 0=>⟨(fun xs h r h' hx=>by cases hx),(fun xs h r h' hx=>by cases hx),(fun xs h r h' hx=>by cases hx),trivial⟩
 | M+1=>⟨qD (dC (sel:=fun a=>mJ 2 112 a) (pM N M).2.1 (bA (lA2 N) kA)) N jBb Tryz.f112,qD (dC (sel:=fun a=>mJ 2 112 a) (pM N M).2.2.1 kA) N eAm Tryz.f162,qD (bA (pM N M).1 kA) N gAm Tryz.f193,trivial⟩
theorem tAf (N:Nat):jD Tryz.prog 112 [zC,zC] (.val zS2) (fun x h=>f112 N N x.1 x.2.1 h):=(pM N N).1
def f108 (N:Nat) (a0 a1:zV) (h:Heap):Option (Bool×Heap):=let h1:=h.push (.row (yRF a0) .own);let h2:=h1.push (.row (yRF a1) .own);(iA (.val zS2) (h2.cell ((h.next,0).1,(h.next,0).2+0)) fun (x3:Bool)=>(iA (.val zS2) (h2.cell ((h1.next,0).1,(h1.next,0).2+0)) fun (x4:Bool)=>let x5:Bool:=(bif x3 then x4 else !x4);(bif x5 then(iA (.val zR2) (h2.cell ((h.next,0).1,(h.next,0).2+1)) fun (x6:zV2)=>(iA (.val zR2) (h2.cell ((h1.next,0).1,(h1.next,0).2+1)) fun (x7:zV2)=>let x8:=jB x6 x7;(bif x8 then(iA (.val zC) (h2.cells ((h.next,0).1,(h.next,0).2+2) 4) fun (x9:zM)=>(iA (.val zC) (h2.cells ((h1.next,0).1,(h1.next,0).2+2) 4) fun (x10:zM)=>(lA (f112 N N (x9.1,x9.2.1,x9.2.2.1,x9.2.2.2.1,()) (x10.1,x10.2.1,x10.2.2.1,x10.2.2.2.1,()) h2) fun (x11:Bool) h12=>some (x11,h12))))else some (false,h2))))else some (false,h2))))
def kBb:Ann:=.n
theorem wB3 (N:Nat):jD Tryz.prog 108 [zI,zI] (.val zS2) (fun x h=>f108 N x.1 x.2.1 h):=qD (bA (tAf N) kA) N kBb Tryz.f108
def cA8 (N:Nat) (go:SL→(Unit)→Bool→SL→Int→Int→Heap→Option (Out×zY×Heap)) (v1:SL) (v2:(Unit)) (v6:Bool) (v15:SL) (v16 v17:Int) (h:Heap):Option (Out×zY×Heap):=let x2:=qB v17 v16;(bif x2 then(ixK v15.a v15.len v17 6 fun q3=>(iA (.val zI) (h.cells q3 6) fun (x4:zV)=>let h5:=h.push (.row yZF .own);(rA (h5.store (h.next,0) (yRF x4)) fun h6=>(ixK v1.a v1.len v17 6 fun q7=>(iA (.val zI) (h6.cells q7 6) fun (x8:zV)=>let h9:=h6.push (.row yZF .own);(rA (h9.store (h6.next,0) (yRF x8)) fun h10=>(iA (.val zI) (h10.cells (h.next,0) 6) fun (x11:zV)=>(iA (.val zI) (h10.cells (h6.next,0) 6) fun (x12:zV)=>(lA (f108 N (x11.1,x11.2.1,x11.2.2.1,x11.2.2.2.1,x11.2.2.2.2.1,x11.2.2.2.2.2.1,()) (x12.1,x12.2.1,x12.2.2.1,x12.2.2.2.1,x12.2.2.2.2.1,x12.2.2.2.2.2.1,()) h10) fun (x13:Bool) h14=>let x15:=!x13;(bif x15 then some (Out.ret,(false,()),h14)else let x16:=wA .i64 (v17+1);go v1 (()) v6 v15 v16 x16 h14))))))))))else some ((Out.exit 0),(v6,()),h))
def nA2 (N M:Nat) (v1:SL) (v2:(Unit)) (v6:Bool) (v15:SL) (v16 v17:Int) (h:Heap):Option (Out×zY×Heap):=iter (fun go s h=>cA8 N (fun v1 v2 v6 v15 v16 v17 h=>go (v1,v2,v6,v15,v16,v17,()) h) s.1 s.2.1 s.2.2.1 s.2.2.2.1 s.2.2.2.2.1 s.2.2.2.2.2.1 h) M (v1,v2,v6,v15,v16,v17,()) h
def dA8 (N:Nat) (a0 a1:SL) (a2:(Unit)) (h:Heap):Option (Bool×Heap):=let x1:=!dB (Int.ofNat a0.len) (Int.ofNat a1.len);(bif x1 then some (false,h)else(pD (nA2 N N a1 (()) false a0 (Int.ofNat a0.len) 0 h) fun o17 (j18:zY) h19=>(bif uD o17 (.exit 0) then some (true,h19)else some (j18.1,h19))))
def iAm:Ann:=(.two .n (.two .n (.two (.two .n (.two (.loop [(1,zQ2),(2,(.clo 108 [])),(6,zS2),(15,zQ2),(16,zT2),(17,zT2)] [(.exit 0),.ret] [(6,zS2)] .n) .n)) .n)))
theorem uAf (N:Nat):jD Tryz.prog 160 [zQ2,zQ2,(.clo 108 [])] (.val zS2) (fun x h=>dA8 N x.1 x.2.1 x.2.2.1 h):=qD (bA (wB3 N) kA) N iAm Tryz.f160
def iH (N:Nat) (a0 a1:SL) (a2:(Unit)) (h:Heap):Option (Bool×Heap):=(lA (dA8 N a0 a1 (()) h) fun (x1:Bool) h2=>some (x1,h2))
def jAm:Ann:=.n
theorem pA2 (N:Nat):jD Tryz.prog 107 [zQ2,zQ2,(.clo 108 [])] (.val zS2) (fun x h=>iH N x.1 x.2.1 x.2.2.1 h):=qD (dC (sel:=fun a=>mJ 2 108 a) (uAf N) kA) N jAm Tryz.f107
def f73 (N:Nat) (a0 a1:zW) (h:Heap):Option (Bool×Heap):=let h1:=h.push (.row (yRG a0) .own);let h2:=h1.push (.row (yRG a1) .own);(iA (.val zS2) (h2.cell ((h.next,0).1,(h.next,0).2+0)) fun (x3:Bool)=>(iA (.val zS2) (h2.cell ((h1.next,0).1,(h1.next,0).2+0)) fun (x4:Bool)=>let x5:Bool:=(bif x3 then x4 else !x4);(bif x5 then(iA (.val zR2) (h2.cell ((h.next,0).1,(h.next,0).2+1)) fun (x6:zV2)=>(iA (.val zR2) (h2.cell ((h1.next,0).1,(h1.next,0).2+1)) fun (x7:zV2)=>let x8:=jB x6 x7;(bif x8 then(iA (.val zT2) (h2.cell ((h.next,0).1,(h.next,0).2+4)) fun (x9:Int)=>(iA (.val zT2) (h2.cell ((h1.next,0).1,(h1.next,0).2+4)) fun (x10:Int)=>let x11:=dB x9 x10;(bif x11 then(iA (.val zQ2) (h2.cell ((h.next,0).1,(h.next,0).2+2)) fun (x12:SL)=>(iA (.val zQ2) (h2.cell ((h1.next,0).1,(h1.next,0).2+2)) fun (x13:SL)=>(lA (f106 N x12 x13 h2) fun (x14:Bool) h15=>(bif x14 then(iA (.val zQ2) (h15.cell ((h.next,0).1,(h.next,0).2+3)) fun (x16:SL)=>(iA (.val zQ2) (h15.cell ((h1.next,0).1,(h1.next,0).2+3)) fun (x17:SL)=>(lA (iH N x16 x17 (()) h15) fun (x18:Bool) h19=>some (x18,h19))))else some (false,h15)))))else some (false,h2))))else some (false,h2))))else some (false,h2))))
def mBg:Ann:=.n
theorem lBb (N:Nat):jD Tryz.prog 73 [zG,zG] (.val zS2) (fun x h=>f73 N x.1 x.2.1 h):=qD (dC (sel:=fun a=>mJ 2 108 a) (pA2 N) (bA (lA2 N) kA)) N mBg Tryz.f73
def cAc (N:Nat) (go:SL→(Unit)→Bool→SL→Int→Int→Heap→Option (Out×zY×Heap)) (v1:SL) (v2:(Unit)) (v6:Bool) (v15:SL) (v16 v17:Int) (h:Heap):Option (Out×zY×Heap):=let x2:=qB v17 v16;(bif x2 then(ixK v15.a v15.len v17 5 fun q3=>(iA (.val zG) (h.cells q3 5) fun (x4:zW)=>let h5:=h.push (.row yZG .own);(rA (h5.store (h.next,0) (yRG x4)) fun h6=>(ixK v1.a v1.len v17 5 fun q7=>(iA (.val zG) (h6.cells q7 5) fun (x8:zW)=>let h9:=h6.push (.row yZG .own);(rA (h9.store (h6.next,0) (yRG x8)) fun h10=>(iA (.val zG) (h10.cells (h.next,0) 5) fun (x11:zW)=>(iA (.val zG) (h10.cells (h6.next,0) 5) fun (x12:zW)=>(lA (f73 N (x11.1,x11.2.1,x11.2.2.1,x11.2.2.2.1,x11.2.2.2.2.1,()) (x12.1,x12.2.1,x12.2.2.1,x12.2.2.2.1,x12.2.2.2.2.1,()) h10) fun (x13:Bool) h14=>let x15:=!x13;(bif x15 then some (Out.ret,(false,()),h14)else let x16:=wA .i64 (v17+1);go v1 (()) v6 v15 v16 x16 h14))))))))))else some ((Out.exit 0),(v6,()),h))
def kA5 (N M:Nat) (v1:SL) (v2:(Unit)) (v6:Bool) (v15:SL) (v16 v17:Int) (h:Heap):Option (Out×zY×Heap):=iter (fun go s h=>cAc N (fun v1 v2 v6 v15 v16 v17 h=>go (v1,v2,v6,v15,v16,v17,()) h) s.1 s.2.1 s.2.2.1 s.2.2.2.1 s.2.2.2.2.1 s.2.2.2.2.2.1 h) M (v1,v2,v6,v15,v16,v17,()) h
def vAf (N:Nat) (a0 a1:SL) (a2:(Unit)) (h:Heap):Option (Bool×Heap):=let x1:=!dB (Int.ofNat a0.len) (Int.ofNat a1.len);(bif x1 then some (false,h)else(pD (kA5 N N a1 (()) false a0 (Int.ofNat a0.len) 0 h) fun o17 (j18:zY) h19=>(bif uD o17 (.exit 0) then some (true,h19)else some (j18.1,h19))))
def qAs:Ann:=(.two .n (.two .n (.two (.two .n (.two (.loop [(1,zQ2),(2,(.clo 73 [])),(6,zS2),(15,zQ2),(16,zT2),(17,zT2)] [(.exit 0),.ret] [(6,zS2)] .n) .n)) .n)))
theorem kAm (N:Nat):jD Tryz.prog 105 [zQ2,zQ2,(.clo 73 [])] (.val zS2) (fun x h=>vAf N x.1 x.2.1 x.2.2.1 h):=qD (bA (lBb N) kA) N qAs Tryz.f105
def qA2 (N:Nat) (a0 a1:SL) (a2:(Unit)) (h:Heap):Option (Bool×Heap):=(lA (vAf N a0 a1 (()) h) fun (x1:Bool) h2=>some (x1,h2))
def vAw:Ann:=.n
theorem rAs (N:Nat):jD Tryz.prog 72 [zQ2,zQ2,(.clo 73 [])] (.val zS2) (fun x h=>qA2 N x.1 x.2.1 x.2.2.1 h):=qD (dC (sel:=fun a=>mJ 2 73 a) (kAm N) kA) N vAw Tryz.f72
def f111 (N:Nat) (a0 a1:zU) (h:Heap):Option (Bool×Heap):=let h1:=h.push (.row (yRI a0) .own);let h2:=h1.push (.row (yRI a1) .own);(iA (.val zR2) (h2.cell ((h.next,0).1,(h.next,0).2+0)) fun (x3:zV2)=>(iA (.val zR2) (h2.cell ((h1.next,0).1,(h1.next,0).2+0)) fun (x4:zV2)=>let x5:=jB x3 x4;(bif x5 then(iA (.val zQ2) (h2.cell ((h.next,0).1,(h.next,0).2+1)) fun (x6:SL)=>(iA (.val zQ2) (h2.cell ((h1.next,0).1,(h1.next,0).2+1)) fun (x7:SL)=>(lA (f106 N x6 x7 h2) fun (x8:Bool) h9=>some (x8,h9))))else some (false,h2))))
def mBb:Ann:=.n
theorem yB3 (N:Nat):jD Tryz.prog 111 [zJ,zJ] (.val zS2) (fun x h=>f111 N x.1 x.2.1 h):=qD (bA (lA2 N) kA) N mBb Tryz.f111
def eA8 (N:Nat) (go:SL→(Unit)→Bool→SL→Int→Int→Heap→Option (Out×zY×Heap)) (v1:SL) (v2:(Unit)) (v6:Bool) (v15:SL) (v16 v17:Int) (h:Heap):Option (Out×zY×Heap):=let x2:=qB v17 v16;(bif x2 then(ixK v15.a v15.len v17 2 fun q3=>(iA (.val zJ) (h.cells q3 2) fun (x4:zU)=>let h5:=h.push (.row yZJ .own);(rA (h5.store (h.next,0) (yRI x4)) fun h6=>(ixK v1.a v1.len v17 2 fun q7=>(iA (.val zJ) (h6.cells q7 2) fun (x8:zU)=>let h9:=h6.push (.row yZJ .own);(rA (h9.store (h6.next,0) (yRI x8)) fun h10=>(iA (.val zJ) (h10.cells (h.next,0) 2) fun (x11:zU)=>(iA (.val zJ) (h10.cells (h6.next,0) 2) fun (x12:zU)=>(lA (f111 N (x11.1,x11.2.1,()) (x12.1,x12.2.1,()) h10) fun (x13:Bool) h14=>let x15:=!x13;(bif x15 then some (Out.ret,(false,()),h14)else let x16:=wA .i64 (v17+1);go v1 (()) v6 v15 v16 x16 h14))))))))))else some ((Out.exit 0),(v6,()),h))
def rA2 (N M:Nat) (v1:SL) (v2:(Unit)) (v6:Bool) (v15:SL) (v16 v17:Int) (h:Heap):Option (Out×zY×Heap):=iter (fun go s h=>eA8 N (fun v1 v2 v6 v15 v16 v17 h=>go (v1,v2,v6,v15,v16,v17,()) h) s.1 s.2.1 s.2.2.1 s.2.2.2.1 s.2.2.2.2.1 s.2.2.2.2.2.1 h) M (v1,v2,v6,v15,v16,v17,()) h
def fA8 (N:Nat) (a0 a1:SL) (a2:(Unit)) (h:Heap):Option (Bool×Heap):=let x1:=!dB (Int.ofNat a0.len) (Int.ofNat a1.len);(bif x1 then some (false,h)else(pD (rA2 N N a1 (()) false a0 (Int.ofNat a0.len) 0 h) fun o17 (j18:zY) h19=>(bif uD o17 (.exit 0) then some (true,h19)else some (j18.1,h19))))
def lAm:Ann:=(.two .n (.two .n (.two (.two .n (.two (.loop [(1,zQ2),(2,(.clo 111 [])),(6,zS2),(15,zQ2),(16,zT2),(17,zT2)] [(.exit 0),.ret] [(6,zS2)] .n) .n)) .n)))
theorem wAf (N:Nat):jD Tryz.prog 161 [zQ2,zQ2,(.clo 111 [])] (.val zS2) (fun x h=>fA8 N x.1 x.2.1 x.2.2.1 h):=qD (bA (yB3 N) kA) N lAm Tryz.f161
def qM (N:Nat) (a0 a1:SL) (a2:(Unit)) (h:Heap):Option (Bool×Heap):=(lA (fA8 N a0 a1 (()) h) fun (x1:Bool) h2=>some (x1,h2))
def mAm:Ann:=.n
theorem yAf (N:Nat):jD Tryz.prog 110 [zQ2,zQ2,(.clo 111 [])] (.val zS2) (fun x h=>qM N x.1 x.2.1 x.2.2.1 h):=qD (dC (sel:=fun a=>mJ 2 111 a) (wAf N) kA) N mAm Tryz.f110
def f164 (N:Nat) (a0 a1:zU) (h:Heap):Option (Bool×Heap):=let h1:=h.push (.row (yRI a0) .own);let h2:=h1.push (.row (yRI a1) .own);(iA (.val zR2) (h2.cell ((h.next,0).1,(h.next,0).2+0)) fun (x3:zV2)=>(iA (.val zR2) (h2.cell ((h1.next,0).1,(h1.next,0).2+0)) fun (x4:zV2)=>let x5:=jB x3 x4;(bif x5 then(iA (.val zQ2) (h2.cell ((h.next,0).1,(h.next,0).2+1)) fun (x6:SL)=>(iA (.val zQ2) (h2.cell ((h1.next,0).1,(h1.next,0).2+1)) fun (x7:SL)=>(lA (f106 N x6 x7 h2) fun (x8:Bool) h9=>some (x8,h9))))else some (false,h2))))
def nBb:Ann:=.n
theorem aAg (N:Nat):jD Tryz.prog 164 [zJ,zJ] (.val zS2) (fun x h=>f164 N x.1 x.2.1 h):=qD (bA (lA2 N) kA) N nBb Tryz.f164
def f166 (N:Nat) (a0 a1:zR) (h:Heap):Option (Bool×Heap):=let h1:=h.push (.row (yRE a0) .own);let h2:=h1.push (.row (yRE a1) .own);(iA (.val zT2) (h2.cell ((h.next,0).1,(h.next,0).2+0)) fun (x3:Int)=>(iA (.val zT2) (h2.cell ((h1.next,0).1,(h1.next,0).2+0)) fun (x4:Int)=>let x5:=dB x3 x4;(bif x5 then(iA (.val zT2) (h2.cell ((h.next,0).1,(h.next,0).2+1)) fun (x6:Int)=>(iA (.val zT2) (h2.cell ((h1.next,0).1,(h1.next,0).2+1)) fun (x7:Int)=>let x8:=dB x6 x7;(bif x8 then(iA (.val zJ) (h2.cells ((h.next,0).1,(h.next,0).2+2) 2) fun (x9:zU)=>(iA (.val zJ) (h2.cells ((h1.next,0).1,(h1.next,0).2+2) 2) fun (x10:zU)=>(lA (f164 N (x9.1,x9.2.1,()) (x10.1,x10.2.1,()) h2) fun (x11:Bool) h12=>some (x11,h12))))else some (false,h2))))else some (false,h2))))
def oBb:Ann:=.n
theorem bAg (N:Nat):jD Tryz.prog 166 [zE,zE] (.val zS2) (fun x h=>f166 N x.1 x.2.1 h):=qD (bA (aAg N) kA) N oBb Tryz.f166
def gA8 (N:Nat) (go:SL→(Unit)→Bool→SL→Int→Int→Heap→Option (Out×zY×Heap)) (v1:SL) (v2:(Unit)) (v6:Bool) (v15:SL) (v16 v17:Int) (h:Heap):Option (Out×zY×Heap):=let x2:=qB v17 v16;(bif x2 then(ixK v15.a v15.len v17 4 fun q3=>(iA (.val zE) (h.cells q3 4) fun (x4:zR)=>let h5:=h.push (.row yZI .own);(rA (h5.store (h.next,0) (yRE x4)) fun h6=>(ixK v1.a v1.len v17 4 fun q7=>(iA (.val zE) (h6.cells q7 4) fun (x8:zR)=>let h9:=h6.push (.row yZI .own);(rA (h9.store (h6.next,0) (yRE x8)) fun h10=>(iA (.val zE) (h10.cells (h.next,0) 4) fun (x11:zR)=>(iA (.val zE) (h10.cells (h6.next,0) 4) fun (x12:zR)=>(lA (f166 N (x11.1,x11.2.1,x11.2.2.1,x11.2.2.2.1,()) (x12.1,x12.2.1,x12.2.2.1,x12.2.2.2.1,()) h10) fun (x13:Bool) h14=>let x15:=!x13;(bif x15 then some (Out.ret,(false,()),h14)else let x16:=wA .i64 (v17+1);go v1 (()) v6 v15 v16 x16 h14))))))))))else some ((Out.exit 0),(v6,()),h))
def tA2 (N M:Nat) (v1:SL) (v2:(Unit)) (v6:Bool) (v15:SL) (v16 v17:Int) (h:Heap):Option (Out×zY×Heap):=iter (fun go s h=>gA8 N (fun v1 v2 v6 v15 v16 v17 h=>go (v1,v2,v6,v15,v16,v17,()) h) s.1 s.2.1 s.2.2.1 s.2.2.2.1 s.2.2.2.2.1 s.2.2.2.2.2.1 h) M (v1,v2,v6,v15,v16,v17,()) h
def iA8 (N:Nat) (a0 a1:SL) (a2:(Unit)) (h:Heap):Option (Bool×Heap):=let x1:=!dB (Int.ofNat a0.len) (Int.ofNat a1.len);(bif x1 then some (false,h)else(pD (tA2 N N a1 (()) false a0 (Int.ofNat a0.len) 0 h) fun o17 (j18:zY) h19=>(bif uD o17 (.exit 0) then some (true,h19)else some (j18.1,h19))))
def nAm:Ann:=(.two .n (.two .n (.two (.two .n (.two (.loop [(1,zQ2),(2,(.clo 166 [])),(6,zS2),(15,zQ2),(16,zT2),(17,zT2)] [(.exit 0),.ret] [(6,zS2)] .n) .n)) .n)))
theorem cAg (N:Nat):jD Tryz.prog 214 [zQ2,zQ2,(.clo 166 [])] (.val zS2) (fun x h=>iA8 N x.1 x.2.1 x.2.2.1 h):=qD (bA (bAg N) kA) N nAm Tryz.f214
def rM (N:Nat) (a0 a1:SL) (a2:(Unit)) (h:Heap):Option (Bool×Heap):=(lA (iA8 N a0 a1 (()) h) fun (x1:Bool) h2=>some (x1,h2))
def oAm:Ann:=.n
theorem dAg (N:Nat):jD Tryz.prog 194 [zQ2,zQ2,(.clo 166 [])] (.val zS2) (fun x h=>rM N x.1 x.2.1 x.2.2.1 h):=qD (dC (sel:=fun a=>mJ 2 166 a) (cAg N) kA) N oAm Tryz.f194
def f165 (N:Nat) (a0 a1:zN) (h:Heap):Option (Bool×Heap):=let h1:=h.push (.row (yRB a0) .own);let h2:=h1.push (.row (yRB a1) .own);(iA (.val zT2) (h2.cell ((h.next,0).1,(h.next,0).2+0)) fun (x3:Int)=>(iA (.val zT2) (h2.cell ((h1.next,0).1,(h1.next,0).2+0)) fun (x4:Int)=>let x5:=dB x3 x4;(bif x5 then(iA (.val zE) (h2.cells ((h.next,0).1,(h.next,0).2+1) 4) fun (x6:zR)=>(iA (.val zE) (h2.cells ((h1.next,0).1,(h1.next,0).2+1) 4) fun (x7:zR)=>(lA (f166 N (x6.1,x6.2.1,x6.2.2.1,x6.2.2.2.1,()) (x7.1,x7.2.1,x7.2.2.1,x7.2.2.2.1,()) h2) fun (x8:Bool) h9=>(bif x8 then(iA (.val zE) (h9.cells ((h.next,0).1,(h.next,0).2+5) 4) fun (x10:zR)=>(iA (.val zE) (h9.cells ((h1.next,0).1,(h1.next,0).2+5) 4) fun (x11:zR)=>(lA (f166 N (x10.1,x10.2.1,x10.2.2.1,x10.2.2.2.1,()) (x11.1,x11.2.1,x11.2.2.1,x11.2.2.2.1,()) h9) fun (x12:Bool) h13=>(bif x12 then(iA (.val zT2) (h13.cell ((h.next,0).1,(h.next,0).2+9)) fun (x14:Int)=>(iA (.val zT2) (h13.cell ((h1.next,0).1,(h1.next,0).2+9)) fun (x15:Int)=>let x16:=dB x14 x15;(bif x16 then(iA (.val zJ) (h13.cells ((h.next,0).1,(h.next,0).2+10) 2) fun (x17:zU)=>(iA (.val zJ) (h13.cells ((h1.next,0).1,(h1.next,0).2+10) 2) fun (x18:zU)=>(lA (f164 N (x17.1,x17.2.1,()) (x18.1,x18.2.1,()) h13) fun (x19:Bool) h20=>(bif x19 then(iA (.val zR2) (h20.cell ((h.next,0).1,(h.next,0).2+12)) fun (x21:zV2)=>(iA (.val zR2) (h20.cell ((h1.next,0).1,(h1.next,0).2+12)) fun (x22:zV2)=>let x23:=jB x21 x22;(bif x23 then(iA (.val zQ2) (h20.cell ((h.next,0).1,(h.next,0).2+13)) fun (x24:SL)=>
 (iA (.val zQ2) (h20.cell ((h1.next,0).1,(h1.next,0).2+13)) fun (x25:SL)=>(lA (f106 N x24 x25 h20) fun (x26:Bool) h27=>(bif x26 then(iA (.val zQ2) (h27.cell ((h.next,0).1,(h.next,0).2+14)) fun (x28:SL)=>(iA (.val zQ2) (h27.cell ((h1.next,0).1,(h1.next,0).2+14)) fun (x29:SL)=>(lA (rM N x28 x29 (()) h27) fun (x30:Bool) h31=>some (x30,h31))))else some (false,h27)))))else some (false,h20))))else some (false,h20)))))else some (false,h13))))else some (false,h13)))))else some (false,h9)))))else some (false,h2))))
def pBb:Ann:=.n
theorem aB4 (N:Nat):jD Tryz.prog 165 [zB,zB] (.val zS2) (fun x h=>f165 N x.1 x.2.1 h):=qD (dC (sel:=fun a=>mJ 2 166 a) (dAg N) (bA (bAg N) (bA (aAg N) (bA (lA2 N) kA)))) N pBb Tryz.f165
def tP (N:Nat) (rec113c114:SL→SL→(Unit)→Heap→Option (Bool×Heap)) (rec114:zL→zL→Heap→Option (Bool×Heap)) (rec163c114:SL→SL→(Unit)→Heap→Option (Bool×Heap)) (a0 a1:SL) (a2:(Unit)) (h:Heap):Option (Bool×Heap):=(lA (rec163c114 a0 a1 (()) h) fun (x1:Bool) h2=>some (x1,h2))
def pAm:Ann:=.n
def pAj (N:Nat) (rec113c114:SL→SL→(Unit)→Heap→Option (Bool×Heap)) (rec114:zL→zL→Heap→Option (Bool×Heap)) (rec163c114:SL→SL→(Unit)→Heap→Option (Bool×Heap)) (a0 a1:zL) (h:Heap):Option (Bool×Heap):=let h1:=h.push (.row (yRA a0) .own);let h2:=h1.push (.row (yRA a1) .own);(iA (.val zT2) (h2.cell ((h.next,0).1,(h.next,0).2+0)) fun (x3:Int)=>(iA (.val zT2) (h2.cell ((h1.next,0).1,(h1.next,0).2+0)) fun (x4:Int)=>let x5:=dB x3 x4;(bif x5 then(iA (.val zT2) (h2.cell ((h.next,0).1,(h.next,0).2+1)) fun (x6:Int)=>(iA (.val zT2) (h2.cell ((h1.next,0).1,(h1.next,0).2+1)) fun (x7:Int)=>let x8:=dB x6 x7;(bif x8 then(iA (.val zS2) (h2.cell ((h.next,0).1,(h.next,0).2+2)) fun (x9:Bool)=>(iA (.val zS2) (h2.cell ((h1.next,0).1,(h1.next,0).2+2)) fun (x10:Bool)=>let x11:Bool:=(bif x9 then x10 else !x10);(bif x11 then(iA (.val zR2) (h2.cell ((h.next,0).1,(h.next,0).2+3)) fun (x12:zV2)=>(iA (.val zR2) (h2.cell ((h1.next,0).1,(h1.next,0).2+3)) fun (x13:zV2)=>let x14:=jB x12 x13;(bif x14 then(iA (.val zS2) (h2.cell ((h.next,0).1,(h.next,0).2+8)) fun (x15:Bool)=>(iA (.val zS2) (h2.cell ((h1.next,0).1,(h1.next,0).2+8)) fun (x16:Bool)=>let x17:Bool:=(bif x15 then x16 else !x16);(bif x17 then(iA (.val zC) (h2.cells ((h.next,0).1,(h.next,0).2+4) 4) fun (x18:zM)=>(iA (.val zC) (h2.cells ((h1.next,0).1,(h1.next,0).2+4) 4) fun (x19:zM)=>(lA (f112 N N (x18.1,x18.2.1,x18.2.2.1,x18.2.2.2.1,()) (x19.1,x19.2.1,x19.2.2.1,x19.2.2.2.1,()) h2) fun (x20:Bool) h21=>(bif x20 then
 (iA (.val zJ) (h21.cells ((h.next,0).1,(h.next,0).2+9) 2) fun (x22:zU)=>(iA (.val zJ) (h21.cells ((h1.next,0).1,(h1.next,0).2+9) 2) fun (x23:zU)=>(lA (f164 N (x22.1,x22.2.1,()) (x23.1,x23.2.1,()) h21) fun (x24:Bool) h25=>(bif x24 then(iA (.val zB) (h25.cells ((h.next,0).1,(h.next,0).2+11) 15) fun (x26:zN)=>(iA (.val zB) (h25.cells ((h1.next,0).1,(h1.next,0).2+11) 15) fun (x27:zN)=>(lA (f165 N (x26.1,x26.2.1,x26.2.2.1,x26.2.2.2.1,x26.2.2.2.2.1,x26.2.2.2.2.2.1,x26.2.2.2.2.2.2.1,x26.2.2.2.2.2.2.2.1,x26.2.2.2.2.2.2.2.2.1,x26.2.2.2.2.2.2.2.2.2.1,x26.2.2.2.2.2.2.2.2.2.2.1,x26.2.2.2.2.2.2.2.2.2.2.2.1,x26.2.2.2.2.2.2.2.2.2.2.2.2.1,x26.2.2.2.2.2.2.2.2.2.2.2.2.2.1,x26.2.2.2.2.2.2.2.2.2.2.2.2.2.2.1,()) (x27.1,x27.2.1,x27.2.2.1,x27.2.2.2.1,x27.2.2.2.2.1,x27.2.2.2.2.2.1,x27.2.2.2.2.2.2.1,x27.2.2.2.2.2.2.2.1,x27.2.2.2.2.2.2.2.2.1,x27.2.2.2.2.2.2.2.2.2.1,x27.2.2.2.2.2.2.2.2.2.2.1,x27.2.2.2.2.2.2.2.2.2.2.2.1,x27.2.2.2.2.2.2.2.2.2.2.2.2.1,x27.2.2.2.2.2.2.2.2.2.2.2.2.2.1,x27.2.2.2.2.2.2.2.2.2.2.2.2.2.2.1,()) h25) fun (x28:Bool) h29=>(bif x28 then(iA (.val zE) (h29.cells ((h.next,0).1,(h.next,0).2+26) 4) fun (x30:zR)=>(iA (.val zE) (h29.cells ((h1.next,0).1,(h1.next,0).2+26) 4) fun (x31:zR)=>(lA (f166 N (x30.1,x30.2.1,x30.2.2.1,x30.2.2.2.1,()) (x31.1,x31.2.1,x31.2.2.1,x31.2.2.2.1,()) h29) fun (x32:Bool) h33=>(bif x32 then(iA (.val zQ2) (h33.cell ((h.next,0).1,(h.next,0).2+30)) fun (x34:SL)=>(iA (.val zQ2) (h33.cell ((h1.next,0).1,(h1.next,0).2+30)) fun (x35:SL)=>
 (lA (rec113c114 x34 x35 (()) h33) fun (x36:Bool) h37=>(bif x36 then(iA (.val zQ2) (h37.cell ((h.next,0).1,(h.next,0).2+31)) fun (x38:SL)=>(iA (.val zQ2) (h37.cell ((h1.next,0).1,(h1.next,0).2+31)) fun (x39:SL)=>(lA (rec113c114 x38 x39 (()) h37) fun (x40:Bool) h41=>some (x40,h41))))else some (false,h37)))))else some (false,h33)))))else some (false,h29)))))else some (false,h25)))))else some (false,h21)))))else some (false,h2))))else some (false,h2))))else some (false,h2))))else some (false,h2))))else some (false,h2))))
def qBb:Ann:=.n
def jA8 (N:Nat) (rec113c114:SL→SL→(Unit)→Heap→Option (Bool×Heap)) (rec114:zL→zL→Heap→Option (Bool×Heap)) (rec163c114:SL→SL→(Unit)→Heap→Option (Bool×Heap)) (go:SL→(Unit)→Bool→SL→Int→Int→Heap→Option (Out×zY×Heap)) (v1:SL) (v2:(Unit)) (v6:Bool) (v15:SL) (v16 v17:Int) (h:Heap):Option (Out×zY×Heap):=let x2:=qB v17 v16;(bif x2 then(ixK v15.a v15.len v17 32 fun q3=>(iA (.val zA) (h.cells q3 32) fun (x4:zL)=>let h5:=h.push (.row yZA .own);(rA (h5.store (h.next,0) (yRA x4)) fun h6=>(ixK v1.a v1.len v17 32 fun q7=>(iA (.val zA) (h6.cells q7 32) fun (x8:zL)=>let h9:=h6.push (.row yZA .own);(rA (h9.store (h6.next,0) (yRA x8)) fun h10=>(iA (.val zA) (h10.cells (h.next,0) 32) fun (x11:zL)=>(iA (.val zA) (h10.cells (h6.next,0) 32) fun (x12:zL)=>(lA (rec114 (x11.1,x11.2.1,x11.2.2.1,x11.2.2.2.1,x11.2.2.2.2.1,x11.2.2.2.2.2.1,x11.2.2.2.2.2.2.1,x11.2.2.2.2.2.2.2.1,x11.2.2.2.2.2.2.2.2.1,x11.2.2.2.2.2.2.2.2.2.1,x11.2.2.2.2.2.2.2.2.2.2.1,x11.2.2.2.2.2.2.2.2.2.2.2.1,x11.2.2.2.2.2.2.2.2.2.2.2.2.1,x11.2.2.2.2.2.2.2.2.2.2.2.2.2.1,x11.2.2.2.2.2.2.2.2.2.2.2.2.2.2.1,x11.2.2.2.2.2.2.2.2.2.2.2.2.2.2.2.1,x11.2.2.2.2.2.2.2.2.2.2.2.2.2.2.2.2.1,x11.2.2.2.2.2.2.2.2.2.2.2.2.2.2.2.2.2.1,x11.2.2.2.2.2.2.2.2.2.2.2.2.2.2.2.2.2.2.1,x11.2.2.2.2.2.2.2.2.2.2.2.2.2.2.2.2.2.2.2.1,x11.2.2.2.2.2.2.2.2.2.2.2.2.2.2.2.2.2.2.2.2.1,x11.2.2.2.2.2.2.2.2.2.2.2.2.2.2.2.2.2.2.2.2.2.1,x11.2.2.2.2.2.2.2.2.2.2.2.2.2.2.2.2.2.2.2.2.2.2.1,x11.2.2.2.2.2.2.2.2.2.2.2.2.2.2.2.2.2.2.2.2.2.2.2.1,x11.2.2.2.2.2.2.2.2.2.2.2.2.2.2.2.2.2.2.2.2.2.2.2.2.1,x11.2.2.2.2.2.2.2.2.2.2.2.2.2.2.2.2.2.2.2.2.2.2.2.2.2.1,x11.2.2.2.2.2.2.2.2.2.2.2.2.2.2.2.2.2.2.2.2.2.2.2.2.2.2.1,x11.2.2.2.2.2.2.2.2.2.2.2.2.2.2.2.2.2.2.2.2.2.2.2.2.2.2.2.1,x11.2.2.2.2.2.2.2.2.2.2.2.2.2.2.2.2.2.2.2.2.2.2.2.2.2.2.2.2.1,x11.2.2.2.2.2.2.2.2.2.2.2.2.2.2.2.2.2.2.2.2.2.2.2.2.2.2.2.2.2.1,x11.2.2.2.2.2.2.2.2.2.2.2.2.2.2.2.2.2.2.2.2.2.2.2.2.2.2.2.2.2.2.1,x11.2.2.2.2.2.2.2.2.2.2.2.2.2.2.2.2.2.2.2.2.2.2.2.2.2.2.2.2.2.2.2.1,()) (x12.1,x12.2.1,x12.2.2.1,x12.2.2.2.1,x12.2.2.2.2.1,x12.2.2.2.2.2.1,x12.2.2.2.2.2.2.1,x12.2.2.2.2.2.2.2.1,x12.2.2.2.2.2.2.2.2.1,x12.2.2.2.2.2.2.2.2.2.1,x12.2.2.2.2.2.2.2.2.2.2.1,x12.2.2.2.2.2.2.2.2.2.2.2.1,x12.2.2.2.2.2.2.2.2.2.2.2.2.1,x12.2.2.2.2.2.2.2.2.2.2.2.2.2.1,x12.2.2.2.2.2.2.2.2.2.2.2.2.2.2.1,x12.2.2.2.2.2.2.2.2.2.2.2.2.2.2.2.1,x12.2.2.2.2.2.2.2.2.2.2.2.2.2.2.2.2.1,x12.2.2.2.2.2.2.2.2.2.2.2.2.2.2.2.2.2.1,x12.2.2.2.2.2.2.2.2.2.2.2.2.2.2.2.2.2.2.1,x12.2.2.2.2.2.2.2.2.2.2.2.2.2.2.2.2.2.2.2.1,x12.2.2.2.2.2.2.2.2.2.2.2.2.2.2.2.2.2.2.2.2.1,x12.2.2.2.2.2.2.2.2.2.2.2.2.2.2.2.2.2.2.2.2.2.1,x12.2.2.2.2.2.2.2.2.2.2.2.2.2.2.2.2.2.2.2.2.2.2.1,x12.2.2.2.2.2.2.2.2.2.2.2.2.2.2.2.2.2.2.2.2.2.2.2.1,x12.2.2.2.2.2.2.2.2.2.2.2.2.2.2.2.2.2.2.2.2.2.2.2.2.1,x12.2.2.2.2.2.2.2.2.2.2.2.2.2.2.2.2.2.2.2.2.2.2.2.2.2.1,x12.2.2.2.2.2.2.2.2.2.2.2.2.2.2.2.2.2.2.2.2.2.2.2.2.2.2.1,x12.2.2.2.2.2.2.2.2.2.2.2.2.2.2.2.2.2.2.2.2.2.2.2.2.2.2.2.1,x12.2.2.2.2.2.2.2.2.2.2.2.2.2.2.2.2.2.2.2.2.2.2.2.2.2.2.2.2.1,x12.2.2.2.2.2.2.2.2.2.2.2.2.2.2.2.2.2.2.2.2.2.2.2.2.2.2.2.2.2.1,x12.2.2.2.2.2.2.2.2.2.2.2.2.2.2.2.2.2.2.2.2.2.2.2.2.2.2.2.2.2.2.1,x12.2.2.2.2.2.2.2.2.2.2.2.2.2.2.2.2.2.2.2.2.2.2.2.2.2.2.2.2.2.2.2.1,()) h10) fun (x13:Bool) h14=>
 let x15:=!x13;(bif x15 then some (Out.ret,(false,()),h14)else let x16:=wA .i64 (v17+1);go v1 (()) v6 v15 v16 x16 h14))))))))))else some ((Out.exit 0),(v6,()),h))
def vR (N:Nat) (rec113c114:SL→SL→(Unit)→Heap→Option (Bool×Heap)) (rec114:zL→zL→Heap→Option (Bool×Heap)) (rec163c114:SL→SL→(Unit)→Heap→Option (Bool×Heap)) (M:Nat) (v1:SL) (v2:(Unit)) (v6:Bool) (v15:SL) (v16 v17:Int) (h:Heap):Option (Out×zY×Heap):=iter (fun go s h=>jA8 N rec113c114 rec114 rec163c114 (fun v1 v2 v6 v15 v16 v17 h=>go (v1,v2,v6,v15,v16,v17,()) h) s.1 s.2.1 s.2.2.1 s.2.2.2.1 s.2.2.2.2.1 s.2.2.2.2.2.1 h) M (v1,v2,v6,v15,v16,v17,()) h
def qAm (N:Nat) (rec113c114:SL→SL→(Unit)→Heap→Option (Bool×Heap)) (rec114:zL→zL→Heap→Option (Bool×Heap)) (rec163c114:SL→SL→(Unit)→Heap→Option (Bool×Heap)) (a0 a1:SL) (a2:(Unit)) (h:Heap):Option (Bool×Heap):=let x1:=!dB (Int.ofNat a0.len) (Int.ofNat a1.len);(bif x1 then some (false,h)else(pD (vR N rec113c114 rec114 rec163c114 N a1 (()) false a0 (Int.ofNat a0.len) 0 h) fun o17 (j18:zY) h19=>(bif uD o17 (.exit 0) then some (true,h19)else some (j18.1,h19))))
def rAm:Ann:=(.two .n (.two .n (.two (.two .n (.two (.loop [(1,zQ2),(2,(.clo 114 [])),(6,zS2),(15,zQ2),(16,zT2),(17,zT2)] [(.exit 0),.ret] [(6,zS2)] .n) .n)) .n)))
def wR (N M:Nat):((SL→SL→(Unit)→Heap→Option (Bool×Heap))×(zL→zL→Heap→Option (Bool×Heap))×(SL→SL→(Unit)→Heap→Option (Bool×Heap))×Unit):=Nat.rec (fun _ _ _ _=>none,fun _ _ _=>none,fun _ _ _ _=>none,()) (fun _ r=>(tP N r.1 r.2.1 r.2.2.1,pAj N r.1 r.2.1 r.2.2.1,qAm N r.1 r.2.1 r.2.2.1,())) M
def jG (N M:Nat):SL→SL→(Unit)→Heap→Option (Bool×Heap):=(wR N M).1
def f114 (N M:Nat):zL→zL→Heap→Option (Bool×Heap):=(wR N M).2.1
def tM (N M:Nat):SL→SL→(Unit)→Heap→Option (Bool×Heap):=(wR N M).2.2.1
theorem lU (N M a0 a1 a2 h):jG N (M+1) a0 a1 a2 h=tP N (jG N M) (f114 N M) (tM N M) a0 a1 a2 h:=rfl
theorem tAs (N M a0 a1 h):f114 N (M+1) a0 a1 h=pAj N (jG N M) (f114 N M) (tM N M) a0 a1 h:=rfl
theorem jH (N:Nat):∀ M:Nat,(jD Tryz.prog 113 [zQ2,zQ2,(.clo 114 [])] (.val zS2) (fun x h=>jG N M x.1 x.2.1 x.2.2.1 h))∧(jD Tryz.prog 114 [zA,zA] (.val zS2) (fun x h=>f114 N M x.1 x.2.1 h))∧(jD Tryz.prog 163 [zQ2,zQ2,(.clo 114 [])] (.val zS2) (fun x h=>tM N M x.1 x.2.1 x.2.2.1 h))∧True
 | 0=>⟨(fun xs h r h' hx=>by cases hx),(fun xs h r h' hx=>by cases hx),(fun xs h r h' hx=>by cases hx),trivial⟩
 | M+1=>⟨qD (dC (sel:=fun a=>mJ 2 114 a) (jH N M).2.2.1 kA) N pAm Tryz.f113,qD (bA (bAg N) (bA (aB4 N) (bA (aAg N) (dC (sel:=fun a=>mJ 2 114 a) (jH N M).1 (bA (tAf N) kA))))) N qBb Tryz.f114,qD (bA (jH N M).2.1 kA) N rAm Tryz.f163,trivial⟩
theorem eAg (N:Nat):jD Tryz.prog 113 [zQ2,zQ2,(.clo 114 [])] (.val zS2) (fun x h=>jG N N x.1 x.2.1 x.2.2.1 h):=(jH N N).1
def f75 (N:Nat) (a0 a1:zS) (h:Heap):Option (Bool×Heap):=let h1:=h.push (.row (yRC a0) .own);let h2:=h1.push (.row (yRC a1) .own);(iA (.val zS2) (h2.cell ((h.next,0).1,(h.next,0).2+0)) fun (x3:Bool)=>(iA (.val zS2) (h2.cell ((h1.next,0).1,(h1.next,0).2+0)) fun (x4:Bool)=>let x5:Bool:=(bif x3 then x4 else !x4);(bif x5 then(iA (.val zR2) (h2.cell ((h.next,0).1,(h.next,0).2+1)) fun (x6:zV2)=>(iA (.val zR2) (h2.cell ((h1.next,0).1,(h1.next,0).2+1)) fun (x7:zV2)=>let x8:=jB x6 x7;(bif x8 then(iA (.val zT2) (h2.cell ((h.next,0).1,(h.next,0).2+9)) fun (x9:Int)=>(iA (.val zT2) (h2.cell ((h1.next,0).1,(h1.next,0).2+9)) fun (x10:Int)=>let x11:=dB x9 x10;(bif x11 then(iA (.val zQ2) (h2.cell ((h.next,0).1,(h.next,0).2+2)) fun (x12:SL)=>(iA (.val zQ2) (h2.cell ((h1.next,0).1,(h1.next,0).2+2)) fun (x13:SL)=>(lA (qM N x12 x13 (()) h2) fun (x14:Bool) h15=>(bif x14 then(iA (.val zQ2) (h15.cell ((h.next,0).1,(h.next,0).2+3)) fun (x16:SL)=>(iA (.val zQ2) (h15.cell ((h1.next,0).1,(h1.next,0).2+3)) fun (x17:SL)=>(lA (iH N x16 x17 (()) h15) fun (x18:Bool) h19=>(bif x18 then(iA (.val zC) (h19.cells ((h.next,0).1,(h.next,0).2+4) 4) fun (x20:zM)=>(iA (.val zC) (h19.cells ((h1.next,0).1,(h1.next,0).2+4) 4) fun (x21:zM)=>(lA (f112 N N (x20.1,x20.2.1,x20.2.2.1,x20.2.2.2.1,()) (x21.1,x21.2.1,x21.2.2.1,x21.2.2.2.1,()) h19) fun (x22:Bool) h23=>(bif x22 then(iA (.val zQ2) (h23.cell ((h.next,0).1,(h.next,0).2+8)) fun (x24:SL)=>(iA (.val zQ2) (h23.cell ((h1.next,0).1,(h1.next,0).2+8)) fun (x25:SL)=>
 (lA (jG N N x24 x25 (()) h23) fun (x26:Bool) h27=>some (x26,h27))))else some (false,h23)))))else some (false,h19)))))else some (false,h15)))))else some (false,h2))))else some (false,h2))))else some (false,h2))))
def nBg:Ann:=.n
theorem rBb (N:Nat):jD Tryz.prog 75 [zD,zD] (.val zS2) (fun x h=>f75 N x.1 x.2.1 h):=qD (dC (sel:=fun a=>mJ 2 114 a) (eAg N) (bA (tAf N) (dC (sel:=fun a=>mJ 2 111 a) (yAf N) (dC (sel:=fun a=>mJ 2 108 a) (pA2 N) kA)))) N nBg Tryz.f75
def dAc (N:Nat) (go:SL→(Unit)→Bool→SL→Int→Int→Heap→Option (Out×zY×Heap)) (v1:SL) (v2:(Unit)) (v6:Bool) (v15:SL) (v16 v17:Int) (h:Heap):Option (Out×zY×Heap):=let x2:=qB v17 v16;(bif x2 then(ixK v15.a v15.len v17 10 fun q3=>(iA (.val zD) (h.cells q3 10) fun (x4:zS)=>let h5:=h.push (.row yZC .own);(rA (h5.store (h.next,0) (yRC x4)) fun h6=>(ixK v1.a v1.len v17 10 fun q7=>(iA (.val zD) (h6.cells q7 10) fun (x8:zS)=>let h9:=h6.push (.row yZC .own);(rA (h9.store (h6.next,0) (yRC x8)) fun h10=>(iA (.val zD) (h10.cells (h.next,0) 10) fun (x11:zS)=>(iA (.val zD) (h10.cells (h6.next,0) 10) fun (x12:zS)=>(lA (f75 N (x11.1,x11.2.1,x11.2.2.1,x11.2.2.2.1,x11.2.2.2.2.1,x11.2.2.2.2.2.1,x11.2.2.2.2.2.2.1,x11.2.2.2.2.2.2.2.1,x11.2.2.2.2.2.2.2.2.1,x11.2.2.2.2.2.2.2.2.2.1,()) (x12.1,x12.2.1,x12.2.2.1,x12.2.2.2.1,x12.2.2.2.2.1,x12.2.2.2.2.2.1,x12.2.2.2.2.2.2.1,x12.2.2.2.2.2.2.2.1,x12.2.2.2.2.2.2.2.2.1,x12.2.2.2.2.2.2.2.2.2.1,()) h10) fun (x13:Bool) h14=>let x15:=!x13;(bif x15 then some (Out.ret,(false,()),h14)else let x16:=wA .i64 (v17+1);go v1 (()) v6 v15 v16 x16 h14))))))))))else some ((Out.exit 0),(v6,()),h))
def lA5 (N M:Nat) (v1:SL) (v2:(Unit)) (v6:Bool) (v15:SL) (v16 v17:Int) (h:Heap):Option (Out×zY×Heap):=iter (fun go s h=>dAc N (fun v1 v2 v6 v15 v16 v17 h=>go (v1,v2,v6,v15,v16,v17,()) h) s.1 s.2.1 s.2.2.1 s.2.2.2.1 s.2.2.2.2.1 s.2.2.2.2.2.1 h) M (v1,v2,v6,v15,v16,v17,()) h
def fAg (N:Nat) (a0 a1:SL) (a2:(Unit)) (h:Heap):Option (Bool×Heap):=let x1:=!dB (Int.ofNat a0.len) (Int.ofNat a1.len);(bif x1 then some (false,h)else(pD (lA5 N N a1 (()) false a0 (Int.ofNat a0.len) 0 h) fun o17 (j18:zY) h19=>(bif uD o17 (.exit 0) then some (true,h19)else some (j18.1,h19))))
def uAs:Ann:=(.two .n (.two .n (.two (.two .n (.two (.loop [(1,zQ2),(2,(.clo 75 [])),(6,zS2),(15,zQ2),(16,zT2),(17,zT2)] [(.exit 0),.ret] [(6,zS2)] .n) .n)) .n)))
theorem tAm (N:Nat):jD Tryz.prog 109 [zQ2,zQ2,(.clo 75 [])] (.val zS2) (fun x h=>fAg N x.1 x.2.1 x.2.2.1 h):=qD (bA (rBb N) kA) N uAs Tryz.f109
def uA2 (N:Nat) (a0 a1:SL) (a2:(Unit)) (h:Heap):Option (Bool×Heap):=(lA (fAg N a0 a1 (()) h) fun (x1:Bool) h2=>some (x1,h2))
def wAw:Ann:=.n
theorem vAs (N:Nat):jD Tryz.prog 74 [zQ2,zQ2,(.clo 75 [])] (.val zS2) (fun x h=>uA2 N x.1 x.2.1 x.2.2.1 h):=qD (dC (sel:=fun a=>mJ 2 75 a) (tAm N) kA) N wAw Tryz.f74
def f30 (N:Nat) (a0 a1:zE1) (h:Heap):Option (Bool×Heap):=let h1:=h.push (.row (yRJ a0) .own);let h2:=h1.push (.row (yRJ a1) .own);(iA (.val zQ2) (h2.cell ((h.next,0).1,(h.next,0).2+0)) fun (x3:SL)=>(iA (.val zQ2) (h2.cell ((h1.next,0).1,(h1.next,0).2+0)) fun (x4:SL)=>(lA (qA2 N x3 x4 (()) h2) fun (x5:Bool) h6=>(bif x5 then(iA (.val zQ2) (h6.cell ((h.next,0).1,(h.next,0).2+1)) fun (x7:SL)=>(iA (.val zQ2) (h6.cell ((h1.next,0).1,(h1.next,0).2+1)) fun (x8:SL)=>(lA (uA2 N x7 x8 (()) h6) fun (x9:Bool) h10=>some (x9,h10))))else some (false,h6)))))
def oBg:Ann:=.n
theorem tBb (N:Nat):jD Tryz.prog 30 [zK,zK] (.val zS2) (fun x h=>f30 N x.1 x.2.1 h):=qD (dC (sel:=fun a=>mJ 2 75 a) (vAs N) (dC (sel:=fun a=>mJ 2 73 a) (rAs N) kA)) N oBg Tryz.f30
end
end Qp
namespace Qp
def wAs (tys:List CTy) (n:Nat) (c:nN tys→List AV) (z:List AV) (F:nN tys→nN tys→Heap→Option (Bool×Heap)) (go:SL→Unit→Bool→SL→Int→Int→Heap→Option (Out×zY×Heap)) (v1:SL) (v6:Bool) (v15:SL) (v16 v17:Int) (h:Heap):Option (Out×zY×Heap):=
 bif qB v17 v16 then
  (ixK v15.a v15.len v17 n fun q3=>
  (iA (.val (.agg tys)) (h.cells q3 n) fun x4=>
  (rA ((h.push (.row z .own)).store (h.next,0) (c x4)) fun h6=>
  (ixK v1.a v1.len v17 n fun q7=>
  (iA (.val (.agg tys)) (h6.cells q7 n) fun x8=>
  (rA ((h6.push (.row z .own)).store (h6.next,0) (c x8)) fun h10=>
  (iA (.val (.agg tys)) (h10.cells (h.next,0) n) fun x11=>
  (iA (.val (.agg tys)) (h10.cells (h6.next,0) n) fun x12=>
  (lA (F x11 x12 h10) fun x13 h14=>
  (bif !x13 then some (Out.ret,(false,()),h14) else go v1 () v6 v15 v16 (wA .i64 (v17+1)) h14))))))))))
 else some ((Out.exit 0),(v6,()),h)
structure Rec (tys:List CTy) (n:Nat) (c:nN tys→List AV) (P:D→Prop):Prop where
 len:∀ r,(c r).length=n
 agg:∀ {β:Type} (r:nN tys) (K:nN tys→Option β),iA (.val (.agg tys)) (some (.agg (c r))) K=K r
 inv:∀ {h:Heap} {V:Nat→Prop} {x:D} {cs:List AV},P x→Dt h V x cs→∃ r,cs=c r
section
variable {tys:List CTy} {n:Nat} {c:nN tys→List AV} {z:List AV} {P:D→Prop}
theorem Rec.elt (R:Rec tys n c P) {h:Heap} {V:Nat→Prop} {s:SL} {xs:List D} (x:Sl h V s xs) {i:Nat} (hi:i<xs.length) (hP:P xs[i]):∃ r,h.cells (s.at i n) n=some (.agg (c r))∧Dt h V xs[i] (c r):=by
 obtain ⟨cs,e⟩:=x.elt hi;obtain ⟨r,rfl⟩:=R.inv hP e.dt;have hz:s.sz=n:=by rw [← e.len,R.len]
 have hw:=e.whole;rw [hz] at hw;exact ⟨r,hw,e.dt⟩
theorem Rec.cells (R:Rec tys n c P) {H:Heap} {A:Nat} {r:nN tys} (o:H.own A (c r)) {β:Type} (K:nN tys→Option β):iA (.val (.agg tys)) (H.cells (A,0) n) K=K r:=by
 have:H.cells (A,0) n=some (.agg (c r)):=by
  rw [o.cells (j:=0) (m:=n) (by rw [R.len];omega),List.drop_zero,List.take_of_length_le (by rw [R.len];exact Nat.le_refl _)]
 rw [this,R.agg]
theorem Rec.park (R:Rec tys n c P) (hz:z.length=n) (h:Heap) (r:nN tys):∃ h',(∀ {β:Type} (K:Heap→Option β),rA ((h.push (.row z .own)).store (h.next,0) (c r)) K=K h')∧Chg [] h h'∧h'.own h.next (c r):=by
 have o:=vA h z;have ch:=qA h (.row z .own);have hst:(h.push (.row z .own)).store (h.next,0) (c r)=some ((h.push (.row z .own)).put h.next (.row (c r) .own)):=o.store (by rw [R.len,hz]);exact ⟨_,fun K=>by rw [hst,dA],ch.put (.inr (Nat.le_refl _)) _,yA o _⟩
theorem bB4 (R:Rec tys n c P) (hz:z.length=n) {F:nN tys→nN tys→Heap→Option (Bool×Heap)} {L:Nat→SL→Unit→Bool→SL→Int→Int→Heap→Option (Out×zY×Heap)} (hs:∀ M v1 v6 v15 v16 v17 h,L (M+1) v1 () v6 v15 v16 v17 h=wAs tys n c z F (L M) v1 v6 v15 v16 v17 h)
  {xs:List D} (hP:∀ x∈xs,P x) (hF:∀ x∈xs,∀ r1 r2 H V W,Dt H V x (c r1)→Dt H W x (c r2)→∃ H',F r1 r2 H=some (true,H')∧Chg [] H H') (hl:xs.length≤2000000) :
  ∀ (M i:Nat) (h:Heap) (V W:Nat→Prop) (s1 s2:SL),i≤xs.length→xs.length-i<M→Sl h V s1 xs→Sl h W s2 xs→∃ h',L M s2 () false s1 (xs.length:Int) (i:Int) h=some (.exit 0,(false,()),h')∧Chg [] h h':=by
 intro M
 induction M with
 | zero=>intro i _ _ _ _ _ _ h;omega
 | succ M ih=>
  intro i h V W s1 s2 hi hM x1 x2;rw [hs];unfold wAs;rw [pE]
  by_cases q:i<xs.length
  ·rw [decide_eq_true q,cond_true]
   have hm:=List.getElem_mem q;obtain ⟨r1,g1,d1⟩:=R.elt x1 q (hP _ hm);rw [x1.ix q n,g1,R.agg];obtain ⟨h6,p6,c6,o6⟩:=R.park hz h r1;rw [p6];have x2':=x2.chg c6 (by simp);obtain ⟨r2,g2,d2⟩:=R.elt x2' q (hP _ hm);rw [x2'.ix q n,g2,R.agg];obtain ⟨h10,p10,c10,o10⟩:=R.park hz h6 r2;rw [p10,R.cells (o6.chg c10 (by simp)),R.cells o10];obtain ⟨h14,e14,c14⟩:=hF _ hm r1 r2 h10 V W (Dt.chg (c6.trans c10) (by simp) d1) (Dt.chg c10 (by simp) d2);rw [e14,aA];simp only [Bool.not_true,cond_false];have c0:=(c6.trans c10).trans c14;rw [iB (by omega)];obtain ⟨h',e',c'⟩:=ih (i+1) h14 V W s1 s2 q (by omega) (x1.chg c0 (by simp)) (x2.chg c0 (by simp));exact ⟨h',e',c0.trans c'⟩
  ·rw [decide_eq_false q,cond_false]
   exact ⟨h,rfl,Chg.refl _ _⟩
theorem jAz {h:Heap} {V W:Nat→Prop} {s1 s2:SL} {xs:List D} (x1:Sl h V s1 xs) (x2:Sl h W s2 xs):dB (Int.ofNat s1.len) (Int.ofNat s2.len)=true:=by
 rw [x1.len,x2.len,eqI];simp
end
section
variable {N:Nat} {h:Heap} {V W:Nat→Prop}
theorem gAg {s1 s2:SL} {xs:List Bs} (x1:Sl h V s1 (xs.map D.s)) (x2:Sl h W s2 (xs.map D.s)) (hl:xs.length≤2000000):∀ (M i:Nat),i≤xs.length→xs.length-i<M→yA7 N M s1 s2 false (xs.length:Int) (i:Int) h=some (.exit 0,(false,()),h):=by
 intro M
 induction M with
 | zero=>intro i _ h;omega
 | succ M ih=>
  intro i hi hM;rw [bAc];unfold kA2;simp only [pE]
  by_cases q:i<xs.length
  ·simp only [q,decide_true,cond_true]
   have q':i<(xs.map D.s).length:=by rw [List.length_map];exact q
   rw [x1.ix q' 1,aAz x1 q];simp only [fA,rB];rw [x2.ix q' 1,aAz x2 q];simp only [fA,rB,eqB.2,Bool.not_true,cond_false];rw [iB (by omega)];exact ih (i+1) q (by omega)
  ·simp only [q,decide_false,cond_false]
theorem yAs {s1 s2:SL} {xs:List Bs} (x1:Sl h V s1 (xs.map D.s)) (x2:Sl h W s2 (xs.map D.s)) (hl:xs.length≤2000000) (hN:xs.length<N):f106 N s1 s2 h=some (true,h):=by
 unfold f106;simp only [jAz x1 x2,Bool.not_true,cond_false]
 have:=gAg (N:=N) x1 x2 hl N 0 (Nat.zero_le _) (by omega)
 have l1:s1.len=xs.length:=by rw [x1.len,List.length_map]
 rw [l1];rw [show ((0:Nat):Int)=0 from rfl] at this;rw [show Int.ofNat xs.length=(xs.length:Int) from rfl,this];rfl
theorem cB4 {nm:Bs} {s1 s2:SL} {xs:List Bs} (x1:Sl h V s1 (xs.map D.s)) (x2:Sl h W s2 (xs.map D.s)) (hl:xs.length≤2000000) (hN:xs.length<N):∃ h',f164 N (nm,s1,()) (nm,s2,()) h=some (true,h')∧Chg [] h h':=by
 unfold f164;have o1:=vA h (lfc (nm,s1,()));have c1:=qA h (.row (lfc (nm,s1,())) .own);have e1:h.push (.row [(.str nm),(.slice s1.a s1.len s1.cap s1.sz)] .own)=h.push (.row (lfc (nm,s1,())) .own):=rfl;dsimp only;rw [e1];generalize h.push (.row (lfc (nm,s1,())) .own)=h1 at *;have o2:=vA h1 (lfc (nm,s2,()));have c2:=qA h1 (.row (lfc (nm,s2,())) .own);have e2:h1.push (.row [(.str nm),(.slice s2.a s2.len s2.cap s2.sz)] .own)=h1.push (.row (lfc (nm,s2,())) .own):=rfl;rw [e2];have o1:=o1.chg c2 (by simp);generalize h1.push (.row (lfc (nm,s2,())) .own)=h2 at *;have c02:=c1.trans c2;have a0:h2.cell (h.next,0)=some (.str nm):=o1.cell 0;have a1:h2.cell (h.next,1)=some (SL.av s1):=o1.cell 1;have b0:h2.cell (h1.next,0)=some (.str nm):=o2.cell 0;have b1:h2.cell (h1.next,1)=some (SL.av s2):=o2.cell 1;simp only [Nat.zero_add,a0,a1,b0,b1,fA,rB,eqB.2,cond_true,SL.av,uA];rw [yAs (x1.chg c02 (by simp)) (x2.chg c02 (by simp)) hl hN,aA];exact ⟨_,rfl,c02⟩
end
end Qp
namespace Qp
theorem kA8 (b:Bool):(bif b then b else !b)=true:=by cases b <;> rfl
theorem yBd {N:Nat} {H h:Heap} {V W:Nat→Prop} {s1 s2:SL} {xs:List Bs} (c:Chg [] H h) (x1:Sl H V s1 (xs.map D.s)) (x2:Sl H W s2 (xs.map D.s)) (hl:xs.length≤2000000) (hN:xs.length<N):∃ h',f106 N s1 s2 h=some (true,h')∧Chg [] h h':=
 ⟨h,yAs (x1.chg c (by simp)) (x2.chg c (by simp)) hl hN,Chg.refl _ _⟩
section
variable {N:Nat} {h:Heap} {V W:Nat→Prop}
theorem yAw {k n:Int} {p1 p2:LfV} (hp:∀ H,Chg [] h H→∃ H',f164 N (p1.1,p1.2.1,()) (p2.1,p2.2.1,()) H=some (true,H')∧Chg [] H H'):∃ h',f166 N (k,n,p1.1,p1.2.1,()) (k,n,p2.1,p2.2.1,()) h=some (true,h')∧Chg [] h h':=by
 unfold f166;dsimp only;have o1:=vA h [(.int .i64 k),(.int .i64 n),(.str p1.1),(.slice p1.2.1.a p1.2.1.len p1.2.1.cap p1.2.1.sz)];have c1:=qA h (.row [(.int .i64 k),(.int .i64 n),(.str p1.1),(.slice p1.2.1.a p1.2.1.len p1.2.1.cap p1.2.1.sz)] .own);generalize h.push (.row [(.int .i64 k),(.int .i64 n),(.str p1.1),(.slice p1.2.1.a p1.2.1.len p1.2.1.cap p1.2.1.sz)] .own)=h1 at *;have o2:=vA h1 [(.int .i64 k),(.int .i64 n),(.str p2.1),(.slice p2.2.1.a p2.2.1.len p2.2.1.cap p2.2.1.sz)];have c2:=qA h1 (.row [(.int .i64 k),(.int .i64 n),(.str p2.1),(.slice p2.2.1.a p2.2.1.len p2.2.1.cap p2.2.1.sz)] .own);have o1:=o1.chg c2 (by simp);generalize h1.push (.row [(.int .i64 k),(.int .i64 n),(.str p2.1),(.slice p2.2.1.a p2.2.1.len p2.2.1.cap p2.2.1.sz)] .own)=H0 at *;have c0:=c1.trans c2
 clear c1 c2
 have qa0:H0.cell (h.next,0)=some (.int .i64 k):=o1.cell 0;have qb0:H0.cell (h1.next,0)=some (.int .i64 k):=o2.cell 0;have qa1:H0.cell (h.next,1)=some (.int .i64 n):=o1.cell 1;have qb1:H0.cell (h1.next,1)=some (.int .i64 n):=o2.cell 1;have qa2:H0.cells (h.next,2) 2=some (.agg (lfc p1)):=o1.cells (j:=2) (m:=2) (show 4≤4 by decide);have qb2:H0.cells (h1.next,2) 2=some (.agg (lfc p2)):=o2.cells (j:=2) (m:=2) (show 4≤4 by decide);simp only [Nat.zero_add,qa0,qb0,yC,mG,cond_true,qa1,qb1,fA];rw [qa2,cAn,qb2,cAn];obtain ⟨H1,qe1,qk1⟩:∃ H',f164 N (p1.1,p1.2.1,()) (p2.1,p2.2.1,()) H0=some (true,H')∧Chg [] H0 H':=hp H0 c0;rw [qe1,aA];have o1:=o1.chg qk1 (by simp);have o2:=o2.chg qk1 (by simp);have c1:=c0.trans qk1;exact ⟨_,rfl,c1⟩
theorem aAx {k o:Int} {a1 a2 b1 b2:OpV} {p1 p2:LfV} {nm:Bs} {n1 n2 g1 g2:SL} (ha:∀ H,Chg [] h H→∃ H',f166 N (a1.1,a1.2.1,a1.2.2.1,a1.2.2.2.1,()) (a2.1,a2.2.1,a2.2.2.1,a2.2.2.2.1,()) H=some (true,H')∧Chg [] H H') (hb:∀ H,Chg [] h H→∃ H',f166 N (b1.1,b1.2.1,b1.2.2.1,b1.2.2.2.1,()) (b2.1,b2.2.1,b2.2.2.1,b2.2.2.2.1,()) H=some (true,H')∧Chg [] H H') (hp:∀ H,Chg [] h H→∃ H',f164 N (p1.1,p1.2.1,()) (p2.1,p2.2.1,()) H=some (true,H')∧Chg [] H H')
  (hn:∀ H,Chg [] h H→∃ H',f106 N n1 n2 H=some (true,H')∧Chg [] H H') (hg:∀ H,Chg [] h H→∃ H',rM N g1 g2 () H=some (true,H')∧Chg [] H H'):∃ h',f165 N (k,a1.1,a1.2.1,a1.2.2.1,a1.2.2.2.1,b1.1,b1.2.1,b1.2.2.1,b1.2.2.2.1,o,p1.1,p1.2.1,nm,n1,g1,()) (k,a2.1,a2.2.1,a2.2.2.1,a2.2.2.2.1,b2.1,b2.2.1,b2.2.2.1,b2.2.2.2.1,o,p2.1,p2.2.1,nm,n2,g2,()) h=some (true,h')∧Chg [] h h':=by
 unfold f165;dsimp only;have o1:=vA h [(.int .i64 k),(.int .i64 a1.1),(.int .i64 a1.2.1),(.str a1.2.2.1),(.slice a1.2.2.2.1.a a1.2.2.2.1.len a1.2.2.2.1.cap a1.2.2.2.1.sz),(.int .i64 b1.1),(.int .i64 b1.2.1),(.str b1.2.2.1),(.slice b1.2.2.2.1.a b1.2.2.2.1.len b1.2.2.2.1.cap b1.2.2.2.1.sz),(.int .i64 o),(.str p1.1),(.slice p1.2.1.a p1.2.1.len p1.2.1.cap p1.2.1.sz),(.str nm),(.slice n1.a n1.len n1.cap n1.sz),(.slice g1.a g1.len g1.cap g1.sz)];have c1:=qA h (.row [(.int .i64 k),(.int .i64 a1.1),(.int .i64 a1.2.1),(.str a1.2.2.1),(.slice a1.2.2.2.1.a a1.2.2.2.1.len a1.2.2.2.1.cap a1.2.2.2.1.sz),(.int .i64 b1.1),(.int .i64 b1.2.1),(.str b1.2.2.1),(.slice b1.2.2.2.1.a b1.2.2.2.1.len b1.2.2.2.1.cap b1.2.2.2.1.sz),(.int .i64 o),(.str p1.1),(.slice p1.2.1.a p1.2.1.len p1.2.1.cap p1.2.1.sz),(.str nm),(.slice n1.a n1.len n1.cap n1.sz),(.slice g1.a g1.len g1.cap g1.sz)] .own);generalize h.push (.row [(.int .i64 k),(.int .i64 a1.1),(.int .i64 a1.2.1),(.str a1.2.2.1),(.slice a1.2.2.2.1.a a1.2.2.2.1.len a1.2.2.2.1.cap a1.2.2.2.1.sz),(.int .i64 b1.1),(.int .i64 b1.2.1),(.str b1.2.2.1),(.slice b1.2.2.2.1.a b1.2.2.2.1.len b1.2.2.2.1.cap b1.2.2.2.1.sz),(.int .i64 o),(.str p1.1),(.slice p1.2.1.a p1.2.1.len p1.2.1.cap p1.2.1.sz),(.str nm),(.slice n1.a n1.len n1.cap n1.sz),(.slice g1.a g1.len g1.cap g1.sz)] .own)=h1 at *;have o2:=vA h1 [(.int .i64 k),(.int .i64 a2.1),(.int .i64 a2.2.1),(.str a2.2.2.1),(.slice a2.2.2.2.1.a a2.2.2.2.1.len a2.2.2.2.1.cap a2.2.2.2.1.sz),(.int .i64 b2.1),(.int .i64 b2.2.1),(.str b2.2.2.1),(.slice b2.2.2.2.1.a b2.2.2.2.1.len b2.2.2.2.1.cap b2.2.2.2.1.sz),(.int .i64 o),(.str p2.1),(.slice p2.2.1.a p2.2.1.len p2.2.1.cap p2.2.1.sz),(.str nm),(.slice n2.a n2.len n2.cap n2.sz),(.slice g2.a g2.len g2.cap g2.sz)];have c2:=qA h1 (.row [(.int .i64 k),(.int .i64 a2.1),(.int .i64 a2.2.1),(.str a2.2.2.1),(.slice a2.2.2.2.1.a a2.2.2.2.1.len a2.2.2.2.1.cap a2.2.2.2.1.sz),(.int .i64 b2.1),(.int .i64 b2.2.1),(.str b2.2.2.1),(.slice b2.2.2.2.1.a b2.2.2.2.1.len b2.2.2.2.1.cap b2.2.2.2.1.sz),(.int .i64 o),(.str p2.1),(.slice p2.2.1.a p2.2.1.len p2.2.1.cap p2.2.1.sz),(.str nm),(.slice n2.a n2.len n2.cap n2.sz),(.slice g2.a g2.len g2.cap g2.sz)] .own);have o1:=o1.chg c2 (by simp);generalize h1.push (.row [(.int .i64 k),(.int .i64 a2.1),(.int .i64 a2.2.1),(.str a2.2.2.1),(.slice a2.2.2.2.1.a a2.2.2.2.1.len a2.2.2.2.1.cap a2.2.2.2.1.sz),(.int .i64 b2.1),(.int .i64 b2.2.1),(.str b2.2.2.1),(.slice b2.2.2.2.1.a b2.2.2.2.1.len b2.2.2.2.1.cap b2.2.2.2.1.sz),(.int .i64 o),(.str p2.1),(.slice p2.2.1.a p2.2.1.len p2.2.1.cap p2.2.1.sz),(.str nm),(.slice n2.a n2.len n2.cap n2.sz),(.slice g2.a g2.len g2.cap g2.sz)] .own)=H0 at *;have c0:=c1.trans c2
 clear c1 c2
 have qa0:H0.cell (h.next,0)=some (.int .i64 k):=o1.cell 0;have qb0:H0.cell (h1.next,0)=some (.int .i64 k):=o2.cell 0;have qa1:H0.cells (h.next,1) 4=some (.agg (opc a1)):=o1.cells (j:=1) (m:=4) (show 5≤15 by decide);have qb1:H0.cells (h1.next,1) 4=some (.agg (opc a2)):=o2.cells (j:=1) (m:=4) (show 5≤15 by decide);simp only [Nat.zero_add,qa0,qb0,yC,mG,cond_true,fA];rw [qa1,dAn,qb1,dAn];obtain ⟨H1,qe1,qk1⟩:∃ H',f166 N (a1.1,a1.2.1,a1.2.2.1,a1.2.2.2.1,()) (a2.1,a2.2.1,a2.2.2.1,a2.2.2.2.1,()) H0=some (true,H')∧Chg [] H0 H':=ha H0 c0;rw [qe1,aA];have o1:=o1.chg qk1 (by simp);have o2:=o2.chg qk1 (by simp);have c1:=c0.trans qk1;have qa5:H1.cells (h.next,5) 4=some (.agg (opc b1)):=o1.cells (j:=5) (m:=4) (show 9≤15 by decide);have qb5:H1.cells (h1.next,5) 4=some (.agg (opc b2)):=o2.cells (j:=5) (m:=4) (show 9≤15 by decide);simp only [Nat.zero_add,cond_true,fA];rw [qa5,dAn,qb5,dAn];obtain ⟨H2,qe2,qk2⟩:∃ H',f166 N (b1.1,b1.2.1,b1.2.2.1,b1.2.2.2.1,()) (b2.1,b2.2.1,b2.2.2.1,b2.2.2.2.1,()) H1=some (true,H')∧Chg [] H1 H':=hb H1 c1;rw [qe2,aA];have o1:=o1.chg qk2 (by simp);have o2:=o2.chg qk2 (by simp);have c2:=c1.trans qk2;have qa9:H2.cell (h.next,9)=some (.int .i64 o):=o1.cell 9;have qb9:H2.cell (h1.next,9)=some (.int .i64 o):=o2.cell 9;have qa10:H2.cells (h.next,10) 2=some (.agg (lfc p1)):=o1.cells (j:=10) (m:=2) (show 12≤15 by decide);have qb10:H2.cells (h1.next,10) 2=some (.agg (lfc p2)):=o2.cells (j:=10) (m:=2) (show 12≤15 by decide);simp only [Nat.zero_add,qa9,qb9,yC,mG,cond_true,fA];rw [qa10,cAn,qb10,cAn];obtain ⟨H3,qe3,qk3⟩:∃ H',f164 N (p1.1,p1.2.1,()) (p2.1,p2.2.1,()) H2=some (true,H')∧Chg [] H2 H':=hp H2 c2;rw [qe3,aA];have o1:=o1.chg qk3 (by simp);have o2:=o2.chg qk3 (by simp);have c3:=c2.trans qk3;have qa12:H3.cell (h.next,12)=some (.str nm):=o1.cell 12;have qb12:H3.cell (h1.next,12)=some (.str nm):=o2.cell 12;have qa13:H3.cell (h.next,13)=some (.slice n1.a n1.len n1.cap n1.sz):=o1.cell 13;have qb13:H3.cell (h1.next,13)=some (.slice n2.a n2.len n2.cap n2.sz):=o2.cell 13;simp only [Nat.zero_add,qa12,qb12,rB,eqB.2,cond_true,qa13,qb13,uA,fA];obtain ⟨H4,qe4,qk4⟩:∃ H',f106 N n1 n2  H3=some (true,H')∧Chg [] H3 H':=hn H3 c3;show ∃ h',(lA (f106 N n1 n2  H3) _)=_∧_;rw [qe4,aA];have o1:=o1.chg qk4 (by simp);have o2:=o2.chg qk4 (by simp);have c4:=c3.trans qk4;have qa14:H4.cell (h.next,14)=some (.slice g1.a g1.len g1.cap g1.sz):=o1.cell 14;have qb14:H4.cell (h1.next,14)=some (.slice g2.a g2.len g2.cap g2.sz):=o2.cell 14;simp only [Nat.zero_add,qa14,qb14,uA,cond_true,fA];obtain ⟨H5,qe5,qk5⟩:∃ H',rM N g1 g2 () H4=some (true,H')∧Chg [] H4 H':=hg H4 c4;show ∃ h',(lA (rM N g1 g2 () H4) _)=_∧_;rw [qe5,aA];have o1:=o1.chg qk5 (by simp);have o2:=o2.chg qk5 (by simp);have c5:=c4.trans qk5;exact ⟨_,rfl,c5⟩
theorem bAx {rec112 rec162c112 rec193c112} {k:Int} {x:Bs} {l1 l2 e1 e2:SL} (hl:∀ H,Chg [] h H→∃ H',f106 N l1 l2 H=some (true,H')∧Chg [] H H') (he:∀ H,Chg [] h H→∃ H',rec162c112 e1 e2 () H=some (true,H')∧Chg [] H H'):∃ h',oAj N rec112 rec162c112 rec193c112 (k,x,l1,e1,()) (k,x,l2,e2,()) h=some (true,h')∧Chg [] h h':=by
 unfold oAj;dsimp only;have o1:=vA h [(.int .i64 k),(.str x),(.slice l1.a l1.len l1.cap l1.sz),(.slice e1.a e1.len e1.cap e1.sz)];have c1:=qA h (.row [(.int .i64 k),(.str x),(.slice l1.a l1.len l1.cap l1.sz),(.slice e1.a e1.len e1.cap e1.sz)] .own);generalize h.push (.row [(.int .i64 k),(.str x),(.slice l1.a l1.len l1.cap l1.sz),(.slice e1.a e1.len e1.cap e1.sz)] .own)=h1 at *;have o2:=vA h1 [(.int .i64 k),(.str x),(.slice l2.a l2.len l2.cap l2.sz),(.slice e2.a e2.len e2.cap e2.sz)];have c2:=qA h1 (.row [(.int .i64 k),(.str x),(.slice l2.a l2.len l2.cap l2.sz),(.slice e2.a e2.len e2.cap e2.sz)] .own);have o1:=o1.chg c2 (by simp);generalize h1.push (.row [(.int .i64 k),(.str x),(.slice l2.a l2.len l2.cap l2.sz),(.slice e2.a e2.len e2.cap e2.sz)] .own)=H0 at *;have c0:=c1.trans c2
 clear c1 c2
 have qa0:H0.cell (h.next,0)=some (.int .i64 k):=o1.cell 0;have qb0:H0.cell (h1.next,0)=some (.int .i64 k):=o2.cell 0;have qa1:H0.cell (h.next,1)=some (.str x):=o1.cell 1;have qb1:H0.cell (h1.next,1)=some (.str x):=o2.cell 1;have qa2:H0.cell (h.next,2)=some (.slice l1.a l1.len l1.cap l1.sz):=o1.cell 2;have qb2:H0.cell (h1.next,2)=some (.slice l2.a l2.len l2.cap l2.sz):=o2.cell 2;simp only [Nat.zero_add,qa0,qb0,yC,mG,cond_true,qa1,qb1,rB,eqB.2,qa2,qb2,uA,fA];obtain ⟨H1,qe1,qk1⟩:∃ H',f106 N l1 l2  H0=some (true,H')∧Chg [] H0 H':=hl H0 c0;show ∃ h',(lA (f106 N l1 l2  H0) _)=_∧_;rw [qe1,aA];have o1:=o1.chg qk1 (by simp);have o2:=o2.chg qk1 (by simp);have c1:=c0.trans qk1;have qa3:H1.cell (h.next,3)=some (.slice e1.a e1.len e1.cap e1.sz):=o1.cell 3;have qb3:H1.cell (h1.next,3)=some (.slice e2.a e2.len e2.cap e2.sz):=o2.cell 3;simp only [Nat.zero_add,qa3,qb3,uA,cond_true,fA];obtain ⟨H2,qe2,qk2⟩:∃ H',rec162c112 e1 e2 () H1=some (true,H')∧Chg [] H1 H':=he H1 c1;show ∃ h',(lA (rec162c112 e1 e2 () H1) _)=_∧_;rw [qe2,aA];have o1:=o1.chg qk2 (by simp);have o2:=o2.chg qk2 (by simp);have c2:=c1.trans qk2;exact ⟨_,rfl,c2⟩
theorem cAx {m:Bool} {nm:Bs} {t1 t2:TyV} (ht:∀ H,Chg [] h H→∃ H',f112 N N (t1.1,t1.2.1,t1.2.2.1,t1.2.2.2.1,()) (t2.1,t2.2.1,t2.2.2.1,t2.2.2.2.1,()) H=some (true,H')∧Chg [] H H'):∃ h',f108 N (m,nm,t1.1,t1.2.1,t1.2.2.1,t1.2.2.2.1,()) (m,nm,t2.1,t2.2.1,t2.2.2.1,t2.2.2.2.1,()) h=some (true,h')∧Chg [] h h':=by
 unfold f108;dsimp only;have o1:=vA h [(.bool m),(.str nm),(.int .i64 t1.1),(.str t1.2.1),(.slice t1.2.2.1.a t1.2.2.1.len t1.2.2.1.cap t1.2.2.1.sz),(.slice t1.2.2.2.1.a t1.2.2.2.1.len t1.2.2.2.1.cap t1.2.2.2.1.sz)];have c1:=qA h (.row [(.bool m),(.str nm),(.int .i64 t1.1),(.str t1.2.1),(.slice t1.2.2.1.a t1.2.2.1.len t1.2.2.1.cap t1.2.2.1.sz),(.slice t1.2.2.2.1.a t1.2.2.2.1.len t1.2.2.2.1.cap t1.2.2.2.1.sz)] .own);generalize h.push (.row [(.bool m),(.str nm),(.int .i64 t1.1),(.str t1.2.1),(.slice t1.2.2.1.a t1.2.2.1.len t1.2.2.1.cap t1.2.2.1.sz),(.slice t1.2.2.2.1.a t1.2.2.2.1.len t1.2.2.2.1.cap t1.2.2.2.1.sz)] .own)=h1 at *;have o2:=vA h1 [(.bool m),(.str nm),(.int .i64 t2.1),(.str t2.2.1),(.slice t2.2.2.1.a t2.2.2.1.len t2.2.2.1.cap t2.2.2.1.sz),(.slice t2.2.2.2.1.a t2.2.2.2.1.len t2.2.2.2.1.cap t2.2.2.2.1.sz)];have c2:=qA h1 (.row [(.bool m),(.str nm),(.int .i64 t2.1),(.str t2.2.1),(.slice t2.2.2.1.a t2.2.2.1.len t2.2.2.1.cap t2.2.2.1.sz),(.slice t2.2.2.2.1.a t2.2.2.2.1.len t2.2.2.2.1.cap t2.2.2.2.1.sz)] .own);have o1:=o1.chg c2 (by simp);generalize h1.push (.row [(.bool m),(.str nm),(.int .i64 t2.1),(.str t2.2.1),(.slice t2.2.2.1.a t2.2.2.1.len t2.2.2.1.cap t2.2.2.1.sz),(.slice t2.2.2.2.1.a t2.2.2.2.1.len t2.2.2.2.1.cap t2.2.2.2.1.sz)] .own)=H0 at *;have c0:=c1.trans c2
 clear c1 c2
 have qa0:H0.cell (h.next,0)=some (.bool m):=o1.cell 0;have qb0:H0.cell (h1.next,0)=some (.bool m):=o2.cell 0;have qa1:H0.cell (h.next,1)=some (.str nm):=o1.cell 1;have qb1:H0.cell (h1.next,1)=some (.str nm):=o2.cell 1;have qa2:H0.cells (h.next,2) 4=some (.agg (tyc t1)):=o1.cells (j:=2) (m:=4) (show 6≤6 by decide);have qb2:H0.cells (h1.next,2) 4=some (.agg (tyc t2)):=o2.cells (j:=2) (m:=4) (show 6≤6 by decide);simp only [Nat.zero_add,qa0,qb0,wB,kA8,cond_true,qa1,qb1,rB,eqB.2,fA];rw [qa2,iAl,qb2,iAl];obtain ⟨H1,qe1,qk1⟩:∃ H',f112 N N (t1.1,t1.2.1,t1.2.2.1,t1.2.2.2.1,()) (t2.1,t2.2.1,t2.2.2.1,t2.2.2.2.1,()) H0=some (true,H')∧Chg [] H0 H':=ht H0 c0;rw [qe1,aA];have o1:=o1.chg qk1 (by simp);have o2:=o2.chg qk1 (by simp);have c1:=c0.trans qk1;exact ⟨_,rfl,c1⟩
theorem dB4 {m:Bool} {nm:Bs} {a:Int} {l1 l2 g1 g2:SL} (hl:∀ H,Chg [] h H→∃ H',f106 N l1 l2 H=some (true,H')∧Chg [] H H') (hg:∀ H,Chg [] h H→∃ H',iH N g1 g2 () H=some (true,H')∧Chg [] H H'):∃ h',f73 N (m,nm,l1,g1,a,()) (m,nm,l2,g2,a,()) h=some (true,h')∧Chg [] h h':=by
 unfold f73;dsimp only;have o1:=vA h [(.bool m),(.str nm),(.slice l1.a l1.len l1.cap l1.sz),(.slice g1.a g1.len g1.cap g1.sz),(.int .i64 a)];have c1:=qA h (.row [(.bool m),(.str nm),(.slice l1.a l1.len l1.cap l1.sz),(.slice g1.a g1.len g1.cap g1.sz),(.int .i64 a)] .own);generalize h.push (.row [(.bool m),(.str nm),(.slice l1.a l1.len l1.cap l1.sz),(.slice g1.a g1.len g1.cap g1.sz),(.int .i64 a)] .own)=h1 at *;have o2:=vA h1 [(.bool m),(.str nm),(.slice l2.a l2.len l2.cap l2.sz),(.slice g2.a g2.len g2.cap g2.sz),(.int .i64 a)];have c2:=qA h1 (.row [(.bool m),(.str nm),(.slice l2.a l2.len l2.cap l2.sz),(.slice g2.a g2.len g2.cap g2.sz),(.int .i64 a)] .own);have o1:=o1.chg c2 (by simp);generalize h1.push (.row [(.bool m),(.str nm),(.slice l2.a l2.len l2.cap l2.sz),(.slice g2.a g2.len g2.cap g2.sz),(.int .i64 a)] .own)=H0 at *;have c0:=c1.trans c2
 clear c1 c2
 have qa0:H0.cell (h.next,0)=some (.bool m):=o1.cell 0;have qb0:H0.cell (h1.next,0)=some (.bool m):=o2.cell 0;have qa1:H0.cell (h.next,1)=some (.str nm):=o1.cell 1;have qb1:H0.cell (h1.next,1)=some (.str nm):=o2.cell 1;have qa4:H0.cell (h.next,4)=some (.int .i64 a):=o1.cell 4;have qb4:H0.cell (h1.next,4)=some (.int .i64 a):=o2.cell 4;have qa2:H0.cell (h.next,2)=some (.slice l1.a l1.len l1.cap l1.sz):=o1.cell 2;have qb2:H0.cell (h1.next,2)=some (.slice l2.a l2.len l2.cap l2.sz):=o2.cell 2;simp only [Nat.zero_add,qa0,qb0,wB,kA8,cond_true,qa1,qb1,rB,eqB.2,qa4,qb4,yC,mG,qa2,qb2,uA,fA];obtain ⟨H1,qe1,qk1⟩:∃ H',f106 N l1 l2  H0=some (true,H')∧Chg [] H0 H':=hl H0 c0;show ∃ h',(lA (f106 N l1 l2  H0) _)=_∧_;rw [qe1,aA];have o1:=o1.chg qk1 (by simp);have o2:=o2.chg qk1 (by simp);have c1:=c0.trans qk1;have qa3:H1.cell (h.next,3)=some (.slice g1.a g1.len g1.cap g1.sz):=o1.cell 3;have qb3:H1.cell (h1.next,3)=some (.slice g2.a g2.len g2.cap g2.sz):=o2.cell 3;simp only [Nat.zero_add,qa3,qb3,uA,cond_true,fA];obtain ⟨H2,qe2,qk2⟩:∃ H',iH N g1 g2 () H1=some (true,H')∧Chg [] H1 H':=hg H1 c1;show ∃ h',(lA (iH N g1 g2 () H1) _)=_∧_;rw [qe2,aA];have o1:=o1.chg qk2 (by simp);have o2:=o2.chg qk2 (by simp);have c2:=c1.trans qk2;exact ⟨_,rfl,c2⟩
theorem dAx {nm:Bs} {l1 l2:SL} (hl:∀ H,Chg [] h H→∃ H',f106 N l1 l2 H=some (true,H')∧Chg [] H H'):∃ h',f111 N (nm,l1,()) (nm,l2,()) h=some (true,h')∧Chg [] h h':=by
 unfold f111;dsimp only;have o1:=vA h [(.str nm),(.slice l1.a l1.len l1.cap l1.sz)];have c1:=qA h (.row [(.str nm),(.slice l1.a l1.len l1.cap l1.sz)] .own);generalize h.push (.row [(.str nm),(.slice l1.a l1.len l1.cap l1.sz)] .own)=h1 at *;have o2:=vA h1 [(.str nm),(.slice l2.a l2.len l2.cap l2.sz)];have c2:=qA h1 (.row [(.str nm),(.slice l2.a l2.len l2.cap l2.sz)] .own);have o1:=o1.chg c2 (by simp);generalize h1.push (.row [(.str nm),(.slice l2.a l2.len l2.cap l2.sz)] .own)=H0 at *;have c0:=c1.trans c2
 clear c1 c2
 have qa0:H0.cell (h.next,0)=some (.str nm):=o1.cell 0;have qb0:H0.cell (h1.next,0)=some (.str nm):=o2.cell 0;have qa1:H0.cell (h.next,1)=some (.slice l1.a l1.len l1.cap l1.sz):=o1.cell 1;have qb1:H0.cell (h1.next,1)=some (.slice l2.a l2.len l2.cap l2.sz):=o2.cell 1;simp only [Nat.zero_add,qa0,qb0,rB,eqB.2,cond_true,qa1,qb1,uA,fA];obtain ⟨H1,qe1,qk1⟩:∃ H',f106 N l1 l2  H0=some (true,H')∧Chg [] H0 H':=hl H0 c0;show ∃ h',(lA (f106 N l1 l2  H0) _)=_∧_;rw [qe1,aA];have o1:=o1.chg qk1 (by simp);have o2:=o2.chg qk1 (by simp);have c1:=c0.trans qk1;exact ⟨_,rfl,c1⟩
theorem eB4 {m:Bool} {nm:Bs} {a:Int} {l1 l2 p1 p2 b1 b2:SL} {t1 t2:TyV} (hl:∀ H,Chg [] h H→∃ H',qM N l1 l2 () H=some (true,H')∧Chg [] H H') (hp:∀ H,Chg [] h H→∃ H',iH N p1 p2 () H=some (true,H')∧Chg [] H H') (ht:∀ H,Chg [] h H→∃ H',f112 N N (t1.1,t1.2.1,t1.2.2.1,t1.2.2.2.1,()) (t2.1,t2.2.1,t2.2.2.1,t2.2.2.2.1,()) H=some (true,H')∧Chg [] H H') (hb:∀ H,Chg [] h H→∃ H',jG N N b1 b2 () H=some (true,H')∧Chg [] H H'):∃ h',f75 N (m,nm,l1,p1,t1.1,t1.2.1,t1.2.2.1,t1.2.2.2.1,b1,a,()) (m,nm,l2,p2,t2.1,t2.2.1,t2.2.2.1,t2.2.2.2.1,b2,a,()) h=some (true,h')∧Chg [] h h':=by
 unfold f75;dsimp only;have o1:=vA h [(.bool m),(.str nm),(.slice l1.a l1.len l1.cap l1.sz),(.slice p1.a p1.len p1.cap p1.sz),(.int .i64 t1.1),(.str t1.2.1),(.slice t1.2.2.1.a t1.2.2.1.len t1.2.2.1.cap t1.2.2.1.sz),(.slice t1.2.2.2.1.a t1.2.2.2.1.len t1.2.2.2.1.cap t1.2.2.2.1.sz),(.slice b1.a b1.len b1.cap b1.sz),(.int .i64 a)];have c1:=qA h (.row [(.bool m),(.str nm),(.slice l1.a l1.len l1.cap l1.sz),(.slice p1.a p1.len p1.cap p1.sz),(.int .i64 t1.1),(.str t1.2.1),(.slice t1.2.2.1.a t1.2.2.1.len t1.2.2.1.cap t1.2.2.1.sz),(.slice t1.2.2.2.1.a t1.2.2.2.1.len t1.2.2.2.1.cap t1.2.2.2.1.sz),(.slice b1.a b1.len b1.cap b1.sz),(.int .i64 a)] .own);generalize h.push (.row [(.bool m),(.str nm),(.slice l1.a l1.len l1.cap l1.sz),(.slice p1.a p1.len p1.cap p1.sz),(.int .i64 t1.1),(.str t1.2.1),(.slice t1.2.2.1.a t1.2.2.1.len t1.2.2.1.cap t1.2.2.1.sz),(.slice t1.2.2.2.1.a t1.2.2.2.1.len t1.2.2.2.1.cap t1.2.2.2.1.sz),(.slice b1.a b1.len b1.cap b1.sz),(.int .i64 a)] .own)=h1 at *;have o2:=vA h1 [(.bool m),(.str nm),(.slice l2.a l2.len l2.cap l2.sz),(.slice p2.a p2.len p2.cap p2.sz),(.int .i64 t2.1),(.str t2.2.1),(.slice t2.2.2.1.a t2.2.2.1.len t2.2.2.1.cap t2.2.2.1.sz),(.slice t2.2.2.2.1.a t2.2.2.2.1.len t2.2.2.2.1.cap t2.2.2.2.1.sz),(.slice b2.a b2.len b2.cap b2.sz),(.int .i64 a)];have c2:=qA h1 (.row [(.bool m),(.str nm),(.slice l2.a l2.len l2.cap l2.sz),(.slice p2.a p2.len p2.cap p2.sz),(.int .i64 t2.1),(.str t2.2.1),(.slice t2.2.2.1.a t2.2.2.1.len t2.2.2.1.cap t2.2.2.1.sz),(.slice t2.2.2.2.1.a t2.2.2.2.1.len t2.2.2.2.1.cap t2.2.2.2.1.sz),(.slice b2.a b2.len b2.cap b2.sz),(.int .i64 a)] .own);have o1:=o1.chg c2 (by simp);generalize h1.push (.row [(.bool m),(.str nm),(.slice l2.a l2.len l2.cap l2.sz),(.slice p2.a p2.len p2.cap p2.sz),(.int .i64 t2.1),(.str t2.2.1),(.slice t2.2.2.1.a t2.2.2.1.len t2.2.2.1.cap t2.2.2.1.sz),(.slice t2.2.2.2.1.a t2.2.2.2.1.len t2.2.2.2.1.cap t2.2.2.2.1.sz),(.slice b2.a b2.len b2.cap b2.sz),(.int .i64 a)] .own)=H0 at *;have c0:=c1.trans c2
 clear c1 c2
 have qa0:H0.cell (h.next,0)=some (.bool m):=o1.cell 0;have qb0:H0.cell (h1.next,0)=some (.bool m):=o2.cell 0;have qa1:H0.cell (h.next,1)=some (.str nm):=o1.cell 1;have qb1:H0.cell (h1.next,1)=some (.str nm):=o2.cell 1;have qa9:H0.cell (h.next,9)=some (.int .i64 a):=o1.cell 9;have qb9:H0.cell (h1.next,9)=some (.int .i64 a):=o2.cell 9;have qa2:H0.cell (h.next,2)=some (.slice l1.a l1.len l1.cap l1.sz):=o1.cell 2;have qb2:H0.cell (h1.next,2)=some (.slice l2.a l2.len l2.cap l2.sz):=o2.cell 2;simp only [Nat.zero_add,qa0,qb0,wB,kA8,cond_true,qa1,qb1,rB,eqB.2,qa9,qb9,yC,mG,qa2,qb2,uA,fA];obtain ⟨H1,qe1,qk1⟩:∃ H',qM N l1 l2 () H0=some (true,H')∧Chg [] H0 H':=hl H0 c0;show ∃ h',(lA (qM N l1 l2 () H0) _)=_∧_;rw [qe1,aA];have o1:=o1.chg qk1 (by simp);have o2:=o2.chg qk1 (by simp);have c1:=c0.trans qk1;have qa3:H1.cell (h.next,3)=some (.slice p1.a p1.len p1.cap p1.sz):=o1.cell 3;have qb3:H1.cell (h1.next,3)=some (.slice p2.a p2.len p2.cap p2.sz):=o2.cell 3;simp only [Nat.zero_add,qa3,qb3,uA,cond_true,fA];obtain ⟨H2,qe2,qk2⟩:∃ H',iH N p1 p2 () H1=some (true,H')∧Chg [] H1 H':=hp H1 c1;show ∃ h',(lA (iH N p1 p2 () H1) _)=_∧_;rw [qe2,aA];have o1:=o1.chg qk2 (by simp);have o2:=o2.chg qk2 (by simp);have c2:=c1.trans qk2;have qa4:H2.cells (h.next,4) 4=some (.agg (tyc t1)):=o1.cells (j:=4) (m:=4) (show 8≤10 by decide);have qb4:H2.cells (h1.next,4) 4=some (.agg (tyc t2)):=o2.cells (j:=4) (m:=4) (show 8≤10 by decide);simp only [Nat.zero_add,cond_true,fA];rw [qa4,iAl,qb4,iAl];obtain ⟨H3,qe3,qk3⟩:∃ H',f112 N N (t1.1,t1.2.1,t1.2.2.1,t1.2.2.2.1,()) (t2.1,t2.2.1,t2.2.2.1,t2.2.2.2.1,()) H2=some (true,H')∧Chg [] H2 H':=ht H2 c2;rw [qe3,aA];have o1:=o1.chg qk3 (by simp);have o2:=o2.chg qk3 (by simp);have c3:=c2.trans qk3;have qa8:H3.cell (h.next,8)=some (.slice b1.a b1.len b1.cap b1.sz):=o1.cell 8;have qb8:H3.cell (h1.next,8)=some (.slice b2.a b2.len b2.cap b2.sz):=o2.cell 8;simp only [Nat.zero_add,qa8,qb8,uA,cond_true,fA];obtain ⟨H4,qe4,qk4⟩:∃ H',jG N N b1 b2 () H3=some (true,H')∧Chg [] H3 H':=hb H3 c3;show ∃ h',(lA (jG N N b1 b2 () H3) _)=_∧_;rw [qe4,aA];have o1:=o1.chg qk4 (by simp);have o2:=o2.chg qk4 (by simp);have c4:=c3.trans qk4;exact ⟨_,rfl,c4⟩
theorem eAx {rec113c114 rec114 rec163c114} {k a:Int} {m hs:Bool} {nm:Bs} {t1 t2:TyV} {p1 p2:LfV} {v1 v2:VaV} {o1 o2:OpV} {th1 th2 el1 el2:SL} (ht:∀ H,Chg [] h H→∃ H',f112 N N (t1.1,t1.2.1,t1.2.2.1,t1.2.2.2.1,()) (t2.1,t2.2.1,t2.2.2.1,t2.2.2.2.1,()) H=some (true,H')∧Chg [] H H') (hp:∀ H,Chg [] h H→∃ H',f164 N (p1.1,p1.2.1,()) (p2.1,p2.2.1,()) H=some (true,H')∧Chg [] H H') (hv:∀ H,Chg [] h H→∃ H',f165 N (v1.1,v1.2.1,v1.2.2.1,v1.2.2.2.1,v1.2.2.2.2.1,v1.2.2.2.2.2.1,v1.2.2.2.2.2.2.1,v1.2.2.2.2.2.2.2.1,v1.2.2.2.2.2.2.2.2.1,v1.2.2.2.2.2.2.2.2.2.1,v1.2.2.2.2.2.2.2.2.2.2.1,v1.2.2.2.2.2.2.2.2.2.2.2.1,v1.2.2.2.2.2.2.2.2.2.2.2.2.1,v1.2.2.2.2.2.2.2.2.2.2.2.2.2.1,v1.2.2.2.2.2.2.2.2.2.2.2.2.2.2.1,()) (v2.1,v2.2.1,v2.2.2.1,v2.2.2.2.1,v2.2.2.2.2.1,v2.2.2.2.2.2.1,v2.2.2.2.2.2.2.1,v2.2.2.2.2.2.2.2.1,v2.2.2.2.2.2.2.2.2.1,v2.2.2.2.2.2.2.2.2.2.1,v2.2.2.2.2.2.2.2.2.2.2.1,v2.2.2.2.2.2.2.2.2.2.2.2.1,v2.2.2.2.2.2.2.2.2.2.2.2.2.1,v2.2.2.2.2.2.2.2.2.2.2.2.2.2.1,v2.2.2.2.2.2.2.2.2.2.2.2.2.2.2.1,()) H=some (true,H')∧Chg [] H H') (ho:∀ H,Chg [] h H→∃ H',f166 N (o1.1,o1.2.1,o1.2.2.1,o1.2.2.2.1,()) (o2.1,o2.2.1,o2.2.2.1,o2.2.2.2.1,()) H=some (true,H')∧Chg [] H H')
  (hth:∀ H,Chg [] h H→∃ H',rec113c114 th1 th2 () H=some (true,H')∧Chg [] H H') (hel:∀ H,Chg [] h H→∃ H',rec113c114 el1 el2 () H=some (true,H')∧Chg [] H H'):∃ h',pAj N rec113c114 rec114 rec163c114 (k,a,m,nm,t1.1,t1.2.1,t1.2.2.1,t1.2.2.2.1,hs,p1.1,p1.2.1,v1.1,v1.2.1,v1.2.2.1,v1.2.2.2.1,v1.2.2.2.2.1,v1.2.2.2.2.2.1,v1.2.2.2.2.2.2.1,v1.2.2.2.2.2.2.2.1,v1.2.2.2.2.2.2.2.2.1,v1.2.2.2.2.2.2.2.2.2.1,v1.2.2.2.2.2.2.2.2.2.2.1,v1.2.2.2.2.2.2.2.2.2.2.2.1,v1.2.2.2.2.2.2.2.2.2.2.2.2.1,v1.2.2.2.2.2.2.2.2.2.2.2.2.2.1,v1.2.2.2.2.2.2.2.2.2.2.2.2.2.2.1,o1.1,o1.2.1,o1.2.2.1,o1.2.2.2.1,th1,el1,()) (k,a,m,nm,t2.1,t2.2.1,t2.2.2.1,t2.2.2.2.1,hs,p2.1,p2.2.1,v2.1,v2.2.1,v2.2.2.1,v2.2.2.2.1,v2.2.2.2.2.1,v2.2.2.2.2.2.1,v2.2.2.2.2.2.2.1,v2.2.2.2.2.2.2.2.1,v2.2.2.2.2.2.2.2.2.1,v2.2.2.2.2.2.2.2.2.2.1,v2.2.2.2.2.2.2.2.2.2.2.1,v2.2.2.2.2.2.2.2.2.2.2.2.1,v2.2.2.2.2.2.2.2.2.2.2.2.2.1,v2.2.2.2.2.2.2.2.2.2.2.2.2.2.1,v2.2.2.2.2.2.2.2.2.2.2.2.2.2.2.1,o2.1,o2.2.1,o2.2.2.1,o2.2.2.2.1,th2,el2,()) h=some (true,h')∧Chg [] h h':=by
 unfold pAj;dsimp only;have O1:=vA h [(.int .i64 k),(.int .i64 a),(.bool m),(.str nm),(.int .i64 t1.1),(.str t1.2.1),(.slice t1.2.2.1.a t1.2.2.1.len t1.2.2.1.cap t1.2.2.1.sz),(.slice t1.2.2.2.1.a t1.2.2.2.1.len t1.2.2.2.1.cap t1.2.2.2.1.sz),(.bool hs),(.str p1.1),(.slice p1.2.1.a p1.2.1.len p1.2.1.cap p1.2.1.sz),(.int .i64 v1.1),(.int .i64 v1.2.1),(.int .i64 v1.2.2.1),(.str v1.2.2.2.1),(.slice v1.2.2.2.2.1.a v1.2.2.2.2.1.len v1.2.2.2.2.1.cap v1.2.2.2.2.1.sz),(.int .i64 v1.2.2.2.2.2.1),(.int .i64 v1.2.2.2.2.2.2.1),(.str v1.2.2.2.2.2.2.2.1),(.slice v1.2.2.2.2.2.2.2.2.1.a v1.2.2.2.2.2.2.2.2.1.len v1.2.2.2.2.2.2.2.2.1.cap v1.2.2.2.2.2.2.2.2.1.sz),(.int .i64 v1.2.2.2.2.2.2.2.2.2.1),(.str v1.2.2.2.2.2.2.2.2.2.2.1),(.slice v1.2.2.2.2.2.2.2.2.2.2.2.1.a v1.2.2.2.2.2.2.2.2.2.2.2.1.len v1.2.2.2.2.2.2.2.2.2.2.2.1.cap v1.2.2.2.2.2.2.2.2.2.2.2.1.sz),(.str v1.2.2.2.2.2.2.2.2.2.2.2.2.1),(.slice v1.2.2.2.2.2.2.2.2.2.2.2.2.2.1.a v1.2.2.2.2.2.2.2.2.2.2.2.2.2.1.len v1.2.2.2.2.2.2.2.2.2.2.2.2.2.1.cap v1.2.2.2.2.2.2.2.2.2.2.2.2.2.1.sz),(.slice v1.2.2.2.2.2.2.2.2.2.2.2.2.2.2.1.a v1.2.2.2.2.2.2.2.2.2.2.2.2.2.2.1.len v1.2.2.2.2.2.2.2.2.2.2.2.2.2.2.1.cap v1.2.2.2.2.2.2.2.2.2.2.2.2.2.2.1.sz),(.int .i64 o1.1),(.int .i64 o1.2.1),(.str o1.2.2.1),(.slice o1.2.2.2.1.a o1.2.2.2.1.len o1.2.2.2.1.cap o1.2.2.2.1.sz),(.slice th1.a th1.len th1.cap th1.sz),(.slice el1.a el1.len el1.cap el1.sz)];have c1:=qA h (.row [(.int .i64 k),(.int .i64 a),(.bool m),(.str nm),(.int .i64 t1.1),(.str t1.2.1),(.slice t1.2.2.1.a t1.2.2.1.len t1.2.2.1.cap t1.2.2.1.sz),(.slice t1.2.2.2.1.a t1.2.2.2.1.len t1.2.2.2.1.cap t1.2.2.2.1.sz),(.bool hs),(.str p1.1),(.slice p1.2.1.a p1.2.1.len p1.2.1.cap p1.2.1.sz),(.int .i64 v1.1),(.int .i64 v1.2.1),(.int .i64 v1.2.2.1),(.str v1.2.2.2.1),(.slice v1.2.2.2.2.1.a v1.2.2.2.2.1.len v1.2.2.2.2.1.cap v1.2.2.2.2.1.sz),(.int .i64 v1.2.2.2.2.2.1),(.int .i64 v1.2.2.2.2.2.2.1),(.str v1.2.2.2.2.2.2.2.1),(.slice v1.2.2.2.2.2.2.2.2.1.a v1.2.2.2.2.2.2.2.2.1.len v1.2.2.2.2.2.2.2.2.1.cap v1.2.2.2.2.2.2.2.2.1.sz),(.int .i64 v1.2.2.2.2.2.2.2.2.2.1),(.str v1.2.2.2.2.2.2.2.2.2.2.1),(.slice v1.2.2.2.2.2.2.2.2.2.2.2.1.a v1.2.2.2.2.2.2.2.2.2.2.2.1.len v1.2.2.2.2.2.2.2.2.2.2.2.1.cap v1.2.2.2.2.2.2.2.2.2.2.2.1.sz),(.str v1.2.2.2.2.2.2.2.2.2.2.2.2.1),(.slice v1.2.2.2.2.2.2.2.2.2.2.2.2.2.1.a v1.2.2.2.2.2.2.2.2.2.2.2.2.2.1.len v1.2.2.2.2.2.2.2.2.2.2.2.2.2.1.cap v1.2.2.2.2.2.2.2.2.2.2.2.2.2.1.sz),(.slice v1.2.2.2.2.2.2.2.2.2.2.2.2.2.2.1.a v1.2.2.2.2.2.2.2.2.2.2.2.2.2.2.1.len v1.2.2.2.2.2.2.2.2.2.2.2.2.2.2.1.cap v1.2.2.2.2.2.2.2.2.2.2.2.2.2.2.1.sz),(.int .i64 o1.1),(.int .i64 o1.2.1),(.str o1.2.2.1),(.slice o1.2.2.2.1.a o1.2.2.2.1.len o1.2.2.2.1.cap o1.2.2.2.1.sz),(.slice th1.a th1.len th1.cap th1.sz),(.slice el1.a el1.len el1.cap el1.sz)] .own);generalize h.push (.row [(.int .i64 k),(.int .i64 a),(.bool m),(.str nm),(.int .i64 t1.1),(.str t1.2.1),(.slice t1.2.2.1.a t1.2.2.1.len t1.2.2.1.cap t1.2.2.1.sz),(.slice t1.2.2.2.1.a t1.2.2.2.1.len t1.2.2.2.1.cap t1.2.2.2.1.sz),(.bool hs),(.str p1.1),(.slice p1.2.1.a p1.2.1.len p1.2.1.cap p1.2.1.sz),(.int .i64 v1.1),(.int .i64 v1.2.1),(.int .i64 v1.2.2.1),(.str v1.2.2.2.1),(.slice v1.2.2.2.2.1.a v1.2.2.2.2.1.len v1.2.2.2.2.1.cap v1.2.2.2.2.1.sz),(.int .i64 v1.2.2.2.2.2.1),(.int .i64 v1.2.2.2.2.2.2.1),(.str v1.2.2.2.2.2.2.2.1),(.slice v1.2.2.2.2.2.2.2.2.1.a v1.2.2.2.2.2.2.2.2.1.len v1.2.2.2.2.2.2.2.2.1.cap v1.2.2.2.2.2.2.2.2.1.sz),(.int .i64 v1.2.2.2.2.2.2.2.2.2.1),(.str v1.2.2.2.2.2.2.2.2.2.2.1),(.slice v1.2.2.2.2.2.2.2.2.2.2.2.1.a v1.2.2.2.2.2.2.2.2.2.2.2.1.len v1.2.2.2.2.2.2.2.2.2.2.2.1.cap v1.2.2.2.2.2.2.2.2.2.2.2.1.sz),(.str v1.2.2.2.2.2.2.2.2.2.2.2.2.1),(.slice v1.2.2.2.2.2.2.2.2.2.2.2.2.2.1.a v1.2.2.2.2.2.2.2.2.2.2.2.2.2.1.len v1.2.2.2.2.2.2.2.2.2.2.2.2.2.1.cap v1.2.2.2.2.2.2.2.2.2.2.2.2.2.1.sz),(.slice v1.2.2.2.2.2.2.2.2.2.2.2.2.2.2.1.a v1.2.2.2.2.2.2.2.2.2.2.2.2.2.2.1.len v1.2.2.2.2.2.2.2.2.2.2.2.2.2.2.1.cap v1.2.2.2.2.2.2.2.2.2.2.2.2.2.2.1.sz),(.int .i64 o1.1),(.int .i64 o1.2.1),(.str o1.2.2.1),(.slice o1.2.2.2.1.a o1.2.2.2.1.len o1.2.2.2.1.cap o1.2.2.2.1.sz),(.slice th1.a th1.len th1.cap th1.sz),(.slice el1.a el1.len el1.cap el1.sz)] .own)=h1 at *;have O2:=vA h1 [(.int .i64 k),(.int .i64 a),(.bool m),(.str nm),(.int .i64 t2.1),(.str t2.2.1),(.slice t2.2.2.1.a t2.2.2.1.len t2.2.2.1.cap t2.2.2.1.sz),(.slice t2.2.2.2.1.a t2.2.2.2.1.len t2.2.2.2.1.cap t2.2.2.2.1.sz),(.bool hs),(.str p2.1),(.slice p2.2.1.a p2.2.1.len p2.2.1.cap p2.2.1.sz),(.int .i64 v2.1),(.int .i64 v2.2.1),(.int .i64 v2.2.2.1),(.str v2.2.2.2.1),(.slice v2.2.2.2.2.1.a v2.2.2.2.2.1.len v2.2.2.2.2.1.cap v2.2.2.2.2.1.sz),(.int .i64 v2.2.2.2.2.2.1),(.int .i64 v2.2.2.2.2.2.2.1),(.str v2.2.2.2.2.2.2.2.1),(.slice v2.2.2.2.2.2.2.2.2.1.a v2.2.2.2.2.2.2.2.2.1.len v2.2.2.2.2.2.2.2.2.1.cap v2.2.2.2.2.2.2.2.2.1.sz),(.int .i64 v2.2.2.2.2.2.2.2.2.2.1),(.str v2.2.2.2.2.2.2.2.2.2.2.1),(.slice v2.2.2.2.2.2.2.2.2.2.2.2.1.a v2.2.2.2.2.2.2.2.2.2.2.2.1.len v2.2.2.2.2.2.2.2.2.2.2.2.1.cap v2.2.2.2.2.2.2.2.2.2.2.2.1.sz),(.str v2.2.2.2.2.2.2.2.2.2.2.2.2.1),(.slice v2.2.2.2.2.2.2.2.2.2.2.2.2.2.1.a v2.2.2.2.2.2.2.2.2.2.2.2.2.2.1.len v2.2.2.2.2.2.2.2.2.2.2.2.2.2.1.cap v2.2.2.2.2.2.2.2.2.2.2.2.2.2.1.sz),(.slice v2.2.2.2.2.2.2.2.2.2.2.2.2.2.2.1.a v2.2.2.2.2.2.2.2.2.2.2.2.2.2.2.1.len v2.2.2.2.2.2.2.2.2.2.2.2.2.2.2.1.cap v2.2.2.2.2.2.2.2.2.2.2.2.2.2.2.1.sz),(.int .i64 o2.1),(.int .i64 o2.2.1),(.str o2.2.2.1),(.slice o2.2.2.2.1.a o2.2.2.2.1.len o2.2.2.2.1.cap o2.2.2.2.1.sz),(.slice th2.a th2.len th2.cap th2.sz),(.slice el2.a el2.len el2.cap el2.sz)];have c2:=qA h1 (.row [(.int .i64 k),(.int .i64 a),(.bool m),(.str nm),(.int .i64 t2.1),(.str t2.2.1),(.slice t2.2.2.1.a t2.2.2.1.len t2.2.2.1.cap t2.2.2.1.sz),(.slice t2.2.2.2.1.a t2.2.2.2.1.len t2.2.2.2.1.cap t2.2.2.2.1.sz),(.bool hs),(.str p2.1),(.slice p2.2.1.a p2.2.1.len p2.2.1.cap p2.2.1.sz),(.int .i64 v2.1),(.int .i64 v2.2.1),(.int .i64 v2.2.2.1),(.str v2.2.2.2.1),(.slice v2.2.2.2.2.1.a v2.2.2.2.2.1.len v2.2.2.2.2.1.cap v2.2.2.2.2.1.sz),(.int .i64 v2.2.2.2.2.2.1),(.int .i64 v2.2.2.2.2.2.2.1),(.str v2.2.2.2.2.2.2.2.1),(.slice v2.2.2.2.2.2.2.2.2.1.a v2.2.2.2.2.2.2.2.2.1.len v2.2.2.2.2.2.2.2.2.1.cap v2.2.2.2.2.2.2.2.2.1.sz),(.int .i64 v2.2.2.2.2.2.2.2.2.2.1),(.str v2.2.2.2.2.2.2.2.2.2.2.1),(.slice v2.2.2.2.2.2.2.2.2.2.2.2.1.a v2.2.2.2.2.2.2.2.2.2.2.2.1.len v2.2.2.2.2.2.2.2.2.2.2.2.1.cap v2.2.2.2.2.2.2.2.2.2.2.2.1.sz),(.str v2.2.2.2.2.2.2.2.2.2.2.2.2.1),(.slice v2.2.2.2.2.2.2.2.2.2.2.2.2.2.1.a v2.2.2.2.2.2.2.2.2.2.2.2.2.2.1.len v2.2.2.2.2.2.2.2.2.2.2.2.2.2.1.cap v2.2.2.2.2.2.2.2.2.2.2.2.2.2.1.sz),(.slice v2.2.2.2.2.2.2.2.2.2.2.2.2.2.2.1.a v2.2.2.2.2.2.2.2.2.2.2.2.2.2.2.1.len v2.2.2.2.2.2.2.2.2.2.2.2.2.2.2.1.cap v2.2.2.2.2.2.2.2.2.2.2.2.2.2.2.1.sz),(.int .i64 o2.1),(.int .i64 o2.2.1),(.str o2.2.2.1),(.slice o2.2.2.2.1.a o2.2.2.2.1.len o2.2.2.2.1.cap o2.2.2.2.1.sz),(.slice th2.a th2.len th2.cap th2.sz),(.slice el2.a el2.len el2.cap el2.sz)] .own);have O1:=O1.chg c2 (by simp);generalize h1.push (.row [(.int .i64 k),(.int .i64 a),(.bool m),(.str nm),(.int .i64 t2.1),(.str t2.2.1),(.slice t2.2.2.1.a t2.2.2.1.len t2.2.2.1.cap t2.2.2.1.sz),(.slice t2.2.2.2.1.a t2.2.2.2.1.len t2.2.2.2.1.cap t2.2.2.2.1.sz),(.bool hs),(.str p2.1),(.slice p2.2.1.a p2.2.1.len p2.2.1.cap p2.2.1.sz),(.int .i64 v2.1),(.int .i64 v2.2.1),(.int .i64 v2.2.2.1),(.str v2.2.2.2.1),(.slice v2.2.2.2.2.1.a v2.2.2.2.2.1.len v2.2.2.2.2.1.cap v2.2.2.2.2.1.sz),(.int .i64 v2.2.2.2.2.2.1),(.int .i64 v2.2.2.2.2.2.2.1),(.str v2.2.2.2.2.2.2.2.1),(.slice v2.2.2.2.2.2.2.2.2.1.a v2.2.2.2.2.2.2.2.2.1.len v2.2.2.2.2.2.2.2.2.1.cap v2.2.2.2.2.2.2.2.2.1.sz),(.int .i64 v2.2.2.2.2.2.2.2.2.2.1),(.str v2.2.2.2.2.2.2.2.2.2.2.1),(.slice v2.2.2.2.2.2.2.2.2.2.2.2.1.a v2.2.2.2.2.2.2.2.2.2.2.2.1.len v2.2.2.2.2.2.2.2.2.2.2.2.1.cap v2.2.2.2.2.2.2.2.2.2.2.2.1.sz),(.str v2.2.2.2.2.2.2.2.2.2.2.2.2.1),(.slice v2.2.2.2.2.2.2.2.2.2.2.2.2.2.1.a v2.2.2.2.2.2.2.2.2.2.2.2.2.2.1.len v2.2.2.2.2.2.2.2.2.2.2.2.2.2.1.cap v2.2.2.2.2.2.2.2.2.2.2.2.2.2.1.sz),(.slice v2.2.2.2.2.2.2.2.2.2.2.2.2.2.2.1.a v2.2.2.2.2.2.2.2.2.2.2.2.2.2.2.1.len v2.2.2.2.2.2.2.2.2.2.2.2.2.2.2.1.cap v2.2.2.2.2.2.2.2.2.2.2.2.2.2.2.1.sz),(.int .i64 o2.1),(.int .i64 o2.2.1),(.str o2.2.2.1),(.slice o2.2.2.2.1.a o2.2.2.2.1.len o2.2.2.2.1.cap o2.2.2.2.1.sz),(.slice th2.a th2.len th2.cap th2.sz),(.slice el2.a el2.len el2.cap el2.sz)] .own)=H0 at *;have c0:=c1.trans c2
 clear c1 c2
 have qa0:H0.cell (h.next,0)=some (.int .i64 k):=O1.cell 0;have qb0:H0.cell (h1.next,0)=some (.int .i64 k):=O2.cell 0;have qa1:H0.cell (h.next,1)=some (.int .i64 a):=O1.cell 1;have qb1:H0.cell (h1.next,1)=some (.int .i64 a):=O2.cell 1;have qa2:H0.cell (h.next,2)=some (.bool m):=O1.cell 2;have qb2:H0.cell (h1.next,2)=some (.bool m):=O2.cell 2;have qa3:H0.cell (h.next,3)=some (.str nm):=O1.cell 3;have qb3:H0.cell (h1.next,3)=some (.str nm):=O2.cell 3;have qa8:H0.cell (h.next,8)=some (.bool hs):=O1.cell 8;have qb8:H0.cell (h1.next,8)=some (.bool hs):=O2.cell 8;have qa4:H0.cells (h.next,4) 4=some (.agg (tyc t1)):=O1.cells (j:=4) (m:=4) (show 8≤32 by decide);have qb4:H0.cells (h1.next,4) 4=some (.agg (tyc t2)):=O2.cells (j:=4) (m:=4) (show 8≤32 by decide);simp only [Nat.zero_add,qa0,qb0,yC,mG,cond_true,qa1,qb1,qa2,qb2,wB,kA8,qa3,qb3,rB,eqB.2,qa8,qb8,fA];rw [qa4,iAl,qb4,iAl];obtain ⟨H1,qe1,qk1⟩:∃ H',f112 N N (t1.1,t1.2.1,t1.2.2.1,t1.2.2.2.1,()) (t2.1,t2.2.1,t2.2.2.1,t2.2.2.2.1,()) H0=some (true,H')∧Chg [] H0 H':=ht H0 c0;rw [qe1,aA];have O1:=O1.chg qk1 (by simp);have O2:=O2.chg qk1 (by simp);have c1:=c0.trans qk1;have qa9:H1.cells (h.next,9) 2=some (.agg (lfc p1)):=O1.cells (j:=9) (m:=2) (show 11≤32 by decide);have qb9:H1.cells (h1.next,9) 2=some (.agg (lfc p2)):=O2.cells (j:=9) (m:=2) (show 11≤32 by decide);simp only [Nat.zero_add,cond_true,fA];rw [qa9,cAn,qb9,cAn];obtain ⟨H2,qe2,qk2⟩:∃ H',f164 N (p1.1,p1.2.1,()) (p2.1,p2.2.1,()) H1=some (true,H')∧Chg [] H1 H':=hp H1 c1;rw [qe2,aA];have O1:=O1.chg qk2 (by simp);have O2:=O2.chg qk2 (by simp);have c2:=c1.trans qk2;have qa11:H2.cells (h.next,11) 15=some (.agg (vac v1)):=O1.cells (j:=11) (m:=15) (show 26≤32 by decide);have qb11:H2.cells (h1.next,11) 15=some (.agg (vac v2)):=O2.cells (j:=11) (m:=15) (show 26≤32 by decide);simp only [Nat.zero_add,cond_true,fA];rw [qa11,jB3,qb11,jB3];obtain ⟨H3,qe3,qk3⟩:∃ H',f165 N (v1.1,v1.2.1,v1.2.2.1,v1.2.2.2.1,v1.2.2.2.2.1,v1.2.2.2.2.2.1,v1.2.2.2.2.2.2.1,v1.2.2.2.2.2.2.2.1,v1.2.2.2.2.2.2.2.2.1,v1.2.2.2.2.2.2.2.2.2.1,v1.2.2.2.2.2.2.2.2.2.2.1,v1.2.2.2.2.2.2.2.2.2.2.2.1,v1.2.2.2.2.2.2.2.2.2.2.2.2.1,v1.2.2.2.2.2.2.2.2.2.2.2.2.2.1,v1.2.2.2.2.2.2.2.2.2.2.2.2.2.2.1,()) (v2.1,v2.2.1,v2.2.2.1,v2.2.2.2.1,v2.2.2.2.2.1,v2.2.2.2.2.2.1,v2.2.2.2.2.2.2.1,v2.2.2.2.2.2.2.2.1,v2.2.2.2.2.2.2.2.2.1,v2.2.2.2.2.2.2.2.2.2.1,v2.2.2.2.2.2.2.2.2.2.2.1,v2.2.2.2.2.2.2.2.2.2.2.2.1,v2.2.2.2.2.2.2.2.2.2.2.2.2.1,v2.2.2.2.2.2.2.2.2.2.2.2.2.2.1,v2.2.2.2.2.2.2.2.2.2.2.2.2.2.2.1,()) H2=some (true,H')∧Chg [] H2 H':=hv H2 c2;rw [qe3,aA];have O1:=O1.chg qk3 (by simp);have O2:=O2.chg qk3 (by simp);have c3:=c2.trans qk3;have qa26:H3.cells (h.next,26) 4=some (.agg (opc o1)):=O1.cells (j:=26) (m:=4) (show 30≤32 by decide);have qb26:H3.cells (h1.next,26) 4=some (.agg (opc o2)):=O2.cells (j:=26) (m:=4) (show 30≤32 by decide);simp only [Nat.zero_add,cond_true,fA];rw [qa26,dAn,qb26,dAn];obtain ⟨H4,qe4,qk4⟩:∃ H',f166 N (o1.1,o1.2.1,o1.2.2.1,o1.2.2.2.1,()) (o2.1,o2.2.1,o2.2.2.1,o2.2.2.2.1,()) H3=some (true,H')∧Chg [] H3 H':=ho H3 c3;rw [qe4,aA];have O1:=O1.chg qk4 (by simp);have O2:=O2.chg qk4 (by simp);have c4:=c3.trans qk4;have qa30:H4.cell (h.next,30)=some (.slice th1.a th1.len th1.cap th1.sz):=O1.cell 30;have qb30:H4.cell (h1.next,30)=some (.slice th2.a th2.len th2.cap th2.sz):=O2.cell 30;simp only [Nat.zero_add,qa30,qb30,uA,cond_true,fA];obtain ⟨H5,qe5,qk5⟩:∃ H',rec113c114 th1 th2 () H4=some (true,H')∧Chg [] H4 H':=hth H4 c4;show ∃ h',(lA (rec113c114 th1 th2 () H4) _)=_∧_;rw [qe5,aA];have O1:=O1.chg qk5 (by simp);have O2:=O2.chg qk5 (by simp);have c5:=c4.trans qk5;have qa31:H5.cell (h.next,31)=some (.slice el1.a el1.len el1.cap el1.sz):=O1.cell 31;have qb31:H5.cell (h1.next,31)=some (.slice el2.a el2.len el2.cap el2.sz):=O2.cell 31;simp only [Nat.zero_add,qa31,qb31,uA,cond_true,fA];obtain ⟨H6,qe6,qk6⟩:∃ H',rec113c114 el1 el2 () H5=some (true,H')∧Chg [] H5 H':=hel H5 c5;show ∃ h',(lA (rec113c114 el1 el2 () H5) _)=_∧_;rw [qe6,aA];have O1:=O1.chg qk6 (by simp);have O2:=O2.chg qk6 (by simp);have c6:=c5.trans qk6;exact ⟨_,rfl,c6⟩
theorem fB4 {x1 x2 y1 y2:SL} (hx:∀ H,Chg [] h H→∃ H',qA2 N x1 x2 () H=some (true,H')∧Chg [] H H') (hy:∀ H,Chg [] h H→∃ H',uA2 N y1 y2 () H=some (true,H')∧Chg [] H H'):∃ h',f30 N (x1,y1,()) (x2,y2,()) h=some (true,h')∧Chg [] h h':=by
 unfold f30;dsimp only;have o1:=vA h [(.slice x1.a x1.len x1.cap x1.sz),(.slice y1.a y1.len y1.cap y1.sz)];have c1:=qA h (.row [(.slice x1.a x1.len x1.cap x1.sz),(.slice y1.a y1.len y1.cap y1.sz)] .own);generalize h.push (.row [(.slice x1.a x1.len x1.cap x1.sz),(.slice y1.a y1.len y1.cap y1.sz)] .own)=h1 at *;have o2:=vA h1 [(.slice x2.a x2.len x2.cap x2.sz),(.slice y2.a y2.len y2.cap y2.sz)];have c2:=qA h1 (.row [(.slice x2.a x2.len x2.cap x2.sz),(.slice y2.a y2.len y2.cap y2.sz)] .own);have o1:=o1.chg c2 (by simp);generalize h1.push (.row [(.slice x2.a x2.len x2.cap x2.sz),(.slice y2.a y2.len y2.cap y2.sz)] .own)=H0 at *;have c0:=c1.trans c2
 clear c1 c2
 have qa0:H0.cell (h.next,0)=some (.slice x1.a x1.len x1.cap x1.sz):=o1.cell 0;have qb0:H0.cell (h1.next,0)=some (.slice x2.a x2.len x2.cap x2.sz):=o2.cell 0;simp only [Nat.zero_add,qa0,qb0,uA,cond_true,fA];obtain ⟨H1,qe1,qk1⟩:∃ H',qA2 N x1 x2 () H0=some (true,H')∧Chg [] H0 H':=hx H0 c0;show ∃ h',(lA (qA2 N x1 x2 () H0) _)=_∧_;rw [qe1,aA];have o1:=o1.chg qk1 (by simp);have o2:=o2.chg qk1 (by simp);have c1:=c0.trans qk1;have qa1:H1.cell (h.next,1)=some (.slice y1.a y1.len y1.cap y1.sz):=o1.cell 1;have qb1:H1.cell (h1.next,1)=some (.slice y2.a y2.len y2.cap y2.sz):=o2.cell 1;simp only [Nat.zero_add,qa1,qb1,uA,cond_true,fA];obtain ⟨H2,qe2,qk2⟩:∃ H',uA2 N y1 y2 () H1=some (true,H')∧Chg [] H1 H':=hy H1 c1;show ∃ h',(lA (uA2 N y1 y2 () H1) _)=_∧_;rw [qe2,aA];have o1:=o1.chg qk2 (by simp);have o2:=o2.chg qk2 (by simp);have c2:=c1.trans qk2;exact ⟨_,rfl,c2⟩
end
end Qp
namespace Qp
def isFd (d:D):Prop:=∃ m nm ty,d=fdD m nm ty∧uA4 65 ty
def isSt (d:D):Prop:=∃ pub nm lv fs a,d=iAw pub nm lv fs a∧lv.length≤1000∧fs.length≤1000∧∀ f∈fs,isFd f
def isLf (d:D):Prop:=∃ (nm:Bs) (xs:List Bs),d=rA1 nm (xs.map D.s)∧xs.length≤1000
def isOp (d:D):Prop:=∃ k n pl,d=opD k n pl∧isLf pl
def isVa (d:D):Prop:=∃ k a b op pl nm,∃ (ns:List Bs) (ag:List D),d=vaD k a b op pl nm (ns.map D.s) ag∧isOp a∧isOp b∧isLf pl∧ns.length≤1000∧ag.length≤1000∧∀ o∈ag,isOp o
def smT (k a:Int) (m:Bool) (nm:Bs) (ty:D) (hs:Bool) (pl va co:D) (th el:List D):D:=.t [.i k,.i a,.b m,.s nm,ty,.b hs,pl,va,co,.l th,.l el]
def isSm:Nat→D→Prop
 | 0,_=>False
 | n+1,d=>∃ k a m nm ty hs pl va co th el,d=smT k a m nm ty hs pl va co th el∧uA4 65 ty∧isLf pl∧isVa va∧isOp co∧th.length≤3000∧el.length≤3000∧(∀ s∈th,isSm n s)∧∀ s∈el,isSm n s
def fuT (pub:Bool) (nm:Bs) (lv ps:List D) (ty:D) (bd:List D) (a:Int):D:=.t [.b pub,.s nm,.l lv,.l ps,ty,.l bd,.i a]
def isFu (d:D):Prop:=∃ pub nm lv ps ty bd a,d=fuT pub nm lv ps ty bd a∧lv.length≤1000∧(∀ l∈lv,isLf l)∧ps.length≤1000∧(∀ p∈ps,isFd p)∧uA4 65 ty∧bd.length≤3000∧∀ s∈bd,isSm 65 s
section
variable {h:Heap} {V W:Nat→Prop} {cs:List AV}
theorem qAu {xs:List D} (x:∃ (s:SL) (vs:List AV),cs=[s.av]∧s.len=xs.length∧s.len≤s.cap∧(∀ A,s.blk=some A→V A)∧Sees h s vs∧De h V s.sz xs vs):∃ s:SL,cs=[s.av]∧Sl h V s xs:=by
 have:Dt h V (.l xs) cs:=by simp only [Dt];exact x
 exact qBh.1 this
theorem qAj {n:Nat} {d:D} (t:uA4 n d) (x:Dt h V d cs):∃ r:TyV,cs=tyc r:=by
 cases n with
 | zero=>cases t
 | succ n=>
  obtain ⟨k,y,lv,el,rfl,_⟩:=t;obtain ⟨s1,s2,hc,_⟩:=lA3.1 x;exact ⟨_,hc⟩
theorem vA2 {nm:Bs} {l:List D} (x:Dt h V (rA1 nm l) cs):∃ s:SL,cs=lfc (nm,s,())∧Sl h V s l:=by
 simp only [rA1,Dt,Dp] at x;obtain ⟨_,_,rfl,e1,_,_,rfl,x2,rfl⟩:=x;subst e1;obtain ⟨s,rfl,hs⟩:=qAu x2;exact ⟨s,rfl,hs⟩
theorem lA8 {d:D} (t:isLf d) (x:Dt h V d cs):∃ r:LfV,cs=lfc r:=by
 obtain ⟨nm,xs,rfl,_⟩:=t;obtain ⟨s,hc,_⟩:=vA2 x;exact ⟨_,hc⟩
theorem rAj {m:Bool} {nm:Bs} {ty:D} {n:Nat} (t:uA4 n ty) (x:Dt h V (fdD m nm ty) cs):∃ r:TyV,cs=fdc (qR m nm r)∧Dt h V ty (tyc r):=by
 simp only [fdD,Dt,Dp] at x;obtain ⟨_,_,rfl,e1,_,_,rfl,e2,_,_,rfl,x3,rfl⟩:=x;subst e1 e2;obtain ⟨r,rfl⟩:=qAj t x3;exact ⟨r,rfl,x3⟩
theorem mA5 {pub:Bool} {nm:Bs} {lv:List Bs} {fs:List D} {a:Int} (x:Dt h V (iAw pub nm lv fs a) cs):∃ s1 s2:SL,cs=stc (pub,nm,s1,s2,a,())∧Sl h V s1 (lv.map D.s)∧Sl h V s2 fs:=by
 have x':=x;unfold iAw at x';simp only [Dt,Dp] at x';obtain ⟨_,_,rfl,e1,_,_,rfl,e2,_,_,rfl,x3,_,_,rfl,x4,_,_,rfl,e5,rfl⟩:=x';subst e1 e2 e5;obtain ⟨s1,rfl,h1⟩:=qAu x3;obtain ⟨s2,rfl,h2⟩:=qAu x4;exact ⟨s1,s2,rfl,h1,h2⟩
theorem tAj {k n:Int} {pl:D} (t:isLf pl) (x:Dt h V (opD k n pl) cs):∃ p:LfV,cs=opc (k,n,p.1,p.2.1,())∧Dt h V pl (lfc p):=by
 simp only [opD,Dt,Dp] at x;obtain ⟨_,_,rfl,e1,_,_,rfl,e2,_,_,rfl,x3,rfl⟩:=x;subst e1 e2;obtain ⟨r,rfl⟩:=lA8 t x3;exact ⟨r,rfl,x3⟩
theorem mA8 {d:D} (t:isOp d) (x:Dt h V d cs):∃ r:OpV,cs=opc r:=by
 obtain ⟨k,n,pl,rfl,ht⟩:=t;obtain ⟨p,hc,_⟩:=tAj ht x;exact ⟨_,hc⟩
theorem uAj {k op:Int} {a b pl:D} {nm:Bs} {ns ag:List D} (ta:isOp a) (tb:isOp b) (tp:isLf pl) (x:Dt h V (vaD k a b op pl nm ns ag) cs):∃ (ra rb:OpV) (rp:LfV) (s1 s2:SL),cs=vac (tE k ra rb op rp nm s1 s2)∧Dt h V a (opc ra)∧Dt h V b (opc rb)∧Dt h V pl (lfc rp)∧Sl h V s1 ns∧Sl h V s2 ag:=by
 simp only [vaD,Dt,Dp] at x;obtain ⟨_,_,rfl,e1,_,_,rfl,x2,_,_,rfl,x3,_,_,rfl,e4,_,_,rfl,x5,_,_,rfl,e6,_,_,rfl,x7,_,_,rfl,x8,rfl⟩:=x;subst e1 e4 e6;obtain ⟨ra,rfl⟩:=mA8 ta x2;obtain ⟨rb,rfl⟩:=mA8 tb x3;obtain ⟨rp,rfl⟩:=lA8 tp x5;obtain ⟨s1,rfl,h1⟩:=qAu x7;obtain ⟨s2,rfl,h2⟩:=qAu x8;exact ⟨ra,rb,rp,s1,s2,rfl,x2,x3,x5,h1,h2⟩
theorem aAt {d:D} (t:isVa d) (x:Dt h V d cs):∃ r:VaV,cs=vac r:=by
 obtain ⟨k,a,b,op,pl,nm,ns,ag,rfl,ta,tb,tp,_⟩:=t;obtain ⟨ra,rb,rp,s1,s2,hc,_⟩:=uAj ta tb tp x;exact ⟨_,hc⟩
theorem eAc {k a:Int} {m hs:Bool} {nm:Bs} {ty pl va co:D} {th el:List D} (tt:uA4 65 ty) (tp:isLf pl) (tv:isVa va) (to:isOp co) (x:Dt h V (smT k a m nm ty hs pl va co th el) cs):∃ (r:TyV) (p:LfV) (v:VaV) (o:OpV) (s1 s2:SL),cs=smc ⟨k,a,m,nm,r,hs,p,v,o,s1,s2⟩∧Dt h V ty (tyc r)∧Dt h V pl (lfc p)∧Dt h V va (vac v)∧Dt h V co (opc o)∧Sl h V s1 th∧Sl h V s2 el:=by
 simp only [smT,Dt,Dp] at x;obtain ⟨_,_,rfl,e1,_,_,rfl,e2,_,_,rfl,e3,_,_,rfl,e4,_,_,rfl,x5,_,_,rfl,e6,_,_,rfl,x7,_,_,rfl,x8,_,_,rfl,x9,_,_,rfl,x10,_,_,rfl,x11,rfl⟩:=x;subst e1 e2 e3 e4 e6;obtain ⟨r,rfl⟩:=qAj tt x5;obtain ⟨p,rfl⟩:=lA8 tp x7;obtain ⟨v,rfl⟩:=aAt tv x8;obtain ⟨o,rfl⟩:=mA8 to x9;obtain ⟨s1,rfl,h1⟩:=qAu x10;obtain ⟨s2,rfl,h2⟩:=qAu x11;exact ⟨r,p,v,o,s1,s2,rfl,x5,x7,x8,x9,h1,h2⟩
theorem fAc {pub:Bool} {nm:Bs} {lv ps bd:List D} {ty:D} {a:Int} (tt:uA4 65 ty) (x:Dt h V (fuT pub nm lv ps ty bd a) cs):∃ (s1 s2 s3:SL) (r:TyV),cs=fuc ⟨pub,nm,s1,s2,r,s3,a⟩∧Sl h V s1 lv∧Sl h V s2 ps∧Dt h V ty (tyc r)∧Sl h V s3 bd:=by
 simp only [fuT,Dt,Dp] at x;obtain ⟨_,_,rfl,e1,_,_,rfl,e2,_,_,rfl,x3,_,_,rfl,x4,_,_,rfl,x5,_,_,rfl,x6,_,_,rfl,e7,rfl⟩:=x;subst e1 e2 e7;obtain ⟨r,rfl⟩:=qAj tt x5;obtain ⟨s1,rfl,h1⟩:=qAu x3;obtain ⟨s2,rfl,h2⟩:=qAu x4;obtain ⟨s3,rfl,h3⟩:=qAu x6;exact ⟨s1,s2,s3,r,rfl,h1,h2,x5,h3⟩
end
theorem uAm (n:Nat):Rec [(.int .i64),.str,.slice,.slice] 4 tyc (uA4 n):=⟨fun _=>rfl,fun r K=>iAl r K,fun t x=>qAj t x⟩
theorem vAm:Rec [.bool,.str,(.int .i64),.str,.slice,.slice] 6 fdc isFd:=⟨fun _=>rfl,fun r K=>yBf r K,fun t x=>by
 obtain ⟨m,nm,ty,rfl,ht⟩:=t;obtain ⟨r,hc,_⟩:=rAj ht x;exact ⟨_,hc⟩⟩
theorem nA8:Rec [.bool,.str,.slice,.slice,(.int .i64)] 5 stc isSt:=⟨fun _=>rfl,fun r K=>aBg r K,fun t x=>by
 obtain ⟨pub,nm,lv,fs,a,rfl,_⟩:=t;obtain ⟨s1,s2,hc,_⟩:=mA5 x;exact ⟨_,hc⟩⟩
theorem mA3:Rec [.str,.slice] 2 lfc isLf:=⟨fun _=>rfl,fun r K=>cAn r K,fun t x=>lA8 t x⟩
theorem iAg:Rec [(.int .i64),(.int .i64),.str,.slice] 4 opc isOp:=⟨fun _=>rfl,fun r K=>dAn r K,fun t x=>mA8 t x⟩
theorem jAg (n:Nat):Rec [(.int .i64),(.int .i64),.bool,.str,(.int .i64),.str,.slice,.slice,.bool,.str,.slice,(.int .i64),(.int .i64),(.int .i64),.str,.slice,(.int .i64),(.int .i64),.str,.slice,(.int .i64),.str,.slice,.str,.slice,.slice,(.int .i64),(.int .i64),.str,.slice,.slice,.slice] 32 smx (isSm n):=⟨fun _=>rfl,fun r K=>eBg r K,fun t x=>by
 cases n with
 | zero=>cases t
 | succ n=>
  obtain ⟨k,a,m,nm,ty,hs,pl,va,co,th,el,rfl,t1,t2,t3,t4,_⟩:=t;obtain ⟨r,p,v,o,s1,s2,hc,_⟩:=eAc t1 t2 t3 t4 x;exact ⟨_,hc⟩⟩
theorem kAg:Rec [.bool,.str,.slice,.slice,(.int .i64),.str,.slice,.slice,.slice,(.int .i64)] 10 fux isFu:=⟨fun _=>rfl,fun r K=>fBg r K,fun t x=>by
 obtain ⟨pub,nm,lv,ps,ty,bd,a,rfl,_,_,_,_,ht,_⟩:=t;obtain ⟨s1,s2,s3,r,hc,_⟩:=fAc ht x;exact ⟨_,hc⟩⟩
theorem Rec.inj {tys:List CTy} {n:Nat} {c:nN tys→List AV} {P:D→Prop} (R:Rec tys n c P) {r r':nN tys} (h:c r=c r'):r=r':=by
 have h1:=R.agg r (fun x=>some x);rw [h,R.agg] at h1;exact (Option.some.inj h1).symm
section
variable {N:Nat} {tys:List CTy} {n:Nat} {c:nN tys→List AV} {z:List AV} {P:D→Prop}
theorem gX (R:Rec tys n c P) (hz:z.length=n) {F:nN tys→nN tys→Heap→Option (Bool×Heap)} {L:Nat→SL→Unit→Bool→SL→Int→Int→Heap→Option (Out×zY×Heap)} (hs:∀ M v1 v6 v15 v16 v17 h,L (M+1) v1 () v6 v15 v16 v17 h=wAs tys n c z F (L M) v1 v6 v15 v16 v17 h)
  {xs:List D} (hP:∀ x∈xs,P x) (hF:∀ x∈xs,∀ r1 r2 H V W,Dt H V x (c r1)→Dt H W x (c r2)→∃ H',F r1 r2 H=some (true,H')∧Chg [] H H') (hl:xs.length≤2000000) (hN:xs.length<N) {G:Option (Bool×Heap)} {h:Heap} {V W:Nat→Prop} {s1 s2:SL} (x1:Sl h V s1 xs) (x2:Sl h W s2 xs)
  (hG:G=(bif !dB (Int.ofNat s1.len) (Int.ofNat s2.len) then some (false,h) else pD (L N s2 () false s1 (Int.ofNat s1.len) 0 h) fun o17 (j18:zY) h19=>bif uD o17 (.exit 0) then some (true,h19) else some (j18.1,h19))):∃ h',G=some (true,h')∧Chg [] h h':=by
 obtain ⟨h',e,c'⟩:=bB4 R hz hs hP hF hl N 0 h V W s1 s2 (Nat.zero_le _) (by omega) x1 x2;rw [show ((0:Nat):Int)=0 from rfl] at e;refine ⟨h',?_,c'⟩;rw [hG,jAz x1 x2,Bool.not_true,cond_false,x1.len,show Int.ofNat xs.length=(xs.length:Int) from rfl,e];rfl
end
section
variable {N:Nat} {h:Heap} {V W:Nat→Prop}
theorem lAg {d:D} (t:isLf d) {p1 p2:LfV} (x1:Dt h V d (lfc p1)) (x2:Dt h W d (lfc p2)) (hN:3001≤N) {H:Heap} (c:Chg [] h H):∃ H',f164 N (p1.1,p1.2.1,()) (p2.1,p2.2.1,()) H=some (true,H')∧Chg [] H H':=by
 obtain ⟨nm,xs,rfl,hl⟩:=t;obtain ⟨s1,hc1,y1⟩:=vA2 x1;obtain ⟨s2,hc2,y2⟩:=vA2 x2;have e1:=mA3.inj hc1;have e2:=mA3.inj hc2;subst e1 e2;exact cB4 (y1.chg c (by simp)) (y2.chg c (by simp)) (by omega) (by omega)
theorem oA8 {d:D} (t:isOp d) {r1 r2:OpV} (x1:Dt h V d (opc r1)) (x2:Dt h W d (opc r2)) (hN:3001≤N) {H:Heap} (c:Chg [] h H):∃ H',f166 N (r1.1,r1.2.1,r1.2.2.1,r1.2.2.2.1,()) (r2.1,r2.2.1,r2.2.2.1,r2.2.2.2.1,()) H=some (true,H')∧Chg [] H H':=by
 obtain ⟨k,n,pl,rfl,ht⟩:=t;obtain ⟨p1,hc1,y1⟩:=tAj ht x1;obtain ⟨p2,hc2,y2⟩:=tAj ht x2;have e1:=iAg.inj hc1;have e2:=iAg.inj hc2;subst e1 e2;exact yAw fun H' c'=>lAg ht y1 y2 hN (c.trans c')
theorem gB4 {ag:List D} (t:∀ o∈ag,isOp o) (hl:ag.length≤3000) {s1 s2:SL} (x1:Sl h V s1 ag) (x2:Sl h W s2 ag) (hN:3001≤N) {H:Heap} (c:Chg [] h H):∃ H',rM N s1 s2 () H=some (true,H')∧Chg [] H H':=by
 unfold rM;obtain ⟨H',e,c'⟩:=gX (N:=N) iAg (z:=opc (0,0,[],sl0,())) rfl (L:=tA2 N) (F:=fun a b h=>f166 N (a.1,a.2.1,a.2.2.1,a.2.2.2.1,()) (b.1,b.2.1,b.2.2.1,b.2.2.2.1,()) h) (fun _ _ _ _ _ _ _=>rfl) t (fun x hx r1 r2 H V W y1 y2=>oA8 (t x hx) y1 y2 hN (Chg.refl _ _)) (by omega) (by omega) (x1.chg c (by simp)) (x2.chg c (by simp)) (G:=iA8 N s1 s2 () H) rfl;rw [e];exact ⟨H',rfl,c'⟩
theorem iB4 {d:D} (t:isVa d) {v1 v2:VaV} (x1:Dt h V d (vac v1)) (x2:Dt h W d (vac v2)) (hN:3001≤N) {H:Heap} (c:Chg [] h H):∃ H',f165 N v1 v2 H=some (true,H')∧Chg [] H H':=by
 obtain ⟨k,a,b,op,pl,nm,ns,ag,rfl,ta,tb,tp,hn,hg,tg⟩:=t;obtain ⟨ra1,rb1,rp1,n1,g1,hc1,a1,b1,p1,y1,z1⟩:=uAj ta tb tp x1;obtain ⟨ra2,rb2,rp2,n2,g2,hc2,a2,b2,p2,y2,z2⟩:=uAj ta tb tp x2;have hinj:∀ {r r':VaV},vac r=vac r'→r=r':=fun {r r'} h=>by
  have h1:=jB3 r (fun x=>some x);rw [h,jB3] at h1;exact (Option.some.inj h1).symm
 have e1:=hinj hc1;have e2:=hinj hc2;subst e1 e2;exact aAx (fun H' c'=>oA8 ta a1 a2 hN (c.trans c')) (fun H' c'=>oA8 tb b1 b2 hN (c.trans c')) (fun H' c'=>lAg tp p1 p2 hN (c.trans c'))
  (fun H' c'=>yBd (c.trans c') y1 y2 (by omega) (by omega)) (fun H' c'=>gB4 tg (by omega) z1 z2 hN (c.trans c'))
theorem jB4 (hN:3001≤N):∀ (n M:Nat) (d:D) (r1 r2:TyV) (h:Heap) (V W:Nat→Prop),3 * n≤M→uA4 n d→Dt h V d (tyc r1)→Dt h W d (tyc r2)→∃ H',f112 N M (r1.1,r1.2.1,r1.2.2.1,r1.2.2.2.1,()) (r2.1,r2.2.1,r2.2.2.1,r2.2.2.2.1,()) h=some (true,H')∧Chg [] h H':=by
 intro n
 induction n with
 | zero=>intro M d r1 r2 h V W _ t;cases t
 | succ n ih=>
  intro M d r1 r2 h V W hM t x1 x2;obtain ⟨M,rfl⟩:∃ m,M=m+3:=⟨M-3,by omega⟩;obtain ⟨k,x,lv,el,rfl,hlv,hel,tel⟩:=t;obtain ⟨l1,g1,hc1,y1,z1⟩:=lA3.1 x1;obtain ⟨l2,g2,hc2,y2,z2⟩:=lA3.1 x2;have e1:=(uAm 1).inj hc1;have e2:=(uAm 1).inj hc2;subst e1 e2;rw [pAs];refine bAx (fun H c=>yBd c y1 y2 (by omega) (by omega)) (fun H c=>?_)
  rw [bA8];unfold wV;obtain ⟨H',e,c'⟩:=gX (N:=N) (uAm n) (z:=tyc (0,[],sl0,sl0,())) rfl (L:=mA2 N (f112 N M) (jU N M) (kU N M)) (F:=fun a b h=>f112 N M (a.1,a.2.1,a.2.2.1,a.2.2.2.1,()) (b.1,b.2.1,b.2.2.1,b.2.2.2.1,()) h) (fun _ _ _ _ _ _ _=>rfl) tel (fun x hx r1 r2 H V W y1 y2=>ih M x r1 r2 H V W (by omega) (tel x hx) y1 y2) (by omega) (by omega) (z1.chg c (by simp)) (z2.chg c (by simp)) (G:=kU N (M+1) g1 g2 () H) rfl;rw [e];exact ⟨H',rfl,c'⟩
theorem pA8 {n:Nat} {d:D} (t:uA4 n d) (hn:n≤100) {r1 r2:TyV} (x1:Dt h V d (tyc r1)) (x2:Dt h W d (tyc r2)) (hN:3001≤N) {H:Heap} (c:Chg [] h H):∃ H',f112 N N (r1.1,r1.2.1,r1.2.2.1,r1.2.2.2.1,()) (r2.1,r2.2.1,r2.2.2.1,r2.2.2.2.1,()) H=some (true,H')∧Chg [] H H':=
 jB4 hN n N d r1 r2 H V W (by omega) t (Dt.chg c (by simp) x1) (Dt.chg c (by simp) x2)
theorem kB4 {d:D} (t:isFd d) {r1 r2:FdV} (x1:Dt h V d (fdc r1)) (x2:Dt h W d (fdc r2)) (hN:3001≤N):∃ H',f108 N r1 r2 h=some (true,H')∧Chg [] h H':=by
 obtain ⟨m,nm,ty,rfl,ht⟩:=t;obtain ⟨q1,hc1,y1⟩:=rAj ht x1;obtain ⟨q2,hc2,y2⟩:=rAj ht x2;have e1:=vAm.inj hc1;have e2:=vAm.inj hc2;subst e1 e2;exact cAx fun H c=>pA8 ht (by omega) y1 y2 hN c
theorem bAt {fs:List D} (t:∀ o∈fs,isFd o) (hl:fs.length≤3000) {s1 s2:SL} (x1:Sl h V s1 fs) (x2:Sl h W s2 fs) (hN:3001≤N) {H:Heap} (c:Chg [] h H):∃ H',iH N s1 s2 () H=some (true,H')∧Chg [] H H':=by
 unfold iH;obtain ⟨H',e,c'⟩:=gX (N:=N) vAm (z:=fdc fd0) rfl (L:=nA2 N) (F:=fun a b h=>f108 N a b h) (fun _ _ _ _ _ _ _=>rfl) t (fun x hx r1 r2 H V W y1 y2=>kB4 (t x hx) y1 y2 hN) (by omega) (by omega) (x1.chg c (by simp)) (x2.chg c (by simp)) (G:=dA8 N s1 s2 () H) rfl;rw [e];exact ⟨H',rfl,c'⟩
theorem lB4 {d:D} (t:isSt d) {r1 r2:StV} (x1:Dt h V d (stc r1)) (x2:Dt h W d (stc r2)) (hN:3001≤N):∃ H',f73 N r1 r2 h=some (true,H')∧Chg [] h H':=by
 obtain ⟨pub,nm,lv,fs,a,rfl,hl,hf,tf⟩:=t;obtain ⟨l1,g1,hc1,y1,z1⟩:=mA5 x1;obtain ⟨l2,g2,hc2,y2,z2⟩:=mA5 x2;have e1:=nA8.inj hc1;have e2:=nA8.inj hc2;subst e1 e2;exact dB4 (fun H c=>yBd c y1 y2 (by omega) (by omega)) (fun H c=>bAt tf (by omega) z1 z2 hN c)
theorem mB4 {xs:List D} (t:∀ o∈xs,isSt o) (hl:xs.length≤3000) {s1 s2:SL} (x1:Sl h V s1 xs) (x2:Sl h W s2 xs) (hN:3001≤N) {H:Heap} (c:Chg [] h H):∃ H',qA2 N s1 s2 () H=some (true,H')∧Chg [] H H':=by
 unfold qA2;obtain ⟨H',e,c'⟩:=gX (N:=N) nA8 (z:=stc st0) rfl (L:=kA5 N) (F:=fun a b h=>f73 N a b h) (fun _ _ _ _ _ _ _=>rfl) t (fun x hx r1 r2 H V W y1 y2=>lB4 (t x hx) y1 y2 hN) (by omega) (by omega) (x1.chg c (by simp)) (x2.chg c (by simp)) (G:=vAf N s1 s2 () H) rfl;rw [e];exact ⟨H',rfl,c'⟩
theorem cAt {d:D} (t:isLf d) {r1 r2:LfV} (x1:Dt h V d (lfc r1)) (x2:Dt h W d (lfc r2)) (hN:3001≤N):∃ H',f111 N r1 r2 h=some (true,H')∧Chg [] h H':=by
 obtain ⟨nm,xs,rfl,hl⟩:=t;obtain ⟨s1,hc1,y1⟩:=vA2 x1;obtain ⟨s2,hc2,y2⟩:=vA2 x2;have e1:=mA3.inj hc1;have e2:=mA3.inj hc2;subst e1 e2;exact dAx fun H c=>yBd c y1 y2 (by omega) (by omega)
theorem dAt {xs:List D} (t:∀ o∈xs,isLf o) (hl:xs.length≤3000) {s1 s2:SL} (x1:Sl h V s1 xs) (x2:Sl h W s2 xs) (hN:3001≤N) {H:Heap} (c:Chg [] h H):∃ H',qM N s1 s2 () H=some (true,H')∧Chg [] H H':=by
 unfold qM;obtain ⟨H',e,c'⟩:=gX (N:=N) mA3 (z:=lfc lf0) rfl (L:=rA2 N) (F:=fun a b h=>f111 N a b h) (fun _ _ _ _ _ _ _=>rfl) t (fun x hx r1 r2 H V W y1 y2=>cAt (t x hx) y1 y2 hN) (by omega) (by omega) (x1.chg c (by simp)) (x2.chg c (by simp)) (G:=fA8 N s1 s2 () H) rfl;rw [e];exact ⟨H',rfl,c'⟩
theorem nB4 (hN:3001≤N):∀ (n M:Nat) (xs:List D) (s1 s2:SL) (h:Heap) (V W:Nat→Prop),3 * n+3≤M→(∀ s∈xs,isSm n s)→xs.length≤3000→Sl h V s1 xs→Sl h W s2 xs→∃ H',jG N M s1 s2 () h=some (true,H')∧Chg [] h H':=by
 intro n
 induction n with
 | zero=>
  intro M xs s1 s2 h V W hM t hl x1 x2;obtain ⟨M,rfl⟩:∃ m,M=m+2:=⟨M-2,by omega⟩;rw [lU];unfold tP;obtain ⟨H',e,c'⟩:=gX (N:=N) (jAg 0) (z:=smx (smv (aG 0))) rfl (L:=vR N (jG N M) (f114 N M) (tM N M)) (F:=fun a b h=>f114 N M a b h) (fun _ _ _ _ _ _ _=>rfl) t (fun x hx r1 r2 H V W y1 y2=>by cases t x hx) (by omega) (by omega) x1 x2 (G:=tM N (M+1) s1 s2 () h) rfl;rw [e];exact ⟨H',rfl,c'⟩
 | succ n ih=>
  intro M xs s1 s2 h V W hM t hl x1 x2;obtain ⟨M,rfl⟩:∃ m,M=m+3:=⟨M-3,by omega⟩;rw [lU];unfold tP;obtain ⟨H',e,c'⟩:=gX (N:=N) (jAg (n+1)) (z:=smx (smv (aG 0))) rfl (L:=vR N (jG N (M+1)) (f114 N (M+1)) (tM N (M+1))) (F:=fun a b h=>f114 N (M+1) a b h) (fun _ _ _ _ _ _ _=>rfl) t (fun x hx r1 r2 H V W y1 y2=>by
   obtain ⟨k,a,m,nm,ty,hs,pl,va,co,th,el,rfl,t1,t2,t3,t4,h1,h2,t5,t6⟩:=t x hx;obtain ⟨q1,p1,v1,o1,th1,el1,hc1,z1,pl1,va1,co1,u1,w1⟩:=eAc t1 t2 t3 t4 y1;obtain ⟨q2,p2,v2,o2,th2,el2,hc2,z2,pl2,va2,co2,u2,w2⟩:=eAc t1 t2 t3 t4 y2;have e1:=(jAg 1).inj hc1;have e2:=(jAg 1).inj hc2;subst e1 e2;show ∃ H',f114 N (M+1) _ _ H=_∧_;rw [tAs];exact eAx (fun H' c=>pA8 t1 (by omega) z1 z2 hN c) (fun H' c=>lAg t2 pl1 pl2 hN c) (fun H' c=>iB4 t3 va1 va2 hN c) (fun H' c=>oA8 t4 co1 co2 hN c)
    (fun H' c=>ih M th th1 th2 H' V W (by omega) t5 h1 (u1.chg c (by simp)) (u2.chg c (by simp))) (fun H' c=>ih M el el1 el2 H' V W (by omega) t6 h2 (w1.chg c (by simp)) (w2.chg c (by simp)))) (by omega) (by omega) x1 x2 (G:=tM N (M+2) s1 s2 () h) rfl
  rw [e];exact ⟨H',rfl,c'⟩
theorem oB4 {d:D} (t:isFu d) {r1 r2:FuV} (x1:Dt h V d (fux r1)) (x2:Dt h W d (fux r2)) (hN:3001≤N):∃ H',f75 N r1 r2 h=some (true,H')∧Chg [] h H':=by
 obtain ⟨pub,nm,lv,ps,ty,bd,a,rfl,h1,tl,h2,tp,tt,h3,tb⟩:=t;obtain ⟨l1,p1,b1,q1,hc1,y1,z1,u1,w1⟩:=fAc tt x1;obtain ⟨l2,p2,b2,q2,hc2,y2,z2,u2,w2⟩:=fAc tt x2;have e1:=kAg.inj hc1;have e2:=kAg.inj hc2;subst e1 e2;exact eB4 (fun H c=>dAt tl (by omega) y1 y2 hN c) (fun H c=>bAt tp (by omega) z1 z2 hN c) (fun H c=>pA8 tt (by omega) u1 u2 hN c)
  (fun H c=>nB4 hN 65 N bd b1 b2 H V W (by omega) tb (by omega) (w1.chg c (by simp)) (w2.chg c (by simp)))
theorem pB4 {xs:List D} (t:∀ o∈xs,isFu o) (hl:xs.length≤3000) {s1 s2:SL} (x1:Sl h V s1 xs) (x2:Sl h W s2 xs) (hN:3001≤N) {H:Heap} (c:Chg [] h H):∃ H',uA2 N s1 s2 () H=some (true,H')∧Chg [] H H':=by
 unfold uA2;obtain ⟨H',e,c'⟩:=gX (N:=N) kAg (z:=fux (fuv (fJ false [] 0))) rfl (L:=lA5 N) (F:=fun a b h=>f75 N a b h) (fun _ _ _ _ _ _ _=>rfl) t (fun x hx r1 r2 H V W y1 y2=>oB4 (t x hx) y1 y2 hN) (by omega) (by omega) (x1.chg c (by simp)) (x2.chg c (by simp)) (G:=fAg N s1 s2 () H) rfl;rw [e];exact ⟨H',rfl,c'⟩
theorem uBb {xs ys:List D} (tx:∀ o∈xs,isSt o) (ty:∀ o∈ys,isFu o) (hx:xs.length≤3000) (hy:ys.length≤3000) {x1 x2 y1 y2:SL} (a1:Sl h V x1 xs) (a2:Sl h W x2 xs) (b1:Sl h V y1 ys) (b2:Sl h W y2 ys) (hN:3001≤N):∃ h',f30 N (x1,y1,()) (x2,y2,()) h=some (true,h')∧Chg [] h h':=
 fB4 (fun H c=>mB4 tx hx a1 a2 hN c) (fun H c=>pB4 ty hy b1 b2 hN c)
end
end Qp
namespace Ai
def OwC (h:Heap) (s:SL) (n:Nat) (vs:List AV):Prop:=
 (s.a=none∧s.len=0∧s.cap=0∧vs=[])∨
 ∃ A cs st,s.a=some (A,0)∧s.sz=n∧A<h.next∧h.g A=some (.row cs st)∧vs.length=s.len * n∧cs.take vs.length=vs∧s.len≤s.cap∧(st=.grown∨(st=.own∧s.cap * n=cs.length))
section
variable {E:Env} {h h':Heap} {s:SL} {n:Nat} {vs:List AV} {M:List Nat}
theorem OwC.nil (h:Heap) (z n:Nat):OwC h ⟨none,0,0,z⟩ n []:=.inl ⟨rfl,rfl,rfl,rfl⟩
theorem OwC.len (x:OwC h s n vs):vs.length=s.len * n:=by
 rcases x with ⟨_,h1,_,rfl⟩ | ⟨A,cs,st,_,_,_,_,h1,_⟩
 ·simp [h1]
 ·exact h1
theorem OwC.lt (x:OwC h s n vs):∀ A,s.blk=some A→A<h.next:=by
 intro A hA;rcases x with ⟨h1,_⟩ | ⟨A',cs,st,h1,_,h3,_⟩
 ·simp [SL.blk,h1] at hA
 ·simp [SL.blk,h1] at hA;subst hA;exact h3
theorem OwC.chg (x:OwC h s n vs) (c:Chg M h h') (hM:∀ A,s.blk=some A→A ∉ M):OwC h' s n vs:=by
 rcases x with h1 | ⟨A,cs,st,h1,h2,h3,h4,h5⟩
 ·exact .inl h1
 ·exact .inr ⟨A,cs,st,h1,h2,Nat.lt_of_lt_of_le h3 c.next,by rw [c.g A h3 (hM A (by simp [SL.blk,h1]))];exact h4,h5⟩
theorem OwC.sees (x:OwC h s n vs):Sees h s vs:=by
 rcases x with ⟨h1,h2,h3,rfl⟩ | ⟨A,cs,st,h1,h2,h3,h4,h5,h6,h7,h8⟩
 ·exact ⟨by simp [h2],fun _=>h2,fun A off ha=>by rw [h1] at ha;cases ha⟩
 ·refine ⟨by rw [h5,h2],fun ha=>(by rw [h1] at ha;cases ha),fun A' off ha=>?_⟩
  rw [h1] at ha;simp only [Option.some.injEq,Prod.mk.injEq] at ha;obtain ⟨rfl,rfl⟩:=ha;refine ⟨h3,cs,?_,by rw [List.drop_zero];exact h6⟩;rw [h4];rcases h8 with rfl | ⟨rfl,_⟩ <;> rfl
theorem OwC.cap (x:OwC h s n vs):s.len≤s.cap:=by
 rcases x with ⟨_,h2,h3,_⟩ | ⟨A,cs,st,h1,h2,h3,h4,h5,h6,h7,h8⟩
 ·omega
 ·exact h7
theorem wAm {x:SL} {ws:List AV} (hx:Sees h x ws) (hz:x.len * n=ws.length):fE h n x.len (.slice x.a x.len x.cap x.sz)=some ws:=by
 obtain ⟨g2,g3,g4⟩:=hx
 cases ha:x.a with
 | none=>
  have h0:=g3 ha;rw [h0,Nat.zero_mul] at hz
  have:ws=[]:=List.length_eq_zero_iff.1 hz.symm
  subst this;rfl
 | some q=>
  obtain ⟨A,off⟩:=q;obtain ⟨h1,bs,h5,h6⟩:=g4 A off ha;have hlen:((bs.drop off).take ws.length).length=ws.length:=by rw [h6]
  rw [List.length_take] at hlen;simp only [fE,Heap.read,tAd A h5,hz];rw [uI _ _ (by omega),h6]
theorem vAj {st e:TypeId} {W:Nat} (ha:AppN E st e n W) {x:SL} {ws:List AV} (hx:Sees h x ws) (hz:x.len * n=ws.length) (hv:∀ w∈ws,AV.single w=true) (ho:OwC h s n vs) (hl:(s.len+x.len) * W≤1073741824) :
  ∃ s' h',fB E st st (.slice s.a s.len s.cap s.sz) (.slice x.a x.len x.cap x.sz) h=some (.slice s'.a s'.len s'.cap s'.sz,h')∧OwC h' s' n (vs++ws)∧s'.len=s.len+x.len∧Chg s.blk.toList h h'∧(∀ A,s'.blk=some A→s.blk=some A∨h.next≤A):=by
 obtain ⟨hu,⟨i,hi,hi1,hi2⟩,⟨z,hzz,hz1⟩⟩:=ha;have hfirst:=wAm hx hz
 by_cases hn:x.len=0
 ·have hws:ws=[]:=List.length_eq_zero_iff.1 (by rw [← hz,hn,Nat.zero_mul])
  subst hws;refine ⟨s,h,?_,by rw [List.append_nil];exact ho,by omega,(Chg.refl [] h).mono (by simp),fun A hA=>.inl hA⟩;rw [hn] at hfirst;simp only [fB,hu,wP,tA3,cond_false,hi,hzz,wJ,hi1,hn,hfirst,show Nat.beq 0 0=true from rfl,cond_true]
 have hn0:Nat.beq x.len 0=false:=by
  cases hq:Nat.beq x.len 0 with
  | false=>rfl
  | true=>exact absurd (Nat.eq_of_beq_eq_true hq) hn
 have hroom:Nat.ble ((s.len+x.len) * (i.bytes+i.size+1)) fS=true:=by
  have h1:(s.len+x.len) * (i.bytes+i.size+1)≤(s.len+x.len) * W:=Nat.mul_le_mul (Nat.le_refl _) (by omega);simp only [fS,Nat.ble_eq];omega
 have hsz:(Nat.beq s.sz i.size||s.a.isNone)=true:=by
  rcases ho with ⟨h1,_⟩ | ⟨A,cs,st',h1,h2,_⟩
  ·simp [h1]
  ·simp [hi1,h2]
 have key:fB E st st (.slice s.a s.len s.cap s.sz) (.slice x.a x.len x.cap x.sz) h=rK h s.a s.len s.cap n x.len ws:=by
  have hall:List.all ws AV.single=true:=by rw [List.all_eq_true];exact hv
  have hz2:Nat.beq z.cells.length i.size=true:=by rw [hz1,hi1];exact Nat.beq_refl _
  have hnl:Nat.beq ws.length (x.len * i.size)=true:=by rw [hi1,hz];exact Nat.beq_refl _
  simp only [fB,hu,wP,tA3,cond_false,hi,hzz,wJ];rw [hi1] at hroom hsz hz2 hnl ⊢;simp only [hfirst,hn0,cond_false,hroom,hsz,hz2,hnl,hall,Bool.and_self,cond_true]
 rw [key];rcases ho with ⟨h1,h2,h3,rfl⟩ | ⟨A,bs,st',h1,h2,h4,h5,h6,h7,h9,h10⟩
 ·have c0:Chg [] h (h.push (.row ws .grown)):=(Chg.refl [] h).push _
  refine ⟨⟨some (h.next,0),x.len,x.len,n⟩,_,by simp only [rK,h1,h2,Nat.zero_add],.inr ⟨h.next,ws,.grown,rfl,rfl,by simp,aH _ rfl,by simp [hz],by simp,Nat.le_refl _,.inl rfl⟩,by show x.len=_;omega,c0.mono (by simp),fun A hA=>.inr (by simp [SL.blk] at hA;omega)⟩
 ·have hbl:s.blk=some A:=by simp [SL.blk,h1]
  have hcl:vs.length≤bs.length:=by
   have:(bs.take vs.length).length=vs.length:=by rw [h7]
   rw [List.length_take] at this;omega
  have hg:h.t.get A=some (.row bs st'):=by unfold Heap.g at h5;exact h5
  have htk:takeN (s.len * n) bs=some vs:=by rw [uI _ _ (by omega),← h6,h7]
  have hlen2:(vs++ws).length=(s.len+x.len) * n:=by rw [List.length_append,h6,← hz,Nat.add_mul]
  have fresh:∀ H:Heap,H.next=h.next→OwC (H.push (.row (vs++ws) .grown)) ⟨some (h.next,0),s.len+x.len,s.len+x.len,n⟩ n (vs++ws):=fun H hH=>
   .inr ⟨h.next,vs++ws,.grown,rfl,rfl,by simp [hH],aH _ hH.symm,hlen2,List.take_of_length_le (Nat.le_refl _),Nat.le_refl _,.inl rfl⟩
  rcases h10 with rfl | ⟨rfl,h10⟩
  ·have cH:Chg [A] h (h.put A (.row bs .dead)):=(Chg.refl [A] h).put (.inl (by simp)) _
   refine ⟨⟨some (h.next,0),s.len+x.len,s.len+x.len,n⟩,(h.put A (.row bs .dead)).push (.row (vs++ws) .grown),?_,fresh _ rfl,rfl,(cH.push _).mono (by simp [hbl]),fun C hC=>.inr (by simp [SL.blk] at hC;omega)⟩;simp only [rK,h1,hg,List.drop_zero,htk]
  ·by_cases hc:s.len+x.len≤s.cap
   ·have hb1:Nat.ble (s.len+x.len) s.cap=true:=by simpa using hc
    have hroom2:s.len * n+ws.length≤bs.length:=by
     rw [← hz,← Nat.add_mul,← h10];exact Nat.mul_le_mul_right _ hc
    have hov:=uA0 bs ws (s.len * n) hroom2;have cH:Chg [A] h (h.put A (.row (bs.take (s.len * n)++ws++bs.drop (s.len * n+ws.length)) .own)):=(Chg.refl [A] h).put (.inl (by simp)) _;have e1:bs.take (s.len * n)=vs:=by rw [← h6,h7]
    refine ⟨⟨some (A,0),s.len+x.len,s.cap,n⟩,_,?_,.inr ⟨A,_,.own,rfl,rfl,by simp;omega,gT _ rfl,hlen2,?_,hc,.inr ⟨rfl,?_⟩⟩,rfl,cH.mono (by simp [hbl]),fun C hC=>.inl (by simp [SL.blk] at hC;rw [hbl,hC])⟩
    ·simp only [rK,h1,hg,List.drop_zero,htk,hb1,cond_true,Nat.zero_add,hov]
    ·rw [e1,List.append_assoc,← List.append_assoc,List.take_append_of_le_length (Nat.le_refl _),List.take_of_length_le (Nat.le_refl _)]
    ·show s.cap * n=_
     rw [h10];simp only [List.length_append,List.length_take,List.length_drop];omega
   ·have hb1:Nat.ble (s.len+x.len) s.cap=false:=by
     cases hx:Nat.ble (s.len+x.len) s.cap with
     | false=>rfl
     | true=>exact absurd (by simpa using hx) hc
    have cH:Chg [A] h h:=Chg.refl [A] h;refine ⟨⟨some (h.next,0),s.len+x.len,s.len+x.len,n⟩,h.push (.row (vs++ws) .grown),?_,fresh _ rfl,rfl,(cH.push _).mono (by simp [hbl]),fun C hC=>.inr (by simp [SL.blk] at hC;omega)⟩;simp only [rK,h1,hg,List.drop_zero,htk,hb1,cond_false]
end
end Ai
namespace Qp
theorem yR {h:Heap} {A:Nat} {cs:List AV} (x:h.own A cs) {j:Nat} {vs:List AV} (hj:j+vs.length≤cs.length) {ds:List AV} (hd:cs.take j++vs++cs.drop (j+vs.length)=ds):h.store (A,j) vs=some (h.put A (.row ds .own)):=by
 have hw:h.t.get A=some (.row cs .own):=x.1;simp only [Heap.store,Heap.rowW,hw,uA0 cs vs j hj,hd]
abbrev Fr0 (h:Heap) (C:Nat):Prop:=h.next≤C
section
variable {h h0:Heap} {V W:Nat→Prop}
theorem eAt:∀ {xs:List Bs} {vs:List AV} {n:Nat},De h V n (xs.map D.s) vs→vs=xs.map AV.str
 | [],vs,n,x=>by simpa [De] using x
 | y::r,vs,n,x=>by
  simp only [List.map_cons,De,Dt] at x;obtain ⟨a,b,rfl,_,rfl,hb⟩:=x;rw [eAt hb];rfl
theorem nA5 (h:Heap) (V:Nat→Prop):∀ (xs:List Bs),De h V 1 (xs.map D.s) (xs.map AV.str)
 | []=>by simp [De]
 | y::r=>by
  simp only [List.map_cons,De,Dt];exact ⟨[.str y],r.map AV.str,rfl,rfl,rfl,nA5 h V r⟩
theorem wA2 {N:Nat} {s:SL} {xs:List Bs} (x:Sl h V s (xs.map D.s)) (hl:xs.length≤3000):∃ v h',f115 N s h=some (v,h')∧Chg [] h h'∧Sl h' (Fr0 h) v (xs.map D.s):=by
 unfold f115;obtain ⟨ws,hs,he⟩:=x.els;have hws:=eAt he;have hlen:=x.len;rw [List.length_map] at hlen;obtain ⟨v,h',e,o,vl,c,hb⟩:=vAj (E:=E) fAl (h:=h) (s:=sl0) (vs:=[]) hs (by rw [hws,List.length_map];omega) (by rw [hws];intro w hw;obtain ⟨y,_,rfl⟩:=List.mem_map.1 hw;rfl) (OwC.nil h 0 1) (by show (0+s.len) * 100≤_;omega);have e:fB E 38 38 (.slice none 0 0 0) (.slice s.a s.len s.cap s.sz) h=some (.slice v.a v.len v.cap v.sz,h'):=e;rw [e];have c:Chg [] h h':=c;refine ⟨v,h',rfl,c,?_,o.cap,fun A hA=>?_,ws,o.sees,?_⟩
 ·rw [vl,List.length_map];show 0+s.len=_;omega
 ·rcases hb A hA with hh | hh
  ·simp [SL.blk] at hh
  ·exact hh
 ·rw [hws]
  by_cases hz:xs=[]
  ·subst hz;simp [De]
  ·have:v.sz=1:=by
    rcases o with ⟨_,h2,_⟩ | ⟨A,cs,st,_,h2,_⟩
    ·have hp:0<xs.length:=List.length_pos_iff.2 hz
     have:v.len=0+s.len:=vl
     omega
    ·exact h2
   rw [this];exact nA5 _ _ _
theorem qA8 {α:Type} {n k:Nat} {xs:List D} {L:Nat→SL→Int→Heap→Option (Out×α×Heap)} {fin:SL→α}
  (hstep:∀ (M i:Nat) (hi:i<xs.length) (out:SL) (h:Heap),OwV (Fr0 h0) h out n (xs.take i)→Chg [] h0 h→∃ out' h',L (M+1) out (i:Int) h=L M out' ((i+1:Nat):Int) h'∧OwV (Fr0 h0) h' out' n (xs.take (i+1))∧Chg [] h0 h')
  (hend:∀ M out h,L (M+1) out (xs.length:Int) h=some (.exit k,fin out,h)):∀ (M i:Nat) (out:SL) (h:Heap),i≤xs.length→xs.length-i<M→OwV (Fr0 h0) h out n (xs.take i)→Chg [] h0 h→∃ out' h',L M out (i:Int) h=some (.exit k,fin out',h')∧OwV (Fr0 h0) h' out' n xs∧Chg [] h0 h':=by
 intro M
 induction M with
 | zero=>intro i _ _ _ h;omega
 | succ M ih=>
  intro i out h hi hM ho hc
  by_cases q:i<xs.length
  ·obtain ⟨out',h',e,o',c'⟩:=hstep M i q out h ho hc
   rw [e];exact ih (i+1) out' h' q (by omega) o' c'
  ·have:i=xs.length:=by omega
   subst this;rw [hend];exact ⟨out,h,rfl,by rw [List.take_length] at ho;exact ho,hc⟩
theorem wAj {st e:TypeId} {n Wd:Nat} (ha:AppN E st e n Wd) (hn:0<n) {out:SL} {xs:List D} {i:Nat} (hi:i<xs.length) (ho:OwV (Fr0 h0) h out n (xs.take i)) (c0:Chg [] h0 h) {H:Heap} (cH:Chg [] h H) {cs:List AV} (hd:Dt H (Fr0 h) xs[i] cs) (hcs:cs.length=n) (hl:(i+1) * Wd≤1073741824) :
  ∃ s' h',(∀ {β:Type} (K:SL→Heap→Option β),tD (.val zQ2) (fB E st st (.slice out.a out.len out.cap out.sz) (.slice (some (H.next,0)) 1 1 n) (H.push (.row cs .own))) K=K s' h')∧OwV (Fr0 h0) h' s' n (xs.take (i+1))∧Chg [] h0 h':=by
 have hle:=c0.next;have hle2:=cH.next;have o1:=ho.chg cH (by simp);obtain ⟨s',h',e,o',c',_⟩:=aI ha hn o1 (d:=xs[i]) (cs:=cs) (Dt.weak (fun C hC hl=>⟨by show h0.next≤C;have:h.next≤C:=hC;omega,fun hb=>by have:=(ho.ge C hb).2;have:h.next≤C:=hC;omega⟩) hd) hcs (fun A hA=>by show h0.next≤A;omega) (by rw [List.length_take,Nat.min_eq_left (by omega)];exact hl);refine ⟨s',h',fun K=>by rw [e];rfl,by rw [List.take_succ_eq_append_getElem hi];exact o',(c0.trans cH).step c' fun A hA hlt=>?_⟩;have hb:out.blk=some A:=by simpa using hA
 have:=(ho.ge A hb).1
 exact absurd this (by show ¬ h0.next≤A;omega)
end
theorem pBg:AppN E 39 41 4 1000:=AppN.of (by kernel_rfl)
section
variable {N:Nat}
theorem mAg (hN:3001≤N):∀ (n M:Nat) (d:D) (r:TyV) (h:Heap) (V:Nat→Prop),n≤M→uA4 n d→Dt h V d (tyc r)→∃ r' h',f117 N M r h=some (r',h')∧Chg [] h h'∧Dt h' (Fr0 h) d (tyc r'):=by
 intro n
 induction n with
 | zero=>intro M d r h V _ t;cases t
 | succ n ih=>
  intro M d r h V hM t x;obtain ⟨M,rfl⟩:∃ m,M=m+1:=⟨M-1,by omega⟩;obtain ⟨k,y,lv,el,rfl,hlv,hel,tel⟩:=t;obtain ⟨l1,g1,hc1,y1,z1⟩:=lA3.1 x;have e1:=(uAm 1).inj hc1;subst e1;rw [mAs];unfold lAs;dsimp only;have o1:=vA h (tyc (k,y,l1,g1,()));have c1:=qA h (.row (tyc (k,y,l1,g1,())) .own);have n1:(h.push (.row (tyc (k,y,l1,g1,())) .own)).next=h.next+1:=rfl;have e1:h.push (.row [(.int .i64 k),(.str y),(.slice l1.a l1.len l1.cap l1.sz),(.slice g1.a g1.len g1.cap g1.sz)] .own)=h.push (.row (tyc (k,y,l1,g1,())) .own):=rfl;rw [e1];generalize h.push (.row (tyc (k,y,l1,g1,())) .own)=h1 at *;have o2:=vA h1 zt;have c2:=qA h1 (.row zt .own);have n2:(h1.push (.row zt .own)).next=h1.next+1:=rfl;have e2:h1.push (.row [(.int .i64 0),(.str []),(.slice none 0 0 0),(.slice none 0 0 0)] .own)=h1.push (.row zt .own):=rfl;rw [e2];have o1:=o1.chg c2 (by simp);have c02:=c1.trans c2;generalize h1.push (.row zt .own)=h2 at *;have k2:h2.cell (h.next,2)=some (SL.av l1):=o1.cell 2;simp only [Nat.zero_add,k2,SL.av,fA,uA];obtain ⟨v,h5,e5,c5,sv⟩:=wA2 (N:=N) (y1.chg c02 (by simp)) (by omega);rw [e5,aA];have o1:=o1.chg c5 (by simp);have o2:=o2.chg c5 (by simp);have n5:=c5.next;have hst:h5.store (h.next,2) [(.slice v.a v.len v.cap v.sz)]=some (h5.put h.next (.row (tyc (k,y,v,g1,())) .own)):=yR o1 (show 2+1≤4 by decide) rfl;rw [hst,dA];have c6:=o1.put (tyc (k,y,v,g1,()));have c06:Chg [] h (h5.put h.next (.row (tyc (k,y,v,g1,())) .own)):=(c02.trans c5).put (.inr (Nat.le_refl _)) _;have o2:=o2.chg c6 (by simp;omega);have o1:=yA o1 (tyc (k,y,v,g1,()));have sv:=(sv.weak (W:=fun C=>h.next+1<C) (fun C hC _=>by have:h2.next≤C:=hC;omega)).chg c6 (by intro A hA;simp;omega);have n6:(h5.put h.next (.row (tyc (k,y,v,g1,())) .own)).next=h5.next:=rfl;generalize h5.put h.next (.row (tyc (k,y,v,g1,())) .own)=h6 at *;have k6:h6.cell (h.next,3)=some (SL.av g1):=o1.cell 3;simp only [k6,SL.av,fA,uA];have z6:=z1.chg c06 (by simp);obtain ⟨out,h22,e22,w22,c22⟩:=qA8 (h0:=h6) (n:=4) (k:=0) (xs:=el) (L:=fun Q out i H=>bA2 N (f117 N M) Q (some (h.next,0)) (some (h1.next,0)) out g1 (el.length:Int) i H) (fin:=fun out=>(some (h.next,0),some (h1.next,0),out,()))
   (fun Q i hi out H ho hc=>by
    have hlt:qB (i:Int) (el.length:Int)=true:=by rw [pE];exact decide_eq_true hi
    rw [dX];unfold eU;rw [hlt];dsimp only;rw [cond_true];have zH:=z6.chg hc (by simp);obtain ⟨q,g,d⟩:=(uAm n).elt zH hi (tel _ (List.getElem_mem hi));rw [zH.ix hi 4,g,iAl];obtain ⟨Ha,pa,ca,oa⟩:=(uAm n).park (z:=zt) rfl H q;have pa':∀ {β:Type} (K:Heap→Option β),rA ((H.push (.row [(.int .i64 0),(.str []),(.slice none 0 0 0),(.slice none 0 0 0)] .own)).store (H.next,0) [(.int .i64 q.1),(.str q.2.1),(.slice q.2.2.1.a q.2.2.1.len q.2.2.1.cap q.2.2.1.sz),(.slice q.2.2.2.1.a q.2.2.2.1.len q.2.2.2.1.cap q.2.2.2.1.sz)]) K=K Ha:=pa;rw [pa',vW oa];obtain ⟨q',Hb,eb,cb,db⟩:=ih M _ q Ha V (by omega) (tel _ (List.getElem_mem hi)) (Dt.chg ca (by simp) d);have eb':f117 N M (q.1,q.2.1,q.2.2.1,q.2.2.2.1,()) Ha=some (q',Hb):=eb;rw [eb',aA];obtain ⟨s',h',ea,oa',ca'⟩:=wAj pBg (by decide) hi ho hc (ca.trans cb) (cs:=tyc q') (Dt.weak (fun C hC _=>by have:Ha.next≤C:=hC;have:=ca.next;show H.next≤C;omega) db) rfl (by omega);have ea':∀ {β:Type} (K:SL→Heap→Option β),tD (.val zQ2) (fB E 39 39 (.slice out.a out.len out.cap out.sz) (.slice (some (Hb.next,0)) 1 1 4) (Hb.push (.row [(.int .i64 q'.1),(.str q'.2.1),(.slice q'.2.2.1.a q'.2.2.1.len q'.2.2.1.cap q'.2.2.1.sz),(.slice q'.2.2.2.1.a q'.2.2.2.1.len q'.2.2.2.1.cap q'.2.2.2.1.sz)] .own))) K=K s' h':=ea;rw [ea',iB (by omega)];exact ⟨s',h',rfl,oa',ca'⟩)
   (fun Q out H=>by
    rw [dX];unfold eU;rw [pE,decide_eq_false (by omega)];rfl) N 0 sl0 h6 (Nat.zero_le _) (by omega) (OwV.nil _ _ _ _) (Chg.refl _ _)
  rw [show ((0:Nat):Int)=0 from rfl] at e22;show ∃ r' h',(pD (bA2 N (f117 N M) N (some (h.next,0)) (some (h1.next,0)) sl0 g1 (Int.ofNat g1.len) 0 h6) _)=_∧_;rw [show Int.ofNat g1.len=(el.length:Int) by rw [z6.len];rfl,e22,pB];simp only [dA,Nat.zero_add];have o1:=o1.chg c22 (by simp);have o2:=o2.chg c22 (by simp);have n22:=c22.next;have hst:h22.store (h.next,3) [(.slice out.a out.len out.cap out.sz)]=some (h22.put h.next (.row (tyc (k,y,v,out,())) .own)):=yR o1 (show 3+1≤4 by decide) rfl;rw [hst,dA];have c24:=o1.put (tyc (k,y,v,out,()));have c024:Chg [] h (h22.put h.next (.row (tyc (k,y,v,out,())) .own)):=(c06.trans c22).put (.inr (Nat.le_refl _)) _;have o2:=o2.chg c24 (by simp;omega);have o1:=yA o1 (tyc (k,y,v,out,()));have sv:=(sv.chg c22 (by simp)).chg c24 (by intro A hA;simp;omega);have so:=(w22.sl.weak (W:=fun C=>h.next+1<C) (fun C hC _=>by have:h6.next≤C:=hC;omega)).chg c24 (by intro A hA;simp;omega);generalize h22.put h.next (.row (tyc (k,y,v,out,())) .own)=h24 at *;rw [vW o1];have hst2:h24.store (h1.next,0) [(.int .i64 k),(.str y),(.slice v.a v.len v.cap v.sz),(.slice out.a out.len out.cap out.sz)]=some (h24.put h1.next (.row (tyc (k,y,v,out,())) .own)):=o2.store rfl;rw [hst2,dA,vW (yA o2 (tyc (k,y,v,out,())))];have c27:=o2.put (tyc (k,y,v,out,()));refine ⟨_,_,rfl,c024.put (.inr (by omega)) _,lA3.2 ⟨v,out,rfl,?_,?_⟩⟩
  ·exact (sv.chg c27 (by intro A hA;simp;omega)).weak fun C hC _=>by show h.next≤C;omega
  ·exact (so.chg c27 (by intro A hA;simp;omega)).weak fun C hC _=>by show h.next≤C;omega
end
end Qp
namespace Qp
abbrev Hi (h:Heap) (C:Nat):Prop:=h.next+1<C
structure WR (h0 H:Heap) (cs1 cs2:List AV):Prop where
 o1:H.own h0.next cs1
 o2:H.own (h0.next+1) cs2
 c:Chg [] h0 H
 nx:h0.next+2≤H.next
section
variable {h0 H H':Heap} {cs1 cs2:List AV}
theorem WR.start (h:Heap) (cs1 cs2:List AV):WR h ((h.push (.row cs1 .own)).push (.row cs2 .own)) cs1 cs2:=
 ⟨(vA h cs1).chg (qA _ _) (by simp),vA (h.push (.row cs1 .own)) cs2,(qA h _).trans (qA _ _),Nat.le_refl _⟩
theorem fAt (h:Heap) (cs1 cs2:List AV):∃ h2,(h.push (.row cs1 .own)).push (.row cs2 .own)=h2∧(h.push (.row cs1 .own)).next=h.next+1∧WR h h2 cs1 cs2:=⟨_,rfl,rfl,WR.start h cs1 cs2⟩
theorem WR.call (w:WR h0 H cs1 cs2) (c:Chg [] H H'):WR h0 H' cs1 cs2:=⟨w.o1.chg c (by simp),w.o2.chg c (by simp),w.c.trans c,Nat.le_trans w.nx c.next⟩
theorem WR.set (w:WR h0 H cs1 cs2) {j:Nat} {vs ds:List AV} (hj:j+vs.length≤cs1.length) (hd:cs1.take j++vs++cs1.drop (j+vs.length)=ds):∃ H',(∀ {β:Type} (K:Heap→Option β),rA (H.store (h0.next,j) vs) K=K H')∧WR h0 H' ds cs2∧Chg [h0.next] H H':=by
 have cp:=w.o1.put ds;exact ⟨_,fun K=>by rw [yR w.o1 hj hd,dA],⟨yA w.o1 ds,w.o2.chg cp (by simp),w.c.put (.inr (Nat.le_refl _)) _,w.nx⟩,cp⟩
theorem WR.hi (w:WR h0 H cs1 cs2) {d:D} {cs:List AV} (x:Dt H' (Fr0 H) d cs):Dt H' (Hi h0) d cs:=Dt.weak (fun C hC _=>by have:H.next≤C:=hC;have:=w.nx;show h0.next+1<C;omega) x
theorem WR.hiS (w:WR h0 H cs1 cs2) {s:SL} {xs:List D} (x:Sl H' (Fr0 H) s xs):Sl H' (Hi h0) s xs:=x.weak (fun C hC _=>by have:H.next≤C:=hC;have:=w.nx;show h0.next+1<C;omega)
theorem qI {d:D} {cs:List AV} (c:Chg [h0.next] H H') (x:Dt H (Hi h0) d cs):Dt H' (Hi h0) d cs:=Dt.chg c (by intro A hA;simp;have:h0.next+1<A:=hA;omega) x
theorem aS {s:SL} {xs:List D} (c:Chg [h0.next] H H') (x:Sl H (Hi h0) s xs):Sl H' (Hi h0) s xs:=x.chg c (by intro A hA;simp;have:h0.next+1<A:=hA;omega)
theorem yAj {d:D} {cs:List AV} (c:Chg [h0.next+1] H H') (x:Dt H (Hi h0) d cs):Dt H' (Fr0 h0) d cs:=Dt.weak (fun C hC _=>by show h0.next≤C;have:h0.next+1<C:=hC;omega) (Dt.chg c (by intro A hA;simp;have:h0.next+1<A:=hA;omega) x)
theorem yA2 {s:SL} {xs:List D} (c:Chg [h0.next+1] H H') (x:Sl H (Hi h0) s xs):Sl H' (Fr0 h0) s xs:=(x.chg c (by intro A hA;simp;have:h0.next+1<A:=hA;omega)).weak (fun C hC _=>by show h0.next≤C;have:h0.next+1<C:=hC;omega)
theorem WR.fin {tys:List CTy} {n:Nat} {c:nN tys→List AV} {P:D→Prop} (R:Rec tys n c P) {r r0:nN tys} (w:WR h0 H (c r) (c r0)):∃ H',(∀ {β:Type} (K:nN tys→Heap→Option β),(iA (.val (.agg tys)) (H.cells (h0.next,0) n) fun x=>rA (H.store (h0.next+1,0) (c x)) fun h'=>iA (.val (.agg tys)) (h'.cells (h0.next+1,0) n) fun y=>K y h')=K r H')∧Chg [h0.next+1] H H'∧Chg [] h0 H':=by
 have hst:H.store (h0.next+1,0) (c r)=some (H.put (h0.next+1) (.row (c r) .own)):=w.o2.store (by rw [R.len,R.len]);refine ⟨_,fun K=>?_,w.o2.put (c r),w.c.put (.inr (Nat.le_succ _)) _⟩;rw [R.cells w.o1,hst,dA,R.cells (yA w.o2 (c r))]
end
section
variable {N:Nat} {h:Heap} {V:Nat→Prop}
theorem nAg {d:D} (t:isLf d) {p:LfV} (x:Dt h V d (lfc p)):∃ p' h',f167 N p h=some (p',h')∧Chg [] h h'∧Dt h' (Fr0 h) d (lfc p'):=by
 obtain ⟨nm,xs,rfl,hl⟩:=t;obtain ⟨s,hc,y⟩:=vA2 x;have e:=mA3.inj hc;subst e;unfold f167;obtain ⟨h2,e2,n2,w⟩:=fAt h [(.str nm),(.slice s.a s.len s.cap s.sz)] [(.str []),(.slice none 0 0 0)];have w:WR h h2 (lfc (nm,s,())) (lfc lf0):=w;dsimp only;rw [e2,n2];have k2:h2.cell (h.next,1)=some (SL.av s):=w.o1.cell 1;simp only [Nat.zero_add,k2,SL.av,fA,uA];obtain ⟨v,h5,e5,c5,sv⟩:=wA2 (N:=N) (y.chg w.c (by simp)) (by omega);show ∃ p' h',(lA (f115 N s h2) _)=_∧_;rw [e5,aA];have sv:=w.hiS sv;obtain ⟨h6,p6,w6,c6⟩:=(w.call c5).set (j:=1) (vs:=[(.slice v.a v.len v.cap v.sz)]) (show 1+1≤2 by decide) (ds:=lfc (nm,v,())) rfl;rw [p6];obtain ⟨h8,p8,c8,c08⟩:=WR.fin mA3 (r0:=lf0) w6;exact ⟨(nm,v,()),h8,p8 (fun y h'=>some (y,h')),c08,vV (yA2 c8 (aS c6 sv))⟩
theorem rA8 {d:D} (t:isOp d) {r:OpV} (x:Dt h V d (opc r)):∃ r' h',f169 N r h=some (r',h')∧Chg [] h h'∧Dt h' (Fr0 h) d (opc r'):=by
 obtain ⟨k,n,pl,rfl,ht⟩:=t;obtain ⟨p,hc,y⟩:=tAj ht x;have e:=iAg.inj hc;subst e;unfold f169;obtain ⟨h2,e2,n2,w⟩:=fAt h [(.int .i64 k),(.int .i64 n),(.str p.1),(.slice p.2.1.a p.2.1.len p.2.1.cap p.2.1.sz)] [(.int .i64 0),(.int .i64 0),(.str []),(.slice none 0 0 0)];have w:WR h h2 (opc (k,n,p.1,p.2.1,())) (opc gE):=w;dsimp only;rw [e2,n2];have k2:h2.cells (h.next,2) 2=some (.agg (lfc p)):=w.o1.cells (j:=2) (m:=2) (show 2+2≤4 by decide);simp only [Nat.zero_add];rw [k2,cAn];obtain ⟨p',h5,e5,c5,dp⟩:=nAg (N:=N) ht (Dt.chg w.c (by simp) y);have e5':f167 N (p.1,p.2.1,()) h2=some (p',h5):=e5;rw [e5',aA];have dp:=w.hi dp;obtain ⟨h6,p6,w6,c6⟩:=(w.call c5).set (j:=2) (vs:=[(.str p'.1),(.slice p'.2.1.a p'.2.1.len p'.2.1.cap p'.2.1.sz)]) (show 2+2≤4 by decide) (ds:=opc (k,n,p'.1,p'.2.1,())) rfl;rw [p6];obtain ⟨h8,p8,c8,c08⟩:=WR.fin iAg (r0:=gE) w6;exact ⟨_,h8,p8 (fun y h'=>some (y,h')),c08,uAl (yAj c8 (qI c6 dp))⟩
theorem gAt (hN:3001≤N) {fs:List D} (t:∀ f∈fs,isFd f) (hl:fs.length≤3000) {s:SL} (x:Sl h V s fs):∃ v h',f116 N s h=some (v,h')∧Chg [] h h'∧Sl h' (Fr0 h) v fs:=by
 unfold f116;obtain ⟨out,h17,e17,w17,c17⟩:=qA8 (h0:=h) (n:=6) (k:=0) (xs:=fs) (L:=fun Q out i H=>vA7 N Q out s (fs.length:Int) i H) (fin:=fun out=>(out,()))
  (fun Q i hi out H ho hc=>by
   have hlt:qB (i:Int) (fs.length:Int)=true:=by rw [pE];exact decide_eq_true hi
   rw [eX];unfold fU;rw [hlt];dsimp only;rw [cond_true];have zH:=x.chg hc (by simp);have tm:=t _ (List.getElem_mem hi);obtain ⟨q,g,d⟩:=vAm.elt zH hi tm;rw [zH.ix hi 6,g,yBf];obtain ⟨m,nm,ty,hf,ht⟩:=tm;rw [hf] at d;obtain ⟨r,hc1,dr⟩:=rAj ht d;have e:=vAm.inj hc1;subst e;obtain ⟨Ha,pa,ca,oa⟩:=vAm.park (z:=fdc fd0) rfl H (qR m nm r);have pa':∀ {β:Type} (K:Heap→Option β),rA ((H.push (.row [(.bool false),(.str []),(.int .i64 0),(.str []),(.slice none 0 0 0),(.slice none 0 0 0)] .own)).store (H.next,0) [(.bool m),(.str nm),(.int .i64 r.1),(.str r.2.1),(.slice r.2.2.1.a r.2.2.1.len r.2.2.1.cap r.2.2.1.sz),(.slice r.2.2.2.1.a r.2.2.2.1.len r.2.2.2.1.cap r.2.2.2.1.sz)]) K=K Ha:=pa;dsimp only [qR];rw [pa'];have k2:Ha.cells (H.next,0+2) 4=some (.agg (tyc r)):=oa.cells (j:=2) (m:=4) (show 2+4≤6 by decide);rw [k2,iAl];obtain ⟨r',Hb,eb,cb,db⟩:=mAg hN 65 N ty r Ha V (by omega) ht (Dt.chg ca (by simp) dr);have eb':f117 N N (r.1,r.2.1,r.2.2.1,r.2.2.2.1,()) Ha=some (r',Hb):=eb;rw [eb',aA];have ob:=oa.chg cb (by simp);have hst:Hb.store (H.next,0+2) [(.int .i64 r'.1),(.str r'.2.1),(.slice r'.2.2.1.a r'.2.2.1.len r'.2.2.1.cap r'.2.2.1.sz),(.slice r'.2.2.2.1.a r'.2.2.2.1.len r'.2.2.2.1.cap r'.2.2.2.1.sz)]=some (Hb.put H.next (.row (fdc (qR m nm r')) .own)):=yR ob (show 2+4≤6 by decide) rfl;rw [hst,dA];have cp:=ob.put (fdc (qR m nm r'));have db:=Dt.chg cp (by intro A hA;simp;have:Ha.next≤A:=hA;have:=oa.2;omega) db;have cc:Chg [] H (Hb.put H.next (.row (fdc (qR m nm r')) .own)):=(ca.trans cb).put (.inr (Nat.le_refl _)) _;have oc:=yA ob (fdc (qR m nm r'));generalize Hb.put H.next (.row (fdc (qR m nm r')) .own)=Hc at *;rw [vAi oc];obtain ⟨s',h',ea,oa',ca'⟩:=wAj wB2 (by decide) hi ho hc cc (cs:=fdc (qR m nm r')) (by rw [hf];exact vB2 (Dt.weak (fun C hC _=>by have:Ha.next≤C:=hC;have:=ca.next;show H.next≤C;omega) db)) rfl (by omega);have ea':∀ {β:Type} (K:SL→Heap→Option β),tD (.val zQ2) (fB E 37 37 (.slice out.a out.len out.cap out.sz) (.slice (some (Hc.next,0)) 1 1 6) (Hc.push (.row [(.bool m),(.str nm),(.int .i64 r'.1),(.str r'.2.1),(.slice r'.2.2.1.a r'.2.2.1.len r'.2.2.1.cap r'.2.2.1.sz),(.slice r'.2.2.2.1.a r'.2.2.2.1.len r'.2.2.2.1.cap r'.2.2.2.1.sz)] .own))) K=K s' h':=ea;dsimp only [qR];rw [ea',iB (by omega)];exact ⟨s',h',rfl,oa',ca'⟩)
  (fun Q out H=>by
   rw [eX];unfold fU;rw [pE,decide_eq_false (by omega)];rfl) N 0 sl0 h (Nat.zero_le _) (by omega) (OwV.nil _ _ _ _) (Chg.refl _ _)
 rw [show ((0:Nat):Int)=0 from rfl] at e17;rw [show Int.ofNat s.len=(fs.length:Int) by rw [x.len];rfl,e17,pB];exact ⟨_,_,rfl,c17,w17.sl⟩
theorem vBb (hN:3001≤N) {d:D} (t:isSt d) {r:StV} (x:Dt h V d (stc r)):∃ r' h',f76 N r h=some (r',h')∧Chg [] h h'∧Dt h' (Fr0 h) d (stc r'):=by
 obtain ⟨pub,nm,lv,fs,a,rfl,hl,hf,tf⟩:=t;obtain ⟨l1,g1,hc,y,z⟩:=mA5 x;have e:=nA8.inj hc;subst e;unfold f76;obtain ⟨h2,e2,n2,w⟩:=fAt h [(.bool pub),(.str nm),(.slice l1.a l1.len l1.cap l1.sz),(.slice g1.a g1.len g1.cap g1.sz),(.int .i64 a)] [(.bool false),(.str []),(.slice none 0 0 0),(.slice none 0 0 0),(.int .i64 0)];have w:WR h h2 (stc (pub,nm,l1,g1,a,())) (stc st0):=w;dsimp only;rw [e2,n2];have k2:h2.cell (h.next,2)=some (SL.av l1):=w.o1.cell 2;simp only [Nat.zero_add,k2,SL.av,fA,uA];obtain ⟨v,h5,e5,c5,sv⟩:=wA2 (N:=N) (y.chg w.c (by simp)) (by omega);show ∃ p' h',(lA (f115 N l1 h2) _)=_∧_;rw [e5,aA];have sv:=w.hiS sv;obtain ⟨h6,p6,w6,c6⟩:=(w.call c5).set (j:=2) (vs:=[(.slice v.a v.len v.cap v.sz)]) (show 2+1≤5 by decide) (ds:=stc (pub,nm,v,g1,a,())) rfl;rw [p6];have sv:=aS c6 sv;have k6:h6.cell (h.next,3)=some (SL.av g1):=w6.o1.cell 3;simp only [k6,SL.av,fA,uA];obtain ⟨u,h9,e9,c9,su⟩:=gAt hN tf (by omega) (z.chg w6.c (by simp));show ∃ p' h',(lA (f116 N g1 h6) _)=_∧_;rw [e9,aA];have su:=w6.hiS su;obtain ⟨h10,p10,w10,c10⟩:=(w6.call c9).set (j:=3) (vs:=[(.slice u.a u.len u.cap u.sz)]) (show 3+1≤5 by decide) (ds:=stc (pub,nm,v,u,a,())) rfl;rw [p10];obtain ⟨h12,p12,c12,c012⟩:=WR.fin nA8 (r0:=st0) w10;exact ⟨_,h12,p12 (fun y h'=>some (y,h')),c012,qA7 (yA2 c12 (aS c10 (sv.chg c9 (by simp)))) (yA2 c12 (aS c10 su))⟩
end
end Qp
namespace Qp
abbrev MP:=Heap→(Nat→Prop)→SL→List D→Prop
structure MeP (M:MP) (h:Heap) (S:Nat→Prop) (r:SmR) (ty pl va co:D) (th el:List D) (S0 S1 S2:Nat→Prop):Prop where
 ty:Dt h S0 ty (tyc r.ty)
 pl:Dt h S0 pl (lfc r.pl)
 va:Dt h S0 va (vac r.va)
 co:Dt h S0 co (opc r.co)
 th:M h S1 r.th th
 el:M h S2 r.el el
 i0:∀ C,S0 C→S C
 i1:∀ C,S1 C→S C
 i2:∀ C,S2 C→S C
 d01:∀ C,S0 C→¬ S1 C
 d02:∀ C,S0 C→¬ S2 C
 d12:∀ C,S1 C→¬ S2 C
def Me (M:MP) (h:Heap) (S:Nat→Prop) (c:List AV) (x:D):Prop:=
 ∃ (r:SmR) (ty pl va co:D) (th el:List D) (S0 S1 S2:Nat→Prop),x=smT r.k r.at_ r.m r.nm ty r.has pl va co th el∧c=smc r∧MeP M h S r ty pl va co th el S0 S1 S2
def Ml (M:MP) (h:Heap):(Nat→Prop)→List AV→List D→Prop
 | _,vs,[]=>vs=[]
 | S,vs,x::r=>∃ c rest S1 S2,vs=c++rest∧Me M h S1 c x∧Ml M h S2 rest r∧(∀ C,S1 C→S C)∧(∀ C,S2 C→S C)∧∀ C,S1 C→¬ S2 C
def Mt:Nat→MP
 | 0=>fun _ _ s xs=>xs=[]∧s.a=none∧s.len=0∧s.cap=0
 | n+1=>fun h S s xs=>∃ vs,OwC h s 32 vs∧(∀ A,s.blk=some A→S A)∧Ml (Mt n) h (fun C=>S C∧s.blk≠some C) vs xs
section
variable {M:MP} {h h':Heap} {S W:Nat→Prop} {c vs:List AV} {x:D} {xs:List D} {L:List Nat}
def qB4 (M:MP):Prop:=∀ (h h':Heap) (S:Nat→Prop) (s:SL) (xs:List D) (L:List Nat),Chg L h h'→(∀ A,S A→A ∉ L)→M h S s xs→M h' S s xs
def fAx (M:MP):Prop:=∀ (h:Heap) (S W:Nat→Prop) (s:SL) (xs:List D),(∀ C,S C→C<h.next→W C)→M h S s xs→M h W s xs
theorem Me.chg (k:qB4 M) (cc:Chg L h h') (hd:∀ A,S A→A ∉ L) (e:Me M h S c x):Me M h' S c x:=by
 obtain ⟨r,ty,pl,va,co,th,el,S0,S1,S2,h1,h2,p⟩:=e;have q0:∀ A,S0 A→A ∉ L:=fun A hA=>hd A (p.i0 A hA);exact ⟨r,ty,pl,va,co,th,el,S0,S1,S2,h1,h2,⟨Dt.chg cc q0 p.ty,Dt.chg cc q0 p.pl,Dt.chg cc q0 p.va,Dt.chg cc q0 p.co,k _ _ _ _ _ _ cc (fun A hA=>hd A (p.i1 A hA)) p.th,k _ _ _ _ _ _ cc (fun A hA=>hd A (p.i2 A hA)) p.el,p.i0,p.i1,p.i2,p.d01,p.d02,p.d12⟩⟩
theorem Me.weak (k:fAx M) (hW:∀ C,S C→C<h.next→W C) (e:Me M h S c x):Me M h W c x:=by
 obtain ⟨r,ty,pl,va,co,th,el,S0,S1,S2,h1,h2,p⟩:=e;have q0:∀ A,S0 A→A<h.next→(S0 A∧A<h.next):=fun A hA hl=>⟨hA,hl⟩;exact ⟨r,ty,pl,va,co,th,el,fun C=>S0 C∧C<h.next,fun C=>S1 C∧C<h.next,fun C=>S2 C∧C<h.next,h1,h2,⟨Dt.weak q0 p.ty,Dt.weak q0 p.pl,Dt.weak q0 p.va,Dt.weak q0 p.co,k _ _ _ _ _ (fun C hC hl=>⟨hC,hl⟩) p.th,k _ _ _ _ _ (fun C hC hl=>⟨hC,hl⟩) p.el,
  fun C hC=>hW C (p.i0 C hC.1) hC.2,fun C hC=>hW C (p.i1 C hC.1) hC.2,fun C hC=>hW C (p.i2 C hC.1) hC.2,fun C a b=>p.d01 C a.1 b.1,fun C a b=>p.d02 C a.1 b.1,fun C a b=>p.d12 C a.1 b.1⟩⟩
theorem Ml.chg (k:qB4 M) (cc:Chg L h h'):∀ {xs:List D} {vs:List AV} {S:Nat→Prop},(∀ A,S A→A ∉ L)→Ml M h S vs xs→Ml M h' S vs xs
 | [],vs,S,hd,e=>e
 | x::r,vs,S,hd,⟨c,rest,S1,S2,h1,h2,h3,h4,h5,h6⟩=>⟨c,rest,S1,S2,h1,h2.chg k cc (fun A hA=>hd A (h4 A hA)),Ml.chg k cc (fun A hA=>hd A (h5 A hA)) h3,h4,h5,h6⟩
theorem Ml.weak (k:fAx M):∀ {xs:List D} {vs:List AV} {S W:Nat→Prop},(∀ C,S C→C<h.next→W C)→Ml M h S vs xs→Ml M h W vs xs
 | [],vs,S,W,hd,e=>e
 | x::r,vs,S,W,hW,⟨c,rest,S1,S2,h1,h2,h3,h4,h5,h6⟩=>⟨c,rest,fun C=>S1 C∧C<h.next,fun C=>S2 C∧C<h.next,h1,h2.weak k (fun C hC hl=>⟨hC,hl⟩),Ml.weak k (fun C hC hl=>⟨hC,hl⟩) h3,fun C hC=>hW C (h4 C hC.1) hC.2,fun C hC=>hW C (h5 C hC.1) hC.2,fun C a b=>h6 C a.1 b.1⟩
theorem Ml.len:∀ {xs:List D} {vs:List AV} {S:Nat→Prop},Ml M h S vs xs→vs.length=xs.length * 32
 | [],vs,S,e=>by rw [show vs=[] from e];rfl
 | x::r,vs,S,⟨c,rest,S1,S2,h1,h2,h3,_⟩=>by
  obtain ⟨r',_,_,_,_,_,_,_,_,_,_,hc,_⟩:=h2
  have:=Ml.len h3
  rw [h1,List.length_append,this,hc,List.length_cons];show 32+_=_;omega
theorem Ml.snoc (k:fAx M) {T:Nat→Prop}:∀ {xs:List D} {vs:List AV} {S:Nat→Prop},Ml M h S vs xs→Me M h T c x→(∀ C,S C→¬ T C)→Ml M h (fun C=>S C∨T C) (vs++c) (xs++[x])
 | [],vs,S,e,m,hd=>by
  rw [show vs=[] from e];exact ⟨c,[],T,fun _=>False,by simp,m,rfl,fun C hC=>.inr hC,fun C hC=>hC.elim,fun C _ hf=>hf⟩
 | y::r,vs,S,⟨c1,rest,S1,S2,h1,h2,h3,h4,h5,h6⟩,m,hd=>by
  have ih:=Ml.snoc k h3 m (fun C hC=>hd C (h5 C hC));refine ⟨c1,rest++c,S1,fun C=>S2 C∨T C,by rw [h1,List.append_assoc],h2,ih,fun C hC=>.inl (h4 C hC),fun C hC=>hC.elim (fun q=>.inl (h5 C q)) .inr,fun C a b=>b.elim (h6 C a) (hd C (h4 C a))⟩
end
theorem Mt.chg:∀ n,qB4 (Mt n)
 | 0=>fun _ _ _ _ _ _ cc hd e=>e
 | n+1=>by
  intro h h' S s xs L cc hd e;obtain ⟨vs,o,hb,m⟩:=e;exact ⟨vs,o.chg cc (fun A hA=>hd A (hb A hA)),hb,m.chg (Mt.chg n) cc (fun A hA=>hd A hA.1)⟩
theorem Mt.weak:∀ n,fAx (Mt n)
 | 0=>fun _ _ _ _ _ hW e=>e
 | n+1=>by
  intro h S W s xs hW e;obtain ⟨vs,o,hb,m⟩:=e;exact ⟨vs,o,fun A hA=>hW A (hb A hA) (o.lt A hA),m.weak (Mt.weak n) (fun C hC hl=>⟨hW C hC.1 hl,hC.2⟩)⟩
theorem kAz {h:Heap} {V:Nat→Prop} {r:SmR} {ty pl va co:D} {th el:List D} (x1:Dt h V ty (tyc r.ty)) (x2:Dt h V pl (lfc r.pl)) (x3:Dt h V va (vac r.va)) (x4:Dt h V co (opc r.co)) (x5:Sl h V r.th th) (x6:Sl h V r.el el):Dt h V (smT r.k r.at_ r.m r.nm ty r.has pl va co th el) (smc r):=
 pAu ⟨[.int .i64 r.k],_,rfl,wAi _ _ _,[.int .i64 r.at_],_,rfl,wAi _ _ _,[.bool r.m],_,rfl,fAz _ _ _,[.str r.nm],_,rfl,qJ _ _ _,tyc r.ty,_,rfl,x1,[.bool r.has],_,rfl,fAz _ _ _,lfc r.pl,_,rfl,x2,vac r.va,_,rfl,x3,opc r.co,_,rfl,x4,[SL.av r.th],_,rfl,qL.2 x5,[SL.av r.el],[],rfl,qL.2 x6,rfl⟩
theorem Mt.sl:∀ (n:Nat) {h:Heap} {S:Nat→Prop} {s:SL} {xs:List D},Mt n h S s xs→Sl h S s xs
 | 0,h,S,s,xs,⟨h1,h2,h3,h4⟩=>by
  subst h1;exact ⟨h3,by omega,fun A hA=>by simp [SL.blk,h2] at hA,[],⟨by simp [h3],fun _=>h3,fun A off ha=>by rw [h2] at ha;cases ha⟩,by simp [De]⟩
 | n+1,h,S,s,xs,⟨vs,o,hb,m⟩=>by
  have hl:=m.len;have ho:=o.len;have hz:xs≠[]→s.sz=32:=fun hne=>by
   rcases o with ⟨_,h2,_,rfl⟩ | ⟨A,cs,st,_,h2,_⟩
   ·have hp:0<xs.length:=List.length_pos_iff.2 hne
    simp at hl;omega
   ·exact h2
  have de:∀ {ys:List D} {ws:List AV} {T:Nat→Prop},(∀ C,T C→S C)→Ml (Mt n) h T ws ys→De h S 32 ys ws:=by
   intro ys
   induction ys with
   | nil=>intro ws T _ e;rw [show ws=[] from e];simp [De]
   | cons y r ih=>
    intro ws T hT ⟨c,rest,S1,S2,h1,h2,h3,h4,h5,h6⟩;obtain ⟨q,ty,pl,va,co,th,el,T0,T1,T2,e1,e2,p⟩:=h2;have i0:∀ C,T0 C→C<h.next→S C:=fun C hC _=>hT C (h4 C (p.i0 C hC));simp only [De];refine ⟨c,rest,h1,by rw [e2];rfl,?_,ih (fun C hC=>hT C (h5 C hC)) h3⟩;rw [e1,e2];exact kAz (Dt.weak i0 p.ty) (Dt.weak i0 p.pl) (Dt.weak i0 p.va) (Dt.weak i0 p.co) ((Mt.sl n p.th).weak fun C hC _=>hT C (h4 C (p.i1 C hC))) ((Mt.sl n p.el).weak fun C hC _=>hT C (h4 C (p.i2 C hC)))
  have d:=de (fun C hC=>hC.1) m;refine ⟨by omega,o.cap,hb,vs,o.sees,?_⟩
  by_cases hne:xs=[]
  ·subst hne
   rw [show vs=[] from m];simp [De]
  ·rw [hz hne];exact d
def nK:Nat→D→D
 | n+1,.t [k,_,m,nm,ty,hs,pl,va,co,.l th,.l el]=>.t [k,.i 0,m,nm,ty,hs,pl,va,co,.l (th.map (nK n)),.l (el.map (nK n))]
 | _,d=>d
theorem mU (n:Nat) (k a:Int) (m:Bool) (nm:Bs) (ty:D) (hs:Bool) (pl va co:D) (th el:List D):nK (n+1) (smT k a m nm ty hs pl va co th el)=smT k 0 m nm ty hs pl va co (th.map (nK n)) (el.map (nK n)):=rfl
theorem OwC.set {h:Heap} {s:SL} {n:Nat} {vs:List AV} (o:OwC h s n vs) {A off:Nat} (ha:s.a=some (A,off)) {j:Nat} (hj:j<vs.length) (v:AV):∃ h',h.store (A,off+j) [v]=some h'∧OwC h' s n (vs.set j v)∧Chg [A] h h'∧h'.next=h.next:=by
 rcases o with ⟨h1,_⟩ | ⟨A',cs,st,h1,h2,h3,h4,h5,h6,h7,h8⟩
 ·rw [h1] at ha;cases ha
 ·rw [h1] at ha
  simp only [Option.some.injEq,Prod.mk.injEq] at ha;obtain ⟨rfl,rfl⟩:=ha;have hcl:vs.length≤cs.length:=by
   have:(cs.take vs.length).length=vs.length:=by rw [h6]
   rw [List.length_take] at this;omega
  have hg:h.t.get A'=some (.row cs st):=by unfold Heap.g at h4;exact h4
  have hov:over j cs [v]=some (cs.set j v):=by
   rw [uA0 cs [v] j (by simp only [List.length_cons,List.length_nil];omega)];simp only [List.length_cons,List.length_nil,Option.some.injEq];rw [List.set_eq_take_append_cons_drop,if_pos (by omega)];simp
  have cp:Chg [A'] h (h.put A' (.row (cs.set j v) st)):=(Chg.refl [A'] h).put (.inl (by simp)) _;refine ⟨h.put A' (.row (cs.set j v) st),?_,.inr ⟨A',cs.set j v,st,h1,h2,h3,gT _ rfl,by rw [List.length_set];exact h5,?_,h7,?_⟩,cp,rfl⟩
  ·rcases h8 with rfl | ⟨rfl,_⟩ <;> simp only [Heap.store,Heap.rowW,hg,Nat.zero_add,hov]
  ·rw [List.length_set,List.take_set,h6]
  ·rw [List.length_set];exact h8
theorem OwC.cell {h:Heap} {s:SL} {n:Nat} {vs:List AV} (o:OwC h s n vs) {A off:Nat} (ha:s.a=some (A,off)) {j:Nat} (hj:j<vs.length):h.cell (A,off+j)=vs[j]?:=by
 rcases o with ⟨h1,_⟩ | ⟨A',cs,st,h1,h2,h3,h4,h5,h6,h7,h8⟩
 ·rw [h1] at ha;cases ha
 ·rw [h1] at ha
  simp only [Option.some.injEq,Prod.mk.injEq] at ha;obtain ⟨rfl,rfl⟩:=ha;have e:h.cell (A',0+j)=cs[j]?:=by
   rw [Nat.zero_add,Heap.cell_g,nT,h4];rcases h8 with rfl | ⟨rfl,_⟩ <;> rfl
  rw [e,← h6,List.getElem?_take,if_pos hj]
end Qp
namespace Qp
theorem dZ {α:Type} {k len:Nat} {L:Nat→SL→Int→Heap→Option (Out×α×Heap)} {fin:SL→α} {Inv:Nat→SL→Heap→Prop}
  (hstep:∀ (M i:Nat) (hi:i<len) (out:SL) (h:Heap),Inv i out h→∃ out' h',L (M+1) out (i:Int) h=L M out' ((i+1:Nat):Int) h'∧Inv (i+1) out' h')
  (hend:∀ M out h,L (M+1) out (len:Int) h=some (.exit k,fin out,h)):∀ (M i:Nat) (out:SL) (h:Heap),i≤len→len-i<M→Inv i out h→∃ out' h',L M out (i:Int) h=some (.exit k,fin out',h')∧Inv len out' h':=by
 intro M
 induction M with
 | zero=>intro i _ _ _ h;omega
 | succ M ih=>
  intro i out h hi hM ho
  by_cases q:i<len
  ·obtain ⟨out',h',e,o'⟩:=hstep M i q out h ho
   rw [e];exact ih (i+1) out' h' q (by omega) o'
  ·have:i=len:=by omega
   subst this;rw [hend];exact ⟨out,h,rfl,ho⟩
theorem wBb:Rec [(.int .i64),(.int .i64),(.int .i64),.str,.slice,(.int .i64),(.int .i64),.str,.slice,(.int .i64),.str,.slice,.str,.slice,.slice] 15 vac isVa:=⟨fun _=>rfl,fun r K=>jB3 r K,fun t x=>aAt t x⟩
theorem yI (cs:List AV):mB (some (.agg cs)) (.agg cs)=true:=cD _
section
variable {N:Nat} {h:Heap} {V:Nat→Prop}
theorem rB4 (hN:3001≤N) {d:D} (t:isVa d) {q:VaV} (x:Dt h V d (vac q)):∃ r' h',f168 N q h=some (r',h')∧Chg [] h h'∧Dt h' (Fr0 h) d (vac r'):=by
 obtain ⟨k,a,b,op,pl,nm,ns,ag,rfl,ta,tb,tp,hn,hg,tg⟩:=t;obtain ⟨ra,rb,rp,s1,s2,hc,xa,xb,xp,y,z⟩:=uAj ta tb tp x;have e:=wBb.inj hc;subst e;unfold f168;obtain ⟨h2,e2,n2,w⟩:=fAt h [(.int .i64 k),(.int .i64 ra.1),(.int .i64 ra.2.1),(.str ra.2.2.1),(.slice ra.2.2.2.1.a ra.2.2.2.1.len ra.2.2.2.1.cap ra.2.2.2.1.sz),(.int .i64 rb.1),(.int .i64 rb.2.1),(.str rb.2.2.1),(.slice rb.2.2.2.1.a rb.2.2.2.1.len rb.2.2.2.1.cap rb.2.2.2.1.sz),(.int .i64 op),(.str rp.1),(.slice rp.2.1.a rp.2.1.len rp.2.1.cap rp.2.1.sz),(.str nm),(.slice s1.a s1.len s1.cap s1.sz),(.slice s2.a s2.len s2.cap s2.sz)] [(.int .i64 0),(.int .i64 0),(.int .i64 0),(.str []),(.slice none 0 0 0),(.int .i64 0),(.int .i64 0),(.str []),(.slice none 0 0 0),(.int .i64 0),(.str []),(.slice none 0 0 0),(.str []),(.slice none 0 0 0),(.slice none 0 0 0)];have w:WR h h2 (vac (tE k ra rb op rp nm s1 s2)) (vac va0):=w;dsimp only [tE];rw [e2,n2];have k1:h2.cells (h.next,1) 4=some (.agg (opc ra)):=w.o1.cells (j:=1) (m:=4) (show 1+4≤15 by decide);simp only [Nat.zero_add];rw [k1,dAn];obtain ⟨ra',h5,e5,c5,da⟩:=rA8 (N:=N) ta (Dt.chg w.c (by simp) xa);have e5':f169 N (ra.1,ra.2.1,ra.2.2.1,ra.2.2.2.1,()) h2=some (ra',h5):=e5;rw [e5',aA];have w5:=w.call c5;have da:=w.hi da;have k2:h2.cells (h.next,5) 4=some (.agg (opc rb)):=w.o1.cells (j:=5) (m:=4) (show 5+4≤15 by decide);have k5:h5.cells (h.next,5) 4=some (.agg (opc rb)):=w5.o1.cells (j:=5) (m:=4) (show 5+4≤15 by decide);rw [k5,dAn];obtain ⟨rb',h8,e8,c8,db⟩:=rA8 (N:=N) tb (Dt.chg w5.c (by simp) xb);have e8':f169 N (rb.1,rb.2.1,rb.2.2.1,rb.2.2.2.1,()) h5=some (rb',h8):=e8;rw [e8',aA];have w8:=w5.call c8;have db:=w5.hi db;have da:=Dt.chg c8 (by simp) da;have g2:h2.cells (h.next,10) 2=some (.agg (lfc rp)):=w.o1.cells (j:=10) (m:=2) (show 10+2≤15 by decide);have g5:h5.cells (h.next,10) 2=some (.agg (lfc rp)):=w5.o1.cells (j:=10) (m:=2) (show 10+2≤15 by decide);have g8:h8.cells (h.next,10) 2=some (.agg (lfc rp)):=w8.o1.cells (j:=10) (m:=2) (show 10+2≤15 by decide);rw [g8,cAn];obtain ⟨rp',h11,e11,c11,dp⟩:=nAg (N:=N) tp (Dt.chg w8.c (by simp) xp);have e11':f167 N (rp.1,rp.2.1,()) h8=some (rp',h11):=e11;rw [e11',aA];have w11:=w8.call c11;have dp:=w8.hi dp;have da:=Dt.chg c11 (by simp) da;have db:=Dt.chg c11 (by simp) db;obtain ⟨h12,p12,w12,c12⟩:=w11.set (j:=1) (vs:=[(.int .i64 ra'.1),(.int .i64 ra'.2.1),(.str ra'.2.2.1),(.slice ra'.2.2.2.1.a ra'.2.2.2.1.len ra'.2.2.2.1.cap ra'.2.2.2.1.sz)]) (show 1+4≤15 by decide) (ds:=vac (tE k ra' rb op rp nm s1 s2)) rfl;rw [p12];obtain ⟨h13,p13,w13,c13⟩:=w12.set (j:=5) (vs:=[(.int .i64 rb'.1),(.int .i64 rb'.2.1),(.str rb'.2.2.1),(.slice rb'.2.2.2.1.a rb'.2.2.2.1.len rb'.2.2.2.1.cap rb'.2.2.2.1.sz)]) (show 5+4≤15 by decide) (ds:=vac (tE k ra' rb' op rp nm s1 s2)) rfl;rw [p13];obtain ⟨h14,p14,w14,c14⟩:=w13.set (j:=10) (vs:=[(.str rp'.1),(.slice rp'.2.1.a rp'.2.1.len rp'.2.1.cap rp'.2.1.sz)]) (show 10+2≤15 by decide) (ds:=vac (tE k ra' rb' op rp' nm s1 s2)) rfl;rw [p14];have da:=qI c14 (qI c13 (qI c12 da));have db:=qI c14 (qI c13 (qI c12 db));have dp:=qI c14 (qI c13 (qI c12 dp));have q1:mB (some (.agg (lfc rp))) (.agg [(.str rp.1),(.slice rp.2.1.a rp.2.1.len rp.2.1.cap rp.2.1.sz)])=true:=yI _;have q2:mB (some (.agg (opc rb))) (.agg [(.int .i64 rb.1),(.int .i64 rb.2.1),(.str rb.2.2.1),(.slice rb.2.2.2.1.a rb.2.2.2.1.len rb.2.2.2.1.cap rb.2.2.2.1.sz)])=true:=yI _;have q3:mB (some (.agg (opc ra))) (.agg [(.int .i64 ra.1),(.int .i64 ra.2.1),(.str ra.2.2.1),(.slice ra.2.2.2.1.a ra.2.2.2.1.len ra.2.2.2.1.cap ra.2.2.2.1.sz)])=true:=yI _;simp only [g2,g5,g8,k1,k2,k5,q1,q2,q3,cond_true,mC];have k14:h14.cell (h.next,13)=some (SL.av s1):=w14.o1.cell 13;simp only [k14,SL.av,fA,uA];obtain ⟨v,h17,e17,c17,sv⟩:=wA2 (N:=N) (y.chg w14.c (by simp)) (by omega);show ∃ p' h',(lA (f115 N s1 h14) _)=_∧_;rw [e17,aA];have w17:=w14.call c17;have sv:=w14.hiS sv;obtain ⟨h18,p18,w18,c18⟩:=w17.set (j:=13) (vs:=[(.slice v.a v.len v.cap v.sz)]) (show 13+1≤15 by decide) (ds:=vac (tE k ra' rb' op rp' nm v s2)) rfl;rw [p18];have da:=qI c18 (Dt.chg c17 (by simp) da);have db:=qI c18 (Dt.chg c17 (by simp) db);have dp:=qI c18 (Dt.chg c17 (by simp) dp);have sv:=aS c18 sv;have k18:h18.cell (h.next,14)=some (SL.av s2):=w18.o1.cell 14;simp only [k18,SL.av,fA,uA];have z18:=z.chg w18.c (by simp);obtain ⟨out,h34,e34,w34,c34⟩:=qA8 (h0:=h18) (n:=4) (k:=0) (xs:=ag) (L:=fun Q out i H=>eA2 N Q (some (h.next,0)) (some (h.next+1,0)) out s2 (ag.length:Int) i H) (fin:=fun out=>(some (h.next,0),some (h.next+1,0),out,()))
  (fun Q i hi out H ho hc=>by
   have hlt:qB (i:Int) (ag.length:Int)=true:=by rw [pE];exact decide_eq_true hi
   rw [fX];unfold gU;rw [hlt];dsimp only;rw [cond_true];have zH:=z18.chg hc (by simp);obtain ⟨q,g,d⟩:=iAg.elt zH hi (tg _ (List.getElem_mem hi));rw [zH.ix hi 4,g,dAn];obtain ⟨Ha,pa,ca,oa⟩:=iAg.park (z:=opc gE) rfl H q;have pa':∀ {β:Type} (K:Heap→Option β),rA ((H.push (.row [(.int .i64 0),(.int .i64 0),(.str []),(.slice none 0 0 0)] .own)).store (H.next,0) [(.int .i64 q.1),(.int .i64 q.2.1),(.str q.2.2.1),(.slice q.2.2.2.1.a q.2.2.2.1.len q.2.2.2.1.cap q.2.2.2.1.sz)]) K=K Ha:=pa;rw [pa',gAz oa];obtain ⟨q',Hb,eb,cb,db⟩:=rA8 (N:=N) (tg _ (List.getElem_mem hi)) (Dt.chg ca (by simp) d);have eb':f169 N (q.1,q.2.1,q.2.2.1,q.2.2.2.1,()) Ha=some (q',Hb):=eb;rw [eb',aA];obtain ⟨s',h',ea,oa',ca'⟩:=wAj wAr (by decide) hi ho hc (ca.trans cb) (cs:=opc q') (Dt.weak (fun C hC _=>by have:Ha.next≤C:=hC;have:=ca.next;show H.next≤C;omega) db) rfl (by omega);have ea':∀ {β:Type} (K:SL→Heap→Option β),tD (.val zQ2) (fB E 102 102 (.slice out.a out.len out.cap out.sz) (.slice (some (Hb.next,0)) 1 1 4) (Hb.push (.row [(.int .i64 q'.1),(.int .i64 q'.2.1),(.str q'.2.2.1),(.slice q'.2.2.2.1.a q'.2.2.2.1.len q'.2.2.2.1.cap q'.2.2.2.1.sz)] .own))) K=K s' h':=ea;rw [ea',iB (by omega)];exact ⟨s',h',rfl,oa',ca'⟩)
  (fun Q out H=>by
   rw [fX];unfold gU;rw [pE,decide_eq_false (by omega)];rfl) N 0 sl0 h18 (Nat.zero_le _) (by omega) (OwV.nil _ _ _ _) (Chg.refl _ _)
 rw [show ((0:Nat):Int)=0 from rfl] at e34;show ∃ r' h',(pD (eA2 N N (some (h.next,0)) (some (h.next+1,0)) sl0 s2 (Int.ofNat s2.len) 0 h18) _)=_∧_;rw [show Int.ofNat s2.len=(ag.length:Int) by rw [z18.len];rfl,e34,pB];simp only [dA,Nat.zero_add];have so:=w18.hiS w34.sl;have da:=Dt.chg c34 (by simp) da;have db:=Dt.chg c34 (by simp) db;have dp:=Dt.chg c34 (by simp) dp;have sv:=sv.chg c34 (by simp);obtain ⟨h36,p36,w36,c36⟩:=(w18.call c34).set (j:=14) (vs:=[(.slice out.a out.len out.cap out.sz)]) (show 14+1≤15 by decide) (ds:=vac (tE k ra' rb' op rp' nm v out)) rfl;rw [p36];obtain ⟨h39,p39,c39,c039⟩:=WR.fin wBb (r0:=va0) w36;exact ⟨_,h39,p39 (fun y h'=>some (y,h')),c039,vA1 (yAj c39 (qI c36 da)) (yAj c39 (qI c36 db)) (yAj c39 (qI c36 dp)) (yA2 c39 (aS c36 sv)) (yA2 c39 (aS c36 so))⟩
end
end Qp
namespace Qp
structure W1 (h0 H:Heap) (cs:List AV):Prop where
 o:H.own h0.next cs
 c:Chg [] h0 H
 nx:h0.next+1≤H.next
section
variable {h0 H H':Heap} {cs:List AV}
theorem W1.call (w:W1 h0 H cs) (c:Chg [] H H'):W1 h0 H' cs:=⟨w.o.chg c (by simp),w.c.trans c,Nat.le_trans w.nx c.next⟩
theorem W1.set (w:W1 h0 H cs) {j:Nat} {vs ds:List AV} (hj:j+vs.length≤cs.length) (hd:cs.take j++vs++cs.drop (j+vs.length)=ds):∃ H',(∀ {β:Type} (K:Heap→Option β),rA (H.store (h0.next,j) vs) K=K H')∧W1 h0 H' ds∧Chg [h0.next] H H'∧H'.next=H.next:=
 ⟨_,fun K=>by rw [yR w.o hj hd,dA],⟨yA w.o ds,w.c.put (.inr (Nat.le_refl _)) _,w.nx⟩,w.o.put ds,rfl⟩
end
theorem iAt (h:Heap) (cs:List AV) (n:Nat) (hn:cs.length=n):Sees (h.push (.row cs .own)) ⟨some (h.next,0),1,1,n⟩ cs:=
 ⟨by rw [hn];show n=1 * n;omega,fun ha=>(by cases ha),fun A off ha=>by
  simp only [Option.some.injEq,Prod.mk.injEq] at ha;obtain ⟨rfl,rfl⟩:=ha;exact ⟨Nat.lt_succ_self _,cs,by rw [aH _ rfl];rfl,by rw [List.drop_zero,List.take_of_length_le (Nat.le_refl _)]⟩⟩
def StInv (n:Nat) (h0:Heap) (xs:List D) (i:Nat) (out:SL) (H:Heap):Prop:=Chg [] h0 H∧∃ vs,OwC H out 32 vs∧out.len=i∧(∀ A,out.blk=some A→h0.next≤A)∧Ml (Mt n) H (fun C=>h0.next≤C∧C<H.next∧out.blk≠some C) vs (xs.take i)
theorem StInv.app {n:Nat} {h0 H Hf:Heap} {xs:List D} {i:Nat} {out:SL} (inv:StInv n h0 xs i out H) (hi:i<xs.length) (hl:xs.length≤3000) (cH:Chg [] H Hf) {c:List AV} (hc:c.length=32) (hs:∀ w∈c,AV.single w=true) (m:Me (Mt n) Hf (fun C=>H.next≤C∧C<Hf.next) c xs[i]) :
  ∃ out' h',(∀ {β:Type} (K:SL→Heap→Option β),tD (.val zQ2) (fB E 42 42 (.slice out.a out.len out.cap out.sz) (.slice (some (Hf.next,0)) 1 1 32) (Hf.push (.row c .own))) K=K out' h')∧StInv n h0 xs (i+1) out' h':=by
 obtain ⟨c0,vs,o,hlen,hb,ml⟩:=inv;have le0:=c0.next;have leH:=cH.next;have cp:=qA Hf (.row c .own);have np:(Hf.push (.row c .own)).next=Hf.next+1:=rfl;have cHp:=cH.trans cp;obtain ⟨out',h',e,o',len',c',hb'⟩:=vAj nBa (iAt Hf c 32 hc) (by rw [hc];rfl) hs (o.chg cHp (by simp)) (by rw [hlen];show (i+1) * 10000≤_;omega);have le':=c'.next;refine ⟨out',h',fun K=>by rw [e];rfl,(c0.trans cHp).step c' (fun A hA hlt=>?_),vs++c,o',by rw [len',hlen],fun A hA=>?_,?_⟩
 ·have hbl:out.blk=some A:=by simpa using hA
  have:=hb A hbl;omega
 ·rcases hb' A hA with q | q
  ·exact hb A q
  ·omega
 ·have m1:Ml (Mt n) h' (fun C=>h0.next≤C∧C<H.next∧out.blk≠some C) vs (xs.take i):=(ml.chg (Mt.chg n) cHp (by simp)).chg (Mt.chg n) c' (fun A hA hm=>hA.2.2 (by simpa using hm))
  have m2:Me (Mt n) h' (fun C=>H.next≤C∧C<Hf.next) c xs[i]:=(m.chg (Mt.chg n) cp (by simp)).chg (Mt.chg n) c' (fun A hA hm=>by
   have hbl:out.blk=some A:=by simpa using hm
   have:=o.lt A hbl;omega)
  have m3:=m1.snoc (Mt.weak n) m2 (fun C a b=>by omega);rw [List.take_succ_eq_append_getElem hi];refine m3.weak (Mt.weak n) (fun C hC hl=>?_)
  rcases hC with ⟨a1,a2,a3⟩ | ⟨a1,a2⟩
  ·exact ⟨a1,hl,fun hbl=>by rcases hb' C hbl with q | q;exact a3 q;omega⟩
  ·exact ⟨by omega,hl,fun hbl=>by rcases hb' C hbl with q | q;(have:=o.lt C q;omega);omega⟩
section
variable {N:Nat}
theorem tB4 (hN:3001≤N):∀ (n M:Nat) (xs:List D) (s:SL) (h:Heap) (V:Nat→Prop),n+1≤M→(∀ x∈xs,isSm n x)→xs.length≤3000→Sl h V s xs→∃ v h',f118 N M s h=some (v,h')∧Chg [] h h'∧Mt n h' (Fr0 h) v xs:=by
 intro n
 induction n with
 | zero=>
  intro M xs s h V hM t hl x;obtain ⟨M,rfl⟩:∃ m,M=m+1:=⟨M-1,by omega⟩;have hx:xs=[]:=by
   cases xs with
   | nil=>rfl
   | cons y r=>cases t y (by simp)
  subst hx;rw [aAc];unfold lAj;obtain ⟨N,rfl⟩:∃ m,N=m+1:=⟨N-1,by omega⟩;have hz:Int.ofNat s.len=0:=by rw [x.len];rfl
  rw [hz,lO];unfold kO;have hlt:qB 0 0=false:=rfl;rw [hlt];exact ⟨sl0,h,rfl,Chg.refl _ _,rfl,rfl,rfl,rfl⟩
 | succ n ih=>
  intro M xs s h V hM t hl x;obtain ⟨M,rfl⟩:∃ m,M=m+1:=⟨M-1,by omega⟩;rw [aAc];unfold lAj;obtain ⟨out,h37,e37,c37,vs,o37,l37,b37,m37⟩:=dZ (k:=0) (len:=xs.length) (L:=fun Q out i H=>wA7 N (f118 N M) Q out s (xs.length:Int) i H) (fin:=fun out=>(out,())) (Inv:=StInv n h xs)
   (fun Q i hi out H inv=>by
    have hlt:qB (i:Int) (xs.length:Int)=true:=by rw [pE];exact decide_eq_true hi
    rw [lO];unfold kO;rw [hlt];dsimp only;rw [cond_true];have zH:=x.chg inv.1 (by simp);have tm:=t _ (List.getElem_mem hi);obtain ⟨q,g,d⟩:=(jAg (n+1)).elt zH hi tm;rw [zH.ix hi 32,g,eBg];obtain ⟨k,a,m,nm,ty,hs,pl,va,co,th,el,hx,t1,t2,t3,t4,hth,hel,t5,t6⟩:=tm;rw [hx] at d;obtain ⟨r,p,v,o,s1,s2,hc1,dr,dp,dv,dO,dth,del⟩:=eAc t1 t2 t3 t4 d;have e:=(jAg 1).inj hc1;subst e;obtain ⟨Ha,pa,ca,oa⟩:=(jAg 1).park (z:=smx (smv (aG 0))) rfl H (smv ⟨k,a,m,nm,r,hs,p,v,o,s1,s2⟩);have pa':∀ {β:Type} (K:Heap→Option β),rA ((H.push (.row [(.int .i64 0),(.int .i64 0),(.bool false),(.str []),(.int .i64 0),(.str []),(.slice none 0 0 0),(.slice none 0 0 0),(.bool false),(.str []),(.slice none 0 0 0),(.int .i64 0),(.int .i64 0),(.int .i64 0),(.str []),(.slice none 0 0 0),(.int .i64 0),(.int .i64 0),(.str []),(.slice none 0 0 0),(.int .i64 0),(.str []),(.slice none 0 0 0),(.str []),(.slice none 0 0 0),(.slice none 0 0 0),(.int .i64 0),(.int .i64 0),(.str []),(.slice none 0 0 0),(.slice none 0 0 0),(.slice none 0 0 0)] .own)).store (H.next,0) [(.int .i64 k),(.int .i64 a),(.bool m),(.str nm),(.int .i64 r.1),(.str r.2.1),(.slice r.2.2.1.a r.2.2.1.len r.2.2.1.cap r.2.2.1.sz),(.slice r.2.2.2.1.a r.2.2.2.1.len r.2.2.2.1.cap r.2.2.2.1.sz),(.bool hs),(.str p.1),(.slice p.2.1.a p.2.1.len p.2.1.cap p.2.1.sz),(.int .i64 v.1),(.int .i64 v.2.1),(.int .i64 v.2.2.1),(.str v.2.2.2.1),(.slice v.2.2.2.2.1.a v.2.2.2.2.1.len v.2.2.2.2.1.cap v.2.2.2.2.1.sz),(.int .i64 v.2.2.2.2.2.1),(.int .i64 v.2.2.2.2.2.2.1),(.str v.2.2.2.2.2.2.2.1),(.slice v.2.2.2.2.2.2.2.2.1.a v.2.2.2.2.2.2.2.2.1.len v.2.2.2.2.2.2.2.2.1.cap v.2.2.2.2.2.2.2.2.1.sz),(.int .i64 v.2.2.2.2.2.2.2.2.2.1),(.str v.2.2.2.2.2.2.2.2.2.2.1),(.slice v.2.2.2.2.2.2.2.2.2.2.2.1.a v.2.2.2.2.2.2.2.2.2.2.2.1.len v.2.2.2.2.2.2.2.2.2.2.2.1.cap v.2.2.2.2.2.2.2.2.2.2.2.1.sz),(.str v.2.2.2.2.2.2.2.2.2.2.2.2.1),(.slice v.2.2.2.2.2.2.2.2.2.2.2.2.2.1.a v.2.2.2.2.2.2.2.2.2.2.2.2.2.1.len v.2.2.2.2.2.2.2.2.2.2.2.2.2.1.cap v.2.2.2.2.2.2.2.2.2.2.2.2.2.1.sz),(.slice v.2.2.2.2.2.2.2.2.2.2.2.2.2.2.1.a v.2.2.2.2.2.2.2.2.2.2.2.2.2.2.1.len v.2.2.2.2.2.2.2.2.2.2.2.2.2.2.1.cap v.2.2.2.2.2.2.2.2.2.2.2.2.2.2.1.sz),(.int .i64 o.1),(.int .i64 o.2.1),(.str o.2.2.1),(.slice o.2.2.2.1.a o.2.2.2.1.len o.2.2.2.1.cap o.2.2.2.1.sz),(.slice s1.a s1.len s1.cap s1.sz),(.slice s2.a s2.len s2.cap s2.sz)]) K=K Ha:=pa;dsimp only [smv];rw [pa'];have w:W1 H Ha (smc ⟨k,a,m,nm,r,hs,p,v,o,s1,s2⟩):=⟨oa,ca,oa.2⟩;simp only [Nat.zero_add];have a4:Ha.cells (H.next,4) 4=some (.agg (tyc r)):=w.o.cells (j:=4) (m:=4) (show 4+4≤32 by decide);rw [a4,iAl];obtain ⟨r',Hb,eb,cb,db⟩:=mAg hN 65 N ty r Ha V (by omega) t1 (Dt.chg ca (by simp) dr);have eb':f117 N N (r.1,r.2.1,r.2.2.1,r.2.2.2.1,()) Ha=some (r',Hb):=eb;rw [eb',aA];have wb:=w.call cb;have b9:Hb.cells (H.next,9) 2=some (.agg (lfc p)):=wb.o.cells (j:=9) (m:=2) (show 9+2≤32 by decide);have a9:Ha.cells (H.next,9) 2=some (.agg (lfc p)):=w.o.cells (j:=9) (m:=2) (show 9+2≤32 by decide);rw [b9,cAn];obtain ⟨p',Hc,ec,cc,dc⟩:=nAg (N:=N) t2 (Dt.chg wb.c (by simp) dp);have ec':f167 N (p.1,p.2.1,()) Hb=some (p',Hc):=ec;rw [ec',aA];have wc:=wb.call cc;have a11:Ha.cells (H.next,11) 15=some (.agg (vac v)):=w.o.cells (j:=11) (m:=15) (show 11+15≤32 by decide);have b11:Hb.cells (H.next,11) 15=some (.agg (vac v)):=wb.o.cells (j:=11) (m:=15) (show 11+15≤32 by decide);have c11:Hc.cells (H.next,11) 15=some (.agg (vac v)):=wc.o.cells (j:=11) (m:=15) (show 11+15≤32 by decide);rw [c11,jB3];obtain ⟨v',Hd,ed,cd,dd⟩:=rB4 hN t3 (Dt.chg wc.c (by simp) dv);have ed':f168 N (v.1,v.2.1,v.2.2.1,v.2.2.2.1,v.2.2.2.2.1,v.2.2.2.2.2.1,v.2.2.2.2.2.2.1,v.2.2.2.2.2.2.2.1,v.2.2.2.2.2.2.2.2.1,v.2.2.2.2.2.2.2.2.2.1,v.2.2.2.2.2.2.2.2.2.2.1,v.2.2.2.2.2.2.2.2.2.2.2.1,v.2.2.2.2.2.2.2.2.2.2.2.2.1,v.2.2.2.2.2.2.2.2.2.2.2.2.2.1,v.2.2.2.2.2.2.2.2.2.2.2.2.2.2.1,()) Hc=some (v',Hd):=ed;rw [ed',aA];have wd:=wc.call cd;have a26:Ha.cells (H.next,26) 4=some (.agg (opc o)):=w.o.cells (j:=26) (m:=4) (show 26+4≤32 by decide);have b26:Hb.cells (H.next,26) 4=some (.agg (opc o)):=wb.o.cells (j:=26) (m:=4) (show 26+4≤32 by decide);have c26:Hc.cells (H.next,26) 4=some (.agg (opc o)):=wc.o.cells (j:=26) (m:=4) (show 26+4≤32 by decide);have d26:Hd.cells (H.next,26) 4=some (.agg (opc o)):=wd.o.cells (j:=26) (m:=4) (show 26+4≤32 by decide);rw [d26,dAn];obtain ⟨o',He,ee,ce,de⟩:=rA8 (N:=N) t4 (Dt.chg wd.c (by simp) dO);have ee':f169 N (o.1,o.2.1,o.2.2.1,o.2.2.2.1,()) Hd=some (o',He):=ee;rw [ee',aA];have we:=wd.call ce;obtain ⟨h18,p18,w18,s18,n18⟩:=we.set (j:=4) (vs:=[(.int .i64 r'.1),(.str r'.2.1),(.slice r'.2.2.1.a r'.2.2.1.len r'.2.2.1.cap r'.2.2.1.sz),(.slice r'.2.2.2.1.a r'.2.2.2.1.len r'.2.2.2.1.cap r'.2.2.2.1.sz)]) (show 4+4≤32 by decide) (ds:=smc ⟨k,a,m,nm,r',hs,p,v,o,s1,s2⟩) rfl;rw [p18];obtain ⟨h19,p19,w19,s19,n19⟩:=w18.set (j:=9) (vs:=[(.str p'.1),(.slice p'.2.1.a p'.2.1.len p'.2.1.cap p'.2.1.sz)]) (show 9+2≤32 by decide) (ds:=smc ⟨k,a,m,nm,r',hs,p',v,o,s1,s2⟩) rfl;rw [p19];obtain ⟨h20,p20,w20,s20,n20⟩:=w19.set (j:=11) (vs:=[(.int .i64 v'.1),(.int .i64 v'.2.1),(.int .i64 v'.2.2.1),(.str v'.2.2.2.1),(.slice v'.2.2.2.2.1.a v'.2.2.2.2.1.len v'.2.2.2.2.1.cap v'.2.2.2.2.1.sz),(.int .i64 v'.2.2.2.2.2.1),(.int .i64 v'.2.2.2.2.2.2.1),(.str v'.2.2.2.2.2.2.2.1),(.slice v'.2.2.2.2.2.2.2.2.1.a v'.2.2.2.2.2.2.2.2.1.len v'.2.2.2.2.2.2.2.2.1.cap v'.2.2.2.2.2.2.2.2.1.sz),(.int .i64 v'.2.2.2.2.2.2.2.2.2.1),(.str v'.2.2.2.2.2.2.2.2.2.2.1),(.slice v'.2.2.2.2.2.2.2.2.2.2.2.1.a v'.2.2.2.2.2.2.2.2.2.2.2.1.len v'.2.2.2.2.2.2.2.2.2.2.2.1.cap v'.2.2.2.2.2.2.2.2.2.2.2.1.sz),(.str v'.2.2.2.2.2.2.2.2.2.2.2.2.1),(.slice v'.2.2.2.2.2.2.2.2.2.2.2.2.2.1.a v'.2.2.2.2.2.2.2.2.2.2.2.2.2.1.len v'.2.2.2.2.2.2.2.2.2.2.2.2.2.1.cap v'.2.2.2.2.2.2.2.2.2.2.2.2.2.1.sz),(.slice v'.2.2.2.2.2.2.2.2.2.2.2.2.2.2.1.a v'.2.2.2.2.2.2.2.2.2.2.2.2.2.2.1.len v'.2.2.2.2.2.2.2.2.2.2.2.2.2.2.1.cap v'.2.2.2.2.2.2.2.2.2.2.2.2.2.2.1.sz)]) (show 11+15≤32 by decide) (ds:=smc ⟨k,a,m,nm,r',hs,p',v',o,s1,s2⟩) rfl;rw [p20];obtain ⟨h21,p21,w21,s21,n21⟩:=w20.set (j:=26) (vs:=[(.int .i64 o'.1),(.int .i64 o'.2.1),(.str o'.2.2.1),(.slice o'.2.2.2.1.a o'.2.2.2.1.len o'.2.2.2.1.cap o'.2.2.2.1.sz)]) (show 26+4≤32 by decide) (ds:=smc ⟨k,a,m,nm,r',hs,p',v',o',s1,s2⟩) rfl;rw [p21];have q1:mB (some (.agg (tyc r))) (.agg [(.int .i64 r.1),(.str r.2.1),(.slice r.2.2.1.a r.2.2.1.len r.2.2.1.cap r.2.2.1.sz),(.slice r.2.2.2.1.a r.2.2.2.1.len r.2.2.2.1.cap r.2.2.2.1.sz)])=true:=yI _;have q2:mB (some (.agg (lfc p))) (.agg [(.str p.1),(.slice p.2.1.a p.2.1.len p.2.1.cap p.2.1.sz)])=true:=yI _;have q3:mB (some (.agg (vac v))) (.agg [(.int .i64 v.1),(.int .i64 v.2.1),(.int .i64 v.2.2.1),(.str v.2.2.2.1),(.slice v.2.2.2.2.1.a v.2.2.2.2.1.len v.2.2.2.2.1.cap v.2.2.2.2.1.sz),(.int .i64 v.2.2.2.2.2.1),(.int .i64 v.2.2.2.2.2.2.1),(.str v.2.2.2.2.2.2.2.1),(.slice v.2.2.2.2.2.2.2.2.1.a v.2.2.2.2.2.2.2.2.1.len v.2.2.2.2.2.2.2.2.1.cap v.2.2.2.2.2.2.2.2.1.sz),(.int .i64 v.2.2.2.2.2.2.2.2.2.1),(.str v.2.2.2.2.2.2.2.2.2.2.1),(.slice v.2.2.2.2.2.2.2.2.2.2.2.1.a v.2.2.2.2.2.2.2.2.2.2.2.1.len v.2.2.2.2.2.2.2.2.2.2.2.1.cap v.2.2.2.2.2.2.2.2.2.2.2.1.sz),(.str v.2.2.2.2.2.2.2.2.2.2.2.2.1),(.slice v.2.2.2.2.2.2.2.2.2.2.2.2.2.1.a v.2.2.2.2.2.2.2.2.2.2.2.2.2.1.len v.2.2.2.2.2.2.2.2.2.2.2.2.2.1.cap v.2.2.2.2.2.2.2.2.2.2.2.2.2.1.sz),(.slice v.2.2.2.2.2.2.2.2.2.2.2.2.2.2.1.a v.2.2.2.2.2.2.2.2.2.2.2.2.2.2.1.len v.2.2.2.2.2.2.2.2.2.2.2.2.2.2.1.cap v.2.2.2.2.2.2.2.2.2.2.2.2.2.2.1.sz)])=true:=yI _;have q4:mB (some (.agg (opc o))) (.agg [(.int .i64 o.1),(.int .i64 o.2.1),(.str o.2.2.1),(.slice o.2.2.2.1.a o.2.2.2.1.len o.2.2.2.1.cap o.2.2.2.1.sz)])=true:=yI _;simp only [a4,a9,b9,a11,b11,c11,a26,b26,c26,d26,q1,q2,q3,q4,cond_true,mC];have k30:h21.cell (H.next,30)=some (SL.av s1):=w21.o.cell 30;have k31:h21.cell (H.next,31)=some (SL.av s2):=w21.o.cell 31;simp only [k30,SL.av,fA,uA];obtain ⟨u1,h24,e24,c24,m24⟩:=ih M th s1 h21 V (by omega) t5 hth (dth.chg w21.c (by simp));have e24':f118 N M ⟨s1.a,s1.len,s1.cap,s1.sz⟩ h21=some (u1,h24):=e24;rw [e24',aA];have w24:=w21.call c24;have k31':h24.cell (H.next,31)=some (SL.av s2):=w24.o.cell 31;simp only [k31',SL.av,fA,uA];obtain ⟨u2,h27,e27,c27,m27⟩:=ih M el s2 h24 V (by omega) t6 hel (del.chg w24.c (by simp));have e27':f118 N M ⟨s2.a,s2.len,s2.cap,s2.sz⟩ h24=some (u2,h27):=e27;rw [e27',aA];have w27:=w24.call c27;obtain ⟨h28,p28,w28,s28,n28⟩:=w27.set (j:=30) (vs:=[(.slice u1.a u1.len u1.cap u1.sz)]) (show 30+1≤32 by decide) (ds:=smc ⟨k,a,m,nm,r',hs,p',v',o',u1,s2⟩) rfl;rw [p28];obtain ⟨h29,p29,w29,s29,n29⟩:=w28.set (j:=31) (vs:=[(.slice u2.a u2.len u2.cap u2.sz)]) (show 31+1≤32 by decide) (ds:=smc ⟨k,a,m,nm,r',hs,p',v',o',u1,u2⟩) rfl;rw [p29];have q5:mB (some (SL.av s2)) (SL.av s2)=true:=cD _;have q6:mB (some (SL.av s1)) (SL.av s1)=true:=cD _;have q7:(bif (mB (h24.cell (H.next,31)) (.slice s2.a s2.len s2.cap s2.sz)) then (bif (mB (h21.cell (H.next,31)) (.slice s2.a s2.len s2.cap s2.sz)) then (bif (mB (h21.cell (H.next,30)) (.slice s1.a s1.len s1.cap s1.sz)) then true else false) else false) else false)=true:=by
     rw [k31',k31,k30];show (bif mB (some (SL.av s2)) (SL.av s2) then (bif mB (some (SL.av s2)) (SL.av s2) then (bif mB (some (SL.av s1)) (SL.av s1) then true else false) else false) else false)=true;rw [q5,q6];rfl
    simp only [SL.av] at q7 k31 k30 k31'
    first | rw [q7,mC] | simp only [k30,k31,k31',cD,cond_true,mC]
    have o29:h29.own H.next (smx (smv ⟨k,a,m,nm,r',hs,p',v',o',u1,u2⟩)):=w29.o;rw [eAs o29]
    -- which blocks are whose
    have nb:=cb.next;have nc:=cc.next;have nd:=cd.next;have ne:=ce.next;have na:=w.nx;have n24:=c24.next;have n27:=c27.next;have cbe:Chg [H.next] He h29:=(((((s18.trans s19).trans s20).trans s21).trans ((c24.trans c27).mono (by simp))).trans s28).trans s29;have ccd:=(cc.trans cd).trans ce;have hS0:∀ {X:Heap} {d:D} {cs:List AV} {L:Heap},Dt X (Fr0 L) d cs→Ha.next≤L.next→X.next≤He.next→Chg [] X He→Dt h29 (fun C=>Ha.next≤C∧C<He.next) d cs:=fun {X d cs L} y h1 h2 h3=>
     Dt.chg cbe (by intro A hA;simp;omega) (Dt.chg h3 (by simp) (Dt.weak (fun C hC hl=>⟨Nat.le_trans h1 hC,Nat.lt_of_lt_of_le hl h2⟩) y))
    have yr:=hS0 db (Nat.le_refl _) (by omega) ccd;have yp:=hS0 dc (by omega) (by omega) (cd.trans ce);have yv:=hS0 dd (by omega) (by omega) ce;have yo:=hS0 de (by omega) (by omega) (Chg.refl _ _);have c2829:Chg [H.next] h27 h29:=s28.trans s29;have y1:Mt n h29 (fun C=>h21.next≤C∧C<h24.next) u1 th:=Mt.chg n _ _ _ _ _ _ c2829 (by intro A hA;simp;omega) (Mt.chg n _ _ _ _ _ _ c27 (by simp) (Mt.weak n _ _ _ _ _ (fun C hC hl=>⟨hC,hl⟩) m24));have y2:Mt n h29 (fun C=>h24.next≤C∧C<h27.next) u2 el:=Mt.chg n _ _ _ _ _ _ c2829 (by intro A hA;simp;omega) (Mt.weak n _ _ _ _ _ (fun C hC hl=>⟨hC,hl⟩) m27);have me:Me (Mt n) h29 (fun C=>H.next≤C∧C<h29.next) (smc ⟨k,a,m,nm,r',hs,p',v',o',u1,u2⟩) xs[i]:=by
     rw [hx];exact ⟨⟨k,a,m,nm,r',hs,p',v',o',u1,u2⟩,ty,pl,va,co,th,el,_,_,_,rfl,rfl,⟨yr,yp,yv,yo,y1,y2,fun C hC=>by omega,fun C hC=>by omega,fun C hC=>by omega,fun C a b=>by omega,fun C a b=>by omega,fun C a b=>by omega⟩⟩
    have hsing:∀ w∈smc ⟨k,a,m,nm,r',hs,p',v',o',u1,u2⟩,AV.single w=true:=by
     have ds:Dt h29 (fun _=>True) (smT k a m nm ty hs pl va co th el) (smc ⟨k,a,m,nm,r',hs,p',v',o',u1,u2⟩):=kAz (Dt.weak (fun _ _ _=>trivial) yr) (Dt.weak (fun _ _ _=>trivial) yp) (Dt.weak (fun _ _ _=>trivial) yv) (Dt.weak (fun _ _ _=>trivial) yo) ((Mt.sl n y1).weak fun _ _ _=>trivial) ((Mt.sl n y2).weak fun _ _ _=>trivial);exact ds.single
    obtain ⟨out',h',ea,inv'⟩:=inv.app hi hl w29.c rfl hsing me;have ea':∀ {β:Type} (K:SL→Heap→Option β),tD (.val zQ2) (fB E 42 42 (.slice out.a out.len out.cap out.sz) (.slice (some (h29.next,0)) 1 1 32) (h29.push (.row [(.int .i64 k),(.int .i64 a),(.bool m),(.str nm),(.int .i64 r'.1),(.str r'.2.1),(.slice r'.2.2.1.a r'.2.2.1.len r'.2.2.1.cap r'.2.2.1.sz),(.slice r'.2.2.2.1.a r'.2.2.2.1.len r'.2.2.2.1.cap r'.2.2.2.1.sz),(.bool hs),(.str p'.1),(.slice p'.2.1.a p'.2.1.len p'.2.1.cap p'.2.1.sz),(.int .i64 v'.1),(.int .i64 v'.2.1),(.int .i64 v'.2.2.1),(.str v'.2.2.2.1),(.slice v'.2.2.2.2.1.a v'.2.2.2.2.1.len v'.2.2.2.2.1.cap v'.2.2.2.2.1.sz),(.int .i64 v'.2.2.2.2.2.1),(.int .i64 v'.2.2.2.2.2.2.1),(.str v'.2.2.2.2.2.2.2.1),(.slice v'.2.2.2.2.2.2.2.2.1.a v'.2.2.2.2.2.2.2.2.1.len v'.2.2.2.2.2.2.2.2.1.cap v'.2.2.2.2.2.2.2.2.1.sz),(.int .i64 v'.2.2.2.2.2.2.2.2.2.1),(.str v'.2.2.2.2.2.2.2.2.2.2.1),(.slice v'.2.2.2.2.2.2.2.2.2.2.2.1.a v'.2.2.2.2.2.2.2.2.2.2.2.1.len v'.2.2.2.2.2.2.2.2.2.2.2.1.cap v'.2.2.2.2.2.2.2.2.2.2.2.1.sz),(.str v'.2.2.2.2.2.2.2.2.2.2.2.2.1),(.slice v'.2.2.2.2.2.2.2.2.2.2.2.2.2.1.a v'.2.2.2.2.2.2.2.2.2.2.2.2.2.1.len v'.2.2.2.2.2.2.2.2.2.2.2.2.2.1.cap v'.2.2.2.2.2.2.2.2.2.2.2.2.2.1.sz),(.slice v'.2.2.2.2.2.2.2.2.2.2.2.2.2.2.1.a v'.2.2.2.2.2.2.2.2.2.2.2.2.2.2.1.len v'.2.2.2.2.2.2.2.2.2.2.2.2.2.2.1.cap v'.2.2.2.2.2.2.2.2.2.2.2.2.2.2.1.sz),(.int .i64 o'.1),(.int .i64 o'.2.1),(.str o'.2.2.1),(.slice o'.2.2.2.1.a o'.2.2.2.1.len o'.2.2.2.1.cap o'.2.2.2.1.sz),(.slice u1.a u1.len u1.cap u1.sz),(.slice u2.a u2.len u2.cap u2.sz)] .own))) K=K out' h':=ea;dsimp only [smv];rw [ea',iB (by omega)];exact ⟨out',h',rfl,inv'⟩)
   (fun Q out H=>by
    rw [lO];unfold kO;rw [pE,decide_eq_false (by omega)];rfl) N 0 sl0 h (Nat.zero_le _) (by omega) ⟨Chg.refl _ _,[],OwC.nil _ _ _,rfl,fun A hA=>by simp [SL.blk] at hA,rfl⟩
  rw [show ((0:Nat):Int)=0 from rfl] at e37;rw [show Int.ofNat s.len=(xs.length:Int) by rw [x.len];rfl,e37,pB];rw [List.take_length] at m37;exact ⟨out,h37,rfl,c37,vs,o37,b37,m37.weak (Mt.weak n) (fun C hC _=>⟨hC.1,hC.2.2⟩)⟩
end
end Qp
namespace Qp
section
variable {N:Nat}
theorem uB4 {s:SL} {A off i n:Nat} (ha:s.a=some (A,off)):s.at i n=(A,off+i * n):=by simp [SL.at,ha]
theorem kAt {α:Type} {pre c rest:List α} {i j:Nat} (hp:pre.length=i) (hj:j<c.length):(pre++(c++rest))[i+j]? = c[j]?:=by
 rw [List.getElem?_append_right (by omega),show i+j-pre.length=j by omega,List.getElem?_append_left hj]
theorem vB4 {α:Type} {pre c rest:List α} {i j:Nat} (hp:pre.length=i) (hj:j<c.length) (v:α):(pre++(c++rest)).set (i+j) v=pre++(c.set j v++rest):=by
 rw [List.set_append_right _ _ (by omega),show i+j-pre.length=j by omega,List.set_append_left _ _ hj]
def ZI (n:Nat) (h:Heap) (S:Nat→Prop) (s:SL) (xs:List D) (i:Nat) (_:SL) (H:Heap):Prop:=
 ∃ Lb,Chg Lb h H∧(∀ A∈Lb,S A)∧H.next=h.next∧∃ pre rest Sd Sr,OwC H s 32 (pre++rest)∧pre.length=i * 32∧Ml (Mt n) H Sd pre ((xs.take i).map (nK (n+1)))∧Ml (Mt n) H Sr rest (xs.drop i)∧(∀ C,Sd C→S C∧s.blk≠some C)∧(∀ C,Sr C→S C∧s.blk≠some C)∧∀ C,Sd C→¬ Sr C
theorem yBb (hN:3001≤N):∀ (n M:Nat) (xs:List D) (s:SL) (h:Heap) (S:Nat→Prop),n+1≤M→(∀ x∈xs,isSm n x)→xs.length≤3000→Mt n h S s xs→∃ L h',f78 N M s h=some ((),h')∧Chg L h h'∧(∀ A∈L,S A)∧h'.next=h.next∧Mt n h' S s (xs.map (nK n)):=by
 intro n
 induction n with
 | zero=>
  intro M xs s h S hM t hl m;obtain ⟨M,rfl⟩:∃ m,M=m+1:=⟨M-1,by omega⟩;obtain ⟨hx,h2,h3,h4⟩:=m;subst hx;rw [nAj];unfold uAw;obtain ⟨N,rfl⟩:∃ m,N=m+1:=⟨N-1,by omega⟩;rw [show Int.ofNat s.len=0 by rw [h3];rfl,uR];unfold iU;have hlt:qB 0 0=false:=rfl;rw [hlt];exact ⟨[],h,rfl,Chg.refl _ _,by simp,rfl,rfl,h2,h3,h4⟩
 | succ n ih=>
  intro M xs s h S hM t hl m;obtain ⟨M,rfl⟩:∃ m,M=m+1:=⟨M-1,by omega⟩;obtain ⟨vs,o,hb,ml⟩:=m;have hvl:=ml.len;have hol:=o.len;have hsl:s.len=xs.length:=by omega
  rw [nAj];unfold uAw;obtain ⟨out,h15,e15,Lb,cL,bL,n15,pre,rest,Sd,Sr,oo,pl,md,mr,i1,i2,dj⟩:=dZ (k:=0) (len:=xs.length) (L:=fun Q _ i H=>mAj N (f78 N M) Q s (xs.length:Int) i H) (fin:=fun _=>()) (Inv:=ZI n h S s xs)
   (fun Q i hi out H inv=>by
    obtain ⟨Lb,cL,bL,nL,pre,rest,Sd,Sr,oo,pl,md,mr,i1,i2,dj⟩:=inv;have hlt:qB (i:Int) (xs.length:Int)=true:=by rw [pE];exact decide_eq_true hi
    rw [uR];unfold iU;rw [hlt];dsimp only;rw [cond_true];rw [List.drop_eq_getElem_cons hi] at mr;obtain ⟨c,rest',S1,S2,hc,me,mr,j1,j2,dj2⟩:=mr;subst hc;obtain ⟨r,ty,pl',va,co,th,el,T0,T1,T2,hx,hcs,p⟩:=me;subst hcs;have tm:=t _ (List.getElem_mem hi);rw [hx] at tm;obtain ⟨k',a',m',nm',ty',hs',pl2,va',co',th',el',hx',t1,t2,t3,t4,hth,hel,t5,t6⟩:=tm;have ex:=hx';simp only [smT,D.t.injEq,List.cons.injEq,D.l.injEq,and_true] at ex;obtain ⟨_,_,_,_,_,_,_,_,_,eth,eel⟩:=ex;subst eth eel
    -- the block
    obtain ⟨A,ha⟩:∃ A,s.a=some (A,0):=by
     rcases oo with ⟨q1,q2,_⟩ | ⟨A,cs,st,q1,_⟩
     ·omega
     ·exact ⟨A,q1⟩
    have hbl:s.blk=some A:=by simp [SL.blk,ha]
    have hA:S A:=hb A hbl;have hsome:s.a.isSome=true:=by rw [ha];rfl
    have hil:i<s.len:=by omega
    have hcl:(smc r).length=32:=rfl;have nA:∀ C,Sd C∨S1 C∨S2 C→C≠A:=fun C hC e=>by
     subst e;rcases hC with q | q | q
     ·exact (i1 C q).2 hbl
     ·exact (i2 C (j1 C q)).2 hbl
     ·exact (i2 C (j2 C q)).2 hbl
    rw [iQ hsome hil,uB4 ha];obtain ⟨h3,e3,o3,c3,n3⟩:=OwC.set (h:=H) (s:=s) (n:=32) (vs:=pre++(smc r++rest')) oo ha (j:=i * 32+1) (by simp only [List.length_append,pl,hcl];omega) (.int .i64 0);have e3':H.store (A,0+i * 32+1) [(.int .i64 0)]=some h3:=by rw [Nat.add_assoc];exact e3
    rw [e3',dA,iQ hsome hil,uB4 ha];rw [vB4 pl (by rw [hcl];decide)] at o3;have hr0:(smc r).set 1 (.int .i64 0)=smc { r with at_:=0 }:=rfl;rw [hr0] at o3;have hk:∀ {X:Heap},OwC X s 32 (pre++(smc { r with at_:=0 }++rest'))→X.cell (A,0+i * 32+30)=some (SL.av r.th)∧X.cell (A,0+i * 32+31)=some (SL.av r.el):=fun {X} oX=>by
     constructor
     ·rw [Nat.add_assoc,OwC.cell oX ha (by simp only [List.length_append,pl];show i * 32+30<i * 32+(32+_);omega),kAt pl (show 30<32 by decide)];rfl
     ·rw [Nat.add_assoc,OwC.cell oX ha (by simp only [List.length_append,pl];show i * 32+31<i * 32+(32+_);omega),kAt pl (show 31<32 by decide)];rfl
    simp only [(hk o3).1,SL.av,fA,uA];have m3:Mt n h3 T1 r.th th:=Mt.chg n _ _ _ _ _ _ c3 (fun C hC=>by simp;exact nA C (.inr (.inl (p.i1 C hC)))) p.th;obtain ⟨L1,h7,e7,c7,b7,n7,m7⟩:=ih M th r.th h3 T1 (by omega) t5 hth m3;have e7':f78 N M ⟨r.th.a,r.th.len,r.th.cap,r.th.sz⟩ h3=some ((),h7):=e7;rw [e7',aA];have nL1:∀ C∈L1,S1 C:=fun C hC=>p.i1 C (b7 C hC);have o7:=o3.chg c7 (fun C hC hm=>by rw [hbl] at hC;cases hC;exact nA A (.inr (.inl (nL1 A hm))) rfl);rw [iQ hsome hil,uB4 ha];simp only [(hk o7).2,SL.av,fA,uA];have m7e:Mt n h7 T2 r.el el:=Mt.chg n _ _ _ _ _ _ c7 (fun C hC hm=>p.d12 C (b7 C hm) hC) (Mt.chg n _ _ _ _ _ _ c3 (fun C hC=>by simp;exact nA C (.inr (.inl (p.i2 C hC)))) p.el);obtain ⟨L2,h11,e11,c11,b11,n11,m11⟩:=ih M el r.el h7 T2 (by omega) t6 hel m7e;have e11':f78 N M ⟨r.el.a,r.el.len,r.el.cap,r.el.sz⟩ h7=some ((),h11):=e11;rw [e11',aA,iB (by omega)];have nL2:∀ C∈L2,S1 C:=fun C hC=>p.i2 C (b11 C hC);have o11:=o7.chg c11 (fun C hC hm=>by rw [hbl] at hC;cases hC;exact nA A (.inr (.inl (nL2 A hm))) rfl);have cAll:Chg (A::(L1++L2)) H h11:=((c3.mono (by simp)).trans (c7.mono (by simp +contextual))).trans (c11.mono (by simp +contextual));have off:∀ C,(Sd C∨S2 C∨T0 C)→C ∉ A::(L1++L2):=fun C hC hm=>by
     simp only [List.mem_cons,List.mem_append] at hm;have hne:C≠A:=nA C (hC.elim .inl fun q=>q.elim (fun q=>.inr (.inr q)) fun q=>.inr (.inl (p.i0 C q)));rcases hm with q | q | q
     ·exact hne q
     ·rcases hC with z | z | z
      ·exact dj C z (j1 C (nL1 C q))
      ·exact dj2 C (nL1 C q) z
      ·exact p.d01 C z (b7 C q)
     ·rcases hC with z | z | z
      ·exact dj C z (j1 C (nL2 C q))
      ·exact dj2 C (nL2 C q) z
      ·exact p.d02 C z (b11 C q)
    have q0:∀ C,T0 C→C ∉ A::(L1++L2):=fun C hC=>off C (.inr (.inr hC));have me':Me (Mt n) h11 S1 (smc { r with at_:=0 }) (nK (n+1) xs[i]):=by
     rw [hx,mU];exact ⟨{ r with at_:=0 },ty,pl',va,co,th.map (nK n),el.map (nK n),T0,T1,T2,rfl,rfl,⟨Dt.chg cAll q0 p.ty,Dt.chg cAll q0 p.pl,Dt.chg cAll q0 p.va,Dt.chg cAll q0 p.co,Mt.chg n _ _ _ _ _ _ c11 (fun C hC hm=>p.d12 C hC (b11 C hm)) m7,m11,p.i0,p.i1,p.i2,p.d01,p.d02,p.d12⟩⟩
    have md':=(md.chg (Mt.chg n) cAll (fun C hC=>off C (.inl hC))).snoc (Mt.weak n) me' (fun C a b=>dj C a (j1 C b));have mr':=mr.chg (Mt.chg n) cAll (fun C hC=>off C (.inr (.inl hC)));refine ⟨out,h11,rfl,Lb++(A::(L1++L2)),(cL.mono (by simp +contextual)).trans (cAll.mono (fun C hC=>List.mem_append_right _ hC)),fun C hC=>?_,by omega,pre++smc { r with at_:=0 },rest',fun C=>Sd C∨S1 C,S2,by rw [List.append_assoc];exact o11,by rw [List.length_append,pl];show i * 32+32=_;omega,?_,mr',fun C hC=>hC.elim (i1 C) (fun q=>i2 C (j1 C q)),fun C hC=>i2 C (j2 C hC),fun C a b=>a.elim (fun q=>dj C q (j2 C b)) (fun q=>dj2 C q b)⟩
    ·rcases List.mem_append.1 hC with q | q
     ·exact bL C q
     ·simp only [List.mem_cons,List.mem_append] at q
      rcases q with q | q | q
      ·rw [q];exact hA
      ·exact (i2 C (j1 C (nL1 C q))).1
      ·exact (i2 C (j1 C (nL2 C q))).1
    ·rw [List.take_succ_eq_append_getElem hi,List.map_append];exact md')
   (fun Q out H=>by
    rw [uR];unfold iU;rw [pE,decide_eq_false (by omega)];rfl) N 0 sl0 h (Nat.zero_le _) (by omega) ⟨[],Chg.refl _ _,by simp,rfl,[],vs,fun _=>False,fun C=>S C∧s.blk≠some C,o,by simp,rfl,ml,fun C hC=>hC.elim,fun C hC=>hC,fun C hC=>hC.elim⟩
  rw [show ((0:Nat):Int)=0 from rfl] at e15;rw [show Int.ofNat s.len=(xs.length:Int) by rw [hsl];rfl,e15,pB];rw [List.drop_length] at mr;rw [show rest=[] from mr,List.append_nil] at oo;rw [List.take_length] at md;exact ⟨Lb,h15,rfl,cL,bL,n15,pre,oo,hb,md.weak (Mt.weak n) (fun C hC _=>i1 C hC)⟩
end
end Qp
namespace Qp
section
variable {N:Nat} {h:Heap} {V:Nat→Prop}
theorem WR.btw {h0 H H':Heap} {cs1 cs2:List AV} (w:WR h0 H cs1 cs2) {d:D} {cs:List AV} (x:Dt H' (Fr0 H) d cs):Dt H' (fun C=>h0.next+1<C∧C<H'.next) d cs:=Dt.weak (fun C hC hl=>⟨by have:H.next≤C:=hC;have:=w.nx;omega,hl⟩) x
theorem WR.btwS {h0 H H':Heap} {cs1 cs2:List AV} (w:WR h0 H cs1 cs2) {s:SL} {xs:List D} (x:Sl H' (Fr0 H) s xs):Sl H' (fun C=>h0.next+1<C∧C<H'.next) s xs:=x.weak (fun C hC hl=>⟨by have:H.next≤C:=hC;have:=w.nx;omega,hl⟩)
theorem lAt (hN:3001≤N) {lv:List D} (t:∀ l∈lv,isLf l) (hl:lv.length≤3000) {s:SL} (x:Sl h V s lv) (v1 v2:zO2):∃ v h',fA5 N N v1 v2 sl0 s (lv.length:Int) 0 h=some (.exit 0,(v1,v2,v,()),h')∧Chg [] h h'∧Sl h' (Fr0 h) v lv:=by
 obtain ⟨out,h17,e17,w17,c17⟩:=qA8 (h0:=h) (n:=2) (k:=0) (xs:=lv) (L:=fun Q out i H=>fA5 N Q v1 v2 out s (lv.length:Int) i H) (fin:=fun out=>(v1,v2,out,()))
  (fun Q i hi out H ho hc=>by
   have hlt:qB (i:Int) (lv.length:Int)=true:=by rw [pE];exact decide_eq_true hi
   rw [gA2];unfold yY;rw [hlt]
   try dsimp only
   rw [cond_true];have zH:=x.chg hc (by simp);have tm:=t _ (List.getElem_mem hi);obtain ⟨q,g,d⟩:=mA3.elt zH hi tm;rw [zH.ix hi 2,g,cAn];obtain ⟨nm,xs,hf,hx⟩:=tm;rw [hf] at d;obtain ⟨s1,hc1,y⟩:=vA2 d;have e:=mA3.inj hc1;subst e;obtain ⟨Ha,pa,ca,oa⟩:=mA3.park (z:=lfc lf0) rfl H (nm,s1,());have pa':∀ {β:Type} (K:Heap→Option β),rA ((H.push (.row [(.str []),(.slice none 0 0 0)] .own)).store (H.next,0) [(.str nm),(.slice s1.a s1.len s1.cap s1.sz)]) K=K Ha:=pa
   try dsimp only
   rw [pa'];have k0:Ha.cell (H.next,0)=some (.str nm):=oa.cell 0;have k1:Ha.cell (H.next,1)=some (SL.av s1):=oa.cell 1;simp only [Nat.zero_add,k0,k1,SL.av,fA,uA,rB];obtain ⟨v,Hb,eb,cb,sv⟩:=wA2 (N:=N) (y.chg ca (by simp)) (by omega);have eb':f115 N ⟨s1.a,s1.len,s1.cap,s1.sz⟩ Ha=some (v,Hb):=eb;rw [eb',aA];have ob:=oa.chg cb (by simp);have k2:Hb.cell (H.next,0)=some (.str nm):=ob.cell 0;obtain ⟨s',h',ea,oa',ca'⟩:=wAj kBa (by decide) hi ho hc (ca.trans cb) (cs:=lfc (nm,v,())) (by rw [hf];exact vV (sv.weak (fun C hC _=>by have:Ha.next≤C:=hC;have:=ca.next;show H.next≤C;omega))) rfl (by omega);have ea':∀ {β:Type} (K:SL→Heap→Option β),tD (.val zQ2) (fB E 36 36 (.slice out.a out.len out.cap out.sz) (.slice (some (Hb.next,0)) 1 1 2) (Hb.push (.row [(.str nm),(.slice v.a v.len v.cap v.sz)] .own))) K=K s' h':=ea;rw [ea',iB (by omega)];have q1:mB (some (SL.av s1)) (SL.av s1)=true:=cD _;simp only [SL.av] at q1;simp only [k2,cD,q1,cond_true,mC];exact ⟨s',h',rfl,oa',ca'⟩)
  (fun Q out H=>by
   rw [gA2];unfold yY;rw [pE,decide_eq_false (by omega)];rfl) N 0 sl0 h (Nat.zero_le _) (by omega) (OwV.nil _ _ _ _) (Chg.refl _ _)
 exact ⟨out,h17,e17,c17,w17.sl⟩
theorem aBc (hN:3001≤N) {pub:Bool} {nm:Bs} {lv ps bd:List D} {ty:D} {a:Int} (tl:∀ l∈lv,isLf l) (h1:lv.length≤1000) (tp:∀ p∈ps,isFd p) (h2':ps.length≤1000) (tt:uA4 65 ty) (tb:∀ s∈bd,isSm 65 s) (h3:bd.length≤3000) {s1 s2 s3:SL} {r:TyV}
  (y1:Sl h V s1 lv) (y2:Sl h V s2 ps) (yt:Dt h V ty (tyc r)) (y3:Sl h V s3 bd):∃ s1' s2' r' s3' B h',f77 N (fuv ⟨pub,nm,s1,s2,r,s3,a⟩) h=some (fuv ⟨pub,nm,s1',s2',r',s3',a⟩,h')∧Chg [] h h'∧h.next≤B∧Sl h' (fun C=>h.next≤C∧C<B) s1' lv∧Sl h' (fun C=>h.next≤C∧C<B) s2' ps∧Dt h' (fun C=>h.next≤C∧C<B) ty (tyc r')∧Mt 65 h' (fun C=>B≤C∧C<h'.next) s3' bd:=by
 unfold f77;obtain ⟨h2,e2,n2,w⟩:=fAt h [(.bool pub),(.str nm),(.slice s1.a s1.len s1.cap s1.sz),(.slice s2.a s2.len s2.cap s2.sz),(.int .i64 r.1),(.str r.2.1),(.slice r.2.2.1.a r.2.2.1.len r.2.2.1.cap r.2.2.1.sz),(.slice r.2.2.2.1.a r.2.2.2.1.len r.2.2.2.1.cap r.2.2.2.1.sz),(.slice s3.a s3.len s3.cap s3.sz),(.int .i64 a)] [(.bool false),(.str []),(.slice none 0 0 0),(.slice none 0 0 0),(.int .i64 0),(.str []),(.slice none 0 0 0),(.slice none 0 0 0),(.slice none 0 0 0),(.int .i64 0)];have w:WR h h2 (fuc ⟨pub,nm,s1,s2,r,s3,a⟩) (fux (fuv (fJ false [] 0))):=w;dsimp only [fuv];rw [e2,n2];have k2:h2.cell (h.next,2)=some (SL.av s1):=w.o1.cell 2;simp only [Nat.zero_add,k2,SL.av,fA,uA];have z1:=y1.chg w.c (by simp);obtain ⟨u1,h19,e19,c19,x1⟩:=lAt hN tl (by omega) z1 (some (h.next,0)) (some (h.next+1,0));show ∃ s1' s2' r' s3' B h',(pD (fA5 N N (some (h.next,0)) (some (h.next+1,0)) sl0 s1 (Int.ofNat s1.len) 0 h2) _)=_∧_;rw [show Int.ofNat s1.len=(lv.length:Int) by rw [z1.len];rfl,e19,pB];simp only [dA,Nat.zero_add];have x1:=w.btwS x1;obtain ⟨h21,p21,w21,c21⟩:=(w.call c19).set (j:=2) (vs:=[(.slice u1.a u1.len u1.cap u1.sz)]) (show 2+1≤10 by decide) (ds:=fuc ⟨pub,nm,u1,s2,r,s3,a⟩) rfl;rw [p21];have k3:h21.cell (h.next,3)=some (SL.av s2):=w21.o1.cell 3;simp only [k3,SL.av,fA,uA];obtain ⟨u2,h25,e25,c25,x2⟩:=gAt hN tp (by omega) (y2.chg w21.c (by simp));have e25':f116 N ⟨s2.a,s2.len,s2.cap,s2.sz⟩ h21=some (u2,h25):=e25;rw [e25',aA];have x2:=w21.btwS x2;obtain ⟨h27,p27,w27,c27⟩:=(w21.call c25).set (j:=3) (vs:=[(.slice u2.a u2.len u2.cap u2.sz)]) (show 3+1≤10 by decide) (ds:=fuc ⟨pub,nm,u1,u2,r,s3,a⟩) rfl;rw [p27];have k4:h27.cells (h.next,4) 4=some (.agg (tyc r)):=w27.o1.cells (j:=4) (m:=4) (show 4+4≤10 by decide);rw [k4,iAl];obtain ⟨r',h31,e31,c31,xt⟩:=mAg hN 65 N ty r h27 V (by omega) tt (Dt.chg w27.c (by simp) yt);have e31':f117 N N (r.1,r.2.1,r.2.2.1,r.2.2.2.1,()) h27=some (r',h31):=e31;rw [e31',aA];have xt:=w27.btw xt;obtain ⟨h33,p33,w33,c33⟩:=(w27.call c31).set (j:=4) (vs:=[(.int .i64 r'.1),(.str r'.2.1),(.slice r'.2.2.1.a r'.2.2.1.len r'.2.2.1.cap r'.2.2.1.sz),(.slice r'.2.2.2.1.a r'.2.2.2.1.len r'.2.2.2.1.cap r'.2.2.2.1.sz)]) (show 4+4≤10 by decide) (ds:=fuc ⟨pub,nm,u1,u2,r',s3,a⟩) rfl;rw [p33];have k8:h33.cell (h.next,8)=some (SL.av s3):=w33.o1.cell 8;simp only [k8,SL.av,fA,uA];obtain ⟨u3,h37,e37,c37,x3⟩:=tB4 hN 65 N bd s3 h33 V (by omega) tb h3 (y3.chg w33.c (by simp));have e37':f118 N N ⟨s3.a,s3.len,s3.cap,s3.sz⟩ h33=some (u3,h37):=e37;rw [e37',aA];obtain ⟨h39,p39,w39,c39⟩:=(w33.call c37).set (j:=8) (vs:=[(.slice u3.a u3.len u3.cap u3.sz)]) (show 8+1≤10 by decide) (ds:=fux (fuv ⟨pub,nm,u1,u2,r',u3,a⟩)) rfl;rw [p39];obtain ⟨h42,p42,c42,c042⟩:=WR.fin kAg (r0:=fuv (fJ false [] 0)) w39
 -- which blocks are whose
 have n19:=c19.next;have n21:=c21.next;have n25:=c25.next;have n27:=c27.next;have n31:=c31.next;have n33:=c33.next;have n37:=c37.next;have n39:=c39.next;have n42:=c42.next;have nx:=w33.nx;have z:∀ A,h.next+1<A→A ∉ [h.next]∧A ∉ [h.next+1]:=fun A hA=>by simp;omega
 have sub:∀ C,h.next+1<C∧C<h33.next→h.next≤C∧C<h33.next:=fun C hC=>⟨by omega,hC.2⟩;have x1:=((((((((x1.chg c21 (fun A hA=>(z A hA.1).1)).chg c25 (by simp)).chg c27 (fun A hA=>(z A hA.1).1)).chg c31 (by simp)).chg c33 (fun A hA=>(z A hA.1).1)).chg c37 (by simp)).chg c39 (fun A hA=>(z A hA.1).1)).chg c42 (fun A hA=>(z A hA.1).2)).weak (W:=fun C=>h.next≤C∧C<h33.next) (fun C hC _=>by omega);have x2:=((((((x2.chg c27 (fun A hA=>(z A hA.1).1)).chg c31 (by simp)).chg c33 (fun A hA=>(z A hA.1).1)).chg c37 (by simp)).chg c39 (fun A hA=>(z A hA.1).1)).chg c42 (fun A hA=>(z A hA.1).2)).weak (W:=fun C=>h.next≤C∧C<h33.next) (fun C hC _=>by omega);have xt:=Dt.weak (W:=fun C=>h.next≤C∧C<h33.next) (fun C hC _=>by omega) (Dt.chg c42 (fun A hA=>(z A hA.1).2) (Dt.chg c39 (fun A hA=>(z A hA.1).1) (Dt.chg c37 (by simp) (Dt.chg c33 (fun A hA=>(z A hA.1).1) xt))));have x3:Mt 65 h42 (fun C=>h33.next≤C∧C<h37.next) u3 bd:=Mt.chg 65 _ _ _ _ _ _ c42 (fun A hA=>(z A (by omega)).2) (Mt.chg 65 _ _ _ _ _ _ c39 (fun A hA=>(z A (by omega)).1) (Mt.weak 65 _ _ _ _ _ (fun C hC hl=>⟨hC,hl⟩) x3));exact ⟨u1,u2,r',u3,h33.next,h42,p42 (fun y h'=>some (y,h')),c042,by omega,x1,x2,xt,Mt.weak 65 _ _ _ _ _ (fun C hC hl=>⟨hC.1,hl⟩) x3⟩
end
end Qp
namespace Qp
def iK:D→D
 | .t [p,n,l,f,_]=>.t [p,n,l,f,.i 0]
 | d=>d
def bareFu:D→D
 | .t [p,n,l,ps,ty,.l bd,_]=>.t [p,n,l,ps,ty,.l (bd.map (nK 65)),.i 0]
 | d=>d
theorem bBc {h:Heap} {V:Nat→Prop} {pub:Bool} {nm:Bs} {lv ps bd:List D} {ty:D} {a:Int} {s1 s2 s3:SL} {r:TyV} (y1:Sl h V s1 lv) (y2:Sl h V s2 ps) (yt:Dt h V ty (tyc r)) (y3:Sl h V s3 bd):Dt h V (fuT pub nm lv ps ty bd a) (fuc ⟨pub,nm,s1,s2,r,s3,a⟩):=
 pAu ⟨[.bool pub],_,rfl,fAz _ _ _,[.str nm],_,rfl,qJ _ _ _,[SL.av s1],_,rfl,qL.2 y1,[SL.av s2],_,rfl,qL.2 y2,tyc r,_,rfl,yt,[SL.av s3],_,rfl,qL.2 y3,[.int .i64 a],[],rfl,wAi _ _ _,rfl⟩
section
variable {N:Nat} {h3:Heap} {V:Nat→Prop} {R:Nat}
theorem gAc (hN:3001≤N) {xs:List D} (t:∀ x∈xs,isSt x) (hl:xs.length≤3000) {s:SL} (x:Sl h3 V s xs) (hV:∀ A,V A→A≠R) (hR:R<h3.next) (o0:h3.own R [SL.av sl0,SL.av sl0]) (v1 v2:zO2) :
  ∃ out h',jA5 N N v1 v2 (some (R,0)) s (xs.length:Int) 0 h3=some (.exit 0,(v1,v2,some (R,0),()),h')∧Chg [R] h3 h'∧h'.own R [SL.av out,SL.av sl0]∧OwV (Fr0 h3) h' out 5 (xs.map iK):=by
 obtain ⟨_,h',e,out,c,o,w⟩:=dZ (k:=0) (len:=xs.length) (L:=fun Q _ i H=>jA5 N Q v1 v2 (some (R,0)) s (xs.length:Int) i H) (fin:=fun _=>(v1,v2,some (R,0),())) (Inv:=fun i _ H=>∃ out,Chg [R] h3 H∧H.own R [SL.av out,SL.av sl0]∧OwV (Fr0 h3) H out 5 ((xs.take i).map iK))
  (fun Q i hi dummy H inv=>by
   obtain ⟨out,c0,oR,ow⟩:=inv;have hlt:qB (i:Int) (xs.length:Int)=true:=by rw [pE];exact decide_eq_true hi
   rw [jA2];unfold bZ;rw [hlt]
   try dsimp only
   rw [cond_true];have zH:=x.chg c0 (fun A hA=>by simp;exact hV A hA);have tm:=t _ (List.getElem_mem hi);obtain ⟨q,g,d⟩:=nA8.elt zH hi tm;rw [zH.ix hi 5,g,aBg];have tm':=tm;obtain ⟨pub,nm,lv,fs,a,hx,hlv,hfs,tf⟩:=tm;have d0:=d;rw [hx] at d;obtain ⟨l1,g1,hc1,_⟩:=mA5 d;have e:=nA8.inj hc1;subst e;obtain ⟨Ha,pa,ca,oa⟩:=nA8.park (z:=stc st0) rfl H (pub,nm,l1,g1,a,());have pa':∀ {β:Type} (K:Heap→Option β),rA ((H.push (.row [(.bool false),(.str []),(.slice none 0 0 0),(.slice none 0 0 0),(.int .i64 0)] .own)).store (H.next,0) [(.bool pub),(.str nm),(.slice l1.a l1.len l1.cap l1.sz),(.slice g1.a g1.len g1.cap g1.sz),(.int .i64 a)]) K=K Ha:=pa
   try dsimp only
   rw [pa',rAb oa];obtain ⟨r',Hb,eb,cb,db⟩:=vBb hN tm' (Dt.chg ca (by simp) d0);rw [hx] at db;obtain ⟨u1,u2,hc2,y1,y2⟩:=mA5 db;have e:=nA8.inj hc2;subst e;have eb':f76 N (pub,nm,l1,g1,a,()) Ha=some ((pub,nm,u1,u2,a,()),Hb):=eb
   try dsimp only
   rw [eb',aA];have w:W1 H Hb (stc (pub,nm,l1,g1,a,())):=(⟨oa,ca,oa.2⟩:W1 H Ha _).call cb;obtain ⟨Hc,pc,wc,cc,nc⟩:=w.set (j:=0) (vs:=[(.bool pub),(.str nm),(.slice u1.a u1.len u1.cap u1.sz),(.slice u2.a u2.len u2.cap u2.sz),(.int .i64 a)]) (show 0+5≤5 by decide) (ds:=stc (pub,nm,u1,u2,a,())) rfl
   try dsimp only
   rw [pc];obtain ⟨Hd,pd,wd,cd,nd⟩:=wc.set (j:=4) (vs:=[(.int .i64 0)]) (show 4+1≤5 by decide) (ds:=stc (pub,nm,u1,u2,0,())) rfl;simp only [Nat.zero_add];rw [pd];have hne:R≠H.next:=by have:=oR.2;omega
   have oRd:=oR.chg wd.c (by simp);have kR:Hd.cell (R,0)=some (SL.av out):=oRd.cell 0;simp only [dA,Nat.add_zero,Nat.zero_add,kR,SL.av,fA,uA];rw [rAb wd.o];have nHa:=ca.next;have dd:Dt Hd (fun C=>Fr0 h3 C∧out.blk≠some C) (iAw pub nm lv fs 0) (stc (pub,nm,u1,u2,0,())):=by
    have z:∀ A,Fr0 Ha A→A ∉ [H.next]:=fun A hA=>by have:Ha.next≤A:=hA;have:=oa.2;simp;omega
    have z2:∀ C,Fr0 Ha C→C<Hd.next→Fr0 h3 C∧out.blk≠some C:=fun C hC _=>⟨by have:Ha.next≤C:=hC;have:=c0.next;have:=ca.next;show h3.next≤C;omega,fun hb=>by have:=(ow.ge C hb).2;have:Ha.next≤C:=hC;have:=ca.next;omega⟩;exact qA7 (((y1.chg cc z).chg cd z).weak z2) (((y2.chg cc z).chg cd z).weak z2)
   obtain ⟨out',h20,ea,ow',ca',hb'⟩:=aI pBa (by decide) (ow.chg wd.c (by simp)) dd rfl (fun A hA=>by have:Hd.next≤A:=hA;have:=c0.next;have:=wd.c.next;show h3.next≤A;omega) (by rw [List.length_map,List.length_take,Nat.min_eq_left (by omega)];omega);have ea':fB E 22 22 (.slice out.a out.len out.cap out.sz) (.slice (some (Hd.next,0)) 1 1 5) (Hd.push (.row [(.bool pub),(.str nm),(.slice u1.a u1.len u1.cap u1.sz),(.slice u2.a u2.len u2.cap u2.sz),(.int .i64 0)] .own))=some (.slice out'.a out'.len out'.cap out'.sz,h20):=ea;rw [ea'];have oR20:=oRd.chg ca' (fun hm=>by
    have hbl:out.blk=some R:=by simpa using hm
    have:h3.next≤R:=(ow.ge R hbl).1
    omega)
   have hst:h20.store (R,0) [(.slice out'.a out'.len out'.cap out'.sz)]=some (h20.put R (.row [SL.av out',SL.av sl0] .own)):=yR oR20 (show 0+1≤2 by decide) rfl;dsimp only [tD,Ty.cast,VTy.cast,CTy.cast];rw [hst,dA,iB (by omega)];have cp:=oR20.put [SL.av out',SL.av sl0];refine ⟨dummy,_,rfl,out',((c0.trans (wd.c.mono (by simp))).step ca' (fun A hA hlt=>?_)).trans cp,yA oR20 _,?_⟩
   ·have hbl:out.blk=some A:=by simpa using hA
    have:h3.next≤A:=(ow.ge A hbl).1
    omega
   ·rw [List.take_succ_eq_append_getElem hi,List.map_append,hx]
    exact ow'.chg cp (fun A hA _=>by have:h3.next≤A:=hA;simp;omega))
  (fun Q out H=>by
   rw [jA2];unfold bZ;rw [pE,decide_eq_false (by omega)];rfl) N 0 sl0 h3 (Nat.zero_le _) (by omega) ⟨sl0,Chg.refl _ _,o0,OwV.nil _ _ _ _⟩
 rw [show ((0:Nat):Int)=0 from rfl] at e;rw [List.take_length] at w;exact ⟨out,h',e,c,o,w⟩
theorem yAm (hN:3001≤N) {xs:List D} (t:∀ x∈xs,isFu x) (hl:xs.length≤3000) {s:SL} (x:Sl h3 V s xs) (hV:∀ A,V A→A≠R) (hR:R<h3.next) {sx:SL} (o0:h3.own R [SL.av sx,SL.av sl0]) (v2:zO2) :
  ∃ out h',iA5 N N v2 (some (R,0)) s (xs.length:Int) 0 h3=some (.exit 2,(v2,some (R,0),()),h')∧Chg [R] h3 h'∧h'.own R [SL.av sx,SL.av out]∧OwV (Fr0 h3) h' out 10 (xs.map bareFu):=by
 obtain ⟨_,h',e,out,c,o,w⟩:=dZ (k:=2) (len:=xs.length) (L:=fun Q _ i H=>iA5 N Q v2 (some (R,0)) s (xs.length:Int) i H) (fin:=fun _=>(v2,some (R,0),())) (Inv:=fun i _ H=>∃ out,Chg [R] h3 H∧H.own R [SL.av sx,SL.av out]∧OwV (Fr0 h3) H out 10 ((xs.take i).map bareFu))
  (fun Q i hi dummy H inv=>by
   obtain ⟨out,c0,oR,ow⟩:=inv;have hlt:qB (i:Int) (xs.length:Int)=true:=by rw [pE];exact decide_eq_true hi
   rw [iA2];unfold aZ;rw [hlt]
   try dsimp only
   rw [cond_true];have zH:=x.chg c0 (fun A hA=>by simp;exact hV A hA);have tm:=t _ (List.getElem_mem hi);obtain ⟨q,g,d⟩:=kAg.elt zH hi tm;rw [zH.ix hi 10,g,fBg];obtain ⟨pub,nm,lv,ps,ty,bd,a,hx,hlv,tl,hps,tp,tt,hbd,tb⟩:=tm;rw [hx] at d;obtain ⟨s1,s2,s3,r,hc1,y1,y2,yt,y3⟩:=fAc tt d;have e:=kAg.inj hc1;subst e;obtain ⟨Ha,pa,ca,oa⟩:=kAg.park (z:=fux (fuv (fJ false [] 0))) rfl H (fuv ⟨pub,nm,s1,s2,r,s3,a⟩);have pa':∀ {β:Type} (K:Heap→Option β),rA ((H.push (.row [(.bool false),(.str []),(.slice none 0 0 0),(.slice none 0 0 0),(.int .i64 0),(.str []),(.slice none 0 0 0),(.slice none 0 0 0),(.slice none 0 0 0),(.int .i64 0)] .own)).store (H.next,0) [(.bool pub),(.str nm),(.slice s1.a s1.len s1.cap s1.sz),(.slice s2.a s2.len s2.cap s2.sz),(.int .i64 r.1),(.str r.2.1),(.slice r.2.2.1.a r.2.2.1.len r.2.2.1.cap r.2.2.1.sz),(.slice r.2.2.2.1.a r.2.2.2.1.len r.2.2.2.1.cap r.2.2.2.1.sz),(.slice s3.a s3.len s3.cap s3.sz),(.int .i64 a)]) K=K Ha:=pa;dsimp only [fuv];rw [pa',dAj oa];have zz:∀ A,V A→A ∉ ([]:List Nat):=by simp
   obtain ⟨u1,u2,r',u3,B,Hb,eb,cb,hB,x1,x2,xt,x3⟩:=aBc hN tl hlv tp hps tt tb hbd (y1.chg ca zz) (y2.chg ca zz) (Dt.chg ca zz yt) (y3.chg ca zz) (pub:=pub) (nm:=nm) (a:=a);have eb':f77 N (pub,nm,s1,s2,r.1,r.2.1,r.2.2.1,r.2.2.2.1,s3,a,()) Ha=some (fuv ⟨pub,nm,u1,u2,r',u3,a⟩,Hb):=eb;dsimp only [fuv];rw [eb',aA];have w:W1 H Hb (fuc ⟨pub,nm,s1,s2,r,s3,a⟩):=(⟨oa,ca,oa.2⟩:W1 H Ha _).call cb;obtain ⟨Hc,pc,wc,cc,nc⟩:=w.set (j:=0) (vs:=[(.bool pub),(.str nm),(.slice u1.a u1.len u1.cap u1.sz),(.slice u2.a u2.len u2.cap u2.sz),(.int .i64 r'.1),(.str r'.2.1),(.slice r'.2.2.1.a r'.2.2.1.len r'.2.2.1.cap r'.2.2.1.sz),(.slice r'.2.2.2.1.a r'.2.2.2.1.len r'.2.2.2.1.cap r'.2.2.2.1.sz),(.slice u3.a u3.len u3.cap u3.sz),(.int .i64 a)]) (show 0+10≤10 by decide) (ds:=fuc ⟨pub,nm,u1,u2,r',u3,a⟩) rfl;dsimp only [fuv];rw [pc];obtain ⟨Hd,pd,wd,cd,nd⟩:=wc.set (j:=9) (vs:=[(.int .i64 0)]) (show 9+1≤10 by decide) (ds:=fuc ⟨pub,nm,u1,u2,r',u3,0⟩) rfl;simp only [Nat.zero_add];rw [pd];have k8:Hd.cell (H.next,8)=some (SL.av u3):=wd.o.cell 8;simp only [k8,SL.av,fA,uA];have na:=oa.2;have nHa:=ca.next;have z:∀ A,Ha.next≤A→A ∉ [H.next]:=fun A hA=>by simp;omega
   have x3:=Mt.chg 65 _ _ _ _ _ _ cd (fun A hA=>z A (by omega)) (Mt.chg 65 _ _ _ _ _ _ cc (fun A hA=>z A (by omega)) x3);obtain ⟨L,He,ee,ce,bL,ne,x3⟩:=yBb hN 65 N bd u3 Hd _ (by omega) tb hbd x3;have ee':f78 N N ⟨u3.a,u3.len,u3.cap,u3.sz⟩ Hd=some ((),He):=ee;rw [ee',aA];have cHe:Chg L H He:=(wd.c.mono (by simp)).trans ce;have nR:=oR.2;have lowL:∀ A,A<Ha.next→A ∉ L:=fun A hA hm=>by have:=bL A hm;omega
   have oRd:=oR.chg cHe (lowL R (by omega));have oP:He.own H.next (fux (fuv ⟨pub,nm,u1,u2,r',u3,0⟩)):=wd.o.chg ce (lowL _ (by omega));have kR:He.cell (R,1)=some (SL.av out):=oRd.cell 1;simp only [dA,Nat.zero_add,kR,SL.av,fA,uA];rw [dAj oP];have dd:Dt He (fun C=>Fr0 h3 C∧out.blk≠some C) (fuT pub nm lv ps ty (bd.map (nK 65)) 0) (fuc ⟨pub,nm,u1,u2,r',u3,0⟩):=by
    have q1:∀ C,Ha.next≤C→Fr0 h3 C∧out.blk≠some C:=fun C hC=>⟨by have:=c0.next;show h3.next≤C;omega,fun hb=>by have:=(ow.ge C hb).2;omega⟩;have q2:∀ A,Ha.next≤A∧A<B→A ∉ L:=fun A hA hm=>by have:=bL A hm;omega
    have zz:∀ A,Ha.next≤A∧A<B→A ∉ [H.next]:=fun A hA=>z A hA.1;exact bBc (((x1.chg cc zz).chg cd zz).chg ce q2 |>.weak fun C hC _=>q1 C hC.1) (((x2.chg cc zz).chg cd zz).chg ce q2 |>.weak fun C hC _=>q1 C hC.1) (Dt.weak (fun C hC _=>q1 C hC.1) (Dt.chg ce q2 (Dt.chg cd zz (Dt.chg cc zz xt)))) ((Mt.sl 65 x3).weak fun C hC _=>q1 C (by omega))
   have nHe:=cHe.next;obtain ⟨out',h20,ea,ow',ca',hb'⟩:=aI qBa (by decide) (ow.chg cHe (fun A _ hA=>lowL A (by omega))) dd rfl (fun A hA=>by have:He.next≤A:=hA;have:=c0.next;show h3.next≤A;omega) (by rw [List.length_map,List.length_take,Nat.min_eq_left (by omega)];omega);have ea':fB E 23 23 (.slice out.a out.len out.cap out.sz) (.slice (some (He.next,0)) 1 1 10) (He.push (.row [(.bool pub),(.str nm),(.slice u1.a u1.len u1.cap u1.sz),(.slice u2.a u2.len u2.cap u2.sz),(.int .i64 r'.1),(.str r'.2.1),(.slice r'.2.2.1.a r'.2.2.1.len r'.2.2.1.cap r'.2.2.1.sz),(.slice r'.2.2.2.1.a r'.2.2.2.1.len r'.2.2.2.1.cap r'.2.2.2.1.sz),(.slice u3.a u3.len u3.cap u3.sz),(.int .i64 0)] .own))=some (.slice out'.a out'.len out'.cap out'.sz,h20):=ea;dsimp only [fuv];rw [ea'];have oR20:=oRd.chg ca' (fun hm=>by
    have hbl:out.blk=some R:=by simpa using hm
    have:h3.next≤R:=(ow.ge R hbl).1
    omega)
   have hst:h20.store (R,1) [(.slice out'.a out'.len out'.cap out'.sz)]=some (h20.put R (.row [SL.av sx,SL.av out'] .own)):=yR oR20 (show 1+1≤2 by decide) rfl;dsimp only [tD,Ty.cast,VTy.cast,CTy.cast];rw [hst,dA,iB (by omega)];have cp:=oR20.put [SL.av sx,SL.av out'];have c1:Chg [R] h3 He:=c0.step cHe (fun A hA hlt=>by have:=bL A hA;have:=c0.next;omega);refine ⟨dummy,_,rfl,out',(c1.step ca' (fun A hA hlt=>?_)).trans cp,yA oR20 _,?_⟩
   ·have hbl:out.blk=some A:=by simpa using hA
    have:h3.next≤A:=(ow.ge A hbl).1
    omega
   ·rw [List.take_succ_eq_append_getElem hi,List.map_append,hx]
    exact ow'.chg cp (fun A hA _=>by have:h3.next≤A:=hA;simp;omega))
  (fun Q out H=>by
   rw [iA2];unfold aZ;rw [pE,decide_eq_false (by omega)];rfl) N 0 sl0 h3 (Nat.zero_le _) (by omega) ⟨sl0,Chg.refl _ _,o0,OwV.nil _ _ _ _⟩
 rw [show ((0:Nat):Int)=0 from rfl] at e;rw [List.take_length] at w;exact ⟨out,h',e,c,o,w⟩
end
theorem lAz {N:Nat} (hN:3001≤N) {h:Heap} {V:Nat→Prop} {xs ys:List D} (tx:∀ o∈xs,isSt o) (ty:∀ o∈ys,isFu o) (lx:xs.length≤3000) (ly:ys.length≤3000) {x y:SL} (sx:Sl h V x xs) (sy:Sl h V y ys) :
  ∃ x' y' h',f31 N (x,y,()) h=some ((x',y',()),h')∧Chg [] h h'∧Sl h' (Fr0 h) x' (xs.map iK)∧Sl h' (Fr0 h) y' (ys.map bareFu):=by
 unfold f31
 try dsimp only
 have o0:=vA h [SL.av x,SL.av y];have c0:=qA h (.row [SL.av x,SL.av y] .own);have n0:(h.push (.row [SL.av x,SL.av y] .own)).next=h.next+1:=rfl;have e0:h.push (.row [(.slice x.a x.len x.cap x.sz),(.slice y.a y.len y.cap y.sz)] .own)=h.push (.row [SL.av x,SL.av y] .own):=rfl;rw [e0];generalize h.push (.row [SL.av x,SL.av y] .own)=h1 at *;have o1:=vA h1 [SL.av sl0,SL.av sl0];have c1:=qA h1 (.row [SL.av sl0,SL.av sl0] .own);have n1:(h1.push (.row [SL.av sl0,SL.av sl0] .own)).next=h1.next+1:=rfl;have e1:h1.push (.row [(.slice none 0 0 0),(.slice none 0 0 0)] .own)=h1.push (.row [SL.av sl0,SL.av sl0] .own):=rfl;rw [e1];have o0:=o0.chg c1 (by simp);have c01:=c0.trans c1;generalize h1.push (.row [SL.av sl0,SL.av sl0] .own)=h2 at *;have o2:=vA h2 [SL.av sl0,SL.av sl0];have c2:=qA h2 (.row [SL.av sl0,SL.av sl0] .own);have n2:(h2.push (.row [SL.av sl0,SL.av sl0] .own)).next=h2.next+1:=rfl;have e2:h2.push (.row [(.slice none 0 0 0),(.slice none 0 0 0)] .own)=h2.push (.row [SL.av sl0,SL.av sl0] .own):=rfl;rw [e2];have o0:=o0.chg c2 (by simp);have o1:=o1.chg c2 (by simp);have c02:=c01.trans c2;generalize h2.push (.row [SL.av sl0,SL.av sl0] .own)=h3 at *;have k0:h3.cell (h.next,0)=some (SL.av x):=o0.cell 0;simp only [Nat.zero_add,k0,SL.av,fA,uA];have sx3:=(sx.weak (W:=fun A=>A<h.next) (fun A _ hA=>hA)).chg c02 (by simp);have sy3:=(sy.weak (W:=fun A=>A<h.next) (fun A _ hA=>hA)).chg c02 (by simp);obtain ⟨u,h26,e26,c26,o26,w26⟩:=gAc (R:=h2.next) hN tx lx sx3 (fun A hA=>by omega) (by omega) o2 (some (h.next,0)) (some (h1.next,0));show ∃ x' y' h',(pD (jA5 N N (some (h.next,0)) (some (h1.next,0)) (some (h2.next,0)) x (Int.ofNat x.len) 0 h3) _)=_∧_;rw [show Int.ofNat x.len=(xs.length:Int) by rw [sx.len];rfl,e26,pB];have o0:=o0.chg c26 (by simp;omega);have o1:=o1.chg c26 (by simp;omega);have k1:h26.cell (h.next,1)=some (SL.av y):=o0.cell 1;simp only [dA,Nat.zero_add,k1,SL.av,fA,uA];have sy26:=sy3.chg c26 (fun A hA=>by simp;omega);have n26:=c26.next;obtain ⟨v,h53,e53,c53,o53,w53⟩:=yAm (R:=h2.next) hN ty ly sy26 (fun A hA=>by omega) (by omega) o26 (some (h1.next,0));show ∃ x' y' h',(pD (iA5 N N (some (h1.next,0)) (some (h2.next,0)) y (Int.ofNat y.len) 0 h26) _)=_∧_;rw [show Int.ofNat y.len=(ys.length:Int) by rw [sy.len];rfl,e53,pB];simp only [dA];rw [cX o53];have o1:=o1.chg c53 (by simp;omega);have hst:h53.store (h1.next,0) [(.slice u.a u.len u.cap u.sz),(.slice v.a v.len v.cap v.sz)]=some (h53.put h1.next (.row [SL.av u,SL.av v] .own)):=o1.store rfl;have cp:=o1.put [SL.av u,SL.av v]
 try dsimp only
 rw [hst,dA,cX (yA o1 _)];have n3:=c02.next;have wu:=(w26.sl.chg c53 (fun A hA=>by have:h3.next≤A:=hA;simp;omega)).chg cp (fun A hA=>by have:h3.next≤A:=hA;simp;omega);have wv:=w53.sl.chg cp (fun A hA=>by have:h26.next≤A:=hA;simp;omega);refine ⟨u,v,_,rfl,((c02.step c26 (fun A hA hlt=>?_)).step c53 (fun A hA hlt=>?_)).put (.inr (by omega)) _,wu.weak (fun C hC _=>by have:h3.next≤C:=hC;show h.next≤C;omega),wv.weak (fun C hC _=>by have:h26.next≤C:=hC;show h.next≤C;omega)⟩
 ·rw [List.mem_singleton] at hA;omega
 ·rw [List.mem_singleton] at hA;omega
end Qp
end Go.Proofs.YtkcjphhjmlienaaGreatDoor
